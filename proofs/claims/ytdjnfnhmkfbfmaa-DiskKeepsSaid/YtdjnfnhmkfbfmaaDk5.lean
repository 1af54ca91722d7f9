/- Chapter 6 (disk): Write, Read, Free, Limit, Used, Pending. -/
import Derived.Test.YtdjnfnhmkfbfmaaDk4
import Derived.Test.YtdjnfnhmkfbfmaaCa4
namespace Go.Proofs.Ytdjnfnhmkfbfmaa
open Go.RowKit Go.Lap
set_option linter.unusedVariables false

def writeR (D : Dk) (a : Int) (len : Nat) : Int := if a < 0 ∨ D.size ≤ a then 61 else if 512 < len then 62 else if (D.V.f a).isSome = false ∧ D.limit ≤ (D.V.n : Int) then 63 else 0
def writeD (D : Dk) (a : Int) (bs : List UInt8) : Dk := if writeR D a bs.length = 0 then pushD D (.wr a bs) else D
def freeR (D : Dk) (a : Int) : Int := if (D.V.f a).isSome then 0 else 61
def freeD (D : Dk) (a : Int) : Dk := if (D.V.f a).isSome then pushD D (.fr a) else D

/-- The lookup of a sector. -/
theorem sec_at {w : World} {mb : Nat} {s : Sec} (h : SecM w mb s) {a : Int} (ha : okI a) : ∃ f, MpAt Try.prog 3 litI okI w mb s.n f ∧ (f a).isSome = (s.f a).isSome ∧ ∃ A n c, (f a).getD (.slice none 0 0) = .slice A n c ∧ ∀ bs, s.f a = some bs → Owns w 0 5 1 byE (.slice A n c) bs := by
  obtain ⟨f, hm, hf⟩ := h
  refine ⟨f, hm, sec_some hf ha, ?_⟩
  rcases hf a ha with h | ⟨v, bs, e1, e2, h3⟩
  · exact ⟨none, 0, 0, by rw [h.1]; rfl, fun bs hb => by rw [h.2] at hb; cases hb⟩
  · obtain ⟨A, n, c, hv⟩ := sl_shape (Owns.slIn byEOk h3)
    subst hv
    exact ⟨A, n, c, by rw [e1]; rfl, fun b hb => by rw [e2] at hb; cases hb; exact h3⟩

def RdPostD (w : World) (o : Option (List UInt8)) (e : Ending) (w' : World) : Prop :=
  New w w' ∧ match o with
  | none => e = .returned (.tuple #[.slice none 0 0, .int .i64 61])
  | some bs => ∃ v, e = .returned (.tuple #[v, .int .i64 0]) ∧ Owns w' w.heap.size 5 1 byE v bs
set_option maxRecDepth 100000 in
set_option maxHeartbeats 4000000 in
theorem dread_none {d vm gm : Nat} {u : Value} {D : Dk} (w : World) (h : DkAt w d vm gm u D) (a : Int) (ha : okI a) (hD : D.V.f a = none) :
    Calls Try.prog 33 #[.pointer (some ⟨d, 0, none⟩), .int .i64 a] w fun e w' => e = .returned (.tuple #[.slice none 0 0, .int .i64 61]) ∧ New w w' := by
  obtain ⟨d0, d1, d2, d3, d4, d5, dz⟩ := Blk5F h.blk
  obtain ⟨f, hm, hs, A, n, c, hg, ho⟩ := sec_at h.vw ha
  rw [hD] at hs
  go_enter Try.func33, Try.ntmps33
  go_wp2_with (at_lookup; refine wpList_mp_ok keyD.toKeyB rfl _ _ 87 63 rfl Try.underlying87 (zeroBy _) rfl hm a ha rfl ?_; rw [hg, hs]; dsimp only [Option.isSome])
  go_ret2
  exact ⟨rfl, New.refl _⟩
set_option maxRecDepth 100000 in
set_option maxHeartbeats 4000000 in
theorem dread_some {d vm gm : Nat} {u : Value} {D : Dk} (w : World) (h : DkAt w d vm gm u D) (a : Int) (ha : okI a) {bs : List UInt8} (hD : D.V.f a = some bs) :
    Calls Try.prog 33 #[.pointer (some ⟨d, 0, none⟩), .int .i64 a] w fun e w' => ∃ v, e = .returned (.tuple #[v, .int .i64 0]) ∧ Owns w' w.heap.size 5 1 byE v bs ∧ New w w' := by
  obtain ⟨d0, d1, d2, d3, d4, d5, dz⟩ := Blk5F h.blk
  obtain ⟨f, hm, hs, A, n, c, hg, ho⟩ := sec_at h.vw ha
  rw [hD] at hs
  have hob := ho bs hD
  have hbl := (h.vf a bs hD).2.2
  have ho0 : Owns (w.alloc (.cells #[] 5)) w.heap.size 5 1 byE (.slice (some ⟨w.heap.size, 0, none⟩) 0 0) ([] : List UInt8) := World.ownsRow_made (base := w.heap.size) (e := 5) (size := 1) w #[] 0 (Nat.le_refl _) (by simp) (by simp)
  have hob1 := (Owns.slIn byEOk hob).new ((New.refl w).alloc (.cells #[] 5))
  have HM1 := Lib.hid (show ([] : List UInt8).length + bs.length ≤ maxLen by unfold maxLen; simp; omega)
  have HM2 := Lib.hid (show (([] : List UInt8).length + bs.length) * 1 ≤ 140737488355328 by simp; omega)
  have HD := Lib.hid hD
  clear hD ho hbl hob
  go_enter Try.func33, Try.ntmps33
  go_wp2_with (first | (at_lookup; refine wpList_mp_ok keyD.toKeyB rfl _ _ 87 63 rfl Try.underlying87 (zeroBy _) rfl hm a ha rfl ?_; rw [hg, hs]; dsimp only [Option.isSome]) | (at_builtin; refine wpList_app byTy byEOk rfl _ _ rfl rfl rfl ho0 hob1 HM1.out HM2.out (by simp) ?_; intro v1 w1 ho1 hg1 hb1; have HN1 : New w w1 := ((New.refl w).alloc _).grown hg1 (fun k hk => ho0.blockGe k hk); rw [List.nil_append] at ho1; obtain ⟨A1, n1, cp1, hv1⟩ := sl_shape (Owns.slIn byEOk ho1); subst hv1))
  go_ret2
  exact ⟨_, rfl, ho1, HN1⟩
set_option maxRecDepth 100000 in
set_option maxHeartbeats 4000000 in
theorem dfree {d vm gm : Nat} {u : Value} {D : Dk} (w : World) (h : DkAt w d vm gm u D) (a : Int) (ha : okI a) (hl : D.L.length ≤ 100000) :
    Calls Try.prog 48 #[.pointer (some ⟨d, 0, none⟩), .int .i64 a] w fun e w' => e = .returned (.int .i64 (freeR D a)) ∧ DkPost w d vm gm u (freeD D a) w' := by
  obtain ⟨d0, d1, d2, d3, d4, d5, dz⟩ := Blk5F h.blk
  obtain ⟨f, hm, hs, A, n, c, hg, ho⟩ := sec_at h.vw ha
  unfold freeR freeD
  cases hb : D.V.f a with
  | none =>
    rw [hb] at hs
    clear ho
    show Calls _ _ _ _ fun e w' => e = .returned (.int .i64 61) ∧ DkPost w d vm gm u D w'
    go_enter Try.func48, Try.ntmps48
    go_wp2_with (at_lookup; refine wpList_mp_ok keyD.toKeyB rfl _ _ 87 63 rfl Try.underlying87 (zeroBy _) rfl hm a ha rfl ?_; rw [hg, hs]; dsimp only [Option.isSome])
    go_ret
    exact ⟨rfl, h.same (New.refl _)⟩
  | some bs =>
    rw [hb] at hs
    have hr := h.vf a bs hb
    show Calls _ _ _ _ fun e w' => e = .returned (.int .i64 0) ∧ DkPost w d vm gm u (pushD D (.fr a)) w'
    have HB := Lib.hid hb
    clear ho hb
    go_enter Try.func48, Try.ntmps48
    go_wp2_with (at_lookup; refine wpList_mp_ok keyD.toKeyB rfl _ _ 87 63 rfl Try.underlying87 (zeroBy _) rfl hm a ha rfl ?_; rw [hg, hs]; dsimp only [Option.isSome])
    refine (freeing_any a _).mono ?_
    rintro e w1 ⟨x, rfl, hx, hn1⟩
    go_wp2_with fail
    refine (ddo_any x (.fr a) _ (h.new hn1) hx ⟨hr.1, hr.2.1⟩ hl).mono ?_
    rintro e w2 ⟨rfl, vm', gm', u', h2, hF2, hu2⟩
    go_wp2_with fail
    go_ret
    exact ⟨rfl, vm', gm', u', h2, fun k hk => (hF2 k hk).imp id (fun h => Nat.le_trans hn1.size h), (Upd.new hn1).trans hu2 (fun _ _ h => h)⟩

theorem dlimit {d vm gm : Nat} {u : Value} {D : Dk} (w : World) (h : DkAt w d vm gm u D) (n : Int) (hn : okI n) :
    Calls Try.prog 49 #[.pointer (some ⟨d, 0, none⟩), .int .i64 n] w fun e w' => e = .returned (.tuple #[]) ∧ DkPost w d vm gm u { D with limit := n } w' := by
  obtain ⟨d0, d1, d2, d3, d4, d5, dz⟩ := Blk5F h.blk
  have hB := h.blk.set_ 1 (.int .i64 n)
  have hu : Upd (· = d) w (w.setCell ⟨d, 1, none⟩ (.int .i64 n)) := (Upd.refl (· = d) w).setCell (p := ⟨d, 1, none⟩) (fun _ => rfl) _
  have had := DkF.addr h
  have hT : Turns w (· = d) := fun k hk => h.turns k (.inl hk)
  go_enter Try.func49, Try.ntmps49
  go_wp2_with fail
  refine bodyPost_end (v := .tuple #[]) (by kernel_rfl) rfl ?_
  obtain ⟨h1, h2, h3, ⟨xs, h4, h5, h6⟩, h7, h8, h9, h10, h11, h12⟩ := h
  exact ⟨rfl, vm, gm, u, ⟨hB, h2.upd hu (fun e => had.1 e.symm) hT, h3.upd hu (fun e => had.2.1 e.symm) hT, ⟨xs, h4.upd hu (fun k hk e => had.2.2.1 (by rw [hk, e])), h5, fun i x p hx hp => (h6 i x p hx hp).upd hu hT⟩, h7, h8, hn, h10, h11, h12⟩, fun k hk => .inl hk, hu.mono fun k _ hk => .inl hk⟩
theorem dused {d vm gm : Nat} {u : Value} {D : Dk} (w : World) (h : DkAt w d vm gm u D) :
    Calls Try.prog 37 #[.pointer (some ⟨d, 0, none⟩)] w fun e w' => e = .returned (.int .i64 (D.V.n : Int)) ∧ w' = w := by
  obtain ⟨d0, d1, d2, d3, d4, d5, dz⟩ := Blk5F h.blk
  obtain ⟨f, hm, hf⟩ := h.vw
  have hlen := mpLen hm Try.underlying87 3
  go_enter Try.func37, Try.ntmps37
  go_wp2_with fail
  go_ret
  exact ⟨rfl, rfl⟩
theorem dpending {d vm gm : Nat} {u : Value} {D : Dk} (w : World) (h : DkAt w d vm gm u D) :
    Calls Try.prog 35 #[.pointer (some ⟨d, 0, none⟩)] w fun e w' => e = .returned (.int .i64 (D.L.length : Int)) ∧ w' = w := by
  obtain ⟨d0, d1, d2, d3, d4, d5, dz⟩ := Blk5F h.blk
  obtain ⟨xs, ho, hl, _⟩ := h.pd
  obtain ⟨A, c, rfl, -, -⟩ := Owns.slIn fvEOk ho
  rw [hl] at d5
  go_enter Try.func35, Try.ntmps35
  go_wp2_with fail
  go_ret
  exact ⟨rfl, rfl⟩
set_option maxRecDepth 100000 in
set_option maxHeartbeats 4000000 in
theorem dwrite {d vm gm : Nat} {u v : Value} {D : Dk} {bs : List UInt8} (w : World) (h : DkAt w d vm gm u D) (a : Int) (ha : okI a) (hs : SlIn w 1 byE v bs) (hb : bs.length ≤ 1000000000) (hl : D.L.length ≤ 100000) :
    Calls Try.prog 47 #[.pointer (some ⟨d, 0, none⟩), .int .i64 a, v] w fun e w' => e = .returned (.int .i64 (writeR D a bs.length)) ∧ DkPost w d vm gm u (writeD D a bs) w' := by
  obtain ⟨d0, d1, d2, d3, d4, d5, dz⟩ := Blk5F h.blk
  obtain ⟨f, hm, hsm, A, n, c, hg, ho⟩ := sec_at h.vw ha
  have hlen := fun k => mpLen (hm.new ((New.refl w).drewN k)) Try.underlying87 3
  obtain ⟨A1, c1, hv, -, -⟩ := id hs
  subst hv
  clear ho
  by_cases h1 : a < 0
  · have hR : writeR D a bs.length = 61 := if_pos (.inl h1)
    have hW : writeD D a bs = D := if_neg (by rw [hR]; decide)
    rw [hR, hW]
    have HR := Lib.hid hR
    clear hR hW
    generalize hS : (D.V.f a).isSome = S at hsm
    go_enter Try.func47, Try.ntmps47
    go_wp2_with (at_lookup; refine wpList_mp_ok keyD.toKeyB rfl _ _ 87 63 rfl Try.underlying87 (zeroBy _) rfl hm a ha rfl ?_; rw [hg, hsm])
    go_ret
    exact ⟨rfl, h.same (New.refl _)⟩
  by_cases h2 : D.size ≤ a
  · have hR : writeR D a bs.length = 61 := if_pos (.inr h2)
    have hW : writeD D a bs = D := if_neg (by rw [hR]; decide)
    rw [hR, hW]
    clear hR hW
    generalize hS : (D.V.f a).isSome = S at hsm
    go_enter Try.func47, Try.ntmps47
    go_wp2_with (at_lookup; refine wpList_mp_ok keyD.toKeyB rfl _ _ 87 63 rfl Try.underlying87 (zeroBy _) rfl hm a ha rfl ?_; rw [hg, hsm])
    go_ret
    exact ⟨rfl, h.same (New.refl _)⟩
  have h12 : ¬ (a < 0 ∨ D.size ≤ a) := by omega
  by_cases h3 : 512 < bs.length
  · have hR : writeR D a bs.length = 62 := by unfold writeR; rw [if_neg h12, if_pos h3]
    have hW : writeD D a bs = D := if_neg (by rw [hR]; decide)
    rw [hR, hW]
    clear hR hW
    have h3' : (512 : Int) < (bs.length : Int) := by omega
    generalize hS : (D.V.f a).isSome = S at hsm
    go_enter Try.func47, Try.ntmps47
    go_wp2_with (at_lookup; refine wpList_mp_ok keyD.toKeyB rfl _ _ 87 63 rfl Try.underlying87 (zeroBy _) rfl hm a ha rfl ?_; rw [hg, hsm])
    go_ret
    exact ⟨rfl, h.same (New.refl _)⟩
  have h3' : ¬ (512 : Int) < (bs.length : Int) := by omega
  have HO0 : Hid (∀ k, Owns ((w.drewN k).alloc (.cells #[] 5)) w.heap.size 5 1 byE (.slice (some ⟨w.heap.size, 0, none⟩) 0 0) ([] : List UInt8)) := Lib.hid (fun k => World.ownsRow_made (base := w.heap.size) (e := 5) (size := 1) (w.drewN k) #[] 0 (Nat.le_refl _) (by simp) (by simp))
  have HS1 : Hid (∀ k, SlIn ((w.drewN k).alloc (.cells #[] 5)) 1 byE (.slice A1 bs.length c1) bs) := Lib.hid (fun k => hs.new (((New.refl w).drewN k).alloc _))
  have HZ : Hid (∀ k, w.heap.size ≤ ((w.drewN k).alloc (.cells #[] 5)).heap.size) := Lib.hid (fun k => (((New.refl w).drewN k).alloc _).size)
  have HNK : Hid (∀ k, New w ((w.drewN k).alloc (.cells #[] 5))) := Lib.hid (fun k => ((New.refl w).drewN k).alloc _)
  have HM1 := Lib.hid (show ([] : List UInt8).length + bs.length ≤ maxLen by unfold maxLen; simp; omega)
  have HM2 := Lib.hid (show (([] : List UInt8).length + bs.length) * 1 ≤ 140737488355328 by simp; omega)
  have hbl : bs.length ≤ 512 := by omega
  have hrange : 0 ≤ a ∧ a < D.size := by omega
  cases hS : (D.V.f a).isSome with
  | false =>
    by_cases h4 : D.limit ≤ (D.V.n : Int)
    · have hR : writeR D a bs.length = 63 := by unfold writeR; rw [if_neg h12, if_neg h3, if_pos ⟨hS, h4⟩]
      have hW : writeD D a bs = D := if_neg (by rw [hR]; decide)
      rw [hR, hW]
      rw [hS] at hsm
      clear hR hW
      go_enter Try.func47, Try.ntmps47
      go_wp2_with (at_lookup; refine wpList_mp_ok keyD.toKeyB rfl _ _ 87 63 rfl Try.underlying87 (zeroBy _) rfl hm a ha rfl ?_; rw [hg, hsm])
      go_quiet (fail)
      go_wp2_with fail
      go_ret
      exact ⟨rfl, h.same ((New.refl w).drewN _)⟩
    · have hR : writeR D a bs.length = 0 := by unfold writeR; rw [if_neg h12, if_neg h3, if_neg (fun e => h4 e.2)]
      have hW : writeD D a bs = pushD D (.wr a bs) := if_pos hR
      rw [hR, hW]
      rw [hS] at hsm
      clear hR hW
      go_enter Try.func47, Try.ntmps47
      go_wp2_with (at_lookup; refine wpList_mp_ok keyD.toKeyB rfl _ _ 87 63 rfl Try.underlying87 (zeroBy _) rfl hm a ha rfl ?_; rw [hg, hsm])
      go_quiet (fail)
      go_wp2_with (at_builtin; refine wpList_app byTy byEOk rfl _ _ rfl rfl rfl (HO0.out _) (HS1.out _) HM1.out HM2.out (HZ.out _) ?_; intro v2 w2 ho2 hg2 hb2; have HN2 : New w w2 := (HNK.out _).grown hg2 (fun k hk => (HO0.out 0).blockGe k hk); rw [List.nil_append] at ho2; obtain ⟨A2, cp2, hv2, -, -⟩ := Owns.slIn byEOk ho2; subst hv2)
      refine (writing_any a _ bs _ (ho2.lower (Nat.zero_le _)) hbl).mono ?_
      rintro e w3 ⟨x, rfl, hx, hn3⟩
      go_wp2_with fail
      refine (ddo_any x (.wr a bs) _ ((h.new HN2).new hn3) hx hrange hl).mono ?_
      rintro e w4 ⟨rfl, vm', gm', u', h4, hF4, hu4⟩
      go_wp2_with fail
      go_ret
      have hN3 := HN2.trans hn3
      exact ⟨rfl, vm', gm', u', h4, fun k hk => (hF4 k hk).imp id (fun h => Nat.le_trans hN3.size h), (Upd.new hN3).trans hu4 (fun _ _ h => h)⟩
  | true =>
    have hR : writeR D a bs.length = 0 := by unfold writeR; rw [if_neg h12, if_neg h3, if_neg (fun e => by rw [hS] at e; cases e.1)]
    have hW : writeD D a bs = pushD D (.wr a bs) := if_pos hR
    rw [hR, hW]
    rw [hS] at hsm
    clear hR hW
    go_enter Try.func47, Try.ntmps47
    go_wp2_with (at_lookup; refine wpList_mp_ok keyD.toKeyB rfl _ _ 87 63 rfl Try.underlying87 (zeroBy _) rfl hm a ha rfl ?_; rw [hg, hsm])
    go_quiet (fail)
    go_wp2_with (at_builtin; refine wpList_app byTy byEOk rfl _ _ rfl rfl rfl (HO0.out _) (HS1.out _) HM1.out HM2.out (HZ.out _) ?_; intro v2 w2 ho2 hg2 hb2; have HN2 : New w w2 := (HNK.out _).grown hg2 (fun k hk => (HO0.out 0).blockGe k hk); rw [List.nil_append] at ho2; obtain ⟨A2, cp2, hv2, -, -⟩ := Owns.slIn byEOk ho2; subst hv2)
    refine (writing_any a _ bs _ (ho2.lower (Nat.zero_le _)) hbl).mono ?_
    rintro e w3 ⟨x, rfl, hx, hn3⟩
    go_wp2_with fail
    refine (ddo_any x (.wr a bs) _ ((h.new HN2).new hn3) hx hrange hl).mono ?_
    rintro e w4 ⟨rfl, vm', gm', u', h4, hF4, hu4⟩
    go_wp2_with fail
    go_ret
    have hN3 := HN2.trans hn3
    exact ⟨rfl, vm', gm', u', h4, fun k hk => (hF4 k hk).imp id (fun h => Nat.le_trans hN3.size h), (Upd.new hN3).trans hu4 (fun _ _ h => h)⟩
end Go.Proofs.Ytdjnfnhmkfbfmaa
