/- Chapter 6 (disk): New, do, Write, Read, Free. -/
import Derived.Test.YtdjnfnhmkfbfmaaDk3
namespace Go.Proofs.Ytdjnfnhmkfbfmaa
open Go.RowKit Go.Lap
set_option linter.unusedVariables false

def newD (n : Int) : Dk := ⟨n, n, Sec.none, Sec.none, []⟩
theorem fine_none (z : Int) : Sec.none.fine z := fun k bs h => by cases h
def DNewPost (w : World) (n : Int) (e : Ending) (w' : World) : Prop := ∃ d vm gm u, e = .returned (.tuple #[.pointer (some ⟨d, 0, none⟩), .int .i64 0]) ∧ DkAt w' d vm gm u (newD n) ∧ (∀ k, DkF d vm gm u k → w.heap.size ≤ k) ∧ New w w'
set_option maxRecDepth 100000 in
theorem dnew_ok (n : Int) (w : World) (h1 : 1 ≤ n) (h2 : n ≤ 65536) : Calls Try.prog 28 #[.int .i64 n] w (DNewPost w n) := by
  have hmk := @run_makeMap Try.prog
  have ha := MpAt.made Try.prog 3 litI okI w
  have hb := MpAt.made Try.prog 3 litI okI (w.alloc (.map #[] 0))
  have hc := Blk.mk_new ((w.alloc (.map #[] 0)).alloc (.map #[] 0)) 90 #[.int .i64 n, .int .i64 n, .map (some w.heap.size), .map (some (w.heap.size + 1)), .slice none 0 0]
  rw [World.size_alloc] at hb
  rw [World.size_alloc, World.size_alloc] at hc
  have hN1 := (New.refl (w.alloc (.map #[] 0))).alloc (.map #[] 0)
  have hN2 := (New.refl ((w.alloc (.map #[] 0)).alloc (.map #[] 0))).alloc (.cells #[.int .i64 n, .int .i64 n, .map (some w.heap.size), .map (some (w.heap.size + 1)), .slice none 0 0] 90)
  have hN := ((New.refl w).alloc (.map #[] 0)).trans (hN1.trans hN2)
  have hA : SecM _ w.heap.size Sec.none := ⟨_, (ha.new hN1).new hN2, fun k hk => .inl ⟨rfl, rfl⟩⟩
  have hB : SecM _ (w.heap.size + 1) Sec.none := ⟨_, hb.new hN2, fun k hk => .inl ⟨rfl, rfl⟩⟩
  have h1' : ¬ n < 1 := by omega
  have h2' : ¬ 65536 < n := by omega
  have HO := Lib.hid (show okI n by simp only [okI, Lit.wf, IntKind.min, IntKind.max, IntKind.signed, IntKind.bits]; simp; omega)
  clear ha hb hN1 hN2
  go_enter Try.func28, Try.ntmps28
  go_wp2_with fail
  go_ret2
  refine ⟨w.heap.size + 2, w.heap.size, w.heap.size + 1, .slice none 0 0, rfl, ⟨hc, hA, hB, ⟨[], Owns.nil _ _ _ _ _, rfl, fun i x p hx => by simp at hx⟩, by omega, ⟨h1, h2⟩, HO.out, fine_none _, fine_none _, by simp [newD]⟩, fun k hk => ?_, hN⟩
  rcases hk with rfl | rfl | rfl | hk
  · omega
  · omega
  · omega
  · cases hk
theorem dnew_no (n : Int) (w : World) (h : n < 1 ∨ 65536 < n) : Calls Try.prog 28 #[.int .i64 n] w fun e w' => e = .returned (.tuple #[.pointer none, .int .i64 60]) ∧ w' = w := by
  by_cases h1 : n < 1
  · go_enter Try.func28, Try.ntmps28
    go_wp2_with fail
    go_ret2
    exact ⟨rfl, rfl⟩
  · have h2 : 65536 < n := by omega
    go_enter Try.func28, Try.ntmps28
    go_wp2_with fail
    go_ret2
    exact ⟨rfl, rfl⟩

/-- What comes of an act: the disk, its blocks of old or new, nothing else turned. -/
def DkPost (w : World) (d vm gm : Nat) (u : Value) (D' : Dk) (w' : World) : Prop :=
  ∃ vm' gm' u', DkAt w' d vm' gm' u' D' ∧ (∀ k, DkF d vm' gm' u' k → DkF d vm gm u k ∨ w.heap.size ≤ k) ∧ Upd (DkF d vm gm u) w w'
theorem DkAt.same {w w' : World} {d vm gm : Nat} {u : Value} {D : Dk} (h : DkAt w d vm gm u D) (hn : New w w') : DkPost w d vm gm u D w' :=
  ⟨vm, gm, u, h.new hn, fun k hk => .inl hk, Upd.new hn⟩
theorem DkF.addr {w : World} {d vm gm : Nat} {u : Value} {D : Dk} (h : DkAt w d vm gm u D) : d ≠ vm ∧ d ≠ gm ∧ u.ownBlock ≠ some d ∧ u.ownBlock ≠ some vm ∧ u.ownBlock ≠ some gm := by
  obtain ⟨xs, ho, _⟩ := h.pd
  refine ⟨fun e => h.vw.noBlk (e ▸ h.blk), fun e => h.gr.noBlk (e ▸ h.blk), fun e => ?_, fun e => ?_, fun e => ?_⟩
  · obtain ⟨cs, hb⟩ := ho.blkOf e
    exact hb.ne_ h.blk (by decide) rfl
  · obtain ⟨cs, hb⟩ := ho.blkOf e
    exact h.vw.noBlk hb
  · obtain ⟨cs, hb⟩ := ho.blkOf e
    exact h.gr.noBlk hb
theorem Blk5F {w : World} {g t : Nat} {a b c d e : Value} (h : Blk w g t #[a, b, c, d, e]) : g < w.heap.size ∧ w.cell? ⟨g, 0, none⟩ = some a ∧ w.cell? ⟨g, 1, none⟩ = some b ∧ w.cell? ⟨g, 2, none⟩ = some c ∧ w.cell? ⟨g, 3, none⟩ = some d ∧ w.cell? ⟨g, 4, none⟩ = some e ∧ (∀ i, w.frozen? ⟨g, i, none⟩ = false) := ⟨h.lt, h.cell 0, h.cell 1, h.cell 2, h.cell 3, h.cell 4, h.frozen⟩

def pushD (D : Dk) (p : Pd) : Dk := { D with V := doP D.V p (full p), L := D.L ++ [p] }
theorem pd_enter {x : Fv} {p : Pd} {w : World} (h : PdIn w x p) (args : Array Value) (w' : World) : (callFunc x.f args).run Try.prog w' = .ok (.enter x.f args) w' := by
  cases p with
  | wr a bs => obtain ⟨g1, g2, u, rfl, _⟩ := h; kernel_rfl
  | fr a => obtain ⟨g, rfl, _⟩ := h; kernel_rfl
/-- What a function that waits does, called. -/
theorem pd_any (x : Fv) (p : Pd) (n : Int) (s : Sec) (mb : Nat) {z : Int} (w : World) (hs : SecM w mb s) (hf : s.fine z) (hz : z ≤ 65536) (hx : PdIn w x p) (hp : 0 ≤ p.at_ ∧ p.at_ < z) (hn : okI n) :
    Calls Try.prog x.f (#[.map (some mb), .int .i64 n] ++ x.cs) w fun e w' => e = .returned (.tuple #[]) ∧ SecM w' mb (doP s p n) ∧ Upd (· = mb) w w' := by
  cases p with
  | wr a bs =>
    obtain ⟨g1, g2, u, rfl, h1, h2, h3, h4⟩ := hx
    exact wr_any a n bs s mb g1 g2 u w hs (fun b hb => (hf a b hb).2.2) (hs.count hf hz) (okI_range hp.1 hp.2 hz) hn h1 h2 h3 h4
  | fr a =>
    obtain ⟨g, rfl, h1⟩ := hx
    exact fr_any a n s mb g w hs (okI_range hp.1 hp.2 hz) h1
set_option maxRecDepth 100000 in
set_option maxHeartbeats 4000000 in
theorem ddo_any (x : Fv) (p : Pd) {d vm gm : Nat} {u : Value} {D : Dk} (w : World) (h : DkAt w d vm gm u D) (hx : PdIn w x p) (hp : 0 ≤ p.at_ ∧ p.at_ < D.size) (hl : D.L.length ≤ 100000) :
    Calls Try.prog 53 #[.pointer (some ⟨d, 0, none⟩), .func (.func x.f) #[] x.cs, .int .i64 (full p)] w fun e w' => e = .returned (.tuple #[]) ∧ DkPost w d vm gm u (pushD D p) w' := by
  obtain ⟨h1, h2, h3, ⟨xs, ho, hxl, hxs⟩, hne, hsz, hlm, hvf, hgf, hpf⟩ := id h
  obtain ⟨d0, d1, d2, d3, d4, d5, dz⟩ := Blk5F h1
  obtain ⟨A, n, cp, hv⟩ := sl_shape (Owns.slIn fvEOk ho)
  subst hv
  have hb0 := Blk.mk_new w 98 #[.func (.func x.f) #[] x.cs]
  have hoa := ho.alloc (.cells #[.func (.func x.f) #[] x.cs] 98)
  have HM1 := Lib.hid (show xs.length + [x].length ≤ maxLen by unfold maxLen; simp; omega)
  have HM2 := Lib.hid (show (xs.length + [x].length) * 8 ≤ 140737488355328 by simp; omega)
  have hadr := DkF.addr h
  have hts := h.turns
  have hlts := h.lt
  have HNE := Lib.hid hne
  have HVF := Lib.hid hvf
  have HXS := Lib.hid hxs
  have HXL := Lib.hid hxl
  have HSZ := Lib.hid hsz
  have HAD := Lib.hid hadr
  clear hne hvf hxs hxl hsz hadr
  go_enter Try.func53, Try.ntmps53
  go_wp2_with (at_builtin; refine wpList_app fvTy fvEOk rfl _ _ rfl rfl rfl hoa (SlIn.one (x := x) hb0 fvEOk rfl) HM1.out HM2.out (by simp) ?_; intro v1 w1 ho1 hg1 hb1; obtain ⟨A1, n1, cp1, hv1⟩ := sl_shape (Owns.slIn fvEOk ho1); subst hv1; have hu1 : Upd (fun k => (Value.slice A n cp).ownBlock = some k) w w1 := ((Upd.refl _ w).alloc _).grown hg1 (fun k _ hk => hk); have hB1 := h1.upd hu1 HAD.out.2.2.1; have e := Blk5F hB1; obtain ⟨f0, f1, f2, f3, f4, f5, fz⟩ := e)
  have hbb : (Value.slice A1 n1 cp1).ownBlock = (Value.slice A n cp).ownBlock ∨ (Value.slice A1 n1 cp1).ownBlock = some (w.alloc (.cells #[.func (.func x.f) #[] x.cs] 98)).heap.size := hb1
  clear hb1
  have hB2 := hB1.set_ 4 (.slice A1 n1 cp1)
  have hu2 : Upd (DkF d vm gm (.slice A n cp)) w (w1.setCell ⟨d, 4, none⟩ (.slice A1 n1 cp1)) := (hu1.mono (fun k _ hk => .inr (.inr (.inr hk)))).setCell (fun _ => .inl rfl) _
  have hV2 : SecM (w1.setCell ⟨d, 4, none⟩ (.slice A1 n1 cp1)) vm D.V := by
    have hu2' : Upd (fun k => (Value.slice A n cp).ownBlock = some k ∨ k = d) w (w1.setCell ⟨d, 4, none⟩ (.slice A1 n1 cp1)) := (hu1.mono (fun k _ hk => .inl hk)).setCell (fun _ => .inr rfl) _
    exact h2.upd hu2' (fun e => e.elim HAD.out.2.2.2.1 (fun e => HAD.out.1 e.symm)) (fun k hk => hts k (hk.elim (fun e => .inr (.inr (.inr e))) .inl))
  have hG2 : SecM (w1.setCell ⟨d, 4, none⟩ (.slice A1 n1 cp1)) gm D.G := by
    have hu2' : Upd (fun k => (Value.slice A n cp).ownBlock = some k ∨ k = d) w (w1.setCell ⟨d, 4, none⟩ (.slice A1 n1 cp1)) := (hu1.mono (fun k _ hk => .inl hk)).setCell (fun _ => .inr rfl) _
    exact h3.upd hu2' (fun e => e.elim HAD.out.2.2.2.2 (fun e => HAD.out.2.1 e.symm)) (fun k hk => hts k (hk.elim (fun e => .inr (.inr (.inr e))) .inl))
  have hX2 := hx.upd hu2 hts
  have hfn : okI (full p) := by
    cases p with
    | wr a bs =>
      obtain ⟨_, _, _, _, _, _, _, hl⟩ := hx
      exact okI_range (z := 65536) (by simp [full]) (by simp [full]; omega) (by omega)
    | fr a => exact okI_range (z := 65536) (by simp [full]) (by simp [full]) (by omega)
  have hl2 := hB2.lt
  rw [pd_enter hx, Oper.upon_enter]
  refine (pd_any x p (full p) D.V vm (z := D.size) _ hV2 HVF.out (HSZ.out.2) hX2 hp hfn).mono ?_
  rintro e w3 ⟨rfl, hV3, hu3⟩
  go_wp2_with fail
  refine bodyPost_end (v := .tuple #[]) (by kernel_rfl) rfl ?_
  have hT3 : Turns (w1.setCell ⟨d, 4, none⟩ (.slice A1 n1 cp1)) (· = vm) := fun k hk t cs hb => absurd (hk ▸ hb) hV2.noBlk
  have hown : ∀ k, (Value.slice A1 n1 cp1).ownBlock = some k → k ≠ d ∧ k ≠ vm := by
    intro k hk
    rcases hbb with e | e
    · rw [hk] at e
      exact ⟨fun e' => HAD.out.2.2.1 (by rw [← e, e']), fun e' => HAD.out.2.2.2.1 (by rw [← e, e'])⟩
    · rw [hk, World.size_alloc] at e
      have := h2.lt
      simp at e
      exact ⟨by omega, by omega⟩
  have hO2 : Owns (w1.setCell ⟨d, 4, none⟩ (.slice A1 n1 cp1)) 0 98 1 fvE (.slice A1 n1 cp1) (xs ++ [x]) := Owns.upd ho1 ((Upd.refl (· = d) w1).setCell (fun _ => rfl) _) (fun k hk => (hown k hk).1)
  refine ⟨rfl, vm, gm, .slice A1 n1 cp1, ⟨hB2.upd hu3 (fun e => HAD.out.1 e), hV3, hG2.upd hu3 (fun e => HNE.out e.symm) hT3, ⟨xs ++ [x], hO2.upd hu3 (fun k hk => (hown k hk).2), by simp [pushD, HXL.out], ?_⟩, HNE.out, HSZ.out, hlm, ?_, hgf, ?_⟩, ?_, hu2.trans hu3 (fun k _ hk => .inr (.inl hk))⟩
  · intro i y q hy hq
    have hq' : (D.L ++ [p])[i]? = some q := hq
    rw [List.getElem?_append] at hy hq'
    rw [HXL.out] at hy
    split at hy
    · rename_i hi
      rw [if_pos hi] at hq'
      exact ((HXS.out i y q hy hq').upd hu2 hts).upd hu3 hT3
    · rename_i hi
      rw [if_neg hi] at hq'
      have h0 : i - D.L.length = 0 := by
        rcases Nat.eq_zero_or_pos (i - D.L.length) with h0 | h0
        · exact h0
        · rw [List.getElem?_eq_none (by simp; omega)] at hy; cases hy
      rw [h0] at hy hq'
      cases hy
      cases hq'
      exact hX2.upd hu3 hT3
  · refine fine_doP HVF.out hp (fun a bs e => ?_) _
    subst e
    obtain ⟨_, _, _, _, _, _, _, hl⟩ := hx
    exact hl
  · intro q hq
    rcases List.mem_append.1 (show q ∈ D.L ++ [p] from hq) with hq | hq
    · exact hpf q hq
    · simp at hq; subst hq; exact hp
  · intro k hk
    rcases hk with rfl | rfl | rfl | hk
    · exact .inl (.inl rfl)
    · exact .inl (.inr (.inl rfl))
    · exact .inl (.inr (.inr (.inl rfl)))
    · rcases hbb with e | e
      · exact .inl (.inr (.inr (.inr (by rw [← e, hk]))))
      · rw [hk, World.size_alloc] at e
        simp at e
        exact .inr (by omega)
end Go.Proofs.Ytdjnfnhmkfbfmaa
