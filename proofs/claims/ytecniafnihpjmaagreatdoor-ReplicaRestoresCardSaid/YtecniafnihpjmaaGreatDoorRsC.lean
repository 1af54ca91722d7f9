/- Chapter 19's reference: tell. Printed by genRsC.py. -/
import Derived.Test.YtecniafnihpjmaaGreatDoorTk
import Derived.Test.YtecniafnihpjmaaGreatDoorRsB
namespace Go.Proofs.YtecniafnihpjmaaGreatDoor
open Go.RowKit Go.Lap C
set_option linter.unusedVariables false
set_option linter.unusedSimpArgs false
theorem sdTy : SlTy Tryz.prog 30 166 (.agg #[.int .u64 0, .int .u64 0, .int .u64 0, .slice none 0 0, .int .u64 0, .int .i64 0]) 6 64 := ⟨Tryz.underlying30, by kernel_rfl, rfl, by decide⟩
theorem boTy : SlTy Tryz.prog 31 4 (.bool false) 1 1 := ⟨Tryz.underlying31, by kernel_rfl, rfl, by decide⟩
section
variable {w w' W : World} {x : RjV}
theorem Row.fresh {α : Type} {base : Nat} (w : World) (e : TypeId) (enc : α → List Value) (size : Nat) (hb : base ≤ w.heap.size) : Row (w.alloc (.cells #[] e)) base e size enc (.slice (some ⟨w.heap.size, 0, none⟩) 0 0) ([] : List α) :=
  .inr ⟨w.heap.size, 0, 0, #[], rfl, hb, Blk.mk_new w e #[], Nat.le_refl _, by unfold maxLen; omega, by simp, by simp⟩
theorem fresh_far {w : World} {g : Nat} (h : g < w.heap.size) : ∀ k, (Value.slice (some ⟨w.heap.size, 0, none⟩) 0 0).ownBlock = some k → k ≠ g := fun k hk e => by cases hk; subst e; exact absurd h (Nat.lt_irrefl _)
theorem row_far {α : Type} {base e size : Nat} {enc : α → List Value} {v : Value} {l : List α} (h : Row w base e size enc v l) : ∀ k, v.ownBlock = some k → k ≠ w.heap.size := fun k hk => by have := (h.lt k hk).2; omega
theorem app_far {v v' : Value} {g : Nat} (h : ∀ k, v.ownBlock = some k → k ≠ g) (hg : g < w.heap.size) (hv : v'.ownBlock = v.ownBlock ∨ v'.ownBlock = some w.heap.size) : ∀ k, v'.ownBlock = some k → k ≠ g := fun k hk => by
  rcases hv with e | e
  · exact h k (e ▸ hk)
  · rw [e] at hk; cases hk; omega
/-- The reference's judge in memory: its rows. -/
structure RkAt (w : World) (x : RjV) : Prop where
  s : Row w 0 166 6 SdV.enc x.sv x.L
  t : Row w 0 4 1 boE x.tv (x.L.map SdV.lt)
  ll : x.L.length ≤ 100000
  ok : ∀ p ∈ x.L, BtAt w p.v
  la : x.la < big
theorem RkAt.at_ (h : RkAt w x) : RjAt w x := ⟨h.s.slIn SdV.encOk, h.t.slIn boEOk, h.ll, h.ok, h.la⟩
def RjF (x : RjV) (k : Nat) : Prop := x.sv.ownBlock = some k ∨ x.tv.ownBlock = some k
theorem RkAt.upd {S : Nat → Prop} (h : RkAt w x) (hu : Upd S w w') (hS : ∀ k, RjF x k → ¬ S k) (hW : Off w 97 S) : RkAt w' x :=
  ⟨h.s.upd hu (fun k hk => hS k (.inl hk)), h.t.upd hu (fun k hk => hS k (.inr hk)), h.ll, fun p hp => (h.ok p hp).upd hu hW, h.la⟩
theorem RkAt.new (h : RkAt w x) (hn : New w w') : RkAt w' x := h.upd (S := fun _ => False) (Upd.new hn) (fun _ _ h => h) (Off.no _ _)
theorem RkAt.lt (h : RkAt w x) : ∀ k, RjF x k → k < w.heap.size := fun k hk => hk.elim (fun h1 => (h.s.lt k h1).2) (fun h1 => (h.t.lt k h1).2)
def RjV.told (x : RjV) (p : SdV) (y : RjV) : Prop := y.L = x.L ++ [p] ∧ y.la = if p.d.e = 0 then p.d.t else x.la
/-- What tell answers. -/
def TellPost (w : World) (x : RjV) (p : SdV) (e : Ending) (w' : World) : Prop := ∃ y : RjV, e = .returned y.val ∧ RkAt w' y ∧ x.told p y ∧ New w w' ∧ ∀ k, RjF y k → w.heap.size ≤ k
theorem TellPost.of {w8 w9 : World} {p : SdV} {la : Nat} {L : List SdV} {sv tv : Value} {b1 b2 : Nat} (hu : Upd (fun i => i = w.heap.size ∨ i = w.heap.size + 3) w8 w9) (hs : Row w8 b1 166 6 SdV.enc sv (([] ++ L) ++ [p]))
    (ht : Row w8 b2 4 1 boE tv (([] ++ L.map SdV.lt) ++ [p.lt])) (hok : ∀ q ∈ L ++ [p], BtAt w8 q.v) (hl : L.length < 100000) (hla : la < big) (hn : New w w8) (ho1 : ∀ k, tv.ownBlock = some k → w.heap.size + 4 ≤ k) (ho2 : ∀ k, sv.ownBlock = some k → w.heap.size + 4 ≤ k)
    (ht2 : x.told p ⟨la, L ++ [p], sv, tv⟩) (hof : Off w8 97 (fun i => i = w.heap.size ∨ i = w.heap.size + 3)) : TellPost w x p (.returned (.agg #[.int .u64 0, .int .u64 (la : Int), sv, tv])) w9 := by
  have hn9 := hn.upd hu (fun i e => by omega)
  rw [List.nil_append] at hs ht
  refine ⟨⟨la, L ++ [p], sv, tv⟩, rfl, ⟨(hs.upd hu (fun k hk e => by have := ho2 k hk; omega)).lower (Nat.zero_le _), ?_, by rw [List.length_append, List.length_singleton]; omega, fun q hq => (hok q hq).upd hu ?_, hla⟩, ht2, hn9, fun k hk => hk.elim (fun h => by have := ho2 k h; omega) (fun h => by have := ho1 k h; omega)⟩
  · rw [List.map_append]
    exact (ht.upd hu (fun k hk e => by have := ho1 k hk; omega)).lower (Nat.zero_le _)
  · exact hof
set_option maxRecDepth 100000 in
set_option maxHeartbeats 4000000 in
theorem tell_any (h : RkAt w x) (b : BtV) (hb : BtAt w b) (d : Vd) (hd : d.t < big) (lt : Bool) (hl : x.L.length < 100000) :
    Calls Tryz.prog 72 #[x.val, b.val, .agg #[.int .u64 (d.t : Int), .int .i64 d.e], .bool lt] w (TellPost w x ⟨b, d, lt⟩) := by
  obtain ⟨la, L, sv, tv⟩ := x
  obtain ⟨⟨bc, br, bs, bl⟩, bA, bcap⟩ := b
  obtain ⟨hs, ht, hll, hok, hla⟩ := h
  dsimp only [RjV.val, BtV.val, BtV.sl, batV] at hs ht hll hok hla hl ⊢
  have HS := Lib.hid hs
  have HT := Lib.hid ht
  have HOK := Lib.hid hok
  have HBT := Lib.hid hb
  have HLA := Lib.hid hla
  have HD := Lib.hid hd
  have HLL : Hid (L.length < 100000) := Lib.hid hl
  have HM1 : Hid (([] : List SdV).length + L.length ≤ maxLen) := Lib.hid (by simp; unfold maxLen; omega)
  have HM2 : Hid ((([] : List SdV).length + L.length) * 64 ≤ 140737488355328) := Lib.hid (by simp; omega)
  have HM3 : Hid (([] ++ L).length + ([(⟨⟨⟨bc, br, bs, bl⟩, bA, bcap⟩, d, lt⟩ : SdV)]).length ≤ maxLen) := Lib.hid (by simp; unfold maxLen; omega)
  have HM4 : Hid ((([] ++ L).length + ([(⟨⟨⟨bc, br, bs, bl⟩, bA, bcap⟩, d, lt⟩ : SdV)]).length) * 64 ≤ 140737488355328) := Lib.hid (by simp; omega)
  obtain ⟨sA, sc, rfl⟩ := hs.shape
  have hts := ht.shape
  rw [List.length_map] at hts
  obtain ⟨tA, tc, rfl⟩ := hts
  have hN := ((((New.refl w).alloc (.cells #[.int .u64 0, .int .u64 (la : Int), .slice sA L.length sc, .slice tA L.length tc] 33)).alloc (.cells #[.int .u64 (bc : Int), .int .u64 (br : Int), .int .u64 (bs : Int), .slice bA bl.length bcap] 40)).alloc (.cells #[.int .u64 (d.t : Int), .int .i64 d.e] 49)).alloc (.cells #[.int .u64 0, .int .u64 0, .slice none 0 0, .slice none 0 0] 33)
  have h1 := (((Blk.mk_new w 33 #[.int .u64 0, .int .u64 (la : Int), .slice sA L.length sc, .slice tA L.length tc]).alloc (.cells #[.int .u64 (bc : Int), .int .u64 (br : Int), .int .u64 (bs : Int), .slice bA bl.length bcap] 40)).alloc (.cells #[.int .u64 (d.t : Int), .int .i64 d.e] 49)).alloc (.cells #[.int .u64 0, .int .u64 0, .slice none 0 0, .slice none 0 0] 33)
  have h2 := ((Blk.mk_new (w.alloc (.cells #[.int .u64 0, .int .u64 (la : Int), .slice sA L.length sc, .slice tA L.length tc] 33)) 40 #[.int .u64 (bc : Int), .int .u64 (br : Int), .int .u64 (bs : Int), .slice bA bl.length bcap]).alloc (.cells #[.int .u64 (d.t : Int), .int .i64 d.e] 49)).alloc (.cells #[.int .u64 0, .int .u64 0, .slice none 0 0, .slice none 0 0] 33)
  have h3 := (Blk.mk_new ((w.alloc (.cells #[.int .u64 0, .int .u64 (la : Int), .slice sA L.length sc, .slice tA L.length tc] 33)).alloc (.cells #[.int .u64 (bc : Int), .int .u64 (br : Int), .int .u64 (bs : Int), .slice bA bl.length bcap] 40)) 49 #[.int .u64 (d.t : Int), .int .i64 d.e]).alloc (.cells #[.int .u64 0, .int .u64 0, .slice none 0 0, .slice none 0 0] 33)
  have h4 := Blk.mk_new (((w.alloc (.cells #[.int .u64 0, .int .u64 (la : Int), .slice sA L.length sc, .slice tA L.length tc] 33)).alloc (.cells #[.int .u64 (bc : Int), .int .u64 (br : Int), .int .u64 (bs : Int), .slice bA bl.length bcap] 40)).alloc (.cells #[.int .u64 (d.t : Int), .int .i64 d.e] 49)) 33 #[.int .u64 0, .int .u64 0, .slice none 0 0, .slice none 0 0]
  simp only [World.size_alloc] at h2 h3 h4
  have HN := Lib.hid hN
  have H1 := Lib.hid h1
  have H2 := Lib.hid h2
  have H3 := Lib.hid h3
  have H4 := Lib.hid h4
  clear hN h1 h2 h3 h4 hs ht hll hok hla hl hb hd
  go_enter Tryz.func72, Tryz.ntmps72
  go_upto_region 1 with fail
  generalize (((w.alloc (.cells #[.int .u64 0, .int .u64 (la : Int), .slice sA L.length sc, .slice tA L.length tc] 33)).alloc (.cells #[.int .u64 (bc : Int), .int .u64 (br : Int), .int .u64 (bs : Int), .slice bA bl.length bcap] 40)).alloc (.cells #[.int .u64 (d.t : Int), .int .i64 d.e] 49)).alloc (.cells #[.int .u64 0, .int .u64 0, .slice none 0 0, .slice none 0 0] 33) = W at *
  have HSRC : Hid (SlIn W 6 SdV.enc (.slice sA L.length sc) L) := Lib.hid ((HS.out.slIn SdV.encOk).new HN.out)
  have HK : Hid (∀ w', New W w' → (w'.cell? ⟨w.heap.size, 2, none⟩ = some (.slice sA L.length sc) ∧ w'.cell? ⟨w.heap.size + 1, 0, none⟩ = some (.int .u64 (bc : Int)) ∧ w'.cell? ⟨w.heap.size + 1, 1, none⟩ = some (.int .u64 (br : Int)) ∧ w'.cell? ⟨w.heap.size + 1, 2, none⟩ = some (.int .u64 (bs : Int)) ∧ w'.cell? ⟨w.heap.size + 1, 3, none⟩ = some (.slice bA bl.length bcap) ∧ w'.cell? ⟨w.heap.size + 2, 0, none⟩ = some (.int .u64 (d.t : Int)) ∧ w'.cell? ⟨w.heap.size + 2, 1, none⟩ = some (.int .i64 d.e))) :=
    Lib.hid (fun w' hn => ⟨(H1.out.new hn).cell 2, (H2.out.new hn).cell 0, (H2.out.new hn).cell 1, (H2.out.new hn).cell 2, (H2.out.new hn).cell 3, (H3.out.new hn).cell 0, (H3.out.new hn).cell 1⟩)
  refine wp_region_z [10] (fun w' => w'.cell? ⟨w.heap.size, 2, none⟩ = some (.slice sA L.length sc) ∧ w'.cell? ⟨w.heap.size + 1, 0, none⟩ = some (.int .u64 (bc : Int)) ∧ w'.cell? ⟨w.heap.size + 1, 1, none⟩ = some (.int .u64 (br : Int)) ∧ w'.cell? ⟨w.heap.size + 1, 2, none⟩ = some (.int .u64 (bs : Int)) ∧ w'.cell? ⟨w.heap.size + 1, 3, none⟩ = some (.slice bA bl.length bcap) ∧ w'.cell? ⟨w.heap.size + 2, 0, none⟩ = some (.int .u64 (d.t : Int)) ∧ w'.cell? ⟨w.heap.size + 2, 1, none⟩ = some (.int .i64 d.e)) (by kernel_rfl) (HK.out _ (New.refl W).drew) (fun hHeld => ?_)
  have HN0 := Lib.hid (New.refl W).drew
  generalize W.drew = w0 at *
  refine tkZ (i := 1) (oi := ⟨some 10, .fieldAddr 33 (.tmp 4) 2, 0, "ref.go:47", #[], none⟩) (v := ?_) (.inl ⟨by rfl, ?_⟩) ?_
  rotate_left
  · (intro wq hSw; (try dsimp only at hSw); go_simp; first | done | with_reducible rfl)
  try simp only [Act.put, sA, sZ, sS]
  refine tkZ (i := 2) (oi := ⟨some 11, .load 30 (.tmp 10), 30, "ref.go:47", #[⟨1, .data⟩], none⟩) (v := ?_) (.inl ⟨by rfl, ?_⟩) ?_
  rotate_left
  · (intro wq hSw; (try dsimp only at hSw); go_simp; first | done | with_reducible rfl)
  try simp only [Act.put, sA, sZ, sS]
  refine tkZ (i := 4) (oi := ⟨some 13, .load 40 (.tmp 5), 40, "ref.go:47", #[], none⟩) (v := ?_) (.inl ⟨by rfl, ?_⟩) ?_
  rotate_left
  · (intro wq hSw; (try dsimp only at hSw); go_simp; first | done | with_reducible rfl)
  try simp only [Act.put, sA, sZ, sS]
  refine tkZ (i := 5) (oi := ⟨some 14, .load 49 (.tmp 6), 49, "ref.go:47", #[], none⟩) (v := ?_) (.inl ⟨by rfl, ?_⟩) ?_
  rotate_left
  · (intro wq hSw; (try dsimp only at hSw); go_simp; first | done | with_reducible rfl)
  try simp only [Act.put, sA, sZ, sS]
  refine tkZ (i := 6) (oi := ⟨some 15, .build 166 #[(0, .tmp 13), (1, .tmp 14)], 166, "ref.go:47", #[⟨4, .data⟩, ⟨5, .data⟩], none⟩) (v := ?_) (.inl ⟨by rfl, ?_⟩) ?_
  rotate_left
  · (intro wq hSw; (try dsimp only at hSw); go_simp; first | done | with_reducible rfl)
  try simp only [Act.put, sA, sZ, sS]
  refine wpZ_ready (rs := [0, 7]) (by kernel_rfl) (by simp) ?_
  refine AllZ.cons (o := ⟨some 9, .buildSlice 30 0 #[], 30, "ref.go:47", #[], none⟩) rfl (fun K hK => ?_) (AllZ.cons (o := ⟨some 16, .buildSlice 30 1 #[(0, .tmp 15)], 30, "ref.go:47", #[⟨6, .data⟩], none⟩) rfl (fun K hK => ?_) AllZ.nil)
  · go_simp
    have HN1 := Lib.hid (HN0.out.alloc (.cells #[] 166))
    have HO1 := Lib.hid (Row.fresh (base := W.heap.size) w0 166 SdV.enc 6 HN0.out.size)
    generalize w0.alloc (.cells #[] 166) = w1 at *
    refine hK.out _ _ ?_ (fun hHeld => ?_)
    · exact HK.out _ HN1.out
    clear hK K
    try simp only [Act.put, sA, sZ, sS]
    refine wpZ_ready (rs := [3, 7]) (by kernel_rfl) (by simp) ?_
    refine AllZ.cons (o := ⟨some 12, .call { callee := .builtin .append, args := #[.tmp 9, .tmp 11], argTypes := #[30, 30] }, 30, "ref.go:47", #[⟨0, .data⟩, ⟨2, .data⟩], none⟩) rfl (fun K hK => ?_) (AllZ.cons (o := ⟨some 16, .buildSlice 30 1 #[(0, .tmp 15)], 30, "ref.go:47", #[⟨6, .data⟩], none⟩) rfl (fun K hK => ?_) AllZ.nil)
    · refine step_appR  sdTy SdV.encOk rfl (.tmp 9) (.tmp 11) rfl rfl rfl HO1.out (HSRC.out.new HN1.out) HM1.out HM2.out HN1.out.size ?_
      intro v2 w2 h2 hg2 hv2
      obtain ⟨A2, n2, c2, rfl⟩ := h2.shp
      have HN2 := Lib.hid (HN1.out.grown hg2 (fun k hk => (HO1.out.lt k hk).1))
      have HO2 := Lib.hid h2
      clear h2 hg2 hv2
      refine hK.out _ _ ?_ (fun hHeld => ?_)
      · exact HK.out _ HN2.out
      clear hK K
      try simp only [Act.put, sA, sZ, sS]
      refine wpZ_ready (rs := [7]) (by kernel_rfl) (by simp) ?_
      refine AllZ.cons (o := ⟨some 16, .buildSlice 30 1 #[(0, .tmp 15)], 30, "ref.go:47", #[⟨6, .data⟩], none⟩) rfl (fun K hK => ?_) AllZ.nil
      go_simp
      have HN3 := Lib.hid (HN2.out.alloc (.cells #[.int .u64 (bc : Int), .int .u64 (br : Int), .int .u64 (bs : Int), .slice bA bl.length bcap, .int .u64 (d.t : Int), .int .i64 d.e] 166))
      have HP3 := Lib.hid (Blk.mk_new w2 166 #[.int .u64 (bc : Int), .int .u64 (br : Int), .int .u64 (bs : Int), .slice bA bl.length bcap, .int .u64 (d.t : Int), .int .i64 d.e])
      have HO3 := Lib.hid (HO2.out.new ((New.refl _).alloc (.cells #[.int .u64 (bc : Int), .int .u64 (br : Int), .int .u64 (bs : Int), .slice bA bl.length bcap, .int .u64 (d.t : Int), .int .i64 d.e] 166)))
      have HD3 := Lib.hid (row_far HO2.out)
      generalize w2.alloc (.cells #[.int .u64 (bc : Int), .int .u64 (br : Int), .int .u64 (bs : Int), .slice bA bl.length bcap, .int .u64 (d.t : Int), .int .i64 d.e] 166) = w3 at *
      refine hK.out _ _ ?_ (fun hHeld => ?_)
      · exact HK.out _ HN3.out
      clear hK K
      try simp only [Act.put, sA, sZ, sS]
      refine wpZ_ready (rs := [8]) (by kernel_rfl) (by simp) ?_
      refine AllZ.cons (o := ⟨some 17, .call { callee := .builtin .append, args := #[.tmp 12, .tmp 16], argTypes := #[30, 30] }, 30, "ref.go:47", #[⟨3, .data⟩, ⟨7, .data⟩, ⟨3, .chain⟩], none⟩) rfl (fun K hK => ?_) AllZ.nil
      refine step_appR (m := [(⟨⟨⟨bc, br, bs, bl⟩, bA, bcap⟩, d, lt⟩ : SdV)]) sdTy SdV.encOk rfl (.tmp 12) (.tmp 16) rfl rfl rfl HO3.out (SlIn.one HP3.out SdV.encOk rfl) HM3.out HM4.out HN3.out.size ?_
      intro v4 w4 h4 hg4 hv4
      obtain ⟨A4, n4, c4, rfl⟩ := h4.shp
      have HN4 := Lib.hid (HN3.out.grown hg4 (fun k hk => (HO3.out.lt k hk).1))
      have HO4 := Lib.hid h4
      have HP4 := Lib.hid (HP3.out.grown hg4 (fun e => HD3.out _ e.symm rfl))
      have HD4 := Lib.hid (app_far HD3.out HP3.out.lt hv4)
      clear h4 hg4 hv4
      obtain ⟨z0, z1, z2, z3, z4, zz⟩ := Blk4R (H1.out.new HN4.out)
      refine hK.out _ _ ?_ (fun hHeld => ?_)
      · exact HK.out _ HN4.out
      clear hK K
      try simp only [Act.put, sA, sZ, sS]
      refine tkZ (i := 9) (oi := ⟨some 18, .fieldAddr 33 (.tmp 4) 2, 0, "ref.go:47", #[⟨0, .phase⟩, ⟨1, .phase⟩, ⟨2, .phase⟩, ⟨3, .phase⟩, ⟨4, .phase⟩, ⟨5, .phase⟩, ⟨6, .phase⟩, ⟨7, .phase⟩, ⟨8, .phase⟩], none⟩) (v := ?_) (.inl ⟨by rfl, ?_⟩) ?_
      rotate_left
      · (intro wq hSw; (try dsimp only at hSw); go_simp; first | done | with_reducible rfl)
      try simp only [Act.put, sA, sZ, sS]
      refine wpZ_ready (rs := [10]) (by kernel_rfl) (by simp) ?_
      refine AllZ.consZ (o := ⟨none, .store 30 (.tmp 18) (.tmp 17), 0, "ref.go:47", #[⟨9, .data⟩, ⟨8, .data⟩, ⟨8, .chain⟩, ⟨0, .phase⟩, ⟨1, .phase⟩, ⟨2, .phase⟩, ⟨3, .phase⟩, ⟨4, .phase⟩, ⟨5, .phase⟩, ⟨6, .phase⟩, ⟨7, .phase⟩, ⟨8, .phase⟩], none⟩) rfl (by kernel_rfl) (fun K hK => ?_) AllZ.nil
      go_simp
      refine hK.out _ _ ?_
      clear hK K
      try simp only [Act.put, sA, sZ, sS]
      refine wpZ_done (by kernel_rfl) ?_ _
      clear hHeld z0 z1 z2 z3 z4 zz
      have hu5 : Upd (· = w.heap.size) w4 (w4.setCell ⟨w.heap.size, 2, none⟩ (.slice A4 n4 c4)) := (Upd.refl _ w4).setIn 2 _
      have HU5 := Lib.hid hu5
      have H15 := Lib.hid ((H1.out.new HN4.out).set_ 2 (.slice A4 n4 c4))
      have H35 := Lib.hid ((H3.out.new HN4.out).upd hu5 (by omega))
      have H45 := Lib.hid ((H4.out.new HN4.out).upd hu5 (by omega))
      have HR5 := Lib.hid (HO4.out.upd hu5 (fun k hk e => by have := (HO4.out.lt k hk).1; have := H4.out.lt; omega))
      have HN5 := Lib.hid ((New.trans HN.out HN4.out).upd hu5 (fun i e => by omega))
      clear hu5
      generalize w4.setCell ⟨w.heap.size, 2, none⟩ (.slice A4 n4 c4) = w5 at *
      have HO5 := Lib.hid (Row.fresh (base := w5.heap.size) w5 4 boE 1 (Nat.le_refl _))
      have HS5 := Lib.hid ((HT.out.slIn boEOk).new (HN5.out.alloc (.cells #[] 4)))
      have HM5 : Hid (([] : List Bool).length + (L.map SdV.lt).length ≤ maxLen) := Lib.hid (by have := HLL.out; simp; unfold maxLen; omega)
      have HM6 : Hid ((([] : List Bool).length + (L.map SdV.lt).length) * 1 ≤ 140737488355328) := Lib.hid (by have := HLL.out; simp; omega)
      have HM7 : Hid (([] ++ L.map SdV.lt).length + [lt].length ≤ maxLen) := Lib.hid (by have := HLL.out; simp; unfold maxLen; omega)
      have HM8 : Hid ((([] ++ L.map SdV.lt).length + [lt].length) * 1 ≤ 140737488355328) := Lib.hid (by have := HLL.out; simp; omega)
      obtain ⟨y0, y1, y2, y3, y4, yz⟩ := Blk4R H15.out
      go_upto_region 3 with (first
        | (at_builtin; refine wpList_appR boTy boEOk rfl (.tmp 19) (.tmp 21) rfl rfl rfl HO5.out HS5.out HM5.out HM6.out (by rw [World.size_alloc]; omega) ?_; intro v6 w6 h6 hg6 hv6; obtain ⟨A6, n6, c6, rfl⟩ := h6.shp; have HN6 : Hid (New w5 w6) := Lib.hid (((New.refl w5).alloc _).grown hg6 (fun k hk => (HO5.out.lt k hk).1)); have HO6 := Lib.hid h6; clear h6 hg6 hv6)
        | (at_builtin; refine wpList_appR (m := [lt]) boTy boEOk rfl (.tmp 22) (.tmp 24) rfl rfl rfl (HO6.out.new ((New.refl w6).alloc _)) (SlIn.one (Blk.mk_new w6 4 #[.bool lt]) boEOk rfl) HM7.out HM8.out (by have := HN6.out.size; rw [World.size_alloc]; omega) ?_; intro v7 w7 h7 hg7 hv7; obtain ⟨A57, n57, c57, rfl⟩ := h7.shp; have HN7 : Hid (New w5 w7) := Lib.hid ((HN6.out.alloc _).grown hg7 (fun k hk => (HO6.out.lt k hk).1)); have HO7 := Lib.hid h7; clear h7 hg7 hv7; clear y0 y1 y2 y3 y4 yz; obtain ⟨y0, y1, y2, y3, y4, yz⟩ := Blk4R (H15.out.new HN7.out)))
      have hu8 : Upd (· = w.heap.size) w7 (w7.setCell ⟨w.heap.size, 3, none⟩ (.slice A57 n57 c57)) := (Upd.refl _ w7).setIn 3 _
      have H18 := Lib.hid ((H15.out.new HN7.out).set_ 3 (.slice A57 n57 c57))
      have H38 := Lib.hid ((H35.out.new HN7.out).upd hu8 (by omega))
      have H48 := Lib.hid ((H45.out.new HN7.out).upd hu8 (by omega))
      have HR8 := Lib.hid ((HR5.out.new HN7.out).upd hu8 (fun k hk e => by have := (HR5.out.lt k hk).1; have := H4.out.lt; omega))
      have HT8 := Lib.hid (HO7.out.upd hu8 (fun k hk e => by have := (HO7.out.lt k hk).1; have := H45.out.lt; omega))
      have HN8 := Lib.hid ((New.trans HN5.out HN7.out).upd hu8 (fun i e => by omega))
      have HOWN : Hid (∀ k, (Value.slice A57 n57 c57).ownBlock = some k → w.heap.size + 4 ≤ k) := Lib.hid (fun k hk => by have := (HO7.out.lt k hk).1; have := H45.out.lt; omega)
      have HOWS : Hid (∀ k, (.slice A4 n4 c4 : Value).ownBlock = some k → w.heap.size + 4 ≤ k) := Lib.hid (fun k hk => by have := (HR5.out.lt k hk).1; have := H4.out.lt; omega)
      clear hu8 y0 y1 y2 y3 y4 yz
      generalize w7.setCell ⟨w.heap.size, 3, none⟩ (.slice A57 n57 c57) = w8 at *
      obtain ⟨q0, q1, q2, q3, q4, qz⟩ := Blk4R H18.out
      obtain ⟨v0, v1, v2, vz⟩ := Blk2R H38.out
      obtain ⟨r0, r1, r2, r3, r4, rz⟩ := Blk4R H48.out
      have HOK8 : Hid (∀ p ∈ L ++ [(⟨⟨⟨bc, br, bs, bl⟩, bA, bcap⟩, d, lt⟩ : SdV)], BtAt w8 p.v) := Lib.hid (fun p hp => (List.mem_append.1 hp).elim (fun hp => (HOK.out p hp).new HN8.out) (fun hp => by rw [List.mem_singleton.1 hp]; exact HBT.out.new HN8.out))
      by_cases hde : d.e = 0
      · have HE := Lib.hid hde
        have hdb : (d.e == 0) = true := by rw [hde]; rfl
        clear hde
        go_wp2_with fail
        have hu9 : Upd (fun i => i = w.heap.size ∨ i = w.heap.size + 3) w8 (((((w8.setCell ⟨w.heap.size, 1, none⟩ (.int .u64 (d.t : Int))).setCell ⟨w.heap.size + 3, 0, none⟩ (.int .u64 0)).setCell ⟨w.heap.size + 3, 1, none⟩ (.int .u64 (d.t : Int))).setCell ⟨w.heap.size + 3, 2, none⟩ (.slice A4 n4 c4)).setCell ⟨w.heap.size + 3, 3, none⟩ (.slice A57 n57 c57)) := (((((Upd.refl _ w8).setCell (fun _ => .inl rfl) _).setCell (fun _ => .inr rfl) _).setCell (fun _ => .inr rfl) _).setCell (fun _ => .inr rfl) _).setCell (fun _ => .inr rfl) _
        exact bodyPost_ret (v := .agg #[.int .u64 0, .int .u64 (d.t : Int), .slice A4 n4 c4, .slice A57 n57 c57]) (by simp [results, Tryz.results72, go_sem, r1, r2, r3, r4]) rfl (TellPost.of hu9 HR8.out HT8.out HOK8.out HLL.out HD.out HN8.out HOWN.out HOWS.out ⟨rfl, by dsimp only; rw [if_pos HE.out]⟩ ((Off.blk H18.out (by decide)).or (Off.blk H48.out (by decide))))
      · have HE := Lib.hid hde
        have hdb : (d.e == 0) = false := beq_eq_false_iff_ne.2 hde
        clear hde
        go_wp2_with fail
        have hu9 : Upd (fun i => i = w.heap.size ∨ i = w.heap.size + 3) w8 ((((w8.setCell ⟨w.heap.size + 3, 0, none⟩ (.int .u64 0)).setCell ⟨w.heap.size + 3, 1, none⟩ (.int .u64 (la : Int))).setCell ⟨w.heap.size + 3, 2, none⟩ (.slice A4 n4 c4)).setCell ⟨w.heap.size + 3, 3, none⟩ (.slice A57 n57 c57)) := ((((Upd.refl _ w8).setCell (fun _ => .inr rfl) _).setCell (fun _ => .inr rfl) _).setCell (fun _ => .inr rfl) _).setCell (fun _ => .inr rfl) _
        exact bodyPost_ret (v := .agg #[.int .u64 0, .int .u64 (la : Int), .slice A4 n4 c4, .slice A57 n57 c57]) (by simp [results, Tryz.results72, go_sem, r1, r2, r3, r4]) rfl (TellPost.of hu9 HR8.out HT8.out HOK8.out HLL.out HLA.out HN8.out HOWN.out HOWS.out ⟨rfl, by dsimp only; rw [if_neg HE.out]⟩ ((Off.blk H18.out (by decide)).or (Off.blk H48.out (by decide))))
    · go_simp
      have HN5 := Lib.hid (HN1.out.alloc (.cells #[.int .u64 (bc : Int), .int .u64 (br : Int), .int .u64 (bs : Int), .slice bA bl.length bcap, .int .u64 (d.t : Int), .int .i64 d.e] 166))
      have HP5 := Lib.hid (Blk.mk_new w1 166 #[.int .u64 (bc : Int), .int .u64 (br : Int), .int .u64 (bs : Int), .slice bA bl.length bcap, .int .u64 (d.t : Int), .int .i64 d.e])
      have HO5 := Lib.hid (HO1.out.new ((New.refl _).alloc (.cells #[.int .u64 (bc : Int), .int .u64 (br : Int), .int .u64 (bs : Int), .slice bA bl.length bcap, .int .u64 (d.t : Int), .int .i64 d.e] 166)))
      have HD5 := Lib.hid (row_far HO1.out)
      generalize w1.alloc (.cells #[.int .u64 (bc : Int), .int .u64 (br : Int), .int .u64 (bs : Int), .slice bA bl.length bcap, .int .u64 (d.t : Int), .int .i64 d.e] 166) = w5 at *
      refine hK.out _ _ ?_ (fun hHeld => ?_)
      · exact HK.out _ HN5.out
      clear hK K
      try simp only [Act.put, sA, sZ, sS]
      refine wpZ_ready (rs := [3]) (by kernel_rfl) (by simp) ?_
      refine AllZ.cons (o := ⟨some 12, .call { callee := .builtin .append, args := #[.tmp 9, .tmp 11], argTypes := #[30, 30] }, 30, "ref.go:47", #[⟨0, .data⟩, ⟨2, .data⟩], none⟩) rfl (fun K hK => ?_) AllZ.nil
      refine step_appR  sdTy SdV.encOk rfl (.tmp 9) (.tmp 11) rfl rfl rfl HO5.out (HSRC.out.new HN5.out) HM1.out HM2.out HN5.out.size ?_
      intro v6 w6 h6 hg6 hv6
      obtain ⟨A6, n6, c6, rfl⟩ := h6.shp
      have HN6 := Lib.hid (HN5.out.grown hg6 (fun k hk => (HO5.out.lt k hk).1))
      have HO6 := Lib.hid h6
      have HP6 := Lib.hid (HP5.out.grown hg6 (fun e => HD5.out _ e.symm rfl))
      have HD6 := Lib.hid (app_far HD5.out HP5.out.lt hv6)
      clear h6 hg6 hv6
      refine hK.out _ _ ?_ (fun hHeld => ?_)
      · exact HK.out _ HN6.out
      clear hK K
      try simp only [Act.put, sA, sZ, sS]
      refine wpZ_ready (rs := [8]) (by kernel_rfl) (by simp) ?_
      refine AllZ.cons (o := ⟨some 17, .call { callee := .builtin .append, args := #[.tmp 12, .tmp 16], argTypes := #[30, 30] }, 30, "ref.go:47", #[⟨3, .data⟩, ⟨7, .data⟩, ⟨3, .chain⟩], none⟩) rfl (fun K hK => ?_) AllZ.nil
      refine step_appR (m := [(⟨⟨⟨bc, br, bs, bl⟩, bA, bcap⟩, d, lt⟩ : SdV)]) sdTy SdV.encOk rfl (.tmp 12) (.tmp 16) rfl rfl rfl HO6.out (SlIn.one HP6.out SdV.encOk rfl) HM3.out HM4.out HN6.out.size ?_
      intro v7 w7 h7 hg7 hv7
      obtain ⟨A7, n7, c7, rfl⟩ := h7.shp
      have HN7 := Lib.hid (HN6.out.grown hg7 (fun k hk => (HO6.out.lt k hk).1))
      have HO7 := Lib.hid h7
      have HP7 := Lib.hid (HP6.out.grown hg7 (fun e => HD6.out _ e.symm rfl))
      have HD7 := Lib.hid (app_far HD6.out HP6.out.lt hv7)
      clear h7 hg7 hv7
      obtain ⟨z0, z1, z2, z3, z4, zz⟩ := Blk4R (H1.out.new HN7.out)
      refine hK.out _ _ ?_ (fun hHeld => ?_)
      · exact HK.out _ HN7.out
      clear hK K
      try simp only [Act.put, sA, sZ, sS]
      refine tkZ (i := 9) (oi := ⟨some 18, .fieldAddr 33 (.tmp 4) 2, 0, "ref.go:47", #[⟨0, .phase⟩, ⟨1, .phase⟩, ⟨2, .phase⟩, ⟨3, .phase⟩, ⟨4, .phase⟩, ⟨5, .phase⟩, ⟨6, .phase⟩, ⟨7, .phase⟩, ⟨8, .phase⟩], none⟩) (v := ?_) (.inl ⟨by rfl, ?_⟩) ?_
      rotate_left
      · (intro wq hSw; (try dsimp only at hSw); go_simp; first | done | with_reducible rfl)
      try simp only [Act.put, sA, sZ, sS]
      refine wpZ_ready (rs := [10]) (by kernel_rfl) (by simp) ?_
      refine AllZ.consZ (o := ⟨none, .store 30 (.tmp 18) (.tmp 17), 0, "ref.go:47", #[⟨9, .data⟩, ⟨8, .data⟩, ⟨8, .chain⟩, ⟨0, .phase⟩, ⟨1, .phase⟩, ⟨2, .phase⟩, ⟨3, .phase⟩, ⟨4, .phase⟩, ⟨5, .phase⟩, ⟨6, .phase⟩, ⟨7, .phase⟩, ⟨8, .phase⟩], none⟩) rfl (by kernel_rfl) (fun K hK => ?_) AllZ.nil
      go_simp
      refine hK.out _ _ ?_
      clear hK K
      try simp only [Act.put, sA, sZ, sS]
      refine wpZ_done (by kernel_rfl) ?_ _
      clear hHeld z0 z1 z2 z3 z4 zz
      have hu5 : Upd (· = w.heap.size) w7 (w7.setCell ⟨w.heap.size, 2, none⟩ (.slice A7 n7 c7)) := (Upd.refl _ w7).setIn 2 _
      have HU5 := Lib.hid hu5
      have H15 := Lib.hid ((H1.out.new HN7.out).set_ 2 (.slice A7 n7 c7))
      have H35 := Lib.hid ((H3.out.new HN7.out).upd hu5 (by omega))
      have H45 := Lib.hid ((H4.out.new HN7.out).upd hu5 (by omega))
      have HR5 := Lib.hid (HO7.out.upd hu5 (fun k hk e => by have := (HO7.out.lt k hk).1; have := H4.out.lt; omega))
      have HN5 := Lib.hid ((New.trans HN.out HN7.out).upd hu5 (fun i e => by omega))
      clear hu5
      generalize w7.setCell ⟨w.heap.size, 2, none⟩ (.slice A7 n7 c7) = w5 at *
      have HO5 := Lib.hid (Row.fresh (base := w5.heap.size) w5 4 boE 1 (Nat.le_refl _))
      have HS5 := Lib.hid ((HT.out.slIn boEOk).new (HN5.out.alloc (.cells #[] 4)))
      have HM5 : Hid (([] : List Bool).length + (L.map SdV.lt).length ≤ maxLen) := Lib.hid (by have := HLL.out; simp; unfold maxLen; omega)
      have HM6 : Hid ((([] : List Bool).length + (L.map SdV.lt).length) * 1 ≤ 140737488355328) := Lib.hid (by have := HLL.out; simp; omega)
      have HM7 : Hid (([] ++ L.map SdV.lt).length + [lt].length ≤ maxLen) := Lib.hid (by have := HLL.out; simp; unfold maxLen; omega)
      have HM8 : Hid ((([] ++ L.map SdV.lt).length + [lt].length) * 1 ≤ 140737488355328) := Lib.hid (by have := HLL.out; simp; omega)
      obtain ⟨y0, y1, y2, y3, y4, yz⟩ := Blk4R H15.out
      go_upto_region 3 with (first
        | (at_builtin; refine wpList_appR boTy boEOk rfl (.tmp 19) (.tmp 21) rfl rfl rfl HO5.out HS5.out HM5.out HM6.out (by rw [World.size_alloc]; omega) ?_; intro v6 w6 h6 hg6 hv6; obtain ⟨A6, n6, c6, rfl⟩ := h6.shp; have HN6 : Hid (New w5 w6) := Lib.hid (((New.refl w5).alloc _).grown hg6 (fun k hk => (HO5.out.lt k hk).1)); have HO6 := Lib.hid h6; clear h6 hg6 hv6)
        | (at_builtin; refine wpList_appR (m := [lt]) boTy boEOk rfl (.tmp 22) (.tmp 24) rfl rfl rfl (HO6.out.new ((New.refl w6).alloc _)) (SlIn.one (Blk.mk_new w6 4 #[.bool lt]) boEOk rfl) HM7.out HM8.out (by have := HN6.out.size; rw [World.size_alloc]; omega) ?_; intro v7 w7 h7 hg7 hv7; obtain ⟨A57, n57, c57, rfl⟩ := h7.shp; have HN7 : Hid (New w5 w7) := Lib.hid ((HN6.out.alloc _).grown hg7 (fun k hk => (HO6.out.lt k hk).1)); have HO7 := Lib.hid h7; clear h7 hg7 hv7; clear y0 y1 y2 y3 y4 yz; obtain ⟨y0, y1, y2, y3, y4, yz⟩ := Blk4R (H15.out.new HN7.out)))
      have hu8 : Upd (· = w.heap.size) w7 (w7.setCell ⟨w.heap.size, 3, none⟩ (.slice A57 n57 c57)) := (Upd.refl _ w7).setIn 3 _
      have H18 := Lib.hid ((H15.out.new HN7.out).set_ 3 (.slice A57 n57 c57))
      have H38 := Lib.hid ((H35.out.new HN7.out).upd hu8 (by omega))
      have H48 := Lib.hid ((H45.out.new HN7.out).upd hu8 (by omega))
      have HR8 := Lib.hid ((HR5.out.new HN7.out).upd hu8 (fun k hk e => by have := (HR5.out.lt k hk).1; have := H4.out.lt; omega))
      have HT8 := Lib.hid (HO7.out.upd hu8 (fun k hk e => by have := (HO7.out.lt k hk).1; have := H45.out.lt; omega))
      have HN8 := Lib.hid ((New.trans HN5.out HN7.out).upd hu8 (fun i e => by omega))
      have HOWN : Hid (∀ k, (Value.slice A57 n57 c57).ownBlock = some k → w.heap.size + 4 ≤ k) := Lib.hid (fun k hk => by have := (HO7.out.lt k hk).1; have := H45.out.lt; omega)
      have HOWS : Hid (∀ k, (.slice A7 n7 c7 : Value).ownBlock = some k → w.heap.size + 4 ≤ k) := Lib.hid (fun k hk => by have := (HR5.out.lt k hk).1; have := H4.out.lt; omega)
      clear hu8 y0 y1 y2 y3 y4 yz
      generalize w7.setCell ⟨w.heap.size, 3, none⟩ (.slice A57 n57 c57) = w8 at *
      obtain ⟨q0, q1, q2, q3, q4, qz⟩ := Blk4R H18.out
      obtain ⟨v0, v1, v2, vz⟩ := Blk2R H38.out
      obtain ⟨r0, r1, r2, r3, r4, rz⟩ := Blk4R H48.out
      have HOK8 : Hid (∀ p ∈ L ++ [(⟨⟨⟨bc, br, bs, bl⟩, bA, bcap⟩, d, lt⟩ : SdV)], BtAt w8 p.v) := Lib.hid (fun p hp => (List.mem_append.1 hp).elim (fun hp => (HOK.out p hp).new HN8.out) (fun hp => by rw [List.mem_singleton.1 hp]; exact HBT.out.new HN8.out))
      by_cases hde : d.e = 0
      · have HE := Lib.hid hde
        have hdb : (d.e == 0) = true := by rw [hde]; rfl
        clear hde
        go_wp2_with fail
        have hu9 : Upd (fun i => i = w.heap.size ∨ i = w.heap.size + 3) w8 (((((w8.setCell ⟨w.heap.size, 1, none⟩ (.int .u64 (d.t : Int))).setCell ⟨w.heap.size + 3, 0, none⟩ (.int .u64 0)).setCell ⟨w.heap.size + 3, 1, none⟩ (.int .u64 (d.t : Int))).setCell ⟨w.heap.size + 3, 2, none⟩ (.slice A7 n7 c7)).setCell ⟨w.heap.size + 3, 3, none⟩ (.slice A57 n57 c57)) := (((((Upd.refl _ w8).setCell (fun _ => .inl rfl) _).setCell (fun _ => .inr rfl) _).setCell (fun _ => .inr rfl) _).setCell (fun _ => .inr rfl) _).setCell (fun _ => .inr rfl) _
        exact bodyPost_ret (v := .agg #[.int .u64 0, .int .u64 (d.t : Int), .slice A7 n7 c7, .slice A57 n57 c57]) (by simp [results, Tryz.results72, go_sem, r1, r2, r3, r4]) rfl (TellPost.of hu9 HR8.out HT8.out HOK8.out HLL.out HD.out HN8.out HOWN.out HOWS.out ⟨rfl, by dsimp only; rw [if_pos HE.out]⟩ ((Off.blk H18.out (by decide)).or (Off.blk H48.out (by decide))))
      · have HE := Lib.hid hde
        have hdb : (d.e == 0) = false := beq_eq_false_iff_ne.2 hde
        clear hde
        go_wp2_with fail
        have hu9 : Upd (fun i => i = w.heap.size ∨ i = w.heap.size + 3) w8 ((((w8.setCell ⟨w.heap.size + 3, 0, none⟩ (.int .u64 0)).setCell ⟨w.heap.size + 3, 1, none⟩ (.int .u64 (la : Int))).setCell ⟨w.heap.size + 3, 2, none⟩ (.slice A7 n7 c7)).setCell ⟨w.heap.size + 3, 3, none⟩ (.slice A57 n57 c57)) := ((((Upd.refl _ w8).setCell (fun _ => .inr rfl) _).setCell (fun _ => .inr rfl) _).setCell (fun _ => .inr rfl) _).setCell (fun _ => .inr rfl) _
        exact bodyPost_ret (v := .agg #[.int .u64 0, .int .u64 (la : Int), .slice A7 n7 c7, .slice A57 n57 c57]) (by simp [results, Tryz.results72, go_sem, r1, r2, r3, r4]) rfl (TellPost.of hu9 HR8.out HT8.out HOK8.out HLL.out HLA.out HN8.out HOWN.out HOWS.out ⟨rfl, by dsimp only; rw [if_neg HE.out]⟩ ((Off.blk H18.out (by decide)).or (Off.blk H48.out (by decide))))
  · go_simp
    have HN8 := Lib.hid (HN0.out.alloc (.cells #[.int .u64 (bc : Int), .int .u64 (br : Int), .int .u64 (bs : Int), .slice bA bl.length bcap, .int .u64 (d.t : Int), .int .i64 d.e] 166))
    have HP8 := Lib.hid (Blk.mk_new w0 166 #[.int .u64 (bc : Int), .int .u64 (br : Int), .int .u64 (bs : Int), .slice bA bl.length bcap, .int .u64 (d.t : Int), .int .i64 d.e])
    generalize w0.alloc (.cells #[.int .u64 (bc : Int), .int .u64 (br : Int), .int .u64 (bs : Int), .slice bA bl.length bcap, .int .u64 (d.t : Int), .int .i64 d.e] 166) = w8 at *
    refine hK.out _ _ ?_ (fun hHeld => ?_)
    · exact HK.out _ HN8.out
    clear hK K
    try simp only [Act.put, sA, sZ, sS]
    refine wpZ_ready (rs := [0]) (by kernel_rfl) (by simp) ?_
    refine AllZ.cons (o := ⟨some 9, .buildSlice 30 0 #[], 30, "ref.go:47", #[], none⟩) rfl (fun K hK => ?_) AllZ.nil
    go_simp
    have HN9 := Lib.hid (HN8.out.alloc (.cells #[] 166))
    have HO9 := Lib.hid (Row.fresh (base := W.heap.size) w8 166 SdV.enc 6 HN8.out.size)
    have HP9 := Lib.hid (HP8.out.alloc (.cells #[] 166))
    have HD9 := Lib.hid (fresh_far HP8.out.lt)
    generalize w8.alloc (.cells #[] 166) = w9 at *
    refine hK.out _ _ ?_ (fun hHeld => ?_)
    · exact HK.out _ HN9.out
    clear hK K
    try simp only [Act.put, sA, sZ, sS]
    refine wpZ_ready (rs := [3]) (by kernel_rfl) (by simp) ?_
    refine AllZ.cons (o := ⟨some 12, .call { callee := .builtin .append, args := #[.tmp 9, .tmp 11], argTypes := #[30, 30] }, 30, "ref.go:47", #[⟨0, .data⟩, ⟨2, .data⟩], none⟩) rfl (fun K hK => ?_) AllZ.nil
    refine step_appR  sdTy SdV.encOk rfl (.tmp 9) (.tmp 11) rfl rfl rfl HO9.out (HSRC.out.new HN9.out) HM1.out HM2.out HN9.out.size ?_
    intro v10 w10 h10 hg10 hv10
    obtain ⟨A10, n10, c10, rfl⟩ := h10.shp
    have HN10 := Lib.hid (HN9.out.grown hg10 (fun k hk => (HO9.out.lt k hk).1))
    have HO10 := Lib.hid h10
    have HP10 := Lib.hid (HP9.out.grown hg10 (fun e => HD9.out _ e.symm rfl))
    have HD10 := Lib.hid (app_far HD9.out HP9.out.lt hv10)
    clear h10 hg10 hv10
    refine hK.out _ _ ?_ (fun hHeld => ?_)
    · exact HK.out _ HN10.out
    clear hK K
    try simp only [Act.put, sA, sZ, sS]
    refine wpZ_ready (rs := [8]) (by kernel_rfl) (by simp) ?_
    refine AllZ.cons (o := ⟨some 17, .call { callee := .builtin .append, args := #[.tmp 12, .tmp 16], argTypes := #[30, 30] }, 30, "ref.go:47", #[⟨3, .data⟩, ⟨7, .data⟩, ⟨3, .chain⟩], none⟩) rfl (fun K hK => ?_) AllZ.nil
    refine step_appR (m := [(⟨⟨⟨bc, br, bs, bl⟩, bA, bcap⟩, d, lt⟩ : SdV)]) sdTy SdV.encOk rfl (.tmp 12) (.tmp 16) rfl rfl rfl HO10.out (SlIn.one HP10.out SdV.encOk rfl) HM3.out HM4.out HN10.out.size ?_
    intro v11 w11 h11 hg11 hv11
    obtain ⟨A11, n11, c11, rfl⟩ := h11.shp
    have HN11 := Lib.hid (HN10.out.grown hg11 (fun k hk => (HO10.out.lt k hk).1))
    have HO11 := Lib.hid h11
    have HP11 := Lib.hid (HP10.out.grown hg11 (fun e => HD10.out _ e.symm rfl))
    have HD11 := Lib.hid (app_far HD10.out HP10.out.lt hv11)
    clear h11 hg11 hv11
    obtain ⟨z0, z1, z2, z3, z4, zz⟩ := Blk4R (H1.out.new HN11.out)
    refine hK.out _ _ ?_ (fun hHeld => ?_)
    · exact HK.out _ HN11.out
    clear hK K
    try simp only [Act.put, sA, sZ, sS]
    refine tkZ (i := 9) (oi := ⟨some 18, .fieldAddr 33 (.tmp 4) 2, 0, "ref.go:47", #[⟨0, .phase⟩, ⟨1, .phase⟩, ⟨2, .phase⟩, ⟨3, .phase⟩, ⟨4, .phase⟩, ⟨5, .phase⟩, ⟨6, .phase⟩, ⟨7, .phase⟩, ⟨8, .phase⟩], none⟩) (v := ?_) (.inl ⟨by rfl, ?_⟩) ?_
    rotate_left
    · (intro wq hSw; (try dsimp only at hSw); go_simp; first | done | with_reducible rfl)
    try simp only [Act.put, sA, sZ, sS]
    refine wpZ_ready (rs := [10]) (by kernel_rfl) (by simp) ?_
    refine AllZ.consZ (o := ⟨none, .store 30 (.tmp 18) (.tmp 17), 0, "ref.go:47", #[⟨9, .data⟩, ⟨8, .data⟩, ⟨8, .chain⟩, ⟨0, .phase⟩, ⟨1, .phase⟩, ⟨2, .phase⟩, ⟨3, .phase⟩, ⟨4, .phase⟩, ⟨5, .phase⟩, ⟨6, .phase⟩, ⟨7, .phase⟩, ⟨8, .phase⟩], none⟩) rfl (by kernel_rfl) (fun K hK => ?_) AllZ.nil
    go_simp
    refine hK.out _ _ ?_
    clear hK K
    try simp only [Act.put, sA, sZ, sS]
    refine wpZ_done (by kernel_rfl) ?_ _
    clear hHeld z0 z1 z2 z3 z4 zz
    have hu5 : Upd (· = w.heap.size) w11 (w11.setCell ⟨w.heap.size, 2, none⟩ (.slice A11 n11 c11)) := (Upd.refl _ w11).setIn 2 _
    have HU5 := Lib.hid hu5
    have H15 := Lib.hid ((H1.out.new HN11.out).set_ 2 (.slice A11 n11 c11))
    have H35 := Lib.hid ((H3.out.new HN11.out).upd hu5 (by omega))
    have H45 := Lib.hid ((H4.out.new HN11.out).upd hu5 (by omega))
    have HR5 := Lib.hid (HO11.out.upd hu5 (fun k hk e => by have := (HO11.out.lt k hk).1; have := H4.out.lt; omega))
    have HN5 := Lib.hid ((New.trans HN.out HN11.out).upd hu5 (fun i e => by omega))
    clear hu5
    generalize w11.setCell ⟨w.heap.size, 2, none⟩ (.slice A11 n11 c11) = w5 at *
    have HO5 := Lib.hid (Row.fresh (base := w5.heap.size) w5 4 boE 1 (Nat.le_refl _))
    have HS5 := Lib.hid ((HT.out.slIn boEOk).new (HN5.out.alloc (.cells #[] 4)))
    have HM5 : Hid (([] : List Bool).length + (L.map SdV.lt).length ≤ maxLen) := Lib.hid (by have := HLL.out; simp; unfold maxLen; omega)
    have HM6 : Hid ((([] : List Bool).length + (L.map SdV.lt).length) * 1 ≤ 140737488355328) := Lib.hid (by have := HLL.out; simp; omega)
    have HM7 : Hid (([] ++ L.map SdV.lt).length + [lt].length ≤ maxLen) := Lib.hid (by have := HLL.out; simp; unfold maxLen; omega)
    have HM8 : Hid ((([] ++ L.map SdV.lt).length + [lt].length) * 1 ≤ 140737488355328) := Lib.hid (by have := HLL.out; simp; omega)
    obtain ⟨y0, y1, y2, y3, y4, yz⟩ := Blk4R H15.out
    go_upto_region 3 with (first
      | (at_builtin; refine wpList_appR boTy boEOk rfl (.tmp 19) (.tmp 21) rfl rfl rfl HO5.out HS5.out HM5.out HM6.out (by rw [World.size_alloc]; omega) ?_; intro v6 w6 h6 hg6 hv6; obtain ⟨A6, n6, c6, rfl⟩ := h6.shp; have HN6 : Hid (New w5 w6) := Lib.hid (((New.refl w5).alloc _).grown hg6 (fun k hk => (HO5.out.lt k hk).1)); have HO6 := Lib.hid h6; clear h6 hg6 hv6)
      | (at_builtin; refine wpList_appR (m := [lt]) boTy boEOk rfl (.tmp 22) (.tmp 24) rfl rfl rfl (HO6.out.new ((New.refl w6).alloc _)) (SlIn.one (Blk.mk_new w6 4 #[.bool lt]) boEOk rfl) HM7.out HM8.out (by have := HN6.out.size; rw [World.size_alloc]; omega) ?_; intro v7 w7 h7 hg7 hv7; obtain ⟨A57, n57, c57, rfl⟩ := h7.shp; have HN7 : Hid (New w5 w7) := Lib.hid ((HN6.out.alloc _).grown hg7 (fun k hk => (HO6.out.lt k hk).1)); have HO7 := Lib.hid h7; clear h7 hg7 hv7; clear y0 y1 y2 y3 y4 yz; obtain ⟨y0, y1, y2, y3, y4, yz⟩ := Blk4R (H15.out.new HN7.out)))
    have hu8 : Upd (· = w.heap.size) w7 (w7.setCell ⟨w.heap.size, 3, none⟩ (.slice A57 n57 c57)) := (Upd.refl _ w7).setIn 3 _
    have H18 := Lib.hid ((H15.out.new HN7.out).set_ 3 (.slice A57 n57 c57))
    have H38 := Lib.hid ((H35.out.new HN7.out).upd hu8 (by omega))
    have H48 := Lib.hid ((H45.out.new HN7.out).upd hu8 (by omega))
    have HR8 := Lib.hid ((HR5.out.new HN7.out).upd hu8 (fun k hk e => by have := (HR5.out.lt k hk).1; have := H4.out.lt; omega))
    have HT8 := Lib.hid (HO7.out.upd hu8 (fun k hk e => by have := (HO7.out.lt k hk).1; have := H45.out.lt; omega))
    have HN8 := Lib.hid ((New.trans HN5.out HN7.out).upd hu8 (fun i e => by omega))
    have HOWN : Hid (∀ k, (Value.slice A57 n57 c57).ownBlock = some k → w.heap.size + 4 ≤ k) := Lib.hid (fun k hk => by have := (HO7.out.lt k hk).1; have := H45.out.lt; omega)
    have HOWS : Hid (∀ k, (.slice A11 n11 c11 : Value).ownBlock = some k → w.heap.size + 4 ≤ k) := Lib.hid (fun k hk => by have := (HR5.out.lt k hk).1; have := H4.out.lt; omega)
    clear hu8 y0 y1 y2 y3 y4 yz
    generalize w7.setCell ⟨w.heap.size, 3, none⟩ (.slice A57 n57 c57) = w8 at *
    obtain ⟨q0, q1, q2, q3, q4, qz⟩ := Blk4R H18.out
    obtain ⟨v0, v1, v2, vz⟩ := Blk2R H38.out
    obtain ⟨r0, r1, r2, r3, r4, rz⟩ := Blk4R H48.out
    have HOK8 : Hid (∀ p ∈ L ++ [(⟨⟨⟨bc, br, bs, bl⟩, bA, bcap⟩, d, lt⟩ : SdV)], BtAt w8 p.v) := Lib.hid (fun p hp => (List.mem_append.1 hp).elim (fun hp => (HOK.out p hp).new HN8.out) (fun hp => by rw [List.mem_singleton.1 hp]; exact HBT.out.new HN8.out))
    by_cases hde : d.e = 0
    · have HE := Lib.hid hde
      have hdb : (d.e == 0) = true := by rw [hde]; rfl
      clear hde
      go_wp2_with fail
      have hu9 : Upd (fun i => i = w.heap.size ∨ i = w.heap.size + 3) w8 (((((w8.setCell ⟨w.heap.size, 1, none⟩ (.int .u64 (d.t : Int))).setCell ⟨w.heap.size + 3, 0, none⟩ (.int .u64 0)).setCell ⟨w.heap.size + 3, 1, none⟩ (.int .u64 (d.t : Int))).setCell ⟨w.heap.size + 3, 2, none⟩ (.slice A11 n11 c11)).setCell ⟨w.heap.size + 3, 3, none⟩ (.slice A57 n57 c57)) := (((((Upd.refl _ w8).setCell (fun _ => .inl rfl) _).setCell (fun _ => .inr rfl) _).setCell (fun _ => .inr rfl) _).setCell (fun _ => .inr rfl) _).setCell (fun _ => .inr rfl) _
      exact bodyPost_ret (v := .agg #[.int .u64 0, .int .u64 (d.t : Int), .slice A11 n11 c11, .slice A57 n57 c57]) (by simp [results, Tryz.results72, go_sem, r1, r2, r3, r4]) rfl (TellPost.of hu9 HR8.out HT8.out HOK8.out HLL.out HD.out HN8.out HOWN.out HOWS.out ⟨rfl, by dsimp only; rw [if_pos HE.out]⟩ ((Off.blk H18.out (by decide)).or (Off.blk H48.out (by decide))))
    · have HE := Lib.hid hde
      have hdb : (d.e == 0) = false := beq_eq_false_iff_ne.2 hde
      clear hde
      go_wp2_with fail
      have hu9 : Upd (fun i => i = w.heap.size ∨ i = w.heap.size + 3) w8 ((((w8.setCell ⟨w.heap.size + 3, 0, none⟩ (.int .u64 0)).setCell ⟨w.heap.size + 3, 1, none⟩ (.int .u64 (la : Int))).setCell ⟨w.heap.size + 3, 2, none⟩ (.slice A11 n11 c11)).setCell ⟨w.heap.size + 3, 3, none⟩ (.slice A57 n57 c57)) := ((((Upd.refl _ w8).setCell (fun _ => .inr rfl) _).setCell (fun _ => .inr rfl) _).setCell (fun _ => .inr rfl) _).setCell (fun _ => .inr rfl) _
      exact bodyPost_ret (v := .agg #[.int .u64 0, .int .u64 (la : Int), .slice A11 n11 c11, .slice A57 n57 c57]) (by simp [results, Tryz.results72, go_sem, r1, r2, r3, r4]) rfl (TellPost.of hu9 HR8.out HT8.out HOK8.out HLL.out HLA.out HN8.out HOWN.out HOWS.out ⟨rfl, by dsimp only; rw [if_neg HE.out]⟩ ((Off.blk H18.out (by decide)).or (Off.blk H48.out (by decide))))
end
end Go.Proofs.YtecniafnihpjmaaGreatDoor
