/- The walk of the law ConfigFolds (chapter 23), where no command is longer than four billion bytes: it answers true. Printed by genCfg.py. -/
import Derived.Test.YtinpbjknakncdaaDoorCfgO
import Derived.Test.YtinpbjknakncdaaDoorCfgL
namespace Go.Proofs.YtinpbjknakncdaaDoor
open Go.RowKit Go.Lap
set_option linter.unusedVariables false

set_option maxRecDepth 100000 in
set_option maxHeartbeats 16000000 in
theorem configFolds_walk (e : Nat) (v : Value) (ms : List Int) (vn : Value) (ls : List ByteArray) (w : World) (hep : e < 18446744073709551616) (hs : SlIn w 1 iEnc v ms) (hsn : SlIn w 1 sEnc vn ls) (hcm : ∀ x ∈ ls, x.size < 4294967281) (henv : Env w) :
    Calls Tryd.prog 4 #[.agg #[.int .u64 (e : Int), v], vn] w fun e' w' => e' = .returned (.bool true) ∧ New w w' := by
  obtain ⟨A, m, cap, rfl⟩ := hs.shape
  obtain ⟨A', c', hv, hlc, -⟩ := id hs
  cases hv
  have HE := Lib.hid henv
  have HS0 := Lib.hid hs
  have HN0 := Lib.hid ((New.refl w).alloc (.cells #[.int .u64 (e : Int), .slice A ms.length cap] 25))
  have HB0 := Lib.hid (Blk.mk_new w 25 #[.int .u64 (e : Int), .slice A ms.length cap])
  clear hs henv
  obtain ⟨B, m2, cap2, rfl⟩ := hsn.shape
  obtain ⟨A', c', hv, hlc2, -⟩ := id hsn
  cases hv
  have HSN := Lib.hid hsn
  have HCM := Lib.hid hcm
  clear hsn hcm
  go_enter Tryd.func4, Tryd.ntmps4
  go_upto_region 1 with fail
  generalize w.alloc _ = w1 at *
  obtain ⟨p0, p1, p2, pz⟩ := Blk2F HB0.out
  go_wp2_with fail
  refine (few_any e _ ms w1 (HS0.out.new HN0.out)).mono ?_
  rintro e9 w2 ⟨rfl, hn2⟩
  have HN2 := Lib.hid (HN0.out.trans hn2)
  have HB2 := Lib.hid (HB0.out.new hn2)
  clear HN0 HB0 hn2 p0 p1 p2 pz
  by_cases h20 : ms.length ≤ 20
  rotate_left
  · rw [decide_eq_false h20]
    go_wp2_with fail
    refine (awake23 _ (HE.out.new HN2.out)).mono ?_
    rintro e9 wz ⟨rfl, hnz⟩
    go_wp2_with fail
    go_ret
    exact ⟨rfl, HN2.out.trans hnz⟩
  rw [decide_eq_true h20]
  by_cases h40 : 40 < ls.length
  · have h40b : (40 : Int) < (ls.length : Int) := by omega
    go_wp2_with fail
    refine (awake23 _ (HE.out.new HN2.out)).mono ?_
    rintro e9 wz ⟨rfl, hnz⟩
    go_wp2_with fail
    go_ret
    exact ⟨rfl, HN2.out.trans hnz⟩
  have h40b : ¬ (40 : Int) < (ls.length : Int) := by omega
  obtain ⟨p0, p1, p2, pz⟩ := Blk2F HB2.out
  have hc1 := fun wx h1 h2 h3 => fold_any e (.slice A ms.length cap) ms (.slice B ls.length cap2) ls wx hep (by omega) h1 h2 (by omega) HCM.out h3
  have hc2 := fun wx h1 h2 h3 => refFold_any e (.slice A ms.length cap) ms (.slice B ls.length cap2) ls wx hep (by omega) h1 h2 (by omega) HCM.out h3
  have hft := Fits.fold (c := ⟨e, ms⟩) ⟨hep, by show ms.length ≤ 1000000; omega⟩ (ls.map fun b => b.data.toList)
  obtain ⟨⟨fe, fms⟩, hff⟩ : ∃ c, foldC ⟨e, ms⟩ (ls.map fun b => b.data.toList) = c := ⟨_, rfl⟩
  rw [hff] at hc1 hc2 hft
  have HFT : Hid (fms.length ≤ 1000000) := Lib.hid hft.2
  clear hft hff
  go_upto_region 3 with fail
  refine wp_region_held_drew (S := fun w' => Held w2 w') (by kernel_rfl) (Held.of (New.refl _).drew) (fun hHeld => ?_)
  refine wpAnyH_ready (rs := [0]) (by kernel_rfl) (by simp) ?_
  refine AllReadyH.cons (o := { dst := some 14, op := Op.call { callee := Callee.value (Operand.func 11), args := #[], argTypes := #[] }, type := 4, pos := "law.go:67", after := #[], guard := none }) rfl (fun K hK => ?_) AllReadyH.nil
  go_simp
  refine (awake23 _ (HE.out.new (HN2.out.trans (New.refl w2).drew))).mono ?_
  rintro e9 wk0 ⟨rfl, hk0⟩
  have hn0 := ((New.refl w2).drew).trans hk0
  refine hK.out _ _ ?_ (fun hHeld => ?_)
  · exact Held.of hn0
  clear hK K
  try simp only [Act.put, List.setIfInBounds_toArray, List.set_cons_zero, List.set_cons_succ]
  refine wpAnyH_take (i := 1) (oi := { dst := some 15, op := Op.move (Operand.tmp 14), type := 4, pos := "law.go:67", after := #[{ on := 0, ground := Ground.data }, { on := 0, ground := Ground.chain }], guard := none }) (v := ?_) rfl (by kernel_rfl) (by kernel_rfl) (by kernel_rfl) (fun _ _ _ h => h) (Or.inl ⟨by rfl, ?_⟩) (by assumption) ?_
  rotate_left
  · (intro wq hSw; (try dsimp only at hSw); go_simp; first | done | with_reducible rfl)
  try simp only [Act.put, List.setIfInBounds_toArray, List.set_cons_zero, List.set_cons_succ]
  refine wpAnyH_take (i := 2) (oi := { dst := some 16, op := Op.load 25 (Operand.tmp 2), type := 25, pos := "law.go:67", after := #[{ on := 1, ground := Ground.guard }], guard := some (1, true) }) (v := ?_) rfl (by kernel_rfl) (by kernel_rfl) (by kernel_rfl) (fun _ _ _ h => h) (Or.inl ⟨by rfl, ?_⟩) (by assumption) ?_
  rotate_left
  · (intro wq hSw; (try dsimp only at hSw); go_simp; first | done | with_reducible rfl)
  try simp only [Act.put, List.setIfInBounds_toArray, List.set_cons_zero, List.set_cons_succ]
  refine wpAnyH_take (i := 3) (oi := { dst := some 17, op := Op.move (Operand.tmp 1), type := 33, pos := "law.go:67", after := #[{ on := 1, ground := Ground.guard }], guard := some (1, true) }) (v := ?_) rfl (by kernel_rfl) (by kernel_rfl) (by kernel_rfl) (fun _ _ _ h => h) (Or.inl ⟨by rfl, ?_⟩) (by assumption) ?_
  rotate_left
  · (intro wq hSw; (try dsimp only at hSw); go_simp; first | done | with_reducible rfl)
  try simp only [Act.put, List.setIfInBounds_toArray, List.set_cons_zero, List.set_cons_succ]
  refine wpAnyH_take (i := 5) (oi := { dst := some 19, op := Op.load 25 (Operand.tmp 2), type := 25, pos := "law.go:67", after := #[{ on := 1, ground := Ground.guard }], guard := some (1, true) }) (v := ?_) rfl (by kernel_rfl) (by kernel_rfl) (by kernel_rfl) (fun _ _ _ h => h) (Or.inl ⟨by rfl, ?_⟩) (by assumption) ?_
  rotate_left
  · (intro wq hSw; (try dsimp only at hSw); go_simp; first | done | with_reducible rfl)
  try simp only [Act.put, List.setIfInBounds_toArray, List.set_cons_zero, List.set_cons_succ]
  refine wpAnyH_take (i := 6) (oi := { dst := some 20, op := Op.move (Operand.tmp 1), type := 33, pos := "law.go:67", after := #[{ on := 1, ground := Ground.guard }], guard := some (1, true) }) (v := ?_) rfl (by kernel_rfl) (by kernel_rfl) (by kernel_rfl) (fun _ _ _ h => h) (Or.inl ⟨by rfl, ?_⟩) (by assumption) ?_
  rotate_left
  · (intro wq hSw; (try dsimp only at hSw); go_simp; first | done | with_reducible rfl)
  try simp only [Act.put, List.setIfInBounds_toArray, List.set_cons_zero, List.set_cons_succ]
  refine wpAnyH_ready (rs := [4]) (by kernel_rfl) (by simp) ?_
  refine AllReadyH.cons (o := { dst := some 18, op := Op.call { callee := Callee.value (Operand.func 19), args := #[Operand.tmp 16, Operand.tmp 17], argTypes := #[25, 33] }, type := 25, pos := "law.go:67", after := #[{ on := 2, ground := Ground.data }, { on := 3, ground := Ground.data }, { on := 1, ground := Ground.chain }, { on := 1, ground := Ground.guard }], guard := some (1, true) }) rfl (fun K hK => ?_) AllReadyH.nil
  go_simp
  refine (hc1 _ (HS0.out.new (HN2.out.trans hn0)) (HSN.out.new (HN2.out.trans hn0)) (HE.out.new (HN2.out.trans hn0))).mono ?_
  rintro e9 wk1 ⟨ua, rfl, hsa, hk1⟩
  obtain ⟨Aa, na, ca, rfl⟩ := hsa.shape
  dsimp only at hsa ⊢
  have hn1 := (hn0).trans hk1
  refine hK.out _ _ ?_ (fun hHeld => ?_)
  · exact Held.of hn1
  clear hK K
  try simp only [Act.put, List.setIfInBounds_toArray, List.set_cons_zero, List.set_cons_succ]
  refine wpAnyH_ready (rs := [7]) (by kernel_rfl) (by simp) ?_
  refine AllReadyH.cons (o := { dst := some 21, op := Op.call { callee := Callee.value (Operand.func 20), args := #[Operand.tmp 19, Operand.tmp 20], argTypes := #[25, 33] }, type := 25, pos := "law.go:67", after := #[{ on := 5, ground := Ground.data }, { on := 6, ground := Ground.data }, { on := 4, ground := Ground.chain }, { on := 1, ground := Ground.guard }], guard := some (1, true) }) rfl (fun K hK => ?_) AllReadyH.nil
  go_simp
  refine (hc2 _ (HS0.out.new (HN2.out.trans hn1)) (HSN.out.new (HN2.out.trans hn1)) (HE.out.new (HN2.out.trans hn1))).mono ?_
  rintro e9 wk2 ⟨ub, rfl, hsb, hk2⟩
  obtain ⟨Ab, nb, cb, rfl⟩ := hsb.shape
  dsimp only at hsb ⊢
  have hn2 := (hn1).trans hk2
  have hsa2 := hsa.new hk2
  refine hK.out _ _ ?_ (fun hHeld => ?_)
  · exact Held.of hn2
  clear hK K
  try simp only [Act.put, List.setIfInBounds_toArray, List.set_cons_zero, List.set_cons_succ]
  refine wpAnyH_ready (rs := [8]) (by kernel_rfl) (by simp) ?_
  refine AllReadyH.cons (o := { dst := some 22, op := Op.call { callee := Callee.value (Operand.func 16), args := #[Operand.tmp 18, Operand.tmp 21], argTypes := #[25, 25] }, type := 4, pos := "law.go:67", after := #[{ on := 4, ground := Ground.data }, { on := 7, ground := Ground.data }, { on := 7, ground := Ground.chain }, { on := 1, ground := Ground.guard }], guard := some (1, true) }) rfl (fun K hK => ?_) AllReadyH.nil
  go_simp
  refine (refSame_any fe _ fms fe _ fms _ (by have := HFT.out; omega) (by have := HFT.out; omega) hsa2 hsb).mono ?_
  rintro e9 wk3 ⟨rfl, hk3⟩
  rw [show sameC ⟨fe, fms⟩ ⟨fe, fms⟩ = true by simp [sameC]]
  have hn3 := (hn2).trans hk3
  refine hK.out _ _ ?_ (fun hHeld => ?_)
  · exact Held.of hn3
  clear hK K
  try simp only [Act.put, List.setIfInBounds_toArray, List.set_cons_zero, List.set_cons_succ]
  refine wpAnyH_take (i := 9) (oi := { dst := some 23, op := Op.pick (Operand.tmp 15) (Operand.tmp 22) (Operand.const (Value.bool false)), type := 4, pos := "law.go:67", after := #[{ on := 1, ground := Ground.data }, { on := 8, ground := Ground.data }], guard := none }) (v := .bool true) rfl (by kernel_rfl) (by kernel_rfl) (by kernel_rfl) (fun _ _ _ h => h) (Or.inl ⟨by rfl, ?_⟩) (by assumption) ?_
  · (intro wq hSw; (try dsimp only at hSw); go_simp; first | done | with_reducible rfl | (simp; done) | (simp [str]))
  try simp only [Act.put, List.setIfInBounds_toArray, List.set_cons_zero, List.set_cons_succ]
  refine wpAnyH_take (i := 10) (oi := { dst := some 4, op := Op.assign (Operand.tmp 23), type := 4, pos := "law.go:67", after := #[{ on := 9, ground := Ground.data }, { on := 8, ground := Ground.chain }, { on := 0, ground := Ground.phase }, { on := 1, ground := Ground.phase }, { on := 2, ground := Ground.phase }, { on := 3, ground := Ground.phase }, { on := 4, ground := Ground.phase }, { on := 5, ground := Ground.phase }, { on := 6, ground := Ground.phase }, { on := 7, ground := Ground.phase }, { on := 8, ground := Ground.phase }, { on := 9, ground := Ground.phase }], guard := none }) (v := ?_) rfl (by kernel_rfl) (by kernel_rfl) (by kernel_rfl) (fun _ _ _ h => h) (Or.inl ⟨by rfl, ?_⟩) (by assumption) ?_
  rotate_left
  · (intro wq hSw; (try dsimp only at hSw); go_simp; first | done | with_reducible rfl)
  try simp only [Act.put, List.setIfInBounds_toArray, List.set_cons_zero, List.set_cons_succ]
  refine wpAnyH_done (by kernel_rfl) ?_ _
  clear hHeld
  go_wp2_with fail
  go_ret
  exact ⟨rfl, HN2.out.trans hn3⟩
end Go.Proofs.YtinpbjknakncdaaDoor
