/- The walk of the law BatchChecks (chapter 5): for every input it answers true. Printed by genLaw05.py. -/
import Derived.Test.YtdobingccipkkaaLaw05
import Derived.Test.YtdobingccipkkaaBat13
import Derived.Test.YtdobingccipkkaaBat21
namespace Go.Proofs.Ytdobingccipkkaa
open Go.RowKit Go.Lap
set_option linter.unusedVariables false

set_option maxRecDepth 100000 in
set_option maxHeartbeats 8000000 in
theorem batchChecks_walk (c r s : Nat) (v : Value) (l : List Wri) (w : World) (hs : SlIn w 3 Wri.enc v l) :
    Calls Try.prog 3 #[.agg #[.int .u64 (c : Int), .int .u64 (r : Int), .int .u64 (s : Int), v]] w fun e w' => e = .returned (.bool true) ∧ New w w' := by
  obtain ⟨A, n, cap, rfl⟩ := hs.shape
  have hB := Blk.mk_new w 25 #[.int .u64 (c : Int), .int .u64 (r : Int), .int .u64 (s : Int), .slice A n cap]
  have hN := (New.refl w).alloc (.cells #[.int .u64 (c : Int), .int .u64 (r : Int), .int .u64 (s : Int), .slice A n cap] 25)
  have hs1 := hs.new hN
  clear hs
  go_enter Try.func3, Try.ntmps3
  go_wp2_with fail
  refine (few_all c r s _ l _ hs1).mono ?_
  rintro e w1 ⟨rfl, hn1⟩
  have hB1 := hB.new hn1
  have hN1 := hN.trans hn1
  have hs2 := hs1.new hn1
  clear hB hN hs1 hn1
  obtain ⟨p0, p1, p2, p3, p4, pz⟩ := Blk4F hB1
  cases hf : fewB l with
  | false =>
    clear hf
    go_wp2_with fail
    refine (awake05 _).mono ?_
    rintro e w2 ⟨rfl, hn2⟩
    go_wp2_with fail
    go_ret
    exact ⟨rfl, hN1.trans hn2⟩
  | true =>
    have hl80 := fewB_len hf
    clear hf
    have HS := Lib.hid hs2
    clear hs2 hB1
    have HM1 : Hid (∀ wx, New w1 wx → Calls Try.prog 12 #[.agg #[.int .u64 (c : Int), .int .u64 (r : Int), .int .u64 (s : Int), .slice A n cap]] wx fun e w' => e = .returned (.int .i64 (chk l)) ∧ New wx w') := Lib.hid (fun wx hx => check_any c r s _ l wx (by omega) (HS.out.new hx))
    have HM2 : Hid (∀ wx, New w1 wx → Calls Try.prog 13 #[.agg #[.int .u64 (c : Int), .int .u64 (r : Int), .int .u64 (s : Int), .slice A n cap]] wx fun e w' => e = .returned (.int .i64 (chk l)) ∧ New wx w') := Lib.hid (fun wx hx => refCheck_any c r s _ l wx (by omega) (HS.out.new hx))
    have HM3 : Hid (∀ wx, New w1 wx → Calls Try.prog 15 #[.agg #[.int .u64 (c : Int), .int .u64 (r : Int), .int .u64 (s : Int), .slice A n cap]] wx (SortPost wx c r s l)) := Lib.hid (fun wx hx => sorted_any c r s _ l wx (by omega) (HS.out.new hx))
    have HM4 : Hid (∀ wx, New w1 wx → Calls Try.prog 16 #[.agg #[.int .u64 (c : Int), .int .u64 (r : Int), .int .u64 (s : Int), .slice A n cap]] wx (SortPost wx c r s l)) := Lib.hid (fun wx hx => refSorted_any c r s _ l wx (by omega) (HS.out.new hx))
    have HLS := Lib.hid (sortW_length l)
    generalize chk l = cx at *
    go_upto_region 3 with fail
    refine wp_region_held_drew (S := fun w' => Held w1 w') (by kernel_rfl) (Held.of (New.refl _).drew) (fun hHeld => ?_)
    refine wpAnyH_ready (rs := [0]) (by kernel_rfl) (by simp) ?_
    refine AllReadyH.cons (o := { dst := some 7, op := Op.call { callee := Callee.value (Operand.func 11), args := #[], argTypes := #[] }, type := 4, pos := "law.go:42", after := #[], guard := none }) rfl (fun K hK => ?_) AllReadyH.nil
    go_simp
    refine (awake05 _).mono ?_
    rintro e wk0 ⟨rfl, hk0⟩
    have hh0 := ((New.refl w1).drew).trans hk0
    refine hK.out _ _ ?_ (fun hHeld => ?_)
    · exact Held.of hh0
    clear hK K
    try simp only [Act.put, List.setIfInBounds_toArray, List.set_cons_zero, List.set_cons_succ]
    refine wpAnyH_take (i := 1) (oi := { dst := some 8, op := Op.move (Operand.tmp 7), type := 4, pos := "law.go:42", after := #[{ on := 0, ground := Ground.data }, { on := 0, ground := Ground.chain }], guard := none }) (v := ?_) rfl (by kernel_rfl) (by kernel_rfl) (by kernel_rfl) (fun _ _ _ h => h) (Or.inl ⟨by rfl, ?_⟩) (by assumption) ?_
    rotate_left
    · (intro wq hSw; (try dsimp only at hSw); go_simp; first | done | with_reducible rfl)
    try simp only [Act.put, List.setIfInBounds_toArray, List.set_cons_zero, List.set_cons_succ]
    refine wpAnyH_take (i := 2) (oi := { dst := some 9, op := Op.load 25 (Operand.tmp 1), type := 25, pos := "law.go:42", after := #[{ on := 1, ground := Ground.guard }], guard := some (1, true) }) (v := ?_) rfl (by kernel_rfl) (by kernel_rfl) (by kernel_rfl) (fun _ _ _ h => h) (Or.inl ⟨by rfl, ?_⟩) (by assumption) ?_
    rotate_left
    · (intro wq hSw; (try dsimp only at hSw); go_simp; first | done | with_reducible rfl)
    try simp only [Act.put, List.setIfInBounds_toArray, List.set_cons_zero, List.set_cons_succ]
    refine wpAnyH_take (i := 4) (oi := { dst := some 11, op := Op.load 25 (Operand.tmp 1), type := 25, pos := "law.go:42", after := #[{ on := 1, ground := Ground.guard }], guard := some (1, true) }) (v := ?_) rfl (by kernel_rfl) (by kernel_rfl) (by kernel_rfl) (fun _ _ _ h => h) (Or.inl ⟨by rfl, ?_⟩) (by assumption) ?_
    rotate_left
    · (intro wq hSw; (try dsimp only at hSw); go_simp; first | done | with_reducible rfl)
    try simp only [Act.put, List.setIfInBounds_toArray, List.set_cons_zero, List.set_cons_succ]
    refine wpAnyH_ready (rs := [3]) (by kernel_rfl) (by simp) ?_
    refine AllReadyH.cons (o := { dst := some 10, op := Op.call { callee := Callee.value (Operand.func 12), args := #[Operand.tmp 9], argTypes := #[25] }, type := 28, pos := "law.go:42", after := #[{ on := 2, ground := Ground.data }, { on := 1, ground := Ground.chain }, { on := 1, ground := Ground.guard }], guard := some (1, true) }) rfl (fun K hK => ?_) AllReadyH.nil
    go_simp
    refine (HM1.out _ hh0).mono ?_
    rintro e wk1 ⟨rfl, hk1⟩
    have hh1 := hh0.trans hk1
    refine hK.out _ _ ?_ (fun hHeld => ?_)
    · exact Held.of hh1
    clear hK K
    try simp only [Act.put, List.setIfInBounds_toArray, List.set_cons_zero, List.set_cons_succ]
    refine wpAnyH_ready (rs := [5]) (by kernel_rfl) (by simp) ?_
    refine AllReadyH.cons (o := { dst := some 12, op := Op.call { callee := Callee.value (Operand.func 13), args := #[Operand.tmp 11], argTypes := #[25] }, type := 28, pos := "law.go:42", after := #[{ on := 4, ground := Ground.data }, { on := 3, ground := Ground.chain }, { on := 1, ground := Ground.guard }], guard := some (1, true) }) rfl (fun K hK => ?_) AllReadyH.nil
    go_simp
    refine (HM2.out _ hh1).mono ?_
    rintro e wk2 ⟨rfl, hk2⟩
    have hh2 := hh1.trans hk2
    refine hK.out _ _ ?_ (fun hHeld => ?_)
    · exact Held.of hh2
    clear hK K
    try simp only [Act.put, List.setIfInBounds_toArray, List.set_cons_zero, List.set_cons_succ]
    refine wpAnyH_take (i := 6) (oi := { dst := some 13, op := Op.binOp BinOp.eql 28 (Operand.tmp 10) (Operand.tmp 12) 28, type := 4, pos := "law.go:42", after := #[{ on := 3, ground := Ground.data }, { on := 5, ground := Ground.data }, { on := 1, ground := Ground.guard }], guard := some (1, true) }) (v := .bool true) rfl (by kernel_rfl) (by kernel_rfl) (by kernel_rfl) (fun _ _ _ h => h) (Or.inl ⟨by rfl, ?_⟩) (by assumption) ?_
    · (intro wq hSw; (try dsimp only at hSw); go_simp; first | done | with_reducible rfl | simp)
    try simp only [Act.put, List.setIfInBounds_toArray, List.set_cons_zero, List.set_cons_succ]
    refine wpAnyH_take (i := 7) (oi := { dst := some 14, op := Op.pick (Operand.tmp 8) (Operand.tmp 13) (Operand.const (Value.bool false)), type := 4, pos := "law.go:42", after := #[{ on := 1, ground := Ground.data }, { on := 6, ground := Ground.data }], guard := none }) (v := ?_) rfl (by kernel_rfl) (by kernel_rfl) (by kernel_rfl) (fun _ _ _ h => h) (Or.inl ⟨by rfl, ?_⟩) (by assumption) ?_
    rotate_left
    · (intro wq hSw; (try dsimp only at hSw); go_simp; first | done | with_reducible rfl)
    try simp only [Act.put, List.setIfInBounds_toArray, List.set_cons_zero, List.set_cons_succ]
    refine wpAnyH_take (i := 8) (oi := { dst := some 15, op := Op.move (Operand.tmp 14), type := 4, pos := "law.go:42", after := #[{ on := 7, ground := Ground.data }, { on := 5, ground := Ground.chain }], guard := none }) (v := ?_) rfl (by kernel_rfl) (by kernel_rfl) (by kernel_rfl) (fun _ _ _ h => h) (Or.inl ⟨by rfl, ?_⟩) (by assumption) ?_
    rotate_left
    · (intro wq hSw; (try dsimp only at hSw); go_simp; first | done | with_reducible rfl)
    try simp only [Act.put, List.setIfInBounds_toArray, List.set_cons_zero, List.set_cons_succ]
    refine wpAnyH_take (i := 9) (oi := { dst := some 16, op := Op.load 25 (Operand.tmp 1), type := 25, pos := "law.go:42", after := #[{ on := 8, ground := Ground.guard }], guard := some (8, true) }) (v := ?_) rfl (by kernel_rfl) (by kernel_rfl) (by kernel_rfl) (fun _ _ _ h => h) (Or.inl ⟨by rfl, ?_⟩) (by assumption) ?_
    rotate_left
    · (intro wq hSw; (try dsimp only at hSw); go_simp; first | done | with_reducible rfl)
    try simp only [Act.put, List.setIfInBounds_toArray, List.set_cons_zero, List.set_cons_succ]
    refine wpAnyH_take (i := 11) (oi := { dst := some 18, op := Op.load 25 (Operand.tmp 1), type := 25, pos := "law.go:42", after := #[{ on := 8, ground := Ground.guard }], guard := some (8, true) }) (v := ?_) rfl (by kernel_rfl) (by kernel_rfl) (by kernel_rfl) (fun _ _ _ h => h) (Or.inl ⟨by rfl, ?_⟩) (by assumption) ?_
    rotate_left
    · (intro wq hSw; (try dsimp only at hSw); go_simp; first | done | with_reducible rfl)
    try simp only [Act.put, List.setIfInBounds_toArray, List.set_cons_zero, List.set_cons_succ]
    refine wpAnyH_ready (rs := [10]) (by kernel_rfl) (by simp) ?_
    refine AllReadyH.cons (o := { dst := some 17, op := Op.call { callee := Callee.value (Operand.func 15), args := #[Operand.tmp 16], argTypes := #[25] }, type := 25, pos := "law.go:42", after := #[{ on := 9, ground := Ground.data }, { on := 8, ground := Ground.chain }, { on := 8, ground := Ground.guard }], guard := some (8, true) }) rfl (fun K hK => ?_) AllReadyH.nil
    go_simp
    refine (HM3.out _ hh2).mono ?_
    rintro e wk3 ⟨u, rfl, hou, hk3⟩
    have hh3 := hh2.trans hk3
    have hsu := Owns.slIn Wri.encOk hou
    obtain ⟨ua, un, uc, rfl⟩ := hsu.shape
    have HSu := Lib.hid hsu
    clear hou hsu
    refine hK.out _ _ ?_ (fun hHeld => ?_)
    · exact Held.of hh3
    clear hK K
    try simp only [Act.put, List.setIfInBounds_toArray, List.set_cons_zero, List.set_cons_succ]
    refine wpAnyH_ready (rs := [12]) (by kernel_rfl) (by simp) ?_
    refine AllReadyH.cons (o := { dst := some 19, op := Op.call { callee := Callee.value (Operand.func 16), args := #[Operand.tmp 18], argTypes := #[25] }, type := 25, pos := "law.go:42", after := #[{ on := 11, ground := Ground.data }, { on := 10, ground := Ground.chain }, { on := 8, ground := Ground.guard }], guard := some (8, true) }) rfl (fun K hK => ?_) AllReadyH.nil
    go_simp
    refine (HM4.out _ hh3).mono ?_
    rintro e wk4 ⟨t, rfl, hot, hk4⟩
    have hh4 := hh3.trans hk4
    have hst := Owns.slIn Wri.encOk hot
    obtain ⟨ta, tn, tc, rfl⟩ := hst.shape
    have HSt := Lib.hid hst
    clear hot hst
    replace HSu := Lib.hid (HSu.out.new hk4)
    refine hK.out _ _ ?_ (fun hHeld => ?_)
    · exact Held.of hh4
    clear hK K
    try simp only [Act.put, List.setIfInBounds_toArray, List.set_cons_zero, List.set_cons_succ]
    refine wpAnyH_ready (rs := [13]) (by kernel_rfl) (by simp) ?_
    refine AllReadyH.cons (o := { dst := some 20, op := Op.call { callee := Callee.value (Operand.func 14), args := #[Operand.tmp 17, Operand.tmp 19], argTypes := #[25, 25] }, type := 4, pos := "law.go:42", after := #[{ on := 10, ground := Ground.data }, { on := 12, ground := Ground.data }, { on := 12, ground := Ground.chain }, { on := 8, ground := Ground.guard }], guard := some (8, true) }) rfl (fun K hK => ?_) AllReadyH.nil
    go_simp
    refine (refSame_any c r s _ (sortW l) c r s _ (sortW l) _ (by have := HLS.out; omega) (by have := HLS.out; omega) HSu.out HSt.out).mono ?_
    rintro e wk5 ⟨rfl, hk5⟩
    rw [show sameB c r s (sortW l) c r s (sortW l) = true by simp [sameB]]
    have hh5 := hh4.trans hk5
    refine hK.out _ _ ?_ (fun hHeld => ?_)
    · exact Held.of hh5
    clear hK K
    try simp only [Act.put, List.setIfInBounds_toArray, List.set_cons_zero, List.set_cons_succ]
    refine wpAnyH_take (i := 14) (oi := { dst := some 21, op := Op.pick (Operand.tmp 15) (Operand.tmp 20) (Operand.const (Value.bool false)), type := 4, pos := "law.go:42", after := #[{ on := 8, ground := Ground.data }, { on := 13, ground := Ground.data }], guard := none }) (v := ?_) rfl (by kernel_rfl) (by kernel_rfl) (by kernel_rfl) (fun _ _ _ h => h) (Or.inl ⟨by rfl, ?_⟩) (by assumption) ?_
    rotate_left
    · (intro wq hSw; (try dsimp only at hSw); go_simp; first | done | with_reducible rfl)
    try simp only [Act.put, List.setIfInBounds_toArray, List.set_cons_zero, List.set_cons_succ]
    refine wpAnyH_take (i := 15) (oi := { dst := some 2, op := Op.assign (Operand.tmp 21), type := 4, pos := "law.go:42", after := #[{ on := 14, ground := Ground.data }, { on := 13, ground := Ground.chain }, { on := 0, ground := Ground.phase }, { on := 1, ground := Ground.phase }, { on := 2, ground := Ground.phase }, { on := 3, ground := Ground.phase }, { on := 4, ground := Ground.phase }, { on := 5, ground := Ground.phase }, { on := 6, ground := Ground.phase }, { on := 7, ground := Ground.phase }, { on := 8, ground := Ground.phase }, { on := 9, ground := Ground.phase }, { on := 10, ground := Ground.phase }, { on := 11, ground := Ground.phase }, { on := 12, ground := Ground.phase }, { on := 13, ground := Ground.phase }, { on := 14, ground := Ground.phase }], guard := none }) (v := ?_) rfl (by kernel_rfl) (by kernel_rfl) (by kernel_rfl) (fun _ _ _ h => h) (Or.inl ⟨by rfl, ?_⟩) (by assumption) ?_
    rotate_left
    · (intro wq hSw; (try dsimp only at hSw); go_simp; first | done | with_reducible rfl)
    try simp only [Act.put, List.setIfInBounds_toArray, List.set_cons_zero, List.set_cons_succ]
    refine wpAnyH_done (by kernel_rfl) ?_ _
    clear hHeld
    go_wp2_with fail
    go_ret
    exact ⟨rfl, hN1.trans hh5⟩
end Go.Proofs.Ytdobingccipkkaa
