/- The walk of the law BatchMeets (chapter 5): for every input it answers true. Printed by genLaw05.py. -/
import Derived.Test.YtdobingccipkkaaLaw05
namespace Go.Proofs.Ytdobingccipkkaa
open Go.RowKit Go.Lap
set_option linter.unusedVariables false

set_option maxRecDepth 100000 in
set_option maxHeartbeats 8000000 in
theorem batchMeets_walk (c r s : Nat) (v : Value) (l : List Wri) (c' r' s' : Nat) (v' : Value) (l' : List Wri) (w : World) (hs : SlIn w 3 Wri.enc v l) (hs' : SlIn w 3 Wri.enc v' l') :
    Calls Try.prog 7 #[.agg #[.int .u64 (c : Int), .int .u64 (r : Int), .int .u64 (s : Int), v], .agg #[.int .u64 (c' : Int), .int .u64 (r' : Int), .int .u64 (s' : Int), v']] w fun e w' => e = .returned (.bool true) ∧ New w w' := by
  obtain ⟨A, n, cap, rfl⟩ := hs.shape
  obtain ⟨A', n', cap', rfl⟩ := hs'.shape
  have hB := (Blk.mk_new w 25 #[.int .u64 (c : Int), .int .u64 (r : Int), .int .u64 (s : Int), .slice A n cap]).alloc (.cells #[.int .u64 (c' : Int), .int .u64 (r' : Int), .int .u64 (s' : Int), .slice A' n' cap'] 25)
  have hC := Blk.mk_new (w.alloc (.cells #[.int .u64 (c : Int), .int .u64 (r : Int), .int .u64 (s : Int), .slice A n cap] 25)) 25 #[.int .u64 (c' : Int), .int .u64 (r' : Int), .int .u64 (s' : Int), .slice A' n' cap']
  rw [World.size_alloc] at hC
  have hN := ((New.refl w).alloc (.cells #[.int .u64 (c : Int), .int .u64 (r : Int), .int .u64 (s : Int), .slice A n cap] 25)).alloc (.cells #[.int .u64 (c' : Int), .int .u64 (r' : Int), .int .u64 (s' : Int), .slice A' n' cap'] 25)
  have hs1 := hs.new hN
  have hs1' := hs'.new hN
  clear hs hs'
  go_enter Try.func7, Try.ntmps7
  go_wp2_with fail
  refine (few_all c r s _ l _ hs1).mono ?_
  rintro e w1 ⟨rfl, hn1⟩
  have hB1 := hB.new hn1
  have hC1 := hC.new hn1
  have hN1 := hN.trans hn1
  have hs2 := hs1.new hn1
  have hs2' := hs1'.new hn1
  clear hB hC hN hs1 hs1' hn1
  obtain ⟨p0, p1, p2, p3, p4, pz⟩ := Blk4F hB1
  obtain ⟨q0, q1, q2, q3, q4, qz⟩ := Blk4F hC1
  cases hf : fewB l with
  | false =>
    clear hf
    go_wp2_with fail
    refine (awake05 _).mono ?_
    rintro e w2 ⟨rfl, hn2⟩
    go_wp2_with fail
    go_ret
    exact ⟨rfl, hN1.trans hn2⟩
  | true =>
    have hl80 := fewB_len hf
    clear hf
    go_wp2_with fail
    refine (few_all c' r' s' _ l' _ hs2').mono ?_
    rintro e w2 ⟨rfl, hn2⟩
    have hB2 := hB1.new hn2
    have hC2 := hC1.new hn2
    have hN2 := hN1.trans hn2
    have hs3 := hs2.new hn2
    have hs3' := hs2'.new hn2
    clear hB1 hC1 hN1 hs2 hs2' hn2 p0 p1 p2 p3 p4 pz q0 q1 q2 q3 q4 qz
    obtain ⟨p0, p1, p2, p3, p4, pz⟩ := Blk4F hB2
    obtain ⟨q0, q1, q2, q3, q4, qz⟩ := Blk4F hC2
    cases hf : fewB l' with
    | false =>
      clear hf
      go_wp2_with fail
      refine (awake05 _).mono ?_
      rintro e w3 ⟨rfl, hn3⟩
      go_wp2_with fail
      go_ret
      exact ⟨rfl, hN2.trans hn3⟩
    | true =>
      have hl80' := fewB_len hf
      clear hf
      go_wp2_with fail
      refine (meets_any c r s _ l c' r' s' _ l' _ (by omega) (by omega) hs3 hs3').mono ?_
      rintro e w3 ⟨rfl, hn3⟩
      have hB3 := hB2.new hn3
      have hC3 := hC2.new hn3
      have hN3 := hN2.trans hn3
      have HS := Lib.hid (hs3.new hn3)
      have HS' := Lib.hid (hs3'.new hn3)
      clear hB2 hC2 hN2 hs3 hs3' hn3 p0 p1 p2 p3 p4 pz q0 q1 q2 q3 q4 qz
      obtain ⟨p0, p1, p2, p3, p4, pz⟩ := Blk4F hB3
      obtain ⟨q0, q1, q2, q3, q4, qz⟩ := Blk4F hC3
      clear hB3 hC3
      have HM1 : Hid (∀ wx, New w3 wx → Calls Try.prog 22 #[.agg #[.int .u64 (c : Int), .int .u64 (r : Int), .int .u64 (s : Int), .slice A n cap], .agg #[.int .u64 (c' : Int), .int .u64 (r' : Int), .int .u64 (s' : Int), .slice A' n' cap']] wx fun e w' => e = .returned (.bool (meetsB l l')) ∧ New wx w') := Lib.hid (fun wx hx => refMeets_any c r s _ l c' r' s' _ l' wx (by omega) (by omega) (HS.out.new hx) (HS'.out.new hx))
      have HM2 : Hid (∀ wx, New w3 wx → Calls Try.prog 21 #[.agg #[.int .u64 (c' : Int), .int .u64 (r' : Int), .int .u64 (s' : Int), .slice A' n' cap'], .agg #[.int .u64 (c : Int), .int .u64 (r : Int), .int .u64 (s : Int), .slice A n cap]] wx fun e w' => e = .returned (.bool (meetsB l l')) ∧ New wx w') := Lib.hid (fun wx hx => by rw [meets_comm l l']; exact meets_any c' r' s' _ l' c r s _ l wx (by omega) (by omega) (HS'.out.new hx) (HS.out.new hx))
      have HM3 : Hid (∀ wx, New w3 wx → Calls Try.prog 23 #[.agg #[.int .u64 (c : Int), .int .u64 (r : Int), .int .u64 (s : Int), .slice A n cap], .agg #[.int .u64 (c' : Int), .int .u64 (r' : Int), .int .u64 (s' : Int), .slice A' n' cap']] wx fun e w' => e = .returned (.bool (sameB c r s l c' r' s' l')) ∧ New wx w') := Lib.hid (fun wx hx => same_any c r s _ l c' r' s' _ l' wx (by omega) (by omega) (HS.out.new hx) (HS'.out.new hx))
      have HM4 : Hid (∀ wx, New w3 wx → Calls Try.prog 14 #[.agg #[.int .u64 (c : Int), .int .u64 (r : Int), .int .u64 (s : Int), .slice A n cap], .agg #[.int .u64 (c' : Int), .int .u64 (r' : Int), .int .u64 (s' : Int), .slice A' n' cap']] wx fun e w' => e = .returned (.bool (sameB c r s l c' r' s' l')) ∧ New wx w') := Lib.hid (fun wx hx => refSame_any c r s _ l c' r' s' _ l' wx (by omega) (by omega) (HS.out.new hx) (HS'.out.new hx))
      generalize meetsB l l' = mm at *
      generalize sameB c r s l c' r' s' l' = ss at *
      go_upto_region 4 with fail
      refine wp_region_held_drew (S := fun w' => Held w3 w') (by kernel_rfl) (Held.of (New.refl _).drew) (fun hHeld => ?_)
      refine wpAnyH_ready (rs := [0]) (by kernel_rfl) (by simp) ?_
      refine AllReadyH.cons (o := { dst := some 18, op := Op.call { callee := Callee.value (Operand.func 11), args := #[], argTypes := #[] }, type := 4, pos := "law.go:89", after := #[], guard := none }) rfl (fun K hK => ?_) AllReadyH.nil
      go_simp
      refine (awake05 _).mono ?_
      rintro e wk0 ⟨rfl, hk0⟩
      have hh0 := ((New.refl w3).drew).trans hk0
      refine hK.out _ _ ?_ (fun hHeld => ?_)
      · exact Held.of hh0
      clear hK K
      try simp only [Act.put, List.setIfInBounds_toArray, List.set_cons_zero, List.set_cons_succ]
      refine wpAnyH_take (i := 1) (oi := { dst := some 19, op := Op.move (Operand.tmp 18), type := 4, pos := "law.go:89", after := #[{ on := 0, ground := Ground.data }, { on := 0, ground := Ground.chain }], guard := none }) (v := ?_) rfl (by kernel_rfl) (by kernel_rfl) (by kernel_rfl) (fun _ _ _ h => h) (Or.inl ⟨by rfl, ?_⟩) (by assumption) ?_
      rotate_left
      · (intro wq hSw; (try dsimp only at hSw); go_simp; first | done | with_reducible rfl)
      try simp only [Act.put, List.setIfInBounds_toArray, List.set_cons_zero, List.set_cons_succ]
      refine wpAnyH_take (i := 2) (oi := { dst := some 20, op := Op.move (Operand.tmp 5), type := 4, pos := "law.go:89", after := #[{ on := 1, ground := Ground.guard }], guard := some (1, true) }) (v := ?_) rfl (by kernel_rfl) (by kernel_rfl) (by kernel_rfl) (fun _ _ _ h => h) (Or.inl ⟨by rfl, ?_⟩) (by assumption) ?_
      rotate_left
      · (intro wq hSw; (try dsimp only at hSw); go_simp; first | done | with_reducible rfl)
      try simp only [Act.put, List.setIfInBounds_toArray, List.set_cons_zero, List.set_cons_succ]
      refine wpAnyH_take (i := 3) (oi := { dst := some 21, op := Op.load 25 (Operand.tmp 2), type := 25, pos := "law.go:89", after := #[{ on := 1, ground := Ground.guard }], guard := some (1, true) }) (v := ?_) rfl (by kernel_rfl) (by kernel_rfl) (by kernel_rfl) (fun _ _ _ h => h) (Or.inl ⟨by rfl, ?_⟩) (by assumption) ?_
      rotate_left
      · (intro wq hSw; (try dsimp only at hSw); go_simp; first | done | with_reducible rfl)
      try simp only [Act.put, List.setIfInBounds_toArray, List.set_cons_zero, List.set_cons_succ]
      refine wpAnyH_take (i := 4) (oi := { dst := some 22, op := Op.load 25 (Operand.tmp 3), type := 25, pos := "law.go:89", after := #[{ on := 1, ground := Ground.guard }], guard := some (1, true) }) (v := ?_) rfl (by kernel_rfl) (by kernel_rfl) (by kernel_rfl) (fun _ _ _ h => h) (Or.inl ⟨by rfl, ?_⟩) (by assumption) ?_
      rotate_left
      · (intro wq hSw; (try dsimp only at hSw); go_simp; first | done | with_reducible rfl)
      try simp only [Act.put, List.setIfInBounds_toArray, List.set_cons_zero, List.set_cons_succ]
      refine wpAnyH_ready (rs := [5]) (by kernel_rfl) (by simp) ?_
      refine AllReadyH.cons (o := { dst := some 23, op := Op.call { callee := Callee.value (Operand.func 22), args := #[Operand.tmp 21, Operand.tmp 22], argTypes := #[25, 25] }, type := 4, pos := "law.go:89", after := #[{ on := 3, ground := Ground.data }, { on := 4, ground := Ground.data }, { on := 1, ground := Ground.chain }, { on := 1, ground := Ground.guard }], guard := some (1, true) }) rfl (fun K hK => ?_) AllReadyH.nil
      go_simp
      refine (HM1.out _ hh0).mono ?_
      rintro e wk1 ⟨rfl, hk1⟩
      have hh1 := hh0.trans hk1
      refine hK.out _ _ ?_ (fun hHeld => ?_)
      · exact Held.of hh1
      clear hK K
      try simp only [Act.put, List.setIfInBounds_toArray, List.set_cons_zero, List.set_cons_succ]
      refine wpAnyH_take (i := 6) (oi := { dst := some 24, op := Op.binOp BinOp.eql 4 (Operand.tmp 20) (Operand.tmp 23) 4, type := 4, pos := "law.go:89", after := #[{ on := 2, ground := Ground.data }, { on := 5, ground := Ground.data }, { on := 1, ground := Ground.guard }], guard := some (1, true) }) (v := .bool true) rfl (by kernel_rfl) (by kernel_rfl) (by kernel_rfl) (fun _ _ _ h => h) (Or.inl ⟨by rfl, ?_⟩) (by assumption) ?_
      · (intro wq hSw; (try dsimp only at hSw); go_simp; first | done | with_reducible rfl | simp)
      try simp only [Act.put, List.setIfInBounds_toArray, List.set_cons_zero, List.set_cons_succ]
      refine wpAnyH_take (i := 7) (oi := { dst := some 25, op := Op.pick (Operand.tmp 19) (Operand.tmp 24) (Operand.const (Value.bool false)), type := 4, pos := "law.go:89", after := #[{ on := 1, ground := Ground.data }, { on := 6, ground := Ground.data }], guard := none }) (v := ?_) rfl (by kernel_rfl) (by kernel_rfl) (by kernel_rfl) (fun _ _ _ h => h) (Or.inl ⟨by rfl, ?_⟩) (by assumption) ?_
      rotate_left
      · (intro wq hSw; (try dsimp only at hSw); go_simp; first | done | with_reducible rfl)
      try simp only [Act.put, List.setIfInBounds_toArray, List.set_cons_zero, List.set_cons_succ]
      refine wpAnyH_take (i := 8) (oi := { dst := some 26, op := Op.move (Operand.tmp 25), type := 4, pos := "law.go:89", after := #[{ on := 7, ground := Ground.data }, { on := 5, ground := Ground.chain }], guard := none }) (v := ?_) rfl (by kernel_rfl) (by kernel_rfl) (by kernel_rfl) (fun _ _ _ h => h) (Or.inl ⟨by rfl, ?_⟩) (by assumption) ?_
      rotate_left
      · (intro wq hSw; (try dsimp only at hSw); go_simp; first | done | with_reducible rfl)
      try simp only [Act.put, List.setIfInBounds_toArray, List.set_cons_zero, List.set_cons_succ]
      refine wpAnyH_take (i := 9) (oi := { dst := some 27, op := Op.move (Operand.tmp 5), type := 4, pos := "law.go:89", after := #[{ on := 8, ground := Ground.guard }], guard := some (8, true) }) (v := ?_) rfl (by kernel_rfl) (by kernel_rfl) (by kernel_rfl) (fun _ _ _ h => h) (Or.inl ⟨by rfl, ?_⟩) (by assumption) ?_
      rotate_left
      · (intro wq hSw; (try dsimp only at hSw); go_simp; first | done | with_reducible rfl)
      try simp only [Act.put, List.setIfInBounds_toArray, List.set_cons_zero, List.set_cons_succ]
      refine wpAnyH_take (i := 10) (oi := { dst := some 28, op := Op.load 25 (Operand.tmp 3), type := 25, pos := "law.go:89", after := #[{ on := 8, ground := Ground.guard }], guard := some (8, true) }) (v := ?_) rfl (by kernel_rfl) (by kernel_rfl) (by kernel_rfl) (fun _ _ _ h => h) (Or.inl ⟨by rfl, ?_⟩) (by assumption) ?_
      rotate_left
      · (intro wq hSw; (try dsimp only at hSw); go_simp; first | done | with_reducible rfl)
      try simp only [Act.put, List.setIfInBounds_toArray, List.set_cons_zero, List.set_cons_succ]
      refine wpAnyH_take (i := 11) (oi := { dst := some 29, op := Op.load 25 (Operand.tmp 2), type := 25, pos := "law.go:89", after := #[{ on := 8, ground := Ground.guard }], guard := some (8, true) }) (v := ?_) rfl (by kernel_rfl) (by kernel_rfl) (by kernel_rfl) (fun _ _ _ h => h) (Or.inl ⟨by rfl, ?_⟩) (by assumption) ?_
      rotate_left
      · (intro wq hSw; (try dsimp only at hSw); go_simp; first | done | with_reducible rfl)
      try simp only [Act.put, List.setIfInBounds_toArray, List.set_cons_zero, List.set_cons_succ]
      refine wpAnyH_ready (rs := [12]) (by kernel_rfl) (by simp) ?_
      refine AllReadyH.cons (o := { dst := some 30, op := Op.call { callee := Callee.value (Operand.func 21), args := #[Operand.tmp 28, Operand.tmp 29], argTypes := #[25, 25] }, type := 4, pos := "law.go:89", after := #[{ on := 10, ground := Ground.data }, { on := 11, ground := Ground.data }, { on := 8, ground := Ground.chain }, { on := 8, ground := Ground.guard }], guard := some (8, true) }) rfl (fun K hK => ?_) AllReadyH.nil
      go_simp
      refine (HM2.out _ hh1).mono ?_
      rintro e wk2 ⟨rfl, hk2⟩
      have hh2 := hh1.trans hk2
      refine hK.out _ _ ?_ (fun hHeld => ?_)
      · exact Held.of hh2
      clear hK K
      try simp only [Act.put, List.setIfInBounds_toArray, List.set_cons_zero, List.set_cons_succ]
      refine wpAnyH_take (i := 13) (oi := { dst := some 31, op := Op.binOp BinOp.eql 4 (Operand.tmp 27) (Operand.tmp 30) 4, type := 4, pos := "law.go:89", after := #[{ on := 9, ground := Ground.data }, { on := 12, ground := Ground.data }, { on := 8, ground := Ground.guard }], guard := some (8, true) }) (v := .bool true) rfl (by kernel_rfl) (by kernel_rfl) (by kernel_rfl) (fun _ _ _ h => h) (Or.inl ⟨by rfl, ?_⟩) (by assumption) ?_
      · (intro wq hSw; (try dsimp only at hSw); go_simp; first | done | with_reducible rfl | simp)
      try simp only [Act.put, List.setIfInBounds_toArray, List.set_cons_zero, List.set_cons_succ]
      refine wpAnyH_take (i := 14) (oi := { dst := some 32, op := Op.pick (Operand.tmp 26) (Operand.tmp 31) (Operand.const (Value.bool false)), type := 4, pos := "law.go:89", after := #[{ on := 8, ground := Ground.data }, { on := 13, ground := Ground.data }], guard := none }) (v := ?_) rfl (by kernel_rfl) (by kernel_rfl) (by kernel_rfl) (fun _ _ _ h => h) (Or.inl ⟨by rfl, ?_⟩) (by assumption) ?_
      rotate_left
      · (intro wq hSw; (try dsimp only at hSw); go_simp; first | done | with_reducible rfl)
      try simp only [Act.put, List.setIfInBounds_toArray, List.set_cons_zero, List.set_cons_succ]
      refine wpAnyH_take (i := 15) (oi := { dst := some 33, op := Op.move (Operand.tmp 32), type := 4, pos := "law.go:89", after := #[{ on := 14, ground := Ground.data }, { on := 12, ground := Ground.chain }], guard := none }) (v := ?_) rfl (by kernel_rfl) (by kernel_rfl) (by kernel_rfl) (fun _ _ _ h => h) (Or.inl ⟨by rfl, ?_⟩) (by assumption) ?_
      rotate_left
      · (intro wq hSw; (try dsimp only at hSw); go_simp; first | done | with_reducible rfl)
      try simp only [Act.put, List.setIfInBounds_toArray, List.set_cons_zero, List.set_cons_succ]
      refine wpAnyH_take (i := 16) (oi := { dst := some 34, op := Op.load 25 (Operand.tmp 2), type := 25, pos := "law.go:89", after := #[{ on := 15, ground := Ground.guard }], guard := some (15, true) }) (v := ?_) rfl (by kernel_rfl) (by kernel_rfl) (by kernel_rfl) (fun _ _ _ h => h) (Or.inl ⟨by rfl, ?_⟩) (by assumption) ?_
      rotate_left
      · (intro wq hSw; (try dsimp only at hSw); go_simp; first | done | with_reducible rfl)
      try simp only [Act.put, List.setIfInBounds_toArray, List.set_cons_zero, List.set_cons_succ]
      refine wpAnyH_take (i := 17) (oi := { dst := some 35, op := Op.load 25 (Operand.tmp 3), type := 25, pos := "law.go:89", after := #[{ on := 15, ground := Ground.guard }], guard := some (15, true) }) (v := ?_) rfl (by kernel_rfl) (by kernel_rfl) (by kernel_rfl) (fun _ _ _ h => h) (Or.inl ⟨by rfl, ?_⟩) (by assumption) ?_
      rotate_left
      · (intro wq hSw; (try dsimp only at hSw); go_simp; first | done | with_reducible rfl)
      try simp only [Act.put, List.setIfInBounds_toArray, List.set_cons_zero, List.set_cons_succ]
      refine wpAnyH_take (i := 19) (oi := { dst := some 37, op := Op.load 25 (Operand.tmp 2), type := 25, pos := "law.go:89", after := #[{ on := 15, ground := Ground.guard }], guard := some (15, true) }) (v := ?_) rfl (by kernel_rfl) (by kernel_rfl) (by kernel_rfl) (fun _ _ _ h => h) (Or.inl ⟨by rfl, ?_⟩) (by assumption) ?_
      rotate_left
      · (intro wq hSw; (try dsimp only at hSw); go_simp; first | done | with_reducible rfl)
      try simp only [Act.put, List.setIfInBounds_toArray, List.set_cons_zero, List.set_cons_succ]
      refine wpAnyH_take (i := 20) (oi := { dst := some 38, op := Op.load 25 (Operand.tmp 3), type := 25, pos := "law.go:89", after := #[{ on := 15, ground := Ground.guard }], guard := some (15, true) }) (v := ?_) rfl (by kernel_rfl) (by kernel_rfl) (by kernel_rfl) (fun _ _ _ h => h) (Or.inl ⟨by rfl, ?_⟩) (by assumption) ?_
      rotate_left
      · (intro wq hSw; (try dsimp only at hSw); go_simp; first | done | with_reducible rfl)
      try simp only [Act.put, List.setIfInBounds_toArray, List.set_cons_zero, List.set_cons_succ]
      refine wpAnyH_ready (rs := [18]) (by kernel_rfl) (by simp) ?_
      refine AllReadyH.cons (o := { dst := some 36, op := Op.call { callee := Callee.value (Operand.func 23), args := #[Operand.tmp 34, Operand.tmp 35], argTypes := #[25, 25] }, type := 4, pos := "law.go:89", after := #[{ on := 16, ground := Ground.data }, { on := 17, ground := Ground.data }, { on := 15, ground := Ground.chain }, { on := 15, ground := Ground.guard }], guard := some (15, true) }) rfl (fun K hK => ?_) AllReadyH.nil
      go_simp
      refine (HM3.out _ hh2).mono ?_
      rintro e wk3 ⟨rfl, hk3⟩
      have hh3 := hh2.trans hk3
      refine hK.out _ _ ?_ (fun hHeld => ?_)
      · exact Held.of hh3
      clear hK K
      try simp only [Act.put, List.setIfInBounds_toArray, List.set_cons_zero, List.set_cons_succ]
      refine wpAnyH_ready (rs := [21]) (by kernel_rfl) (by simp) ?_
      refine AllReadyH.cons (o := { dst := some 39, op := Op.call { callee := Callee.value (Operand.func 14), args := #[Operand.tmp 37, Operand.tmp 38], argTypes := #[25, 25] }, type := 4, pos := "law.go:89", after := #[{ on := 19, ground := Ground.data }, { on := 20, ground := Ground.data }, { on := 18, ground := Ground.chain }, { on := 15, ground := Ground.guard }], guard := some (15, true) }) rfl (fun K hK => ?_) AllReadyH.nil
      go_simp
      refine (HM4.out _ hh3).mono ?_
      rintro e wk4 ⟨rfl, hk4⟩
      have hh4 := hh3.trans hk4
      refine hK.out _ _ ?_ (fun hHeld => ?_)
      · exact Held.of hh4
      clear hK K
      try simp only [Act.put, List.setIfInBounds_toArray, List.set_cons_zero, List.set_cons_succ]
      refine wpAnyH_take (i := 22) (oi := { dst := some 40, op := Op.binOp BinOp.eql 4 (Operand.tmp 36) (Operand.tmp 39) 4, type := 4, pos := "law.go:89", after := #[{ on := 18, ground := Ground.data }, { on := 21, ground := Ground.data }, { on := 15, ground := Ground.guard }], guard := some (15, true) }) (v := .bool true) rfl (by kernel_rfl) (by kernel_rfl) (by kernel_rfl) (fun _ _ _ h => h) (Or.inl ⟨by rfl, ?_⟩) (by assumption) ?_
      · (intro wq hSw; (try dsimp only at hSw); go_simp; first | done | with_reducible rfl | simp)
      try simp only [Act.put, List.setIfInBounds_toArray, List.set_cons_zero, List.set_cons_succ]
      refine wpAnyH_take (i := 23) (oi := { dst := some 41, op := Op.pick (Operand.tmp 33) (Operand.tmp 40) (Operand.const (Value.bool false)), type := 4, pos := "law.go:89", after := #[{ on := 15, ground := Ground.data }, { on := 22, ground := Ground.data }], guard := none }) (v := ?_) rfl (by kernel_rfl) (by kernel_rfl) (by kernel_rfl) (fun _ _ _ h => h) (Or.inl ⟨by rfl, ?_⟩) (by assumption) ?_
      rotate_left
      · (intro wq hSw; (try dsimp only at hSw); go_simp; first | done | with_reducible rfl)
      try simp only [Act.put, List.setIfInBounds_toArray, List.set_cons_zero, List.set_cons_succ]
      refine wpAnyH_take (i := 24) (oi := { dst := some 4, op := Op.assign (Operand.tmp 41), type := 4, pos := "law.go:89", after := #[{ on := 23, ground := Ground.data }, { on := 21, ground := Ground.chain }, { on := 0, ground := Ground.phase }, { on := 1, ground := Ground.phase }, { on := 2, ground := Ground.phase }, { on := 3, ground := Ground.phase }, { on := 4, ground := Ground.phase }, { on := 5, ground := Ground.phase }, { on := 6, ground := Ground.phase }, { on := 7, ground := Ground.phase }, { on := 8, ground := Ground.phase }, { on := 9, ground := Ground.phase }, { on := 10, ground := Ground.phase }, { on := 11, ground := Ground.phase }, { on := 12, ground := Ground.phase }, { on := 13, ground := Ground.phase }, { on := 14, ground := Ground.phase }, { on := 15, ground := Ground.phase }, { on := 16, ground := Ground.phase }, { on := 17, ground := Ground.phase }, { on := 18, ground := Ground.phase }, { on := 19, ground := Ground.phase }, { on := 20, ground := Ground.phase }, { on := 21, ground := Ground.phase }, { on := 22, ground := Ground.phase }, { on := 23, ground := Ground.phase }], guard := none }) (v := ?_) rfl (by kernel_rfl) (by kernel_rfl) (by kernel_rfl) (fun _ _ _ h => h) (Or.inl ⟨by rfl, ?_⟩) (by assumption) ?_
      rotate_left
      · (intro wq hSw; (try dsimp only at hSw); go_simp; first | done | with_reducible rfl)
      try simp only [Act.put, List.setIfInBounds_toArray, List.set_cons_zero, List.set_cons_succ]
      refine wpAnyH_done (by kernel_rfl) ?_ _
      clear hHeld
      go_wp2_with fail
      go_ret
      exact ⟨rfl, hN3.trans hh4⟩
end Go.Proofs.Ytdobingccipkkaa
