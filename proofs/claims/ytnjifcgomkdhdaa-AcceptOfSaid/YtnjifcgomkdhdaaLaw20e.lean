/- The walk of the law AcceptOf (chapter 20): for every input it answers true. -/
import Derived.Test.YtnjifcgomkdhdaaLaw20d
import Derived.Deep.RegionHeld3
import Derived.Deep.RegionWith
import Derived.Deep.DrawnRows
namespace Go.Proofs.Ytnjifcgomkdhdaa
open Go.RowKit Go.Lap
set_option linter.unusedVariables false
attribute [local go_sem ↓] Go.wp_at_zero Go.wp_at_succ

theorem Blk6F {w : World} {g t : Nat} {a b c d e f : Value} (h : Blk w g t #[a, b, c, d, e, f]) : g < w.heap.size ∧ w.cell? ⟨g, 0, none⟩ = some a ∧ w.cell? ⟨g, 1, none⟩ = some b ∧ w.cell? ⟨g, 2, none⟩ = some c ∧ w.cell? ⟨g, 3, none⟩ = some d ∧ w.cell? ⟨g, 4, none⟩ = some e ∧ w.cell? ⟨g, 5, none⟩ = some f ∧ (∀ i, w.frozen? ⟨g, i, none⟩ = false) :=
  ⟨h.lt, h.cell 0, h.cell 1, h.cell 2, h.cell 3, h.cell 4, h.cell 5, h.frozen⟩

set_option maxRecDepth 100000 in
set_option maxHeartbeats 4000000 in
theorem acceptOf_walk (s0 : ByteArray) (w : World) :
    Calls Try.prog 12 #[.string s0] w fun e w' => e = .returned (.bool true) ∧ New w w' := by
  obtain ⟨bs, hb0⟩ : ∃ bs, s0 = str bs := ⟨s0.data.toList, (str_data s0).symm⟩
  subst hb0
  have hlen : (str bs).size = bs.length := str_size bs
  by_cases ht : bs.length ≤ 2000
  · have t1' : ¬ (2000 : Int) < (bs.length : Int) := by omega
    obtain ⟨vb, wb, hrun, hslb, hnb⟩ := run_bytesP (str bs) w
    rw [show (str bs).data.toList = bs from by simp [str]] at hslb
    go_enter Try.func12, Try.ntmps12
    go_wp2_with fail
    refine (accOf_any bs vb wb (by omega) hslb).mono ?_
    rintro e w1 ⟨hn1, hr1⟩
    have hN1 := hnb.trans hn1
    have hgw : wb.heap.size ≥ w.heap.size := hnb.size
    rw [ofC_ofR] at hr1
    clear hrun hslb hnb hn1
    rcases hr1 with ⟨ho, rfl⟩ | ⟨a, g, ho, rfl, hg, ha1⟩
    · go_wp2_with fail
      refine (refOf_any bs w1 (by omega)).mono ?_
      rintro e w2 ⟨hn2, hr2⟩
      rw [ho] at hr2
      rcases hr2 with ⟨_, pr, pn, h, ar, an, v, rfl⟩ | ⟨a, hf, _⟩
      case inr => cases hf
      have hN2 := hN1.trans hn2
      clear ho
      go_wp2_with fail
      refine (awake20 _).mono ?_
      rintro e w3 ⟨rfl, hn3⟩
      go_wp2_with fail
      go_ret
      exact ⟨rfl, (hN2.alloc _).trans hn3⟩
    · go_wp2_with fail
      refine (refOf_any bs w1 (by omega)).mono ?_
      rintro e w2 ⟨hn2, hr2⟩
      obtain ⟨k1, k2, k3, k4, k5, k6⟩ := ofR_back ho
      rw [ho] at hr2
      rcases hr2 with ⟨hf, _⟩ | ⟨a', hf, rfl⟩
      case inl => cases hf
      cases hf
      have hN2 := hN1.trans hn2
      have ha2 := ha1.new hn2
      clear ho ha1 hN1 hn2
      obtain ⟨pr, pn, h, ar, an, v⟩ := a
      simp only at k1 k2 k3 k4 k5 k6 ha2 ⊢
      have hM := Blk.mk_new w2 39 #[.int .u64 (pr : Int), .int .u64 (pn : Int), .bool h, .int .u64 (ar : Int), .int .u64 (an : Int), .string (str v)]
      have haM := ha2.new ((New.refl w2).alloc (.cells #[.int .u64 (pr : Int), .int .u64 (pn : Int), .bool h, .int .u64 (ar : Int), .int .u64 (an : Int), .string (str v)] 39))
      have hNM := hN2.alloc (.cells #[.int .u64 (pr : Int), .int .u64 (pn : Int), .bool h, .int .u64 (ar : Int), .int .u64 (an : Int), .string (str v)] 39)
      have hB : ∀ wx, AccAt wx g pr pn h ar an (str v) → Calls Try.prog 24 #[.pointer (some ⟨g, 0, none⟩)] wx (AccBytesPost wx bs) := fun wx hx => by
        rw [← k6]
        exact accBytes_any g pr pn h ar an (str v) wx hx k1 k2 k3 k4 (by rw [str_size]; exact k5)
      have HB := Lib.hid hB
      clear hB k6 ha2 hN2 hg
      go_upto_region 7 with fail
      generalize World.alloc _ _ = w3 at *
      generalize w2.heap.size = p at *
      have HM := Lib.hid hM
      have HA := Lib.hid haM
      obtain ⟨hp, m0, m1, m2, m3, m4, m5, mz⟩ := Blk6F hM
      clear hM haM
      refine wp_region_held_drew (S := fun w' => Held w3 w') (by kernel_rfl) (Held.of (New.refl _).drew) (fun hHeld => ?_)
      refine wpAnyH_ready (rs := [0]) (by kernel_rfl) (by simp) ?_
      refine AllReadyH.cons (o := { dst := some 33, op := Op.call { callee := Callee.value (Operand.func 13), args := #[], argTypes := #[] }, type := 4, pos := "law.go:80", after := #[], guard := none }) rfl (fun K hK => ?_) AllReadyH.nil
      go_simp
      refine (awake20 _).mono ?_
      rintro e wa ⟨rfl, hna⟩
      have hn4 := (New.refl w3).drew.trans hna
      have HA4 := Lib.hid (HA.out.new hn4)
      refine hK.out _ _ ?_ (fun hHeld => ?_)
      · exact Held.of hn4
      clear hK K
      try simp only [Act.put, List.setIfInBounds_toArray, List.set_cons_zero, List.set_cons_succ]
      refine wpAnyH_take (i := 1) (oi := { dst := some 34, op := Op.move (Operand.tmp 33), type := 4, pos := "law.go:80", after := #[{ on := 0, ground := Ground.data }, { on := 0, ground := Ground.chain }], guard := none }) (v := ?_) rfl (by kernel_rfl) (by kernel_rfl) (by kernel_rfl) (fun _ _ _ h => h) (Or.inl ⟨by rfl, ?_⟩) (by assumption) ?_
      rotate_left
      · (intro wq hSw; (try dsimp only at hSw); go_simp; first | done | with_reducible rfl)
      try simp only [Act.put, List.setIfInBounds_toArray, List.set_cons_zero, List.set_cons_succ]
      refine wpAnyH_take (i := 2) (oi := { dst := some 35, op := Op.move (Operand.tmp 4), type := 59, pos := "law.go:80", after := #[{ on := 1, ground := Ground.guard }], guard := some (1, true) }) (v := ?_) rfl (by kernel_rfl) (by kernel_rfl) (by kernel_rfl) (fun _ _ _ h => h) (Or.inl ⟨by rfl, ?_⟩) (by assumption) ?_
      rotate_left
      · (intro wq hSw; (try dsimp only at hSw); go_simp; first | done | with_reducible rfl)
      try simp only [Act.put, List.setIfInBounds_toArray, List.set_cons_zero, List.set_cons_succ]
      refine wpAnyH_take (i := 3) (oi := { dst := some 36, op := Op.binOp BinOp.eql 59 (Operand.tmp 35) (Operand.const (Value.int IntKind.i64 0)) 59, type := 4, pos := "law.go:80", after := #[{ on := 2, ground := Ground.data }, { on := 1, ground := Ground.guard }], guard := some (1, true) }) (v := ?_) rfl (by kernel_rfl) (by kernel_rfl) (by kernel_rfl) (fun _ _ _ h => h) (Or.inl ⟨by rfl, ?_⟩) (by assumption) ?_
      rotate_left
      · (intro wq hSw; (try dsimp only at hSw); go_simp; first | done | with_reducible rfl)
      try simp only [Act.put, List.setIfInBounds_toArray, List.set_cons_zero, List.set_cons_succ]
      refine wpAnyH_take (i := 4) (oi := { dst := some 37, op := Op.pick (Operand.tmp 34) (Operand.tmp 36) (Operand.const (Value.bool false)), type := 4, pos := "law.go:80", after := #[{ on := 1, ground := Ground.data }, { on := 3, ground := Ground.data }], guard := none }) (v := ?_) rfl (by kernel_rfl) (by kernel_rfl) (by kernel_rfl) (fun _ _ _ h => h) (Or.inl ⟨by rfl, ?_⟩) (by assumption) ?_
      rotate_left
      · (intro wq hSw; (try dsimp only at hSw); go_simp; first | done | with_reducible rfl)
      try simp only [Act.put, List.setIfInBounds_toArray, List.set_cons_zero, List.set_cons_succ]
      refine wpAnyH_take (i := 5) (oi := { dst := some 38, op := Op.move (Operand.tmp 37), type := 4, pos := "law.go:80", after := #[{ on := 4, ground := Ground.data }, { on := 1, ground := Ground.chain }], guard := none }) (v := ?_) rfl (by kernel_rfl) (by kernel_rfl) (by kernel_rfl) (fun _ _ _ h => h) (Or.inl ⟨by rfl, ?_⟩) (by assumption) ?_
      rotate_left
      · (intro wq hSw; (try dsimp only at hSw); go_simp; first | done | with_reducible rfl)
      try simp only [Act.put, List.setIfInBounds_toArray, List.set_cons_zero, List.set_cons_succ]
      refine wpAnyH_take (i := 6) (oi := { dst := some 39, op := Op.move (Operand.tmp 3), type := 34, pos := "law.go:80", after := #[{ on := 5, ground := Ground.guard }], guard := some (5, true) }) (v := ?_) rfl (by kernel_rfl) (by kernel_rfl) (by kernel_rfl) (fun _ _ _ h => h) (Or.inl ⟨by rfl, ?_⟩) (by assumption) ?_
      rotate_left
      · (intro wq hSw; (try dsimp only at hSw); go_simp; first | done | with_reducible rfl)
      try simp only [Act.put, List.setIfInBounds_toArray, List.set_cons_zero, List.set_cons_succ]
      refine wpAnyH_take (i := 7) (oi := { dst := some 40, op := Op.binOp BinOp.neq 34 (Operand.tmp 39) (Operand.const (Value.pointer none)) 34, type := 4, pos := "law.go:80", after := #[{ on := 6, ground := Ground.data }, { on := 5, ground := Ground.guard }], guard := some (5, true) }) (v := ?_) rfl (by kernel_rfl) (by kernel_rfl) (by kernel_rfl) (fun _ _ _ h => h) (Or.inl ⟨by rfl, ?_⟩) (by assumption) ?_
      rotate_left
      · (intro wq hSw; (try dsimp only at hSw); go_simp; first | done | with_reducible rfl)
      try simp only [Act.put, List.setIfInBounds_toArray, List.set_cons_zero, List.set_cons_succ]
      refine wpAnyH_take (i := 8) (oi := { dst := some 41, op := Op.pick (Operand.tmp 38) (Operand.tmp 40) (Operand.const (Value.bool false)), type := 4, pos := "law.go:80", after := #[{ on := 5, ground := Ground.data }, { on := 7, ground := Ground.data }], guard := none }) (v := ?_) rfl (by kernel_rfl) (by kernel_rfl) (by kernel_rfl) (fun _ _ _ h => h) (Or.inl ⟨by rfl, ?_⟩) (by assumption) ?_
      rotate_left
      · (intro wq hSw; (try dsimp only at hSw); go_simp; first | done | with_reducible rfl)
      try simp only [Act.put, List.setIfInBounds_toArray, List.set_cons_zero, List.set_cons_succ]
      refine wpAnyH_take (i := 9) (oi := { dst := some 42, op := Op.move (Operand.tmp 41), type := 4, pos := "law.go:80", after := #[{ on := 8, ground := Ground.data }, { on := 5, ground := Ground.chain }], guard := none }) (v := ?_) rfl (by kernel_rfl) (by kernel_rfl) (by kernel_rfl) (fun _ _ _ h => h) (Or.inl ⟨by rfl, ?_⟩) (by assumption) ?_
      rotate_left
      · (intro wq hSw; (try dsimp only at hSw); go_simp; first | done | with_reducible rfl)
      try simp only [Act.put, List.setIfInBounds_toArray, List.set_cons_zero, List.set_cons_succ]
      refine wpAnyH_take (i := 10) (oi := { dst := some 43, op := Op.move (Operand.tmp 3), type := 34, pos := "law.go:80", after := #[{ on := 9, ground := Ground.guard }], guard := some (9, true) }) (v := ?_) rfl (by kernel_rfl) (by kernel_rfl) (by kernel_rfl) (fun _ _ _ h => h) (Or.inl ⟨by rfl, ?_⟩) (by assumption) ?_
      rotate_left
      · (intro wq hSw; (try dsimp only at hSw); go_simp; first | done | with_reducible rfl)
      try simp only [Act.put, List.setIfInBounds_toArray, List.set_cons_zero, List.set_cons_succ]
      refine wpAnyH_take (i := 12) (oi := { dst := some 45, op := Op.fieldAddr 39 (Operand.tmp 5) 0, type := 0, pos := "law.go:80", after := #[{ on := 9, ground := Ground.guard }], guard := some (9, true) }) (v := ?_) rfl (by kernel_rfl) (by kernel_rfl) (by kernel_rfl) (fun _ _ _ h => h) (Or.inl ⟨by rfl, ?_⟩) (by assumption) ?_
      rotate_left
      · (intro wq hSw; (try dsimp only at hSw); go_simp; first | done | with_reducible rfl)
      try simp only [Act.put, List.setIfInBounds_toArray, List.set_cons_zero, List.set_cons_succ]
      refine wpAnyH_take (i := 13) (oi := { dst := some 46, op := Op.load 30 (Operand.tmp 45), type := 30, pos := "law.go:80", after := #[{ on := 12, ground := Ground.data }, { on := 9, ground := Ground.guard }], guard := some (9, true) }) (v := ?_) rfl (by kernel_rfl) (by kernel_rfl) (by kernel_rfl) (fun _ _ _ h => h) (Or.inl ⟨by rfl, ?_⟩) (by assumption) ?_
      rotate_left
      · (intro wq hSw; (try dsimp only at hSw); go_simp; first | done | with_reducible rfl)
      try simp only [Act.put, List.setIfInBounds_toArray, List.set_cons_zero, List.set_cons_succ]
      refine wpAnyH_ready (rs := [11]) (by kernel_rfl) (by simp) ?_
      refine AllReadyH.cons (o := { dst := some 44, op := Op.call { callee := Callee.value (Operand.func 22), args := #[Operand.tmp 43], argTypes := #[34] }, type := 30, pos := "law.go:80", after := #[{ on := 10, ground := Ground.data }, { on := 9, ground := Ground.chain }, { on := 9, ground := Ground.guard }], guard := some (9, true) }) rfl (fun K hK => ?_) AllReadyH.nil
      go_simp
      refine (promised_any g pr pn h ar an (str v) _ HA4.out).mono ?_
      rintro e wc ⟨rfl, hnc⟩
      have hn5 := hn4.trans hnc
      have HA5 := Lib.hid (HA.out.new hn5)
      refine hK.out _ _ ?_ (fun hHeld => ?_)
      · exact Held.of hn5
      clear hK K
      try simp only [Act.put, List.setIfInBounds_toArray, List.set_cons_zero, List.set_cons_succ]
      refine wpAnyH_take (i := 14) (oi := { dst := some 47, op := Op.binOp BinOp.eql 30 (Operand.tmp 44) (Operand.tmp 46) 30, type := 4, pos := "law.go:80", after := #[{ on := 11, ground := Ground.data }, { on := 13, ground := Ground.data }, { on := 9, ground := Ground.guard }], guard := some (9, true) }) (v := ?_) rfl (by kernel_rfl) (by kernel_rfl) (by kernel_rfl) (fun _ _ _ h => h) (Or.inl ⟨by rfl, ?_⟩) (by assumption) ?_
      rotate_left
      · (intro wq hSw; (try dsimp only at hSw); go_simp; first | done | with_reducible rfl)
      try simp only [Act.put, List.setIfInBounds_toArray, List.set_cons_zero, List.set_cons_succ]
      refine wpAnyH_take (i := 15) (oi := { dst := some 48, op := Op.pick (Operand.tmp 42) (Operand.tmp 47) (Operand.const (Value.bool false)), type := 4, pos := "law.go:80", after := #[{ on := 9, ground := Ground.data }, { on := 14, ground := Ground.data }], guard := none }) (v := ?_) rfl (by kernel_rfl) (by kernel_rfl) (by kernel_rfl) (fun _ _ _ h => h) (Or.inl ⟨by rfl, ?_⟩) (by assumption) ?_
      rotate_left
      · (intro wq hSw; (try dsimp only at hSw); go_simp; first | done | with_reducible rfl)
      try simp only [Act.put, List.setIfInBounds_toArray, List.set_cons_zero, List.set_cons_succ]
      refine wpAnyH_take (i := 16) (oi := { dst := some 49, op := Op.move (Operand.tmp 48), type := 4, pos := "law.go:80", after := #[{ on := 15, ground := Ground.data }, { on := 11, ground := Ground.chain }], guard := none }) (v := ?_) rfl (by kernel_rfl) (by kernel_rfl) (by kernel_rfl) (fun _ _ _ h => h) (Or.inl ⟨by rfl, ?_⟩) (by assumption) ?_
      rotate_left
      · (intro wq hSw; (try dsimp only at hSw); go_simp; first | done | with_reducible rfl)
      try simp only [Act.put, List.setIfInBounds_toArray, List.set_cons_zero, List.set_cons_succ]
      refine wpAnyH_take (i := 17) (oi := { dst := some 50, op := Op.move (Operand.tmp 3), type := 34, pos := "law.go:80", after := #[{ on := 16, ground := Ground.guard }], guard := some (16, true) }) (v := ?_) rfl (by kernel_rfl) (by kernel_rfl) (by kernel_rfl) (fun _ _ _ h => h) (Or.inl ⟨by rfl, ?_⟩) (by assumption) ?_
      rotate_left
      · (intro wq hSw; (try dsimp only at hSw); go_simp; first | done | with_reducible rfl)
      try simp only [Act.put, List.setIfInBounds_toArray, List.set_cons_zero, List.set_cons_succ]
      refine wpAnyH_take (i := 19) (oi := { dst := some 52, op := Op.fieldAddr 39 (Operand.tmp 5) 1, type := 0, pos := "law.go:80", after := #[{ on := 16, ground := Ground.guard }], guard := some (16, true) }) (v := ?_) rfl (by kernel_rfl) (by kernel_rfl) (by kernel_rfl) (fun _ _ _ h => h) (Or.inl ⟨by rfl, ?_⟩) (by assumption) ?_
      rotate_left
      · (intro wq hSw; (try dsimp only at hSw); go_simp; first | done | with_reducible rfl)
      try simp only [Act.put, List.setIfInBounds_toArray, List.set_cons_zero, List.set_cons_succ]
      refine wpAnyH_take (i := 20) (oi := { dst := some 53, op := Op.load 37 (Operand.tmp 52), type := 37, pos := "law.go:80", after := #[{ on := 19, ground := Ground.data }, { on := 16, ground := Ground.guard }], guard := some (16, true) }) (v := ?_) rfl (by kernel_rfl) (by kernel_rfl) (by kernel_rfl) (fun _ _ _ h => h) (Or.inl ⟨by rfl, ?_⟩) (by assumption) ?_
      rotate_left
      · (intro wq hSw; (try dsimp only at hSw); go_simp; first | done | with_reducible rfl)
      try simp only [Act.put, List.setIfInBounds_toArray, List.set_cons_zero, List.set_cons_succ]
      refine wpAnyH_ready (rs := [18]) (by kernel_rfl) (by simp) ?_
      refine AllReadyH.cons (o := { dst := some 51, op := Op.call { callee := Callee.value (Operand.func 23), args := #[Operand.tmp 50], argTypes := #[34] }, type := 37, pos := "law.go:80", after := #[{ on := 17, ground := Ground.data }, { on := 16, ground := Ground.chain }, { on := 16, ground := Ground.guard }], guard := some (16, true) }) rfl (fun K hK => ?_) AllReadyH.nil
      go_simp
      refine (accepted_any g pr pn h ar an (str v) _ HA5.out).mono ?_
      rintro e wd ⟨rfl, hnd⟩
      have hn6 := hn5.trans hnd
      have HA6 := Lib.hid (HA.out.new hn6)
      refine hK.out _ _ ?_ (fun hHeld => ?_)
      · exact Held.of hn6
      clear hK K
      try simp only [Act.put, List.setIfInBounds_toArray, List.set_cons_zero, List.set_cons_succ]
      refine wpAnyH_take (i := 21) (oi := { dst := some 54, op := Op.binOp BinOp.eql 37 (Operand.tmp 51) (Operand.tmp 53) 37, type := 4, pos := "law.go:80", after := #[{ on := 18, ground := Ground.data }, { on := 20, ground := Ground.data }, { on := 16, ground := Ground.guard }], guard := some (16, true) }) (v := ?_) rfl (by kernel_rfl) (by kernel_rfl) (by kernel_rfl) (fun _ _ _ h => h) (Or.inl ⟨by rfl, ?_⟩) (by assumption) ?_
      rotate_left
      · (intro wq hSw; (try dsimp only at hSw); go_simp; first | done | with_reducible rfl)
      try simp only [Act.put, List.setIfInBounds_toArray, List.set_cons_zero, List.set_cons_succ]
      refine wpAnyH_take (i := 22) (oi := { dst := some 55, op := Op.pick (Operand.tmp 49) (Operand.tmp 54) (Operand.const (Value.bool false)), type := 4, pos := "law.go:80", after := #[{ on := 16, ground := Ground.data }, { on := 21, ground := Ground.data }], guard := none }) (v := ?_) rfl (by kernel_rfl) (by kernel_rfl) (by kernel_rfl) (fun _ _ _ h => h) (Or.inl ⟨by rfl, ?_⟩) (by assumption) ?_
      rotate_left
      · (intro wq hSw; (try dsimp only at hSw); go_simp; first | done | with_reducible rfl)
      try simp only [Act.put, List.setIfInBounds_toArray, List.set_cons_zero, List.set_cons_succ]
      refine wpAnyH_take (i := 23) (oi := { dst := some 56, op := Op.move (Operand.tmp 55), type := 4, pos := "law.go:80", after := #[{ on := 22, ground := Ground.data }, { on := 18, ground := Ground.chain }], guard := none }) (v := ?_) rfl (by kernel_rfl) (by kernel_rfl) (by kernel_rfl) (fun _ _ _ h => h) (Or.inl ⟨by rfl, ?_⟩) (by assumption) ?_
      rotate_left
      · (intro wq hSw; (try dsimp only at hSw); go_simp; first | done | with_reducible rfl)
      try simp only [Act.put, List.setIfInBounds_toArray, List.set_cons_zero, List.set_cons_succ]
      refine wpAnyH_take (i := 24) (oi := { dst := some 57, op := Op.move (Operand.tmp 3), type := 34, pos := "law.go:80", after := #[{ on := 23, ground := Ground.guard }], guard := some (23, true) }) (v := ?_) rfl (by kernel_rfl) (by kernel_rfl) (by kernel_rfl) (fun _ _ _ h => h) (Or.inl ⟨by rfl, ?_⟩) (by assumption) ?_
      rotate_left
      · (intro wq hSw; (try dsimp only at hSw); go_simp; first | done | with_reducible rfl)
      try simp only [Act.put, List.setIfInBounds_toArray, List.set_cons_zero, List.set_cons_succ]
      refine wpAnyH_take (i := 27) (oi := { dst := some 60, op := Op.move (Operand.tmp 0), type := 9, pos := "law.go:80", after := #[{ on := 23, ground := Ground.guard }], guard := some (23, true) }) (v := ?_) rfl (by kernel_rfl) (by kernel_rfl) (by kernel_rfl) (fun _ _ _ h => h) (Or.inl ⟨by rfl, ?_⟩) (by assumption) ?_
      rotate_left
      · (intro wq hSw; (try dsimp only at hSw); go_simp; first | done | with_reducible rfl)
      try simp only [Act.put, List.setIfInBounds_toArray, List.set_cons_zero, List.set_cons_succ]
      refine wpAnyH_ready (rs := [25]) (by kernel_rfl) (by simp) ?_
      refine AllReadyH.cons (o := { dst := some 58, op := Op.call { callee := Callee.value (Operand.func 24), args := #[Operand.tmp 57], argTypes := #[34] }, type := 47, pos := "law.go:80", after := #[{ on := 24, ground := Ground.data }, { on := 23, ground := Ground.chain }, { on := 23, ground := Ground.guard }], guard := some (23, true) }) rfl (fun K hK => ?_) AllReadyH.nil
      go_simp
      refine (HB.out _ HA6.out).mono ?_
      rintro e we ⟨u7, rfl, ho7, hne⟩
      have hn7 := hn6.trans hne
      have hcv := run_str we (Owns.slIn bEncOk ho7)
      refine hK.out _ _ ?_ (fun hHeld => ?_)
      · exact Held.of hn7
      clear hK K
      try simp only [Act.put, List.setIfInBounds_toArray, List.set_cons_zero, List.set_cons_succ]
      refine wpAnyH_ready (rs := [26]) (by kernel_rfl) (by simp) ?_
      refine AllReadyH.cons (o := { dst := some 59, op := Op.convert 47 9 (Operand.tmp 58), type := 9, pos := "law.go:80", after := #[{ on := 25, ground := Ground.data }, { on := 23, ground := Ground.guard }], guard := some (23, true) }) rfl (fun K hK => ?_) AllReadyH.nil
      go_simp
      refine hK.out _ _ ?_ (fun hHeld => ?_)
      · exact Held.of hn7
      clear hK K
      try simp only [Act.put, List.setIfInBounds_toArray, List.set_cons_zero, List.set_cons_succ]
      refine wpAnyH_take (i := 28) (oi := { dst := some 61, op := Op.binOp BinOp.eql 9 (Operand.tmp 59) (Operand.tmp 60) 9, type := 4, pos := "law.go:80", after := #[{ on := 26, ground := Ground.data }, { on := 27, ground := Ground.data }, { on := 23, ground := Ground.guard }], guard := some (23, true) }) (v := ?_) rfl (by kernel_rfl) (by kernel_rfl) (by kernel_rfl) (fun _ _ _ h => h) (Or.inl ⟨by rfl, ?_⟩) (by assumption) ?_
      rotate_left
      · (intro wq hSw; (try dsimp only at hSw); go_simp; first | done | with_reducible rfl)
      try simp only [Act.put, List.setIfInBounds_toArray, List.set_cons_zero, List.set_cons_succ]
      refine wpAnyH_take (i := 29) (oi := { dst := some 62, op := Op.pick (Operand.tmp 56) (Operand.tmp 61) (Operand.const (Value.bool false)), type := 4, pos := "law.go:80", after := #[{ on := 23, ground := Ground.data }, { on := 28, ground := Ground.data }], guard := none }) (v := ?_) rfl (by kernel_rfl) (by kernel_rfl) (by kernel_rfl) (fun _ _ _ h => h) (Or.inl ⟨by rfl, ?_⟩) (by assumption) ?_
      rotate_left
      · (intro wq hSw; (try dsimp only at hSw); go_simp; first | done | with_reducible rfl)
      try simp only [Act.put, List.setIfInBounds_toArray, List.set_cons_zero, List.set_cons_succ]
      refine wpAnyH_take (i := 30) (oi := { dst := some 2, op := Op.assign (Operand.tmp 62), type := 4, pos := "law.go:80", after := #[{ on := 29, ground := Ground.data }, { on := 25, ground := Ground.chain }, { on := 0, ground := Ground.phase }, { on := 1, ground := Ground.phase }, { on := 2, ground := Ground.phase }, { on := 3, ground := Ground.phase }, { on := 4, ground := Ground.phase }, { on := 5, ground := Ground.phase }, { on := 6, ground := Ground.phase }, { on := 7, ground := Ground.phase }, { on := 8, ground := Ground.phase }, { on := 9, ground := Ground.phase }, { on := 10, ground := Ground.phase }, { on := 11, ground := Ground.phase }, { on := 12, ground := Ground.phase }, { on := 13, ground := Ground.phase }, { on := 14, ground := Ground.phase }, { on := 15, ground := Ground.phase }, { on := 16, ground := Ground.phase }, { on := 17, ground := Ground.phase }, { on := 18, ground := Ground.phase }, { on := 19, ground := Ground.phase }, { on := 20, ground := Ground.phase }, { on := 21, ground := Ground.phase }, { on := 22, ground := Ground.phase }, { on := 23, ground := Ground.phase }, { on := 24, ground := Ground.phase }, { on := 25, ground := Ground.phase }, { on := 26, ground := Ground.phase }, { on := 27, ground := Ground.phase }, { on := 28, ground := Ground.phase }, { on := 29, ground := Ground.phase }], guard := none }) (v := ?_) rfl (by kernel_rfl) (by kernel_rfl) (by kernel_rfl) (fun _ _ _ h => h) (Or.inl ⟨by rfl, ?_⟩) (by assumption) ?_
      rotate_left
      · (intro wq hSw; (try dsimp only at hSw); go_simp; first | done | with_reducible rfl)
      try simp only [Act.put, List.setIfInBounds_toArray, List.set_cons_zero, List.set_cons_succ]
      refine wpAnyH_done (by kernel_rfl) ?_ _
      all_goals go_wp2_with fail
      all_goals go_ret
      all_goals exact ⟨rfl, hNM.trans hn7⟩
  · have t1' : (2000 : Int) < (bs.length : Int) := by omega
    go_enter Try.func12, Try.ntmps12
    go_wp2_with fail
    refine (awake20 _).mono ?_
    rintro e w1 ⟨rfl, hn1⟩
    go_wp2_with fail
    go_ret
    exact ⟨rfl, hn1⟩
end Go.Proofs.Ytnjifcgomkdhdaa
