/- Chapter 23 (config): the document's Place, Check, Same; the law's few and of. Printed by genCfg.py. -/
import Derived.Test.YtinpbjknakncdaaDoorCfgC
namespace Go.Proofs.YtinpbjknakncdaaDoor
open Go.RowKit Go.Lap
set_option linter.unusedVariables false

theorem place_at {ms : List Int} {k : Nat} {x : Int} (h : ms[k]? = some x) (hn : x ∉ ms.take k) : placeC ms x = (k : Int) := by
  rcases place_cases ms x with ⟨h1, _⟩ | ⟨j, _, h2, h3, h4⟩
  · exact absurd (List.mem_of_getElem? h) h1
  · have h5 : ¬ j < k := fun hj => hn (List.mem_iff_getElem?.2 ⟨j, by rw [List.getElem?_take_of_lt hj]; exact h2⟩)
    have h6 : ¬ k < j := fun hj => h3 (List.mem_iff_getElem?.2 ⟨k, by rw [List.getElem?_take_of_lt hj]; exact h⟩)
    rw [h4]
    congr 1
    omega
theorem place_before {ms : List Int} {k : Nat} {x : Int} (hk : k ≤ ms.length) (hn : x ∈ ms.take k) : ∃ j : Nat, placeC ms x = (j : Int) ∧ j < k := by
  rcases place_cases ms x with ⟨h1, _⟩ | ⟨j, _, h2, h3, h4⟩
  · exact absurd (List.mem_of_mem_take hn) h1
  · refine ⟨j, h4, Nat.lt_of_not_le fun hj => h3 ?_⟩
    rw [← List.take_append_drop k (ms.take j), List.take_take, Nat.min_eq_left hj]
    exact List.mem_append_left _ hn
/-- No place so far. -/
def PlRel (ms : List Int) (n : Int) (k : Nat) (w wr : World) : Prop := n ∉ ms.take k ∧ New w wr

set_option maxRecDepth 100000 in
set_option maxHeartbeats 4000000 in
theorem refPlace_any (e : Nat) (v : Value) (ms : List Int) (n : Int) (w : World) (hl : ms.length ≤ 1000000000) (hs : SlIn w 1 iEnc v ms) :
    Calls Tryd.prog 24 #[.agg #[.int .u64 (e : Int), v], .int .i64 n] w fun e' w' => e' = .returned (.int .i64 (placeC ms n)) ∧ New w w' := by
  obtain ⟨A, m, cap, rfl⟩ := hs.shape
  obtain ⟨A', c', hv, hlc, -⟩ := id hs
  cases hv
  have hN := (New.refl w).alloc (.cells #[.int .u64 (e : Int), .slice A ms.length cap] 25)
  have hB := Lib.hid (Blk.mk_new w 25 #[.int .u64 (e : Int), .slice A ms.length cap])
  have HS := Lib.hid (hs.new hN)
  clear hs
  go_enter Tryd.func24, Tryd.ntmps24
  go_wp2_with fail
  generalize w.alloc _ = w1 at *
  go_loopw [5] (fun i wr => ∃ k : Nat, k ≤ ms.length ∧ i = .int .i64 (k : Int) ∧ PlRel ms n k w1 wr) (fun i _ => ms.length - (intOf i).toNat)
  case atStart => exact ⟨0, by omega, rfl, by simp, New.refl _⟩
  case round =>
    obtain ⟨k, hk, rfl, hg, hn⟩ := hrel
    obtain ⟨p0, p1, p2, pz⟩ := Blk2F (hB.out.new hn)
    have HG := Lib.hid hg
    clear hg
    by_cases hlt : k < ms.length
    · have hlt2 : (k : Int) < (ms.length : Int) := by omega
      have hk0 : (0 : Int) ≤ (k : Int) := by omega
      obtain ⟨A', c', hv, _, hh⟩ := HS.out.new hn
      cases hv
      rcases hh with rfl | ⟨b, off, rfl, hbb, hc⟩
      · simp at hlt
      obtain ⟨x, hx⟩ : ∃ x, ms[k]? = some x := ⟨_, List.getElem?_eq_getElem hlt⟩
      have e0 := SlIn.int_at hc hx
      have HX := Lib.hid hx
      clear hc hx
      by_cases hxn : x = n
      · subst hxn
        have HF := Lib.hid (place_at HX.out HG.out)
        go_wp2_with fail
        go_ret
        exact ⟨ret_int (a := (k : Int)) HF.out.symm, hN.trans hn⟩
      · have hxb : (x == n) = false := beq_eq_false_iff_ne.2 hxn
        have HF := Lib.hid (show n ∉ ms.take (k + 1) by rw [take_snocI HX.out]; simp only [List.mem_append, List.mem_singleton, not_or]; exact ⟨HG.out, fun h => hxn h.symm⟩)
        clear hxn
        go_wp2_with fail
        go_roundw
        case rel => exact ⟨k + 1, by omega, by go_num, HF.out, hn⟩
        case measure => simp [intOf]; omega
    · have hlt2 : ¬ (k : Int) < (ms.length : Int) := by omega
      have HF : Hid (placeC ms n = -1) := Lib.hid (by
        have h := HG.out
        rw [List.take_of_length_le (by omega)] at h
        rcases place_cases ms n with ⟨_, h2⟩ | ⟨j, _, h2, _⟩
        · exact h2
        · exact absurd (List.mem_of_getElem? h2) h)
      go_wp2_with fail
      go_ret
      exact ⟨ret_int (a := -1) HF.out.symm, hN.trans hn⟩

set_option maxRecDepth 100000 in
set_option maxHeartbeats 4000000 in
theorem refCheck_any (e : Nat) (v : Value) (ms : List Int) (w : World) (hl : ms.length ≤ 1000000000) (hs : SlIn w 1 iEnc v ms) :
    Calls Tryd.prog 18 #[.agg #[.int .u64 (e : Int), v]] w fun e' w' => e' = .returned (.bool (chkC ⟨e, ms⟩)) ∧ New w w' := by
  obtain ⟨A, m, cap, rfl⟩ := hs.shape
  obtain ⟨A', c', hv, hlc, hh⟩ := id hs
  cases hv
  have hN := (New.refl w).alloc (.cells #[.int .u64 (e : Int), .slice A ms.length cap] 25)
  by_cases h1 : e < 1
  · have h1' : (e : Int) < 1 := by omega
    have HF := Lib.hid (show chkC ⟨e, ms⟩ = false from chk_bad (by rintro ⟨a, b, d, f⟩; dsimp only [lastE] at *; omega))
    clear hs hh
    go_enter Tryd.func18, Tryd.ntmps18
    go_wp2_with fail
    go_ret
    exact ⟨ret_bool HF.out.symm, hN⟩
  by_cases h2 : 4611686018427387904 < e
  · have h1' : ¬ (e : Int) < 1 := by omega
    have h2' : (4611686018427387904 : Int) < (e : Int) := by omega
    have HF := Lib.hid (show chkC ⟨e, ms⟩ = false from chk_bad (by rintro ⟨a, b, d, f⟩; dsimp only [lastE] at *; omega))
    clear hs hh
    go_enter Tryd.func18, Tryd.ntmps18
    go_wp2_with fail
    go_ret
    exact ⟨ret_bool HF.out.symm, hN⟩
  by_cases h3 : ms.length < 1
  · have h1' : ¬ (e : Int) < 1 := by omega
    have h2' : ¬ (4611686018427387904 : Int) < (e : Int) := by omega
    have h3' : (ms.length : Int) < 1 := by omega
    have HF := Lib.hid (show chkC ⟨e, ms⟩ = false from chk_bad (by rintro ⟨a, b, d, f⟩; dsimp only [lastE] at *; omega))
    clear hs hh
    go_enter Tryd.func18, Tryd.ntmps18
    go_wp2_with fail
    go_ret
    exact ⟨ret_bool HF.out.symm, hN⟩
  by_cases h4 : 7 < ms.length
  · have h1' : ¬ (e : Int) < 1 := by omega
    have h2' : ¬ (4611686018427387904 : Int) < (e : Int) := by omega
    have h3' : ¬ (ms.length : Int) < 1 := by omega
    have h4' : (7 : Int) < (ms.length : Int) := by omega
    have HF := Lib.hid (show chkC ⟨e, ms⟩ = false from chk_bad (by rintro ⟨a, b, d, f⟩; dsimp only [lastE] at *; omega))
    clear hs hh
    go_enter Tryd.func18, Tryd.ntmps18
    go_wp2_with fail
    go_ret
    exact ⟨ret_bool HF.out.symm, hN⟩
  have h1' : ¬ (e : Int) < 1 := by omega
  have h2' : ¬ (4611686018427387904 : Int) < (e : Int) := by omega
  have h3' : ¬ (ms.length : Int) < 1 := by omega
  have h4' : ¬ (7 : Int) < (ms.length : Int) := by omega
  have HF := Lib.hid (show chkC ⟨e, ms⟩ = goodL ms from chk_good (by dsimp only; omega) (by dsimp only [lastE]; omega) (by dsimp only; omega) (by dsimp only; omega))
  have hB := Lib.hid (Blk.mk_new w 25 #[.int .u64 (e : Int), .slice A ms.length cap])
  have HS := Lib.hid (hs.new hN)
  clear hs hh
  go_enter Tryd.func18, Tryd.ntmps18
  go_wp2_with fail
  generalize w.alloc _ = w1 at *
  go_loopw [3] (fun i wr => ∃ k : Nat, k ≤ ms.length ∧ i = .int .i64 (k : Int) ∧ ChkRel ms k w1 wr) (fun i _ => ms.length - (intOf i).toNat)
  case atStart => exact ⟨0, by omega, rfl, rfl, New.refl _⟩
  case round =>
    obtain ⟨k, hk, rfl, hg, hn⟩ := hrel
    obtain ⟨p0, p1, p2, pz⟩ := Blk2F (hB.out.new hn)
    have HSr := Lib.hid (HS.out.new hn)
    have HG := Lib.hid hg
    clear hg
    by_cases hlt : k < ms.length
    · have hlt2 : (k : Int) < (ms.length : Int) := by omega
      have hk0 : (0 : Int) ≤ (k : Int) := by omega
      obtain ⟨A', c', hv, _, hh⟩ := HSr.out
      cases hv
      rcases hh with rfl | ⟨b, off, rfl, hbb, hc⟩
      · simp at hlt
      obtain ⟨x, hx⟩ : ∃ x, ms[k]? = some x := ⟨_, List.getElem?_eq_getElem hlt⟩
      have e0 := SlIn.int_at hc hx
      have HX := Lib.hid hx
      clear hc hx
      by_cases hx0 : x < 0
      · have hd : decide (x < 0) = true := by simpa using hx0
        have HFX := Lib.hid (HF.out.trans (good_fail HX.out (.inl (by simp only [memB, Bool.and_eq_false_iff, decide_eq_false_iff_not]; omega))))
        go_upto_region 6 with fail
        go_quiet (fail)
        go_wp2_with fail
        go_ret
        exact ⟨ret_bool HFX.out.symm, hN.trans (hn.drewN _)⟩
      by_cases hx1 : 63 < x
      · have hd : decide (x < 0) = false := by simpa using hx0
        have hd2 : decide (63 < x) = true := by simpa using hx1
        have HFX := Lib.hid (HF.out.trans (good_fail HX.out (.inl (by simp only [memB, Bool.and_eq_false_iff, decide_eq_false_iff_not]; omega))))
        go_upto_region 6 with fail
        go_quiet (fail)
        go_wp2_with fail
        go_ret
        exact ⟨ret_bool HFX.out.symm, hN.trans (hn.drewN _)⟩
      have hm : memB x = true := by simp only [memB, Bool.and_eq_true, decide_eq_true_eq]; omega
      have HM := Lib.hid hm
      clear hm
      have hd : decide (x < 0) = false := by simpa using hx0
      have hd2 : decide (63 < x) = false := by simpa using hx1
      by_cases hin : x ∈ ms.take k
      · obtain ⟨j, hj, hjk⟩ := place_before hk hin
        have hjk2 : ((j : Int) != (k : Int)) = true := by rw [bne_iff_ne]; omega
        have HFX := Lib.hid (HF.out.trans (good_fail HX.out (.inr (by simpa using hin))))
        have hpl := fun wx hx => refPlace_any e (.slice (some ⟨b, off, none⟩) ms.length cap) ms x wx hl hx
        rw [hj] at hpl
        clear hin hj hjk
        go_upto_region 6 with fail
        refine wp_region_held_drew (S := fun w' => Held wr w') (by kernel_rfl) (Held.of (New.refl _).drew) (fun hHeld => ?_)
        refine wpAnyH_take (i := 0) (oi := { dst := some 31, op := Op.fieldAddr 25 (Operand.tmp 1) 1, type := 0, pos := "ref.go:26", after := #[], guard := none }) (v := ?_) rfl (by kernel_rfl) (by kernel_rfl) (by kernel_rfl) (fun _ _ _ h => h) (Or.inl ⟨by rfl, ?_⟩) (by assumption) ?_
        rotate_left
        · (intro wq hSw; (try dsimp only at hSw); go_simp; first | done | with_reducible rfl)
        try simp only [Act.put, List.setIfInBounds_toArray, List.set_cons_zero, List.set_cons_succ]
        refine wpAnyH_take (i := 1) (oi := { dst := some 32, op := Op.load 23 (Operand.tmp 31), type := 23, pos := "ref.go:26", after := #[{ on := 0, ground := Ground.data }], guard := none }) (v := ?_) rfl (by kernel_rfl) (by kernel_rfl) (by kernel_rfl) (fun _ _ _ h => h) (Or.inl ⟨by rfl, ?_⟩) (by assumption) ?_
        rotate_left
        · (intro wq hSw; (try dsimp only at hSw); go_simp; first | done | with_reducible rfl)
        try simp only [Act.put, List.setIfInBounds_toArray, List.set_cons_zero, List.set_cons_succ]
        refine wpAnyH_take (i := 2) (oi := { dst := some 33, op := Op.move (Operand.tmp 3), type := 3, pos := "ref.go:26", after := #[], guard := none }) (v := ?_) rfl (by kernel_rfl) (by kernel_rfl) (by kernel_rfl) (fun _ _ _ h => h) (Or.inl ⟨by rfl, ?_⟩) (by assumption) ?_
        rotate_left
        · (intro wq hSw; (try dsimp only at hSw); go_simp; first | done | with_reducible rfl)
        try simp only [Act.put, List.setIfInBounds_toArray, List.set_cons_zero, List.set_cons_succ]
        refine wpAnyH_take (i := 3) (oi := { dst := some 34, op := Op.indexAddr 23 (Operand.tmp 32) (Operand.tmp 33), type := 0, pos := "ref.go:26", after := #[{ on := 1, ground := Ground.data }, { on := 2, ground := Ground.data }], guard := none }) (v := ?_) rfl (by kernel_rfl) (by kernel_rfl) (by kernel_rfl) (fun _ _ _ h => h) (Or.inl ⟨by rfl, ?_⟩) (by assumption) ?_
        rotate_left
        · (intro wq hSw; (try dsimp only at hSw); go_simp; first | done | with_reducible rfl)
        try simp only [Act.put, List.setIfInBounds_toArray, List.set_cons_zero, List.set_cons_succ]
        refine wpAnyH_take (i := 4) (oi := { dst := some 35, op := Op.load 3 (Operand.tmp 34), type := 3, pos := "ref.go:26", after := #[{ on := 3, ground := Ground.data }], guard := none }) (v := ?_) rfl (by kernel_rfl) (by kernel_rfl) (by kernel_rfl) (fun _ _ _ h => h) (Or.inl ⟨by rfl, ?_⟩) (by assumption) ?_
        rotate_left
        · (intro wq hSw; (try dsimp only at hSw); go_simp; first | done | with_reducible rfl)
        try simp only [Act.put, List.setIfInBounds_toArray, List.set_cons_zero, List.set_cons_succ]
        refine wpAnyH_take (i := 5) (oi := { dst := some 36, op := Op.binOp BinOp.lss 3 (Operand.tmp 35) (Operand.const (Value.int IntKind.i64 0)) 3, type := 4, pos := "ref.go:26", after := #[{ on := 4, ground := Ground.data }], guard := none }) (v := .bool false) rfl (by kernel_rfl) (by kernel_rfl) (by kernel_rfl) (fun _ _ _ h => h) (Or.inl ⟨by rfl, ?_⟩) (by assumption) ?_
        · (intro wq hSw; (try dsimp only at hSw); go_simp; first | done | with_reducible rfl | simp)
        try simp only [Act.put, List.setIfInBounds_toArray, List.set_cons_zero, List.set_cons_succ]
        refine wpAnyH_take (i := 6) (oi := { dst := some 37, op := Op.move (Operand.tmp 36), type := 4, pos := "ref.go:26", after := #[{ on := 5, ground := Ground.data }], guard := none }) (v := ?_) rfl (by kernel_rfl) (by kernel_rfl) (by kernel_rfl) (fun _ _ _ h => h) (Or.inl ⟨by rfl, ?_⟩) (by assumption) ?_
        rotate_left
        · (intro wq hSw; (try dsimp only at hSw); go_simp; first | done | with_reducible rfl)
        try simp only [Act.put, List.setIfInBounds_toArray, List.set_cons_zero, List.set_cons_succ]
        refine wpAnyH_take (i := 7) (oi := { dst := some 38, op := Op.fieldAddr 25 (Operand.tmp 1) 1, type := 0, pos := "ref.go:26", after := #[{ on := 6, ground := Ground.guard }], guard := some (6, false) }) (v := ?_) rfl (by kernel_rfl) (by kernel_rfl) (by kernel_rfl) (fun _ _ _ h => h) (Or.inl ⟨by rfl, ?_⟩) (by assumption) ?_
        rotate_left
        · (intro wq hSw; (try dsimp only at hSw); go_simp; first | done | with_reducible rfl)
        try simp only [Act.put, List.setIfInBounds_toArray, List.set_cons_zero, List.set_cons_succ]
        refine wpAnyH_take (i := 8) (oi := { dst := some 39, op := Op.load 23 (Operand.tmp 38), type := 23, pos := "ref.go:26", after := #[{ on := 7, ground := Ground.data }, { on := 6, ground := Ground.guard }], guard := some (6, false) }) (v := ?_) rfl (by kernel_rfl) (by kernel_rfl) (by kernel_rfl) (fun _ _ _ h => h) (Or.inl ⟨by rfl, ?_⟩) (by assumption) ?_
        rotate_left
        · (intro wq hSw; (try dsimp only at hSw); go_simp; first | done | with_reducible rfl)
        try simp only [Act.put, List.setIfInBounds_toArray, List.set_cons_zero, List.set_cons_succ]
        refine wpAnyH_take (i := 9) (oi := { dst := some 40, op := Op.move (Operand.tmp 3), type := 3, pos := "ref.go:26", after := #[{ on := 6, ground := Ground.guard }], guard := some (6, false) }) (v := ?_) rfl (by kernel_rfl) (by kernel_rfl) (by kernel_rfl) (fun _ _ _ h => h) (Or.inl ⟨by rfl, ?_⟩) (by assumption) ?_
        rotate_left
        · (intro wq hSw; (try dsimp only at hSw); go_simp; first | done | with_reducible rfl)
        try simp only [Act.put, List.setIfInBounds_toArray, List.set_cons_zero, List.set_cons_succ]
        refine wpAnyH_take (i := 10) (oi := { dst := some 41, op := Op.indexAddr 23 (Operand.tmp 39) (Operand.tmp 40), type := 0, pos := "ref.go:26", after := #[{ on := 8, ground := Ground.data }, { on := 9, ground := Ground.data }, { on := 6, ground := Ground.guard }], guard := some (6, false) }) (v := ?_) rfl (by kernel_rfl) (by kernel_rfl) (by kernel_rfl) (fun _ _ _ h => h) (Or.inl ⟨by rfl, ?_⟩) (by assumption) ?_
        rotate_left
        · (intro wq hSw; (try dsimp only at hSw); go_simp; first | done | with_reducible rfl)
        try simp only [Act.put, List.setIfInBounds_toArray, List.set_cons_zero, List.set_cons_succ]
        refine wpAnyH_take (i := 11) (oi := { dst := some 42, op := Op.load 3 (Operand.tmp 41), type := 3, pos := "ref.go:26", after := #[{ on := 10, ground := Ground.data }, { on := 6, ground := Ground.guard }], guard := some (6, false) }) (v := ?_) rfl (by kernel_rfl) (by kernel_rfl) (by kernel_rfl) (fun _ _ _ h => h) (Or.inl ⟨by rfl, ?_⟩) (by assumption) ?_
        rotate_left
        · (intro wq hSw; (try dsimp only at hSw); go_simp; first | done | with_reducible rfl)
        try simp only [Act.put, List.setIfInBounds_toArray, List.set_cons_zero, List.set_cons_succ]
        refine wpAnyH_take (i := 12) (oi := { dst := some 43, op := Op.binOp BinOp.gtr 3 (Operand.tmp 42) (Operand.const (Value.int IntKind.i64 63)) 3, type := 4, pos := "ref.go:26", after := #[{ on := 11, ground := Ground.data }, { on := 6, ground := Ground.guard }], guard := some (6, false) }) (v := .bool false) rfl (by kernel_rfl) (by kernel_rfl) (by kernel_rfl) (fun _ _ _ h => h) (Or.inl ⟨by rfl, ?_⟩) (by assumption) ?_
        · (intro wq hSw; (try dsimp only at hSw); go_simp; first | done | with_reducible rfl | simp)
        try simp only [Act.put, List.setIfInBounds_toArray, List.set_cons_zero, List.set_cons_succ]
        refine wpAnyH_take (i := 13) (oi := { dst := some 44, op := Op.pick (Operand.tmp 37) (Operand.const (Value.bool true)) (Operand.tmp 43), type := 4, pos := "ref.go:26", after := #[{ on := 6, ground := Ground.data }, { on := 12, ground := Ground.data }], guard := none }) (v := ?_) rfl (by kernel_rfl) (by kernel_rfl) (by kernel_rfl) (fun _ _ _ h => h) (Or.inl ⟨by rfl, ?_⟩) (by assumption) ?_
        rotate_left
        · (intro wq hSw; (try dsimp only at hSw); go_simp; first | done | with_reducible rfl)
        try simp only [Act.put, List.setIfInBounds_toArray, List.set_cons_zero, List.set_cons_succ]
        refine wpAnyH_take (i := 14) (oi := { dst := some 45, op := Op.move (Operand.tmp 44), type := 4, pos := "ref.go:26", after := #[{ on := 13, ground := Ground.data }, { on := 6, ground := Ground.chain }], guard := none }) (v := ?_) rfl (by kernel_rfl) (by kernel_rfl) (by kernel_rfl) (fun _ _ _ h => h) (Or.inl ⟨by rfl, ?_⟩) (by assumption) ?_
        rotate_left
        · (intro wq hSw; (try dsimp only at hSw); go_simp; first | done | with_reducible rfl)
        try simp only [Act.put, List.setIfInBounds_toArray, List.set_cons_zero, List.set_cons_succ]
        refine wpAnyH_take (i := 15) (oi := { dst := some 46, op := Op.load 25 (Operand.tmp 1), type := 25, pos := "ref.go:26", after := #[{ on := 14, ground := Ground.guard }], guard := some (14, false) }) (v := ?_) rfl (by kernel_rfl) (by kernel_rfl) (by kernel_rfl) (fun _ _ _ h => h) (Or.inl ⟨by rfl, ?_⟩) (by assumption) ?_
        rotate_left
        · (intro wq hSw; (try dsimp only at hSw); go_simp; first | done | with_reducible rfl)
        try simp only [Act.put, List.setIfInBounds_toArray, List.set_cons_zero, List.set_cons_succ]
        refine wpAnyH_take (i := 16) (oi := { dst := some 47, op := Op.fieldAddr 25 (Operand.tmp 1) 1, type := 0, pos := "ref.go:26", after := #[{ on := 14, ground := Ground.guard }], guard := some (14, false) }) (v := ?_) rfl (by kernel_rfl) (by kernel_rfl) (by kernel_rfl) (fun _ _ _ h => h) (Or.inl ⟨by rfl, ?_⟩) (by assumption) ?_
        rotate_left
        · (intro wq hSw; (try dsimp only at hSw); go_simp; first | done | with_reducible rfl)
        try simp only [Act.put, List.setIfInBounds_toArray, List.set_cons_zero, List.set_cons_succ]
        refine wpAnyH_take (i := 17) (oi := { dst := some 48, op := Op.load 23 (Operand.tmp 47), type := 23, pos := "ref.go:26", after := #[{ on := 16, ground := Ground.data }, { on := 14, ground := Ground.guard }], guard := some (14, false) }) (v := ?_) rfl (by kernel_rfl) (by kernel_rfl) (by kernel_rfl) (fun _ _ _ h => h) (Or.inl ⟨by rfl, ?_⟩) (by assumption) ?_
        rotate_left
        · (intro wq hSw; (try dsimp only at hSw); go_simp; first | done | with_reducible rfl)
        try simp only [Act.put, List.setIfInBounds_toArray, List.set_cons_zero, List.set_cons_succ]
        refine wpAnyH_take (i := 18) (oi := { dst := some 49, op := Op.move (Operand.tmp 3), type := 3, pos := "ref.go:26", after := #[{ on := 14, ground := Ground.guard }], guard := some (14, false) }) (v := ?_) rfl (by kernel_rfl) (by kernel_rfl) (by kernel_rfl) (fun _ _ _ h => h) (Or.inl ⟨by rfl, ?_⟩) (by assumption) ?_
        rotate_left
        · (intro wq hSw; (try dsimp only at hSw); go_simp; first | done | with_reducible rfl)
        try simp only [Act.put, List.setIfInBounds_toArray, List.set_cons_zero, List.set_cons_succ]
        refine wpAnyH_take (i := 19) (oi := { dst := some 50, op := Op.indexAddr 23 (Operand.tmp 48) (Operand.tmp 49), type := 0, pos := "ref.go:26", after := #[{ on := 17, ground := Ground.data }, { on := 18, ground := Ground.data }, { on := 14, ground := Ground.guard }], guard := some (14, false) }) (v := ?_) rfl (by kernel_rfl) (by kernel_rfl) (by kernel_rfl) (fun _ _ _ h => h) (Or.inl ⟨by rfl, ?_⟩) (by assumption) ?_
        rotate_left
        · (intro wq hSw; (try dsimp only at hSw); go_simp; first | done | with_reducible rfl)
        try simp only [Act.put, List.setIfInBounds_toArray, List.set_cons_zero, List.set_cons_succ]
        refine wpAnyH_take (i := 20) (oi := { dst := some 51, op := Op.load 3 (Operand.tmp 50), type := 3, pos := "ref.go:26", after := #[{ on := 19, ground := Ground.data }, { on := 14, ground := Ground.guard }], guard := some (14, false) }) (v := ?_) rfl (by kernel_rfl) (by kernel_rfl) (by kernel_rfl) (fun _ _ _ h => h) (Or.inl ⟨by rfl, ?_⟩) (by assumption) ?_
        rotate_left
        · (intro wq hSw; (try dsimp only at hSw); go_simp; first | done | with_reducible rfl)
        try simp only [Act.put, List.setIfInBounds_toArray, List.set_cons_zero, List.set_cons_succ]
        refine wpAnyH_take (i := 22) (oi := { dst := some 53, op := Op.move (Operand.tmp 3), type := 3, pos := "ref.go:26", after := #[{ on := 14, ground := Ground.guard }], guard := some (14, false) }) (v := ?_) rfl (by kernel_rfl) (by kernel_rfl) (by kernel_rfl) (fun _ _ _ h => h) (Or.inl ⟨by rfl, ?_⟩) (by assumption) ?_
        rotate_left
        · (intro wq hSw; (try dsimp only at hSw); go_simp; first | done | with_reducible rfl)
        try simp only [Act.put, List.setIfInBounds_toArray, List.set_cons_zero, List.set_cons_succ]
        refine wpAnyH_ready (rs := [21]) (by kernel_rfl) (by simp) ?_
        refine AllReadyH.cons (o := { dst := some 52, op := Op.call { callee := Callee.value (Operand.func 24), args := #[Operand.tmp 46, Operand.tmp 51], argTypes := #[25, 3] }, type := 3, pos := "ref.go:26", after := #[{ on := 15, ground := Ground.data }, { on := 20, ground := Ground.data }, { on := 14, ground := Ground.chain }, { on := 14, ground := Ground.guard }], guard := some (14, false) }) rfl (fun K hK => ?_) AllReadyH.nil
        go_simp
        refine (hpl _ (HSr.out.new ((New.refl wr).drew))).mono ?_
        rintro e1 w2 ⟨rfl, hn2⟩
        have hn3 := (New.refl wr).drew.trans hn2
        refine hK.out _ _ ?_ (fun hHeld => ?_)
        · exact Held.of hn3
        clear hK K
        try simp only [Act.put, List.setIfInBounds_toArray, List.set_cons_zero, List.set_cons_succ]
        refine wpAnyH_take (i := 23) (oi := { dst := some 54, op := Op.binOp BinOp.neq 3 (Operand.tmp 52) (Operand.tmp 53) 3, type := 4, pos := "ref.go:26", after := #[{ on := 21, ground := Ground.data }, { on := 22, ground := Ground.data }, { on := 14, ground := Ground.guard }], guard := some (14, false) }) (v := .bool true) rfl (by kernel_rfl) (by kernel_rfl) (by kernel_rfl) (fun _ _ _ h => h) (Or.inl ⟨by rfl, ?_⟩) (by assumption) ?_
        · (intro wq hSw; (try dsimp only at hSw); go_simp; first | done | with_reducible rfl | simp)
        try simp only [Act.put, List.setIfInBounds_toArray, List.set_cons_zero, List.set_cons_succ]
        refine wpAnyH_take (i := 24) (oi := { dst := some 55, op := Op.pick (Operand.tmp 45) (Operand.const (Value.bool true)) (Operand.tmp 54), type := 4, pos := "ref.go:26", after := #[{ on := 14, ground := Ground.data }, { on := 23, ground := Ground.data }], guard := none }) (v := ?_) rfl (by kernel_rfl) (by kernel_rfl) (by kernel_rfl) (fun _ _ _ h => h) (Or.inl ⟨by rfl, ?_⟩) (by assumption) ?_
        rotate_left
        · (intro wq hSw; (try dsimp only at hSw); go_simp; first | done | with_reducible rfl)
        try simp only [Act.put, List.setIfInBounds_toArray, List.set_cons_zero, List.set_cons_succ]
        refine wpAnyH_done (by kernel_rfl) ?_ _
        clear hHeld
        go_wp2_with fail
        go_ret
        exact ⟨ret_bool HFX.out.symm, hN.trans (hn.trans hn3)⟩
      · have hj := place_at HX.out hin
        have HNX := Lib.hid (show goodL (ms.take (k + 1)) = true by rw [good_next HX.out, HG.out, HM.out, show (ms.take k).contains x = false by simpa using hin]; rfl)
        have hpl := fun wx hx => refPlace_any e (.slice (some ⟨b, off, none⟩) ms.length cap) ms x wx hl hx
        rw [hj] at hpl
        clear hin hj
        go_upto_region 6 with fail
        refine wp_region_held_drew (S := fun w' => Held wr w') (by kernel_rfl) (Held.of (New.refl _).drew) (fun hHeld => ?_)
        refine wpAnyH_take (i := 0) (oi := { dst := some 31, op := Op.fieldAddr 25 (Operand.tmp 1) 1, type := 0, pos := "ref.go:26", after := #[], guard := none }) (v := ?_) rfl (by kernel_rfl) (by kernel_rfl) (by kernel_rfl) (fun _ _ _ h => h) (Or.inl ⟨by rfl, ?_⟩) (by assumption) ?_
        rotate_left
        · (intro wq hSw; (try dsimp only at hSw); go_simp; first | done | with_reducible rfl)
        try simp only [Act.put, List.setIfInBounds_toArray, List.set_cons_zero, List.set_cons_succ]
        refine wpAnyH_take (i := 1) (oi := { dst := some 32, op := Op.load 23 (Operand.tmp 31), type := 23, pos := "ref.go:26", after := #[{ on := 0, ground := Ground.data }], guard := none }) (v := ?_) rfl (by kernel_rfl) (by kernel_rfl) (by kernel_rfl) (fun _ _ _ h => h) (Or.inl ⟨by rfl, ?_⟩) (by assumption) ?_
        rotate_left
        · (intro wq hSw; (try dsimp only at hSw); go_simp; first | done | with_reducible rfl)
        try simp only [Act.put, List.setIfInBounds_toArray, List.set_cons_zero, List.set_cons_succ]
        refine wpAnyH_take (i := 2) (oi := { dst := some 33, op := Op.move (Operand.tmp 3), type := 3, pos := "ref.go:26", after := #[], guard := none }) (v := ?_) rfl (by kernel_rfl) (by kernel_rfl) (by kernel_rfl) (fun _ _ _ h => h) (Or.inl ⟨by rfl, ?_⟩) (by assumption) ?_
        rotate_left
        · (intro wq hSw; (try dsimp only at hSw); go_simp; first | done | with_reducible rfl)
        try simp only [Act.put, List.setIfInBounds_toArray, List.set_cons_zero, List.set_cons_succ]
        refine wpAnyH_take (i := 3) (oi := { dst := some 34, op := Op.indexAddr 23 (Operand.tmp 32) (Operand.tmp 33), type := 0, pos := "ref.go:26", after := #[{ on := 1, ground := Ground.data }, { on := 2, ground := Ground.data }], guard := none }) (v := ?_) rfl (by kernel_rfl) (by kernel_rfl) (by kernel_rfl) (fun _ _ _ h => h) (Or.inl ⟨by rfl, ?_⟩) (by assumption) ?_
        rotate_left
        · (intro wq hSw; (try dsimp only at hSw); go_simp; first | done | with_reducible rfl)
        try simp only [Act.put, List.setIfInBounds_toArray, List.set_cons_zero, List.set_cons_succ]
        refine wpAnyH_take (i := 4) (oi := { dst := some 35, op := Op.load 3 (Operand.tmp 34), type := 3, pos := "ref.go:26", after := #[{ on := 3, ground := Ground.data }], guard := none }) (v := ?_) rfl (by kernel_rfl) (by kernel_rfl) (by kernel_rfl) (fun _ _ _ h => h) (Or.inl ⟨by rfl, ?_⟩) (by assumption) ?_
        rotate_left
        · (intro wq hSw; (try dsimp only at hSw); go_simp; first | done | with_reducible rfl)
        try simp only [Act.put, List.setIfInBounds_toArray, List.set_cons_zero, List.set_cons_succ]
        refine wpAnyH_take (i := 5) (oi := { dst := some 36, op := Op.binOp BinOp.lss 3 (Operand.tmp 35) (Operand.const (Value.int IntKind.i64 0)) 3, type := 4, pos := "ref.go:26", after := #[{ on := 4, ground := Ground.data }], guard := none }) (v := .bool false) rfl (by kernel_rfl) (by kernel_rfl) (by kernel_rfl) (fun _ _ _ h => h) (Or.inl ⟨by rfl, ?_⟩) (by assumption) ?_
        · (intro wq hSw; (try dsimp only at hSw); go_simp; first | done | with_reducible rfl | simp)
        try simp only [Act.put, List.setIfInBounds_toArray, List.set_cons_zero, List.set_cons_succ]
        refine wpAnyH_take (i := 6) (oi := { dst := some 37, op := Op.move (Operand.tmp 36), type := 4, pos := "ref.go:26", after := #[{ on := 5, ground := Ground.data }], guard := none }) (v := ?_) rfl (by kernel_rfl) (by kernel_rfl) (by kernel_rfl) (fun _ _ _ h => h) (Or.inl ⟨by rfl, ?_⟩) (by assumption) ?_
        rotate_left
        · (intro wq hSw; (try dsimp only at hSw); go_simp; first | done | with_reducible rfl)
        try simp only [Act.put, List.setIfInBounds_toArray, List.set_cons_zero, List.set_cons_succ]
        refine wpAnyH_take (i := 7) (oi := { dst := some 38, op := Op.fieldAddr 25 (Operand.tmp 1) 1, type := 0, pos := "ref.go:26", after := #[{ on := 6, ground := Ground.guard }], guard := some (6, false) }) (v := ?_) rfl (by kernel_rfl) (by kernel_rfl) (by kernel_rfl) (fun _ _ _ h => h) (Or.inl ⟨by rfl, ?_⟩) (by assumption) ?_
        rotate_left
        · (intro wq hSw; (try dsimp only at hSw); go_simp; first | done | with_reducible rfl)
        try simp only [Act.put, List.setIfInBounds_toArray, List.set_cons_zero, List.set_cons_succ]
        refine wpAnyH_take (i := 8) (oi := { dst := some 39, op := Op.load 23 (Operand.tmp 38), type := 23, pos := "ref.go:26", after := #[{ on := 7, ground := Ground.data }, { on := 6, ground := Ground.guard }], guard := some (6, false) }) (v := ?_) rfl (by kernel_rfl) (by kernel_rfl) (by kernel_rfl) (fun _ _ _ h => h) (Or.inl ⟨by rfl, ?_⟩) (by assumption) ?_
        rotate_left
        · (intro wq hSw; (try dsimp only at hSw); go_simp; first | done | with_reducible rfl)
        try simp only [Act.put, List.setIfInBounds_toArray, List.set_cons_zero, List.set_cons_succ]
        refine wpAnyH_take (i := 9) (oi := { dst := some 40, op := Op.move (Operand.tmp 3), type := 3, pos := "ref.go:26", after := #[{ on := 6, ground := Ground.guard }], guard := some (6, false) }) (v := ?_) rfl (by kernel_rfl) (by kernel_rfl) (by kernel_rfl) (fun _ _ _ h => h) (Or.inl ⟨by rfl, ?_⟩) (by assumption) ?_
        rotate_left
        · (intro wq hSw; (try dsimp only at hSw); go_simp; first | done | with_reducible rfl)
        try simp only [Act.put, List.setIfInBounds_toArray, List.set_cons_zero, List.set_cons_succ]
        refine wpAnyH_take (i := 10) (oi := { dst := some 41, op := Op.indexAddr 23 (Operand.tmp 39) (Operand.tmp 40), type := 0, pos := "ref.go:26", after := #[{ on := 8, ground := Ground.data }, { on := 9, ground := Ground.data }, { on := 6, ground := Ground.guard }], guard := some (6, false) }) (v := ?_) rfl (by kernel_rfl) (by kernel_rfl) (by kernel_rfl) (fun _ _ _ h => h) (Or.inl ⟨by rfl, ?_⟩) (by assumption) ?_
        rotate_left
        · (intro wq hSw; (try dsimp only at hSw); go_simp; first | done | with_reducible rfl)
        try simp only [Act.put, List.setIfInBounds_toArray, List.set_cons_zero, List.set_cons_succ]
        refine wpAnyH_take (i := 11) (oi := { dst := some 42, op := Op.load 3 (Operand.tmp 41), type := 3, pos := "ref.go:26", after := #[{ on := 10, ground := Ground.data }, { on := 6, ground := Ground.guard }], guard := some (6, false) }) (v := ?_) rfl (by kernel_rfl) (by kernel_rfl) (by kernel_rfl) (fun _ _ _ h => h) (Or.inl ⟨by rfl, ?_⟩) (by assumption) ?_
        rotate_left
        · (intro wq hSw; (try dsimp only at hSw); go_simp; first | done | with_reducible rfl)
        try simp only [Act.put, List.setIfInBounds_toArray, List.set_cons_zero, List.set_cons_succ]
        refine wpAnyH_take (i := 12) (oi := { dst := some 43, op := Op.binOp BinOp.gtr 3 (Operand.tmp 42) (Operand.const (Value.int IntKind.i64 63)) 3, type := 4, pos := "ref.go:26", after := #[{ on := 11, ground := Ground.data }, { on := 6, ground := Ground.guard }], guard := some (6, false) }) (v := .bool false) rfl (by kernel_rfl) (by kernel_rfl) (by kernel_rfl) (fun _ _ _ h => h) (Or.inl ⟨by rfl, ?_⟩) (by assumption) ?_
        · (intro wq hSw; (try dsimp only at hSw); go_simp; first | done | with_reducible rfl | simp)
        try simp only [Act.put, List.setIfInBounds_toArray, List.set_cons_zero, List.set_cons_succ]
        refine wpAnyH_take (i := 13) (oi := { dst := some 44, op := Op.pick (Operand.tmp 37) (Operand.const (Value.bool true)) (Operand.tmp 43), type := 4, pos := "ref.go:26", after := #[{ on := 6, ground := Ground.data }, { on := 12, ground := Ground.data }], guard := none }) (v := ?_) rfl (by kernel_rfl) (by kernel_rfl) (by kernel_rfl) (fun _ _ _ h => h) (Or.inl ⟨by rfl, ?_⟩) (by assumption) ?_
        rotate_left
        · (intro wq hSw; (try dsimp only at hSw); go_simp; first | done | with_reducible rfl)
        try simp only [Act.put, List.setIfInBounds_toArray, List.set_cons_zero, List.set_cons_succ]
        refine wpAnyH_take (i := 14) (oi := { dst := some 45, op := Op.move (Operand.tmp 44), type := 4, pos := "ref.go:26", after := #[{ on := 13, ground := Ground.data }, { on := 6, ground := Ground.chain }], guard := none }) (v := ?_) rfl (by kernel_rfl) (by kernel_rfl) (by kernel_rfl) (fun _ _ _ h => h) (Or.inl ⟨by rfl, ?_⟩) (by assumption) ?_
        rotate_left
        · (intro wq hSw; (try dsimp only at hSw); go_simp; first | done | with_reducible rfl)
        try simp only [Act.put, List.setIfInBounds_toArray, List.set_cons_zero, List.set_cons_succ]
        refine wpAnyH_take (i := 15) (oi := { dst := some 46, op := Op.load 25 (Operand.tmp 1), type := 25, pos := "ref.go:26", after := #[{ on := 14, ground := Ground.guard }], guard := some (14, false) }) (v := ?_) rfl (by kernel_rfl) (by kernel_rfl) (by kernel_rfl) (fun _ _ _ h => h) (Or.inl ⟨by rfl, ?_⟩) (by assumption) ?_
        rotate_left
        · (intro wq hSw; (try dsimp only at hSw); go_simp; first | done | with_reducible rfl)
        try simp only [Act.put, List.setIfInBounds_toArray, List.set_cons_zero, List.set_cons_succ]
        refine wpAnyH_take (i := 16) (oi := { dst := some 47, op := Op.fieldAddr 25 (Operand.tmp 1) 1, type := 0, pos := "ref.go:26", after := #[{ on := 14, ground := Ground.guard }], guard := some (14, false) }) (v := ?_) rfl (by kernel_rfl) (by kernel_rfl) (by kernel_rfl) (fun _ _ _ h => h) (Or.inl ⟨by rfl, ?_⟩) (by assumption) ?_
        rotate_left
        · (intro wq hSw; (try dsimp only at hSw); go_simp; first | done | with_reducible rfl)
        try simp only [Act.put, List.setIfInBounds_toArray, List.set_cons_zero, List.set_cons_succ]
        refine wpAnyH_take (i := 17) (oi := { dst := some 48, op := Op.load 23 (Operand.tmp 47), type := 23, pos := "ref.go:26", after := #[{ on := 16, ground := Ground.data }, { on := 14, ground := Ground.guard }], guard := some (14, false) }) (v := ?_) rfl (by kernel_rfl) (by kernel_rfl) (by kernel_rfl) (fun _ _ _ h => h) (Or.inl ⟨by rfl, ?_⟩) (by assumption) ?_
        rotate_left
        · (intro wq hSw; (try dsimp only at hSw); go_simp; first | done | with_reducible rfl)
        try simp only [Act.put, List.setIfInBounds_toArray, List.set_cons_zero, List.set_cons_succ]
        refine wpAnyH_take (i := 18) (oi := { dst := some 49, op := Op.move (Operand.tmp 3), type := 3, pos := "ref.go:26", after := #[{ on := 14, ground := Ground.guard }], guard := some (14, false) }) (v := ?_) rfl (by kernel_rfl) (by kernel_rfl) (by kernel_rfl) (fun _ _ _ h => h) (Or.inl ⟨by rfl, ?_⟩) (by assumption) ?_
        rotate_left
        · (intro wq hSw; (try dsimp only at hSw); go_simp; first | done | with_reducible rfl)
        try simp only [Act.put, List.setIfInBounds_toArray, List.set_cons_zero, List.set_cons_succ]
        refine wpAnyH_take (i := 19) (oi := { dst := some 50, op := Op.indexAddr 23 (Operand.tmp 48) (Operand.tmp 49), type := 0, pos := "ref.go:26", after := #[{ on := 17, ground := Ground.data }, { on := 18, ground := Ground.data }, { on := 14, ground := Ground.guard }], guard := some (14, false) }) (v := ?_) rfl (by kernel_rfl) (by kernel_rfl) (by kernel_rfl) (fun _ _ _ h => h) (Or.inl ⟨by rfl, ?_⟩) (by assumption) ?_
        rotate_left
        · (intro wq hSw; (try dsimp only at hSw); go_simp; first | done | with_reducible rfl)
        try simp only [Act.put, List.setIfInBounds_toArray, List.set_cons_zero, List.set_cons_succ]
        refine wpAnyH_take (i := 20) (oi := { dst := some 51, op := Op.load 3 (Operand.tmp 50), type := 3, pos := "ref.go:26", after := #[{ on := 19, ground := Ground.data }, { on := 14, ground := Ground.guard }], guard := some (14, false) }) (v := ?_) rfl (by kernel_rfl) (by kernel_rfl) (by kernel_rfl) (fun _ _ _ h => h) (Or.inl ⟨by rfl, ?_⟩) (by assumption) ?_
        rotate_left
        · (intro wq hSw; (try dsimp only at hSw); go_simp; first | done | with_reducible rfl)
        try simp only [Act.put, List.setIfInBounds_toArray, List.set_cons_zero, List.set_cons_succ]
        refine wpAnyH_take (i := 22) (oi := { dst := some 53, op := Op.move (Operand.tmp 3), type := 3, pos := "ref.go:26", after := #[{ on := 14, ground := Ground.guard }], guard := some (14, false) }) (v := ?_) rfl (by kernel_rfl) (by kernel_rfl) (by kernel_rfl) (fun _ _ _ h => h) (Or.inl ⟨by rfl, ?_⟩) (by assumption) ?_
        rotate_left
        · (intro wq hSw; (try dsimp only at hSw); go_simp; first | done | with_reducible rfl)
        try simp only [Act.put, List.setIfInBounds_toArray, List.set_cons_zero, List.set_cons_succ]
        refine wpAnyH_ready (rs := [21]) (by kernel_rfl) (by simp) ?_
        refine AllReadyH.cons (o := { dst := some 52, op := Op.call { callee := Callee.value (Operand.func 24), args := #[Operand.tmp 46, Operand.tmp 51], argTypes := #[25, 3] }, type := 3, pos := "ref.go:26", after := #[{ on := 15, ground := Ground.data }, { on := 20, ground := Ground.data }, { on := 14, ground := Ground.chain }, { on := 14, ground := Ground.guard }], guard := some (14, false) }) rfl (fun K hK => ?_) AllReadyH.nil
        go_simp
        refine (hpl _ (HSr.out.new ((New.refl wr).drew))).mono ?_
        rintro e1 w2 ⟨rfl, hn2⟩
        have hn3 := (New.refl wr).drew.trans hn2
        refine hK.out _ _ ?_ (fun hHeld => ?_)
        · exact Held.of hn3
        clear hK K
        try simp only [Act.put, List.setIfInBounds_toArray, List.set_cons_zero, List.set_cons_succ]
        refine wpAnyH_take (i := 23) (oi := { dst := some 54, op := Op.binOp BinOp.neq 3 (Operand.tmp 52) (Operand.tmp 53) 3, type := 4, pos := "ref.go:26", after := #[{ on := 21, ground := Ground.data }, { on := 22, ground := Ground.data }, { on := 14, ground := Ground.guard }], guard := some (14, false) }) (v := .bool false) rfl (by kernel_rfl) (by kernel_rfl) (by kernel_rfl) (fun _ _ _ h => h) (Or.inl ⟨by rfl, ?_⟩) (by assumption) ?_
        · (intro wq hSw; (try dsimp only at hSw); go_simp; first | done | with_reducible rfl | simp)
        try simp only [Act.put, List.setIfInBounds_toArray, List.set_cons_zero, List.set_cons_succ]
        refine wpAnyH_take (i := 24) (oi := { dst := some 55, op := Op.pick (Operand.tmp 45) (Operand.const (Value.bool true)) (Operand.tmp 54), type := 4, pos := "ref.go:26", after := #[{ on := 14, ground := Ground.data }, { on := 23, ground := Ground.data }], guard := none }) (v := ?_) rfl (by kernel_rfl) (by kernel_rfl) (by kernel_rfl) (fun _ _ _ h => h) (Or.inl ⟨by rfl, ?_⟩) (by assumption) ?_
        rotate_left
        · (intro wq hSw; (try dsimp only at hSw); go_simp; first | done | with_reducible rfl)
        try simp only [Act.put, List.setIfInBounds_toArray, List.set_cons_zero, List.set_cons_succ]
        refine wpAnyH_done (by kernel_rfl) ?_ _
        clear hHeld
        go_wp2_with fail
        go_roundw
        case rel => exact ⟨k + 1, by omega, by go_num, HNX.out, hn.trans hn3⟩
        case measure => simp [intOf]; omega
    · have hlt2 : ¬ (k : Int) < (ms.length : Int) := by omega
      have HFX := Lib.hid (show chkC ⟨e, ms⟩ = true by rw [HF.out, ← HG.out, List.take_of_length_le (by omega)])
      go_wp2_with fail
      go_ret
      exact ⟨ret_bool HFX.out.symm, hN.trans hn⟩

/-- The same configurations. -/
def sameC (c d : Cfg) : Bool := decide (c.e = d.e) && decide (c.ms = d.ms)
def SaRel (ms ns : List Int) (k : Nat) (w wr : World) : Prop := ms.take k = ns.take k ∧ New w wr

set_option maxRecDepth 100000 in
set_option maxHeartbeats 4000000 in
theorem refSame_any (e : Nat) (v : Value) (ms : List Int) (e2 : Nat) (v2 : Value) (ns : List Int) (w : World) (hl : ms.length ≤ 1000000000) (hl2 : ns.length ≤ 1000000000) (hs : SlIn w 1 iEnc v ms) (hs2 : SlIn w 1 iEnc v2 ns) :
    Calls Tryd.prog 16 #[.agg #[.int .u64 (e : Int), v], .agg #[.int .u64 (e2 : Int), v2]] w fun e' w' => e' = .returned (.bool (sameC ⟨e, ms⟩ ⟨e2, ns⟩)) ∧ New w w' := by
  obtain ⟨A, m, cap, rfl⟩ := hs.shape
  obtain ⟨A', c', hv, hlc, -⟩ := id hs
  cases hv
  obtain ⟨B, m2, cap2, rfl⟩ := hs2.shape
  obtain ⟨A', c', hv, hlc2, -⟩ := id hs2
  cases hv
  have hN := ((New.refl w).alloc (.cells #[.int .u64 (e : Int), .slice A ms.length cap] 25)).alloc (.cells #[.int .u64 (e2 : Int), .slice B ns.length cap2] 25)
  have hB1 := (Blk.mk_new w 25 #[.int .u64 (e : Int), .slice A ms.length cap]).alloc (.cells #[.int .u64 (e2 : Int), .slice B ns.length cap2] 25)
  have hB2 := Blk.mk_new (w.alloc (.cells #[.int .u64 (e : Int), .slice A ms.length cap] 25)) 25 #[.int .u64 (e2 : Int), .slice B ns.length cap2]
  rw [World.size_alloc] at hB2
  have HB1 := Lib.hid hB1
  have HB2 := Lib.hid hB2
  have HS := Lib.hid (hs.new hN)
  have HS2 := Lib.hid (hs2.new hN)
  clear hB1 hB2 hs hs2
  by_cases he : e = e2
  · subst he
    by_cases hll : ms.length = ns.length
    · have HF := Lib.hid (show sameC ⟨e, ms⟩ ⟨e, ns⟩ = decide (ms = ns) by simp [sameC])
      have HLL := Lib.hid hll
      have hll2 : ((ms.length : Int) != (ns.length : Int)) = false := by rw [hll]; simp
      clear hll
      go_enter Tryd.func16, Tryd.ntmps16
      go_wp2_with fail
      generalize (w.alloc _).alloc _ = w1 at *
      go_loopw [5] (fun i wr => ∃ k : Nat, k ≤ ms.length ∧ i = .int .i64 (k : Int) ∧ SaRel ms ns k w1 wr) (fun i _ => ms.length - (intOf i).toNat)
      case atStart => exact ⟨0, by omega, rfl, rfl, New.refl _⟩
      case round =>
        obtain ⟨k, hk, rfl, hg, hn⟩ := hrel
        obtain ⟨p0, p1, p2, pz⟩ := Blk2F (HB1.out.new hn)
        obtain ⟨q0, q1, q2, qz⟩ := Blk2F (HB2.out.new hn)
        have HG := Lib.hid hg
        clear hg
        by_cases hlt : k < ms.length
        · have hlt2 : (k : Int) < (ms.length : Int) := by omega
          have hlt3 : (k : Int) < (ns.length : Int) := by have := HLL.out; omega
          have hlt4 : k < ns.length := by have := HLL.out; omega
          have hk0 : (0 : Int) ≤ (k : Int) := by omega
          obtain ⟨A', c', hv, _, hh⟩ := HS.out.new hn
          cases hv
          rcases hh with rfl | ⟨b, off, rfl, hbb, hc⟩
          · simp at hlt
          obtain ⟨x, hx⟩ : ∃ x, ms[k]? = some x := ⟨_, List.getElem?_eq_getElem hlt⟩
          have e0 := SlIn.int_at hc hx
          obtain ⟨A', c', hv, _, hh⟩ := HS2.out.new hn
          cases hv
          rcases hh with rfl | ⟨b2, off2, rfl, hbb2, hc2⟩
          · simp at hlt4
          obtain ⟨y, hy⟩ : ∃ y, ns[k]? = some y := ⟨_, List.getElem?_eq_getElem hlt4⟩
          have f0 := SlIn.int_at hc2 hy
          have HX := Lib.hid hx
          have HY := Lib.hid hy
          clear hc hx hc2 hy
          by_cases hxy : x = y
          · subst hxy
            have HNX := Lib.hid (show ms.take (k + 1) = ns.take (k + 1) by rw [take_snocI HX.out, take_snocI HY.out, HG.out])
            go_upto_region 6 with fail
            go_quiet (fail)
            go_wp2_with fail
            go_roundw
            case rel => exact ⟨k + 1, by omega, by go_num, HNX.out, hn.drewN _⟩
            case measure => simp [intOf]; omega
          · have hxb : (x != y) = true := by simpa using hxy
            have HFX := Lib.hid (show sameC ⟨e, ms⟩ ⟨e, ns⟩ = false by
              rw [HF.out]
              refine decide_eq_false fun h => hxy ?_
              have h1 := HX.out
              rw [h, HY.out] at h1
              injection h1 with h1
              exact h1.symm)
            clear hxy
            go_upto_region 6 with fail
            go_quiet (fail)
            go_wp2_with fail
            go_ret
            exact ⟨ret_bool HFX.out.symm, hN.trans (hn.drewN _)⟩
        · have hlt2 : ¬ (k : Int) < (ms.length : Int) := by omega
          have HFX := Lib.hid (show sameC ⟨e, ms⟩ ⟨e, ns⟩ = true by
            rw [HF.out]
            have h := HG.out
            rw [List.take_of_length_le (by omega), List.take_of_length_le (by have := HLL.out; omega)] at h
            exact decide_eq_true h)
          go_wp2_with fail
          go_ret
          exact ⟨ret_bool HFX.out.symm, hN.trans hn⟩
    · have hll2 : ((ms.length : Int) != (ns.length : Int)) = true := by rw [bne_iff_ne]; omega
      have HF := Lib.hid (show sameC ⟨e, ms⟩ ⟨e, ns⟩ = false by simp only [sameC, Bool.and_eq_false_iff, decide_eq_false_iff_not]; exact .inr fun h => hll (by rw [h]))
      clear hll
      go_enter Tryd.func16, Tryd.ntmps16
      go_wp2_with fail
      go_ret
      exact ⟨ret_bool HF.out.symm, hN⟩
  · have he2 : ((e : Int) != (e2 : Int)) = true := by rw [bne_iff_ne]; omega
    have HF := Lib.hid (show sameC ⟨e, ms⟩ ⟨e2, ns⟩ = false by simp [sameC, he])
    clear he
    go_enter Tryd.func16, Tryd.ntmps16
    go_wp2_with fail
    go_ret
    exact ⟨ret_bool HF.out.symm, hN⟩

set_option maxHeartbeats 1000000 in
theorem few_any (e : Nat) (v : Value) (ms : List Int) (w : World) (hs : SlIn w 1 iEnc v ms) :
    Calls Tryd.prog 10 #[.agg #[.int .u64 (e : Int), v]] w fun e' w' => e' = .returned (.bool (decide (ms.length ≤ 20))) ∧ New w w' := by
  obtain ⟨A, m, cap, rfl⟩ := hs.shape
  obtain ⟨A', c', hv, hlc, -⟩ := id hs
  cases hv
  clear hs
  have hd : decide ((ms.length : Int) ≤ 20) = decide (ms.length ≤ 20) := by simp only [decide_eq_decide]; omega
  have HD := Lib.hid hd
  clear hd
  go_enter Tryd.func10, Tryd.ntmps10
  go_wp2_with fail
  go_ret
  exact ⟨by first | rfl | (rw [← HD.out]; rfl) | (rw [← HD.out]), (New.refl w).alloc _⟩
end Go.Proofs.YtinpbjknakncdaaDoor

