/- The walk of the law BatchFinds (chapter 5): for every input it answers true. Printed by genLaw05.py. -/
import Derived.Test.YtdobingccipkkaaLaw05
namespace Go.Proofs.Ytdobingccipkkaa
open Go.RowKit Go.Lap
set_option linter.unusedVariables false

/-- No write of the key so far. -/
def FindRel (key : ByteArray) (l : List Wri) (k : Nat) (w0 wr : World) : Prop := findB key l = findB key (l.drop k) ∧ New w0 wr
theorem find_at {key : ByteArray} {l : List Wri} {k : Nat} {x : Wri} (h : l[k]? = some x) : findB key (l.drop k) = if keyEq x key = true then some x else findB key (l.drop (k + 1)) := by
  obtain ⟨hk, hx⟩ := List.getElem?_eq_some_iff.1 h
  rw [List.drop_eq_getElem_cons hk, hx]
  unfold findB
  rw [List.find?_cons]
  cases keyEq x key <;> simp

set_option maxRecDepth 100000 in
set_option maxHeartbeats 8000000 in
theorem batchFinds_walk (c r s : Nat) (v : Value) (l : List Wri) (key : ByteArray) (w : World) (hs : SlIn w 3 Wri.enc v l) :
    Calls Try.prog 8 #[.agg #[.int .u64 (c : Int), .int .u64 (r : Int), .int .u64 (s : Int), v], .string key] w fun e w' => e = .returned (.bool true) ∧ New w w' := by
  obtain ⟨A, n, cap, rfl⟩ := hs.shape
  have hB := Blk.mk_new w 25 #[.int .u64 (c : Int), .int .u64 (r : Int), .int .u64 (s : Int), .slice A n cap]
  have hN := (New.refl w).alloc (.cells #[.int .u64 (c : Int), .int .u64 (r : Int), .int .u64 (s : Int), .slice A n cap] 25)
  have hs1 := hs.new hN
  clear hs
  go_enter Try.func8, Try.ntmps8
  go_wp2_with fail
  refine (few_all c r s _ l _ hs1).mono ?_
  rintro e w1 ⟨rfl, hn1⟩
  have hB1 := hB.new hn1
  have hN1 := hN.trans hn1
  have hs2 := hs1.new hn1
  clear hB hN hs1 hn1
  obtain ⟨p0, p1, p2, p3, p4, pz⟩ := Blk4F hB1
  cases hf : fewB l with
  | false =>
    clear hf
    go_wp2_with fail
    refine (awake05 _).mono ?_
    rintro e w2 ⟨rfl, hn2⟩
    go_wp2_with fail
    go_ret
    exact ⟨rfl, hN1.trans hn2⟩
  | true =>
    have hl80 := fewB_len hf
    clear hf
    go_wp2_with fail
    refine (find_any c r s _ l key w1 (by omega) hs2).mono ?_
    rintro e w2 ⟨hn2, hfp⟩
    have hB2 := hB1.new hn2
    have hN2 := hN1.trans hn2
    have hs3 := hs2.new hn2
    clear hB1 hN1 hs2 hn2 p0 p1 p2 p3 p4 pz
    cases hff : findB key l with
    | none =>
      rw [hff] at hfp
      dsimp only at hfp
      subst hfp
      have HF := Lib.hid hff
      clear hff
      have hX := Blk.mk_new w2 43 #[.string ⟨#[]⟩, .string ⟨#[]⟩, .bool false]
      have hAx := (New.refl w2).alloc (.cells #[.string ⟨#[]⟩, .string ⟨#[]⟩, .bool false] 43)
      have HB := Lib.hid (hB2.new hAx)
      have HN := Lib.hid (hN2.trans hAx)
      have HS := Lib.hid (hs3.new hAx)
      have HX := Lib.hid hX
      clear hB2 hN2 hs3 hX hAx
      obtain ⟨p0, p1, p2, p3, p4, pz⟩ := Blk4F HB.out
      obtain ⟨A', cap', hv, hlc, hh⟩ := HS.out
      cases hv
      go_wp2_with fail
      generalize w2.heap.size = gx at *
      generalize w2.alloc _ = w3 at *
      go_loopw [7] (fun i wr => ∃ k : Nat, k ≤ l.length ∧ i = .int .i64 (k : Int) ∧ FindRel key l k w3 wr) (fun i _ => l.length - (intOf i).toNat)
      case atStart => exact ⟨0, by omega, rfl, rfl, New.refl _⟩
      case round =>
        clear p0 p1 p2 p3 p4 pz
        obtain ⟨k, hk, rfl, hfr, hn⟩ := hrel
        have HFR := Lib.hid hfr
        clear hfr
        obtain ⟨p0, p1, p2, p3, p4, pz⟩ := Blk4F (HB.out.new hn)
        obtain ⟨q0, q1, q2, q3, qz⟩ := Blk3F (HX.out.new hn)
        by_cases hlt : k < l.length
        · have hlt2 : (k : Int) < (l.length : Int) := by omega
          have hk0 : (0 : Int) ≤ (k : Int) := by omega
          rcases hh with rfl | ⟨b, off, rfl, hbb, hc⟩
          · simp at hlt
          obtain ⟨y, hy⟩ : ∃ y, l[k]? = some y := ⟨_, List.getElem?_eq_getElem hlt⟩
          obtain ⟨e0, e1, e2⟩ := SlIn.three (fun k x h j u hu => (hn.cells.1 _ _ hbb).trans (hc k x h j u hu)) hy
          have hFX := HFR.out.trans (find_at hy)
          have HFX := Lib.hid hFX
          clear hFX
          have hbz : b < wr.heap.size := Nat.lt_of_lt_of_le hbb hn.size
          have HC := Lib.hid hc
          have HY := Lib.hid hy
          clear hc hy
          by_cases hb : y.key.toList = key.toList
          · have hkq : keyEq y key = true := decide_eq_true hb
            have hFE := HFX.out
            rw [hkq, if_pos rfl, HF.out] at hFE
            cases hFE
          · have hkq : keyEq y key = false := decide_eq_false hb
            have hb2 : (y.key.toList == key.toList) = false := by simpa using hb
            have hFE := HFX.out
            rw [hkq, if_neg (by decide)] at hFE
            have HFE := Lib.hid hFE
            clear hFE hkq HFX HFR
            go_wp2_with fail
            go_roundw
            case rel => exact ⟨k + 1, by omega, by go_num, HFE.out, hn⟩
            case measure => simp [intOf]; omega
        · have hlt2 : ¬ (k : Int) < (l.length : Int) := by omega
          have hFE := HFR.out
          rw [List.drop_eq_nil_of_le (by omega), HF.out] at hFE
          clear hFE HFR
          go_wp2_with fail
          refine (awake05 _).mono ?_
          rintro e w4 ⟨rfl, hn4⟩
          obtain ⟨t0, t1, t2, t3, tz⟩ := Blk3F (HX.out.new (hn.trans hn4))
          have hN4 := HN.out.trans (hn.trans hn4)
          clear q0 q1 q2 q3 qz p0 p1 p2 p3 p4 pz hn4
          go_wp2_with fail
          go_ret
          exact ⟨rfl, hN4⟩
    | some x =>
      rw [hff] at hfp
      dsimp only at hfp
      subst hfp
      have HF := Lib.hid hff
      clear hff
      have hX := Blk.mk_new w2 43 #[.string x.key, .string x.val, .bool x.gone]
      have hAx := (New.refl w2).alloc (.cells #[.string x.key, .string x.val, .bool x.gone] 43)
      have HB := Lib.hid (hB2.new hAx)
      have HN := Lib.hid (hN2.trans hAx)
      have HS := Lib.hid (hs3.new hAx)
      have HX := Lib.hid hX
      clear hB2 hN2 hs3 hX hAx
      obtain ⟨p0, p1, p2, p3, p4, pz⟩ := Blk4F HB.out
      obtain ⟨A', cap', hv, hlc, hh⟩ := HS.out
      cases hv
      go_wp2_with fail
      generalize w2.heap.size = gx at *
      generalize w2.alloc _ = w3 at *
      go_loopw [7] (fun i wr => ∃ k : Nat, k ≤ l.length ∧ i = .int .i64 (k : Int) ∧ FindRel key l k w3 wr) (fun i _ => l.length - (intOf i).toNat)
      case atStart => exact ⟨0, by omega, rfl, rfl, New.refl _⟩
      case round =>
        clear p0 p1 p2 p3 p4 pz
        obtain ⟨k, hk, rfl, hfr, hn⟩ := hrel
        have HFR := Lib.hid hfr
        clear hfr
        obtain ⟨p0, p1, p2, p3, p4, pz⟩ := Blk4F (HB.out.new hn)
        obtain ⟨q0, q1, q2, q3, qz⟩ := Blk3F (HX.out.new hn)
        by_cases hlt : k < l.length
        · have hlt2 : (k : Int) < (l.length : Int) := by omega
          have hk0 : (0 : Int) ≤ (k : Int) := by omega
          rcases hh with rfl | ⟨b, off, rfl, hbb, hc⟩
          · simp at hlt
          obtain ⟨y, hy⟩ : ∃ y, l[k]? = some y := ⟨_, List.getElem?_eq_getElem hlt⟩
          obtain ⟨e0, e1, e2⟩ := SlIn.three (fun k x h j u hu => (hn.cells.1 _ _ hbb).trans (hc k x h j u hu)) hy
          have hFX := HFR.out.trans (find_at hy)
          have HFX := Lib.hid hFX
          clear hFX
          have hbz : b < wr.heap.size := Nat.lt_of_lt_of_le hbb hn.size
          have HC := Lib.hid hc
          have HY := Lib.hid hy
          clear hc hy
          by_cases hb : y.key.toList = key.toList
          · have hkq : keyEq y key = true := decide_eq_true hb
            have hFE := HFX.out
            rw [hkq, if_pos rfl, HF.out] at hFE
            obtain rfl := Option.some.inj hFE
            clear hFE hkq HFX HFR
            go_upto_region 8 with fail
            refine wp_region_held_drew (S := fun w' => Held wr w') (by kernel_rfl) (Held.of (New.refl _).drew) (fun hHeld => ?_)
            refine wpAnyH_ready (rs := [0]) (by kernel_rfl) (by simp) ?_
            refine AllReadyH.cons (o := { dst := some 33, op := Op.call { callee := Callee.value (Operand.func 11), args := #[], argTypes := #[] }, type := 4, pos := "law.go:100", after := #[], guard := none }) rfl (fun K hK => ?_) AllReadyH.nil
            go_simp
            refine (awake05 _).mono ?_
            rintro e wk0 ⟨rfl, hk0'⟩
            have hh0 := (New.refl wr).drew.trans hk0'
            refine hK.out _ _ ?_ (fun hHeld => ?_)
            · exact Held.of hh0
            clear hK K
            try simp only [Act.put, List.setIfInBounds_toArray, List.set_cons_zero, List.set_cons_succ]
            refine wpAnyH_take (i := 1) (oi := { dst := some 34, op := Op.move (Operand.tmp 33), type := 4, pos := "law.go:100", after := #[{ on := 0, ground := Ground.data }, { on := 0, ground := Ground.chain }], guard := none }) (v := ?_) rfl (by kernel_rfl) (by kernel_rfl) (by kernel_rfl) (fun _ _ _ h => h) (Or.inl ⟨by rfl, ?_⟩) (by assumption) ?_
            rotate_left
            · (intro wq hSw; (try dsimp only at hSw); go_simp; first | done | with_reducible rfl)
            try simp only [Act.put, List.setIfInBounds_toArray, List.set_cons_zero, List.set_cons_succ]
            refine wpAnyH_take (i := 2) (oi := { dst := some 35, op := Op.move (Operand.tmp 6), type := 4, pos := "law.go:100", after := #[{ on := 1, ground := Ground.guard }], guard := some (1, true) }) (v := ?_) rfl (by kernel_rfl) (by kernel_rfl) (by kernel_rfl) (fun _ _ _ h => h) (Or.inl ⟨by rfl, ?_⟩) (by assumption) ?_
            rotate_left
            · (intro wq hSw; (try dsimp only at hSw); go_simp; first | done | with_reducible rfl)
            try simp only [Act.put, List.setIfInBounds_toArray, List.set_cons_zero, List.set_cons_succ]
            refine wpAnyH_take (i := 3) (oi := { dst := some 36, op := Op.pick (Operand.tmp 34) (Operand.tmp 35) (Operand.const (Value.bool false)), type := 4, pos := "law.go:100", after := #[{ on := 1, ground := Ground.data }, { on := 2, ground := Ground.data }], guard := none }) (v := ?_) rfl (by kernel_rfl) (by kernel_rfl) (by kernel_rfl) (fun _ _ _ h => h) (Or.inl ⟨by rfl, ?_⟩) (by assumption) ?_
            rotate_left
            · (intro wq hSw; (try dsimp only at hSw); go_simp; first | done | with_reducible rfl)
            try simp only [Act.put, List.setIfInBounds_toArray, List.set_cons_zero, List.set_cons_succ]
            refine wpAnyH_take (i := 4) (oi := { dst := some 37, op := Op.move (Operand.tmp 36), type := 4, pos := "law.go:100", after := #[{ on := 3, ground := Ground.data }, { on := 1, ground := Ground.chain }], guard := none }) (v := ?_) rfl (by kernel_rfl) (by kernel_rfl) (by kernel_rfl) (fun _ _ _ h => h) (Or.inl ⟨by rfl, ?_⟩) (by assumption) ?_
            rotate_left
            · (intro wq hSw; (try dsimp only at hSw); go_simp; first | done | with_reducible rfl)
            try simp only [Act.put, List.setIfInBounds_toArray, List.set_cons_zero, List.set_cons_succ]
            refine wpAnyH_take (i := 5) (oi := { dst := some 38, op := Op.load 43 (Operand.tmp 5), type := 43, pos := "law.go:100", after := #[{ on := 4, ground := Ground.guard }], guard := some (4, true) }) (v := ?_) rfl (by kernel_rfl) (by kernel_rfl) (by kernel_rfl) (fun _ _ _ h => h) (Or.inl ⟨by rfl, ?_⟩) (by assumption) ?_
            rotate_left
            · (intro wq hSw; (try dsimp only at hSw); go_simp; first | done | with_reducible rfl)
            try simp only [Act.put, List.setIfInBounds_toArray, List.set_cons_zero, List.set_cons_succ]
            refine wpAnyH_take (i := 6) (oi := { dst := some 39, op := Op.fieldAddr 25 (Operand.tmp 2) 3, type := 0, pos := "law.go:100", after := #[{ on := 4, ground := Ground.guard }], guard := some (4, true) }) (v := ?_) rfl (by kernel_rfl) (by kernel_rfl) (by kernel_rfl) (fun _ _ _ h => h) (Or.inl ⟨by rfl, ?_⟩) (by assumption) ?_
            rotate_left
            · (intro wq hSw; (try dsimp only at hSw); go_simp; first | done | with_reducible rfl)
            try simp only [Act.put, List.setIfInBounds_toArray, List.set_cons_zero, List.set_cons_succ]
            refine wpAnyH_take (i := 7) (oi := { dst := some 40, op := Op.load 23 (Operand.tmp 39), type := 23, pos := "law.go:100", after := #[{ on := 6, ground := Ground.data }, { on := 4, ground := Ground.guard }], guard := some (4, true) }) (v := ?_) rfl (by kernel_rfl) (by kernel_rfl) (by kernel_rfl) (fun _ _ _ h => h) (Or.inl ⟨by rfl, ?_⟩) (by assumption) ?_
            rotate_left
            · (intro wq hSw; (try dsimp only at hSw); go_simp; first | done | with_reducible rfl)
            try simp only [Act.put, List.setIfInBounds_toArray, List.set_cons_zero, List.set_cons_succ]
            refine wpAnyH_take (i := 8) (oi := { dst := some 41, op := Op.move (Operand.tmp 7), type := 3, pos := "law.go:100", after := #[{ on := 4, ground := Ground.guard }], guard := some (4, true) }) (v := ?_) rfl (by kernel_rfl) (by kernel_rfl) (by kernel_rfl) (fun _ _ _ h => h) (Or.inl ⟨by rfl, ?_⟩) (by assumption) ?_
            rotate_left
            · (intro wq hSw; (try dsimp only at hSw); go_simp; first | done | with_reducible rfl)
            try simp only [Act.put, List.setIfInBounds_toArray, List.set_cons_zero, List.set_cons_succ]
            refine wpAnyH_take (i := 9) (oi := { dst := some 42, op := Op.indexAddr 23 (Operand.tmp 40) (Operand.tmp 41), type := 0, pos := "law.go:100", after := #[{ on := 7, ground := Ground.data }, { on := 8, ground := Ground.data }, { on := 4, ground := Ground.guard }], guard := some (4, true) }) (v := ?_) rfl (by kernel_rfl) (by kernel_rfl) (by kernel_rfl) (fun _ _ _ h => h) (Or.inl ⟨by rfl, ?_⟩) (by assumption) ?_
            rotate_left
            · (intro wq hSw; (try dsimp only at hSw); go_simp; first | done | with_reducible rfl)
            try simp only [Act.put, List.setIfInBounds_toArray, List.set_cons_zero, List.set_cons_succ]
            refine wpAnyH_take (i := 10) (oi := { dst := some 43, op := Op.load 43 (Operand.tmp 42), type := 43, pos := "law.go:100", after := #[{ on := 9, ground := Ground.data }, { on := 4, ground := Ground.guard }], guard := some (4, true) }) (v := ?_) rfl (by kernel_rfl) (by kernel_rfl) (by kernel_rfl) (fun _ _ _ h => h) (Or.inl ⟨by rfl, ?_⟩) (by assumption) ?_
            rotate_left
            · (intro wq hSw; (try dsimp only at hSw); go_simp; first | done | with_reducible rfl)
            try simp only [Act.put, List.setIfInBounds_toArray, List.set_cons_zero, List.set_cons_succ]
            refine wpAnyH_take (i := 11) (oi := { dst := some 44, op := Op.binOp BinOp.eql 43 (Operand.tmp 38) (Operand.tmp 43) 43, type := 4, pos := "law.go:100", after := #[{ on := 5, ground := Ground.data }, { on := 10, ground := Ground.data }, { on := 4, ground := Ground.guard }], guard := some (4, true) }) (v := .bool true) rfl (by kernel_rfl) (by kernel_rfl) (by kernel_rfl) (fun _ _ _ h => h) (Or.inl ⟨by rfl, ?_⟩) (by assumption) ?_
            · (intro wq hSw; (try dsimp only at hSw); go_simp; first | done | with_reducible rfl | simp)
            try simp only [Act.put, List.setIfInBounds_toArray, List.set_cons_zero, List.set_cons_succ]
            refine wpAnyH_take (i := 12) (oi := { dst := some 45, op := Op.pick (Operand.tmp 37) (Operand.tmp 44) (Operand.const (Value.bool false)), type := 4, pos := "law.go:100", after := #[{ on := 4, ground := Ground.data }, { on := 11, ground := Ground.data }], guard := none }) (v := ?_) rfl (by kernel_rfl) (by kernel_rfl) (by kernel_rfl) (fun _ _ _ h => h) (Or.inl ⟨by rfl, ?_⟩) (by assumption) ?_
            rotate_left
            · (intro wq hSw; (try dsimp only at hSw); go_simp; first | done | with_reducible rfl)
            try simp only [Act.put, List.setIfInBounds_toArray, List.set_cons_zero, List.set_cons_succ]
            refine wpAnyH_take (i := 13) (oi := { dst := some 4, op := Op.assign (Operand.tmp 45), type := 4, pos := "law.go:100", after := #[{ on := 12, ground := Ground.data }, { on := 4, ground := Ground.chain }, { on := 0, ground := Ground.phase }, { on := 1, ground := Ground.phase }, { on := 2, ground := Ground.phase }, { on := 3, ground := Ground.phase }, { on := 4, ground := Ground.phase }, { on := 5, ground := Ground.phase }, { on := 6, ground := Ground.phase }, { on := 7, ground := Ground.phase }, { on := 8, ground := Ground.phase }, { on := 9, ground := Ground.phase }, { on := 10, ground := Ground.phase }, { on := 11, ground := Ground.phase }, { on := 12, ground := Ground.phase }], guard := none }) (v := ?_) rfl (by kernel_rfl) (by kernel_rfl) (by kernel_rfl) (fun _ _ _ h => h) (Or.inl ⟨by rfl, ?_⟩) (by assumption) ?_
            rotate_left
            · (intro wq hSw; (try dsimp only at hSw); go_simp; first | done | with_reducible rfl)
            try simp only [Act.put, List.setIfInBounds_toArray, List.set_cons_zero, List.set_cons_succ]
            refine wpAnyH_done (by kernel_rfl) ?_ _
            clear hHeld
            have hN4 := HN.out.trans (hn.trans hh0)
            go_wp2_with fail
            go_ret
            exact ⟨rfl, hN4⟩
          · have hkq : keyEq y key = false := decide_eq_false hb
            have hb2 : (y.key.toList == key.toList) = false := by simpa using hb
            have hFE := HFX.out
            rw [hkq, if_neg (by decide)] at hFE
            have HFE := Lib.hid hFE
            clear hFE hkq HFX HFR
            go_wp2_with fail
            go_roundw
            case rel => exact ⟨k + 1, by omega, by go_num, HFE.out, hn⟩
            case measure => simp [intOf]; omega
        · have hlt2 : ¬ (k : Int) < (l.length : Int) := by omega
          have hFE := HFR.out
          rw [List.drop_eq_nil_of_le (by omega), HF.out] at hFE
          cases hFE
end Go.Proofs.Ytdobingccipkkaa
