/- The walk of the law BatchSorts (chapter 5): for every input it answers true. Printed by genLaw05.py. -/
import Derived.Test.YtdobingccipkkaaLaw05
import Derived.Test.YtdobingccipkkaaBat21
namespace Go.Proofs.Ytdobingccipkkaa
open Go.RowKit Go.Lap
set_option linter.unusedVariables false

theorem find_keys (key : ByteArray) (l : List Wri) : findB key l = (ofKey key.toList l).head? := by
  unfold findB ofKey
  rw [List.head?_filter]
  rfl
theorem find_sort (key : ByteArray) (l : List Wri) : findB key (sortW l) = findB key l := by rw [find_keys, find_keys, ofKey_sortW]
theorem sort_sort (l : List Wri) : sortW (sortW l) = sortW l := sortW_rise (rise_sortW l)
theorem rise_at {l : List Wri} (h : RiseW l) {k : Nat} {x y : Wri} (hx : l[k]? = some x) (hy : l[k + 1]? = some y) : Op.bytesLess y.key.toList x.key.toList = false := by
  obtain ⟨hk, rfl⟩ := List.getElem?_eq_some_iff.1 hx
  obtain ⟨hk1, rfl⟩ := List.getElem?_eq_some_iff.1 hy
  exact List.pairwise_iff_getElem.1 h k (k + 1) hk hk1 (by omega)

set_option maxRecDepth 100000 in
set_option maxHeartbeats 8000000 in
theorem batchSorts_walk (c r s : Nat) (v : Value) (l : List Wri) (key : ByteArray) (w : World) (hs : SlIn w 3 Wri.enc v l) :
    Calls Try.prog 9 #[.agg #[.int .u64 (c : Int), .int .u64 (r : Int), .int .u64 (s : Int), v], .string key] w fun e w' => e = .returned (.bool true) ∧ New w w' := by
  obtain ⟨A, n, cap, rfl⟩ := hs.shape
  have hB := Blk.mk_new w 25 #[.int .u64 (c : Int), .int .u64 (r : Int), .int .u64 (s : Int), .slice A n cap]
  have hN := (New.refl w).alloc (.cells #[.int .u64 (c : Int), .int .u64 (r : Int), .int .u64 (s : Int), .slice A n cap] 25)
  have hs1 := hs.new hN
  clear hs
  go_enter Try.func9, Try.ntmps9
  go_wp2_with fail
  refine (few_all c r s _ l _ hs1).mono ?_
  rintro e w1 ⟨rfl, hn1⟩
  have hB1 := hB.new hn1
  have hN1 := hN.trans hn1
  have hs2 := hs1.new hn1
  clear hB hN hs1 hn1
  obtain ⟨p0, p1, p2, p3, p4, pz⟩ := Blk4F hB1
  cases hf : fewB l with
  | false =>
    clear hf
    go_wp2_with fail
    refine (awake05 _).mono ?_
    rintro e w2 ⟨rfl, hn2⟩
    go_wp2_with fail
    go_ret
    exact ⟨rfl, hN1.trans hn2⟩
  | true =>
    have hl80 := fewB_len hf
    clear hf
    go_wp2_with fail
    refine (sorted_any c r s _ l w1 (by omega) hs2).mono ?_
    rintro e w2 ⟨u, rfl, ho2, hn2⟩
    have hB2 := hB1.new hn2
    have hN2 := hN1.trans hn2
    have hs3 := hs2.new hn2
    have hr2 := Owns.slIn Wri.encOk ho2
    clear hB1 hN1 hs2 hn2 ho2 p0 p1 p2 p3 p4 pz
    have hLl := sortW_length l
    have HRise := Lib.hid (rise_sortW l)
    have HFind := Lib.hid (find_sort key l)
    have HSort := Lib.hid (sort_sort l)
    generalize sortW l = L at *
    obtain ⟨A2, cap2, rfl, hlc2, hh2⟩ := id hr2
    obtain ⟨A1, cap1, hv1, hlc1, hh1⟩ := id hs3
    cases hv1
    have HR := Lib.hid hr2
    have HS := Lib.hid hs3
    clear hr2 hs3 hh1 hlc1 hlc2
    rw [hLl] at HR ⊢
    have HLL : Hid (L.length = l.length) := Lib.hid hLl
    clear hLl
    have hG := Blk.mk_new w2 25 #[.int .u64 (c : Int), .int .u64 (r : Int), .int .u64 (s : Int), .slice A2 l.length cap2]
    have hAx := (New.refl w2).alloc (.cells #[.int .u64 (c : Int), .int .u64 (r : Int), .int .u64 (s : Int), .slice A2 l.length cap2] 25)
    have hB3 := hB2.new hAx
    have hN3 := hN2.trans hAx
    have HS3 := Lib.hid (HS.out.new hAx)
    have HR3 := Lib.hid (HR.out.new hAx)
    clear hAx hB2 hN2 HS HR hh2
    go_upto_region 4 with fail
    generalize w2.heap.size = g2 at *
    generalize w2.alloc _ = w3 at *
    have HB := Lib.hid hB3
    have HG := Lib.hid hG
    obtain ⟨p0, p1, p2, p3, p4, pz⟩ := Blk4F hB3
    obtain ⟨q0, q1, q2, q3, q4, qz⟩ := Blk4F hG
    clear hB3 hG
    go_wp2_with fail
    go_loopw [6] (fun i wr => ∃ m : Nat, (m < l.length ∨ m = 0) ∧ i = .int .i64 ((m + 1 : Nat) : Int) ∧ New w3 wr) (fun i _ => l.length + 1 - (intOf i).toNat)
    case atStart => exact ⟨0, .inr rfl, rfl, New.refl _⟩
    case round =>
      clear p0 p1 p2 p3 p4 pz q0 q1 q2 q3 q4 qz
      obtain ⟨m, hm, rfl, hn⟩ := hrel
      obtain ⟨q0, q1, q2, q3, q4, qz⟩ := Blk4F (HG.out.new hn)
      by_cases hlt : m + 1 < l.length
      · obtain ⟨A', c', hv, hlc, hh⟩ := HR3.out.new hn
        obtain ⟨rfl, -, rfl⟩ := Value.slice.inj hv
        clear hv
        have hLL := HLL.out
        rcases hh with rfl | ⟨b, off, rfl, hbb, hc⟩
        · simp at hLL; omega
        obtain ⟨x, hx⟩ : ∃ x, L[m]? = some x := ⟨_, List.getElem?_eq_getElem (by omega)⟩
        obtain ⟨y, hy⟩ : ∃ y, L[m + 1]? = some y := ⟨_, List.getElem?_eq_getElem (by omega)⟩
        obtain ⟨x0, x1, x2⟩ := SlIn.three hc hx
        obtain ⟨y0, y1, y2⟩ := SlIn.three hc hy
        have hle : (Op.bytesLess x.key.toList y.key.toList || x.key.toList == y.key.toList) = true := by rw [le_or, rise_at HRise.out hx hy]; rfl
        rw [Bool.or_eq_true] at hle
        have hl80b : l.length ≤ 80 := hl80
        have hj3 : IntKind.i64.wrap ((m : Int) + 1 - 1) = (m : Int) := by rw [IntWalk.i64_in _ (by omega)]; omega
        have hj3b : IntKind.i64.wrap (m : Int) = (m : Int) := by rw [IntWalk.i64_in _ (by omega)]
        have hj0 : (0 : Int) ≤ (m : Int) + 1 := by omega
        have hj4 : (0 : Int) ≤ (m : Int) := by omega
        have hj5 : (m : Int) < (l.length : Int) := by omega
        have hj1 : (m : Int) + 1 < (l.length : Int) := by omega
        have hjt : ((m : Int) + 1).toNat = m + 1 := by omega
        have hm2 : m < l.length := by omega
        clear hc hx hy hLL hlc hm
        rcases hle with hle | hle
        all_goals
          go_upto_region 9 with fail
          go_quiet (fail)
          go_wp2_with fail
          go_roundw
          case rel => exact ⟨m + 1, .inl hlt, by go_num, hn.drewN _⟩
          case measure => simp [intOf]; omega
      have hj1 : ¬ (m : Int) + 1 < (l.length : Int) := by omega
      have HB4 := Lib.hid (HB.out.new hn)
      have HN4 := Lib.hid (hN3.trans hn)
      have HS4 := Lib.hid (HS3.out.new hn)
      have HR4 := Lib.hid (HR3.out.new hn)
      have HG4 := Lib.hid (HG.out.new hn)
      have HL80 : Hid (l.length ≤ 80 ∧ L.length ≤ 80) := Lib.hid ⟨hl80, by have := HLL.out; omega⟩
      clear HB HG HS3 HR3 hN3 hm hn
      obtain ⟨p0, p1, p2, p3, p4, pz⟩ := Blk4F HB4.out
      go_wp2_with fail
      refine (find_any c r s _ l key wr (by have := HL80.out; omega) HS4.out).mono ?_
      rintro e w5 ⟨hn5, hfp⟩
      have HB5 := Lib.hid (HB4.out.new hn5)
      have HN5 := Lib.hid (HN4.out.trans hn5)
      have HR5 := Lib.hid (HR4.out.new hn5)
      have HG5 := Lib.hid (HG4.out.new hn5)
      clear HB4 HN4 HR4 HS4 HG4 hn5 p0 p1 p2 p3 p4 pz q0 q1 q2 q3 q4 qz
      cases hff : findB key l with
      | none =>
        rw [hff] at hfp
        dsimp only at hfp
        subst hfp
        have HFF := Lib.hid hff
        clear hff
        have hX := Blk.mk_new w5 43 #[.string ⟨#[]⟩, .string ⟨#[]⟩, .bool false]
        have hAx := (New.refl w5).alloc (.cells #[.string ⟨#[]⟩, .string ⟨#[]⟩, .bool false] 43)
        have HB6 := Lib.hid (HB5.out.new hAx)
        have HN6 := Lib.hid (HN5.out.trans hAx)
        have HR6 := Lib.hid (HR5.out.new hAx)
        have HG6 := Lib.hid (HG5.out.new hAx)
        have HX6 := Lib.hid hX
        clear HB5 HN5 HR5 HG5 hX hAx
        go_upto_region 12 with fail
        generalize w5.heap.size = g5 at *
        generalize w5.alloc _ = w6 at *
        obtain ⟨q0, q1, q2, q3, q4, qz⟩ := Blk4F HG6.out
        go_wp2_with fail
        refine (find_any c r s _ L key w6 (by have := HL80.out; omega) HR6.out).mono ?_
        rintro e w7 ⟨hn7, hfp⟩
        rw [HFind.out, HFF.out] at hfp
        dsimp only at hfp
        subst hfp
        have hY := Blk.mk_new w7 43 #[.string ⟨#[]⟩, .string ⟨#[]⟩, .bool false]
        have hAx := hn7.trans ((New.refl w7).alloc (.cells #[.string ⟨#[]⟩, .string ⟨#[]⟩, .bool false] 43))
        have HN8 := Lib.hid (HN6.out.trans hAx)
        have HR8 := Lib.hid (HR6.out.new hAx)
        have HG8 := Lib.hid (HG6.out.new hAx)
        have HX8 := Lib.hid (HX6.out.new hAx)
        have HY8 := Lib.hid hY
        clear HN6 HR6 HG6 HX6 HB6 hY hAx hn7 q0 q1 q2 q3 q4 qz
        go_upto_region 13 with fail
        generalize w7.heap.size = g7 at *
        generalize w7.alloc _ = w8 at *
        obtain ⟨q0, q1, q2, q3, q4, qz⟩ := Blk4F HG8.out
        obtain ⟨s0, s1, s2, s3, sz⟩ := Blk3F HX8.out
        obtain ⟨t0, t1, t2, t3, tz⟩ := Blk3F HY8.out
        clear HG8 HX8 HY8
        have HM3 : Hid (∀ wx, New w8 wx → Calls Try.prog 15 #[.agg #[.int .u64 (c : Int), .int .u64 (r : Int), .int .u64 (s : Int), .slice A2 l.length cap2]] wx (SortPost wx c r s L)) := Lib.hid (fun wx hx => sorted_any c r s _ L wx (by have := HL80.out; omega) (HR8.out.new hx))
        refine wp_region_held_drew (S := fun w' => Held w8 w') (by kernel_rfl) (Held.of (New.refl _).drew) (fun hHeld => ?_)
        refine wpAnyH_ready (rs := [0]) (by kernel_rfl) (by simp) ?_
        refine AllReadyH.cons (o := { dst := some 78, op := Op.call { callee := Callee.value (Operand.func 11), args := #[], argTypes := #[] }, type := 4, pos := "law.go:122", after := #[], guard := none }) rfl (fun K hK => ?_) AllReadyH.nil
        go_simp
        refine (awake05 _).mono ?_
        rintro e wk0 ⟨rfl, hk0⟩
        have hh0 := ((New.refl w8).drew).trans hk0
        refine hK.out _ _ ?_ (fun hHeld => ?_)
        · exact Held.of hh0
        clear hK K
        try simp only [Act.put, List.setIfInBounds_toArray, List.set_cons_zero, List.set_cons_succ]
        refine wpAnyH_take (i := 1) (oi := { dst := some 79, op := Op.move (Operand.tmp 78), type := 4, pos := "law.go:122", after := #[{ on := 0, ground := Ground.data }, { on := 0, ground := Ground.chain }], guard := none }) (v := ?_) rfl (by kernel_rfl) (by kernel_rfl) (by kernel_rfl) (fun _ _ _ h => h) (Or.inl ⟨by rfl, ?_⟩) (by assumption) ?_
        rotate_left
        · (intro wq hSw; (try dsimp only at hSw); go_simp; first | done | with_reducible rfl)
        try simp only [Act.put, List.setIfInBounds_toArray, List.set_cons_zero, List.set_cons_succ]
        refine wpAnyH_take (i := 2) (oi := { dst := some 80, op := Op.load 43 (Operand.tmp 7), type := 43, pos := "law.go:122", after := #[{ on := 1, ground := Ground.guard }], guard := some (1, true) }) (v := ?_) rfl (by kernel_rfl) (by kernel_rfl) (by kernel_rfl) (fun _ _ _ h => h) (Or.inl ⟨by rfl, ?_⟩) (by assumption) ?_
        rotate_left
        · (intro wq hSw; (try dsimp only at hSw); go_simp; first | done | with_reducible rfl)
        try simp only [Act.put, List.setIfInBounds_toArray, List.set_cons_zero, List.set_cons_succ]
        refine wpAnyH_take (i := 3) (oi := { dst := some 81, op := Op.load 43 (Operand.tmp 9), type := 43, pos := "law.go:122", after := #[{ on := 1, ground := Ground.guard }], guard := some (1, true) }) (v := ?_) rfl (by kernel_rfl) (by kernel_rfl) (by kernel_rfl) (fun _ _ _ h => h) (Or.inl ⟨by rfl, ?_⟩) (by assumption) ?_
        rotate_left
        · (intro wq hSw; (try dsimp only at hSw); go_simp; first | done | with_reducible rfl)
        try simp only [Act.put, List.setIfInBounds_toArray, List.set_cons_zero, List.set_cons_succ]
        refine wpAnyH_take (i := 4) (oi := { dst := some 82, op := Op.binOp BinOp.eql 43 (Operand.tmp 80) (Operand.tmp 81) 43, type := 4, pos := "law.go:122", after := #[{ on := 2, ground := Ground.data }, { on := 3, ground := Ground.data }, { on := 1, ground := Ground.guard }], guard := some (1, true) }) (v := .bool true) rfl (by kernel_rfl) (by kernel_rfl) (by kernel_rfl) (fun _ _ _ h => h) (Or.inl ⟨by rfl, ?_⟩) (by assumption) ?_
        · (intro wq hSw; (try dsimp only at hSw); go_simp; first | done | with_reducible rfl | simp)
        try simp only [Act.put, List.setIfInBounds_toArray, List.set_cons_zero, List.set_cons_succ]
        refine wpAnyH_take (i := 5) (oi := { dst := some 83, op := Op.pick (Operand.tmp 79) (Operand.tmp 82) (Operand.const (Value.bool false)), type := 4, pos := "law.go:122", after := #[{ on := 1, ground := Ground.data }, { on := 4, ground := Ground.data }], guard := none }) (v := ?_) rfl (by kernel_rfl) (by kernel_rfl) (by kernel_rfl) (fun _ _ _ h => h) (Or.inl ⟨by rfl, ?_⟩) (by assumption) ?_
        rotate_left
        · (intro wq hSw; (try dsimp only at hSw); go_simp; first | done | with_reducible rfl)
        try simp only [Act.put, List.setIfInBounds_toArray, List.set_cons_zero, List.set_cons_succ]
        refine wpAnyH_take (i := 6) (oi := { dst := some 84, op := Op.move (Operand.tmp 83), type := 4, pos := "law.go:122", after := #[{ on := 5, ground := Ground.data }, { on := 1, ground := Ground.chain }], guard := none }) (v := ?_) rfl (by kernel_rfl) (by kernel_rfl) (by kernel_rfl) (fun _ _ _ h => h) (Or.inl ⟨by rfl, ?_⟩) (by assumption) ?_
        rotate_left
        · (intro wq hSw; (try dsimp only at hSw); go_simp; first | done | with_reducible rfl)
        try simp only [Act.put, List.setIfInBounds_toArray, List.set_cons_zero, List.set_cons_succ]
        refine wpAnyH_take (i := 7) (oi := { dst := some 85, op := Op.move (Operand.tmp 8), type := 4, pos := "law.go:122", after := #[{ on := 6, ground := Ground.guard }], guard := some (6, true) }) (v := ?_) rfl (by kernel_rfl) (by kernel_rfl) (by kernel_rfl) (fun _ _ _ h => h) (Or.inl ⟨by rfl, ?_⟩) (by assumption) ?_
        rotate_left
        · (intro wq hSw; (try dsimp only at hSw); go_simp; first | done | with_reducible rfl)
        try simp only [Act.put, List.setIfInBounds_toArray, List.set_cons_zero, List.set_cons_succ]
        refine wpAnyH_take (i := 8) (oi := { dst := some 86, op := Op.move (Operand.tmp 10), type := 4, pos := "law.go:122", after := #[{ on := 6, ground := Ground.guard }], guard := some (6, true) }) (v := ?_) rfl (by kernel_rfl) (by kernel_rfl) (by kernel_rfl) (fun _ _ _ h => h) (Or.inl ⟨by rfl, ?_⟩) (by assumption) ?_
        rotate_left
        · (intro wq hSw; (try dsimp only at hSw); go_simp; first | done | with_reducible rfl)
        try simp only [Act.put, List.setIfInBounds_toArray, List.set_cons_zero, List.set_cons_succ]
        refine wpAnyH_take (i := 9) (oi := { dst := some 87, op := Op.binOp BinOp.eql 4 (Operand.tmp 85) (Operand.tmp 86) 4, type := 4, pos := "law.go:122", after := #[{ on := 7, ground := Ground.data }, { on := 8, ground := Ground.data }, { on := 6, ground := Ground.guard }], guard := some (6, true) }) (v := .bool true) rfl (by kernel_rfl) (by kernel_rfl) (by kernel_rfl) (fun _ _ _ h => h) (Or.inl ⟨by rfl, ?_⟩) (by assumption) ?_
        · (intro wq hSw; (try dsimp only at hSw); go_simp; first | done | with_reducible rfl | simp)
        try simp only [Act.put, List.setIfInBounds_toArray, List.set_cons_zero, List.set_cons_succ]
        refine wpAnyH_take (i := 10) (oi := { dst := some 88, op := Op.pick (Operand.tmp 84) (Operand.tmp 87) (Operand.const (Value.bool false)), type := 4, pos := "law.go:122", after := #[{ on := 6, ground := Ground.data }, { on := 9, ground := Ground.data }], guard := none }) (v := ?_) rfl (by kernel_rfl) (by kernel_rfl) (by kernel_rfl) (fun _ _ _ h => h) (Or.inl ⟨by rfl, ?_⟩) (by assumption) ?_
        rotate_left
        · (intro wq hSw; (try dsimp only at hSw); go_simp; first | done | with_reducible rfl)
        try simp only [Act.put, List.setIfInBounds_toArray, List.set_cons_zero, List.set_cons_succ]
        refine wpAnyH_take (i := 11) (oi := { dst := some 89, op := Op.move (Operand.tmp 88), type := 4, pos := "law.go:122", after := #[{ on := 10, ground := Ground.data }, { on := 6, ground := Ground.chain }], guard := none }) (v := ?_) rfl (by kernel_rfl) (by kernel_rfl) (by kernel_rfl) (fun _ _ _ h => h) (Or.inl ⟨by rfl, ?_⟩) (by assumption) ?_
        rotate_left
        · (intro wq hSw; (try dsimp only at hSw); go_simp; first | done | with_reducible rfl)
        try simp only [Act.put, List.setIfInBounds_toArray, List.set_cons_zero, List.set_cons_succ]
        refine wpAnyH_take (i := 12) (oi := { dst := some 90, op := Op.load 25 (Operand.tmp 5), type := 25, pos := "law.go:122", after := #[{ on := 11, ground := Ground.guard }], guard := some (11, true) }) (v := ?_) rfl (by kernel_rfl) (by kernel_rfl) (by kernel_rfl) (fun _ _ _ h => h) (Or.inl ⟨by rfl, ?_⟩) (by assumption) ?_
        rotate_left
        · (intro wq hSw; (try dsimp only at hSw); go_simp; first | done | with_reducible rfl)
        try simp only [Act.put, List.setIfInBounds_toArray, List.set_cons_zero, List.set_cons_succ]
        refine wpAnyH_take (i := 14) (oi := { dst := some 92, op := Op.load 25 (Operand.tmp 5), type := 25, pos := "law.go:122", after := #[{ on := 11, ground := Ground.guard }], guard := some (11, true) }) (v := ?_) rfl (by kernel_rfl) (by kernel_rfl) (by kernel_rfl) (fun _ _ _ h => h) (Or.inl ⟨by rfl, ?_⟩) (by assumption) ?_
        rotate_left
        · (intro wq hSw; (try dsimp only at hSw); go_simp; first | done | with_reducible rfl)
        try simp only [Act.put, List.setIfInBounds_toArray, List.set_cons_zero, List.set_cons_succ]
        refine wpAnyH_ready (rs := [13]) (by kernel_rfl) (by simp) ?_
        refine AllReadyH.cons (o := { dst := some 91, op := Op.call { callee := Callee.value (Operand.func 15), args := #[Operand.tmp 90], argTypes := #[25] }, type := 25, pos := "law.go:122", after := #[{ on := 12, ground := Ground.data }, { on := 11, ground := Ground.chain }, { on := 11, ground := Ground.guard }], guard := some (11, true) }) rfl (fun K hK => ?_) AllReadyH.nil
        go_simp
        refine (HM3.out _ hh0).mono ?_
        rintro e wk1 ⟨u, rfl, hou, hk1⟩
        rw [HSort.out] at hou
        have hh1 := hh0.trans hk1
        have hsu := Owns.slIn Wri.encOk hou
        obtain ⟨ua, un, uc, rfl⟩ := hsu.shape
        have HSu := Lib.hid hsu
        clear hou hsu
        refine hK.out _ _ ?_ (fun hHeld => ?_)
        · exact Held.of hh1
        clear hK K
        try simp only [Act.put, List.setIfInBounds_toArray, List.set_cons_zero, List.set_cons_succ]
        refine wpAnyH_ready (rs := [15]) (by kernel_rfl) (by simp) ?_
        refine AllReadyH.cons (o := { dst := some 93, op := Op.call { callee := Callee.value (Operand.func 14), args := #[Operand.tmp 91, Operand.tmp 92], argTypes := #[25, 25] }, type := 4, pos := "law.go:122", after := #[{ on := 13, ground := Ground.data }, { on := 14, ground := Ground.data }, { on := 13, ground := Ground.chain }, { on := 11, ground := Ground.guard }], guard := some (11, true) }) rfl (fun K hK => ?_) AllReadyH.nil
        go_simp
        rw [HSort.out] at *
        refine (refSame_any c r s _ L c r s _ L _ (by have := HL80.out; omega) (by have := HL80.out; omega) HSu.out (HR8.out.new (hh1))).mono ?_
        rintro e wk2 ⟨rfl, hk2⟩
        rw [show sameB c r s L c r s L = true by simp [sameB]]
        have hh2 := hh1.trans hk2
        refine hK.out _ _ ?_ (fun hHeld => ?_)
        · exact Held.of hh2
        clear hK K
        try simp only [Act.put, List.setIfInBounds_toArray, List.set_cons_zero, List.set_cons_succ]
        refine wpAnyH_take (i := 16) (oi := { dst := some 94, op := Op.pick (Operand.tmp 89) (Operand.tmp 93) (Operand.const (Value.bool false)), type := 4, pos := "law.go:122", after := #[{ on := 11, ground := Ground.data }, { on := 15, ground := Ground.data }], guard := none }) (v := ?_) rfl (by kernel_rfl) (by kernel_rfl) (by kernel_rfl) (fun _ _ _ h => h) (Or.inl ⟨by rfl, ?_⟩) (by assumption) ?_
        rotate_left
        · (intro wq hSw; (try dsimp only at hSw); go_simp; first | done | with_reducible rfl)
        try simp only [Act.put, List.setIfInBounds_toArray, List.set_cons_zero, List.set_cons_succ]
        refine wpAnyH_take (i := 17) (oi := { dst := some 4, op := Op.assign (Operand.tmp 94), type := 4, pos := "law.go:122", after := #[{ on := 16, ground := Ground.data }, { on := 15, ground := Ground.chain }, { on := 0, ground := Ground.phase }, { on := 1, ground := Ground.phase }, { on := 2, ground := Ground.phase }, { on := 3, ground := Ground.phase }, { on := 4, ground := Ground.phase }, { on := 5, ground := Ground.phase }, { on := 6, ground := Ground.phase }, { on := 7, ground := Ground.phase }, { on := 8, ground := Ground.phase }, { on := 9, ground := Ground.phase }, { on := 10, ground := Ground.phase }, { on := 11, ground := Ground.phase }, { on := 12, ground := Ground.phase }, { on := 13, ground := Ground.phase }, { on := 14, ground := Ground.phase }, { on := 15, ground := Ground.phase }, { on := 16, ground := Ground.phase }], guard := none }) (v := ?_) rfl (by kernel_rfl) (by kernel_rfl) (by kernel_rfl) (fun _ _ _ h => h) (Or.inl ⟨by rfl, ?_⟩) (by assumption) ?_
        rotate_left
        · (intro wq hSw; (try dsimp only at hSw); go_simp; first | done | with_reducible rfl)
        try simp only [Act.put, List.setIfInBounds_toArray, List.set_cons_zero, List.set_cons_succ]
        refine wpAnyH_done (by kernel_rfl) ?_ _
        clear hHeld
        go_wp2_with fail
        go_ret
        exact ⟨rfl, HN8.out.trans hh2⟩
      | some x =>
        rw [hff] at hfp
        dsimp only at hfp
        subst hfp
        have HFF := Lib.hid hff
        clear hff
        have hX := Blk.mk_new w5 43 #[.string x.key, .string x.val, .bool x.gone]
        have hAx := (New.refl w5).alloc (.cells #[.string x.key, .string x.val, .bool x.gone] 43)
        have HB6 := Lib.hid (HB5.out.new hAx)
        have HN6 := Lib.hid (HN5.out.trans hAx)
        have HR6 := Lib.hid (HR5.out.new hAx)
        have HG6 := Lib.hid (HG5.out.new hAx)
        have HX6 := Lib.hid hX
        clear HB5 HN5 HR5 HG5 hX hAx
        go_upto_region 12 with fail
        generalize w5.heap.size = g5 at *
        generalize w5.alloc _ = w6 at *
        obtain ⟨q0, q1, q2, q3, q4, qz⟩ := Blk4F HG6.out
        go_wp2_with fail
        refine (find_any c r s _ L key w6 (by have := HL80.out; omega) HR6.out).mono ?_
        rintro e w7 ⟨hn7, hfp⟩
        rw [HFind.out, HFF.out] at hfp
        dsimp only at hfp
        subst hfp
        have hY := Blk.mk_new w7 43 #[.string x.key, .string x.val, .bool x.gone]
        have hAx := hn7.trans ((New.refl w7).alloc (.cells #[.string x.key, .string x.val, .bool x.gone] 43))
        have HN8 := Lib.hid (HN6.out.trans hAx)
        have HR8 := Lib.hid (HR6.out.new hAx)
        have HG8 := Lib.hid (HG6.out.new hAx)
        have HX8 := Lib.hid (HX6.out.new hAx)
        have HY8 := Lib.hid hY
        clear HN6 HR6 HG6 HX6 HB6 hY hAx hn7 q0 q1 q2 q3 q4 qz
        go_upto_region 13 with fail
        generalize w7.heap.size = g7 at *
        generalize w7.alloc _ = w8 at *
        obtain ⟨q0, q1, q2, q3, q4, qz⟩ := Blk4F HG8.out
        obtain ⟨s0, s1, s2, s3, sz⟩ := Blk3F HX8.out
        obtain ⟨t0, t1, t2, t3, tz⟩ := Blk3F HY8.out
        clear HG8 HX8 HY8
        have HM3 : Hid (∀ wx, New w8 wx → Calls Try.prog 15 #[.agg #[.int .u64 (c : Int), .int .u64 (r : Int), .int .u64 (s : Int), .slice A2 l.length cap2]] wx (SortPost wx c r s L)) := Lib.hid (fun wx hx => sorted_any c r s _ L wx (by have := HL80.out; omega) (HR8.out.new hx))
        refine wp_region_held_drew (S := fun w' => Held w8 w') (by kernel_rfl) (Held.of (New.refl _).drew) (fun hHeld => ?_)
        refine wpAnyH_ready (rs := [0]) (by kernel_rfl) (by simp) ?_
        refine AllReadyH.cons (o := { dst := some 78, op := Op.call { callee := Callee.value (Operand.func 11), args := #[], argTypes := #[] }, type := 4, pos := "law.go:122", after := #[], guard := none }) rfl (fun K hK => ?_) AllReadyH.nil
        go_simp
        refine (awake05 _).mono ?_
        rintro e wk0 ⟨rfl, hk0⟩
        have hh0 := ((New.refl w8).drew).trans hk0
        refine hK.out _ _ ?_ (fun hHeld => ?_)
        · exact Held.of hh0
        clear hK K
        try simp only [Act.put, List.setIfInBounds_toArray, List.set_cons_zero, List.set_cons_succ]
        refine wpAnyH_take (i := 1) (oi := { dst := some 79, op := Op.move (Operand.tmp 78), type := 4, pos := "law.go:122", after := #[{ on := 0, ground := Ground.data }, { on := 0, ground := Ground.chain }], guard := none }) (v := ?_) rfl (by kernel_rfl) (by kernel_rfl) (by kernel_rfl) (fun _ _ _ h => h) (Or.inl ⟨by rfl, ?_⟩) (by assumption) ?_
        rotate_left
        · (intro wq hSw; (try dsimp only at hSw); go_simp; first | done | with_reducible rfl)
        try simp only [Act.put, List.setIfInBounds_toArray, List.set_cons_zero, List.set_cons_succ]
        refine wpAnyH_take (i := 2) (oi := { dst := some 80, op := Op.load 43 (Operand.tmp 7), type := 43, pos := "law.go:122", after := #[{ on := 1, ground := Ground.guard }], guard := some (1, true) }) (v := ?_) rfl (by kernel_rfl) (by kernel_rfl) (by kernel_rfl) (fun _ _ _ h => h) (Or.inl ⟨by rfl, ?_⟩) (by assumption) ?_
        rotate_left
        · (intro wq hSw; (try dsimp only at hSw); go_simp; first | done | with_reducible rfl)
        try simp only [Act.put, List.setIfInBounds_toArray, List.set_cons_zero, List.set_cons_succ]
        refine wpAnyH_take (i := 3) (oi := { dst := some 81, op := Op.load 43 (Operand.tmp 9), type := 43, pos := "law.go:122", after := #[{ on := 1, ground := Ground.guard }], guard := some (1, true) }) (v := ?_) rfl (by kernel_rfl) (by kernel_rfl) (by kernel_rfl) (fun _ _ _ h => h) (Or.inl ⟨by rfl, ?_⟩) (by assumption) ?_
        rotate_left
        · (intro wq hSw; (try dsimp only at hSw); go_simp; first | done | with_reducible rfl)
        try simp only [Act.put, List.setIfInBounds_toArray, List.set_cons_zero, List.set_cons_succ]
        refine wpAnyH_take (i := 4) (oi := { dst := some 82, op := Op.binOp BinOp.eql 43 (Operand.tmp 80) (Operand.tmp 81) 43, type := 4, pos := "law.go:122", after := #[{ on := 2, ground := Ground.data }, { on := 3, ground := Ground.data }, { on := 1, ground := Ground.guard }], guard := some (1, true) }) (v := .bool true) rfl (by kernel_rfl) (by kernel_rfl) (by kernel_rfl) (fun _ _ _ h => h) (Or.inl ⟨by rfl, ?_⟩) (by assumption) ?_
        · (intro wq hSw; (try dsimp only at hSw); go_simp; first | done | with_reducible rfl | simp)
        try simp only [Act.put, List.setIfInBounds_toArray, List.set_cons_zero, List.set_cons_succ]
        refine wpAnyH_take (i := 5) (oi := { dst := some 83, op := Op.pick (Operand.tmp 79) (Operand.tmp 82) (Operand.const (Value.bool false)), type := 4, pos := "law.go:122", after := #[{ on := 1, ground := Ground.data }, { on := 4, ground := Ground.data }], guard := none }) (v := ?_) rfl (by kernel_rfl) (by kernel_rfl) (by kernel_rfl) (fun _ _ _ h => h) (Or.inl ⟨by rfl, ?_⟩) (by assumption) ?_
        rotate_left
        · (intro wq hSw; (try dsimp only at hSw); go_simp; first | done | with_reducible rfl)
        try simp only [Act.put, List.setIfInBounds_toArray, List.set_cons_zero, List.set_cons_succ]
        refine wpAnyH_take (i := 6) (oi := { dst := some 84, op := Op.move (Operand.tmp 83), type := 4, pos := "law.go:122", after := #[{ on := 5, ground := Ground.data }, { on := 1, ground := Ground.chain }], guard := none }) (v := ?_) rfl (by kernel_rfl) (by kernel_rfl) (by kernel_rfl) (fun _ _ _ h => h) (Or.inl ⟨by rfl, ?_⟩) (by assumption) ?_
        rotate_left
        · (intro wq hSw; (try dsimp only at hSw); go_simp; first | done | with_reducible rfl)
        try simp only [Act.put, List.setIfInBounds_toArray, List.set_cons_zero, List.set_cons_succ]
        refine wpAnyH_take (i := 7) (oi := { dst := some 85, op := Op.move (Operand.tmp 8), type := 4, pos := "law.go:122", after := #[{ on := 6, ground := Ground.guard }], guard := some (6, true) }) (v := ?_) rfl (by kernel_rfl) (by kernel_rfl) (by kernel_rfl) (fun _ _ _ h => h) (Or.inl ⟨by rfl, ?_⟩) (by assumption) ?_
        rotate_left
        · (intro wq hSw; (try dsimp only at hSw); go_simp; first | done | with_reducible rfl)
        try simp only [Act.put, List.setIfInBounds_toArray, List.set_cons_zero, List.set_cons_succ]
        refine wpAnyH_take (i := 8) (oi := { dst := some 86, op := Op.move (Operand.tmp 10), type := 4, pos := "law.go:122", after := #[{ on := 6, ground := Ground.guard }], guard := some (6, true) }) (v := ?_) rfl (by kernel_rfl) (by kernel_rfl) (by kernel_rfl) (fun _ _ _ h => h) (Or.inl ⟨by rfl, ?_⟩) (by assumption) ?_
        rotate_left
        · (intro wq hSw; (try dsimp only at hSw); go_simp; first | done | with_reducible rfl)
        try simp only [Act.put, List.setIfInBounds_toArray, List.set_cons_zero, List.set_cons_succ]
        refine wpAnyH_take (i := 9) (oi := { dst := some 87, op := Op.binOp BinOp.eql 4 (Operand.tmp 85) (Operand.tmp 86) 4, type := 4, pos := "law.go:122", after := #[{ on := 7, ground := Ground.data }, { on := 8, ground := Ground.data }, { on := 6, ground := Ground.guard }], guard := some (6, true) }) (v := .bool true) rfl (by kernel_rfl) (by kernel_rfl) (by kernel_rfl) (fun _ _ _ h => h) (Or.inl ⟨by rfl, ?_⟩) (by assumption) ?_
        · (intro wq hSw; (try dsimp only at hSw); go_simp; first | done | with_reducible rfl | simp)
        try simp only [Act.put, List.setIfInBounds_toArray, List.set_cons_zero, List.set_cons_succ]
        refine wpAnyH_take (i := 10) (oi := { dst := some 88, op := Op.pick (Operand.tmp 84) (Operand.tmp 87) (Operand.const (Value.bool false)), type := 4, pos := "law.go:122", after := #[{ on := 6, ground := Ground.data }, { on := 9, ground := Ground.data }], guard := none }) (v := ?_) rfl (by kernel_rfl) (by kernel_rfl) (by kernel_rfl) (fun _ _ _ h => h) (Or.inl ⟨by rfl, ?_⟩) (by assumption) ?_
        rotate_left
        · (intro wq hSw; (try dsimp only at hSw); go_simp; first | done | with_reducible rfl)
        try simp only [Act.put, List.setIfInBounds_toArray, List.set_cons_zero, List.set_cons_succ]
        refine wpAnyH_take (i := 11) (oi := { dst := some 89, op := Op.move (Operand.tmp 88), type := 4, pos := "law.go:122", after := #[{ on := 10, ground := Ground.data }, { on := 6, ground := Ground.chain }], guard := none }) (v := ?_) rfl (by kernel_rfl) (by kernel_rfl) (by kernel_rfl) (fun _ _ _ h => h) (Or.inl ⟨by rfl, ?_⟩) (by assumption) ?_
        rotate_left
        · (intro wq hSw; (try dsimp only at hSw); go_simp; first | done | with_reducible rfl)
        try simp only [Act.put, List.setIfInBounds_toArray, List.set_cons_zero, List.set_cons_succ]
        refine wpAnyH_take (i := 12) (oi := { dst := some 90, op := Op.load 25 (Operand.tmp 5), type := 25, pos := "law.go:122", after := #[{ on := 11, ground := Ground.guard }], guard := some (11, true) }) (v := ?_) rfl (by kernel_rfl) (by kernel_rfl) (by kernel_rfl) (fun _ _ _ h => h) (Or.inl ⟨by rfl, ?_⟩) (by assumption) ?_
        rotate_left
        · (intro wq hSw; (try dsimp only at hSw); go_simp; first | done | with_reducible rfl)
        try simp only [Act.put, List.setIfInBounds_toArray, List.set_cons_zero, List.set_cons_succ]
        refine wpAnyH_take (i := 14) (oi := { dst := some 92, op := Op.load 25 (Operand.tmp 5), type := 25, pos := "law.go:122", after := #[{ on := 11, ground := Ground.guard }], guard := some (11, true) }) (v := ?_) rfl (by kernel_rfl) (by kernel_rfl) (by kernel_rfl) (fun _ _ _ h => h) (Or.inl ⟨by rfl, ?_⟩) (by assumption) ?_
        rotate_left
        · (intro wq hSw; (try dsimp only at hSw); go_simp; first | done | with_reducible rfl)
        try simp only [Act.put, List.setIfInBounds_toArray, List.set_cons_zero, List.set_cons_succ]
        refine wpAnyH_ready (rs := [13]) (by kernel_rfl) (by simp) ?_
        refine AllReadyH.cons (o := { dst := some 91, op := Op.call { callee := Callee.value (Operand.func 15), args := #[Operand.tmp 90], argTypes := #[25] }, type := 25, pos := "law.go:122", after := #[{ on := 12, ground := Ground.data }, { on := 11, ground := Ground.chain }, { on := 11, ground := Ground.guard }], guard := some (11, true) }) rfl (fun K hK => ?_) AllReadyH.nil
        go_simp
        refine (HM3.out _ hh0).mono ?_
        rintro e wk1 ⟨u, rfl, hou, hk1⟩
        rw [HSort.out] at hou
        have hh1 := hh0.trans hk1
        have hsu := Owns.slIn Wri.encOk hou
        obtain ⟨ua, un, uc, rfl⟩ := hsu.shape
        have HSu := Lib.hid hsu
        clear hou hsu
        refine hK.out _ _ ?_ (fun hHeld => ?_)
        · exact Held.of hh1
        clear hK K
        try simp only [Act.put, List.setIfInBounds_toArray, List.set_cons_zero, List.set_cons_succ]
        refine wpAnyH_ready (rs := [15]) (by kernel_rfl) (by simp) ?_
        refine AllReadyH.cons (o := { dst := some 93, op := Op.call { callee := Callee.value (Operand.func 14), args := #[Operand.tmp 91, Operand.tmp 92], argTypes := #[25, 25] }, type := 4, pos := "law.go:122", after := #[{ on := 13, ground := Ground.data }, { on := 14, ground := Ground.data }, { on := 13, ground := Ground.chain }, { on := 11, ground := Ground.guard }], guard := some (11, true) }) rfl (fun K hK => ?_) AllReadyH.nil
        go_simp
        rw [HSort.out] at *
        refine (refSame_any c r s _ L c r s _ L _ (by have := HL80.out; omega) (by have := HL80.out; omega) HSu.out (HR8.out.new (hh1))).mono ?_
        rintro e wk2 ⟨rfl, hk2⟩
        rw [show sameB c r s L c r s L = true by simp [sameB]]
        have hh2 := hh1.trans hk2
        refine hK.out _ _ ?_ (fun hHeld => ?_)
        · exact Held.of hh2
        clear hK K
        try simp only [Act.put, List.setIfInBounds_toArray, List.set_cons_zero, List.set_cons_succ]
        refine wpAnyH_take (i := 16) (oi := { dst := some 94, op := Op.pick (Operand.tmp 89) (Operand.tmp 93) (Operand.const (Value.bool false)), type := 4, pos := "law.go:122", after := #[{ on := 11, ground := Ground.data }, { on := 15, ground := Ground.data }], guard := none }) (v := ?_) rfl (by kernel_rfl) (by kernel_rfl) (by kernel_rfl) (fun _ _ _ h => h) (Or.inl ⟨by rfl, ?_⟩) (by assumption) ?_
        rotate_left
        · (intro wq hSw; (try dsimp only at hSw); go_simp; first | done | with_reducible rfl)
        try simp only [Act.put, List.setIfInBounds_toArray, List.set_cons_zero, List.set_cons_succ]
        refine wpAnyH_take (i := 17) (oi := { dst := some 4, op := Op.assign (Operand.tmp 94), type := 4, pos := "law.go:122", after := #[{ on := 16, ground := Ground.data }, { on := 15, ground := Ground.chain }, { on := 0, ground := Ground.phase }, { on := 1, ground := Ground.phase }, { on := 2, ground := Ground.phase }, { on := 3, ground := Ground.phase }, { on := 4, ground := Ground.phase }, { on := 5, ground := Ground.phase }, { on := 6, ground := Ground.phase }, { on := 7, ground := Ground.phase }, { on := 8, ground := Ground.phase }, { on := 9, ground := Ground.phase }, { on := 10, ground := Ground.phase }, { on := 11, ground := Ground.phase }, { on := 12, ground := Ground.phase }, { on := 13, ground := Ground.phase }, { on := 14, ground := Ground.phase }, { on := 15, ground := Ground.phase }, { on := 16, ground := Ground.phase }], guard := none }) (v := ?_) rfl (by kernel_rfl) (by kernel_rfl) (by kernel_rfl) (fun _ _ _ h => h) (Or.inl ⟨by rfl, ?_⟩) (by assumption) ?_
        rotate_left
        · (intro wq hSw; (try dsimp only at hSw); go_simp; first | done | with_reducible rfl)
        try simp only [Act.put, List.setIfInBounds_toArray, List.set_cons_zero, List.set_cons_succ]
        refine wpAnyH_done (by kernel_rfl) ?_ _
        clear hHeld
        go_wp2_with fail
        go_ret
        exact ⟨rfl, HN8.out.trans hh2⟩
end Go.Proofs.Ytdobingccipkkaa
