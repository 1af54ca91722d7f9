/- Chapter 5 (batch): a sorted run of a row of writes, and one write behind it, are merged. Printed by genBat19.py. -/
import Derived.Test.YtdobingccipkkaaBat18
namespace Go.Proofs.Ytdobingccipkkaa
open Go.RowKit Go.Lap
set_option linter.unusedVariables false

/-- One write behind a run: the search. -/
def SeekR (w0 wr : World) (base g n cap : Nat) (L U : List Wri) (x : Wri) (a i j : Nat) : Prop := ∃ p r : Nat, i = a + p ∧ j = a + r ∧ p ≤ r ∧ r ≤ U.length ∧ (∀ t y, t < p → U[t]? = some y → ltW x y = false) ∧ (∀ t y, r ≤ t → U[t]? = some y → ltW x y = true) ∧ Row w0 wr base g n cap L

set_option maxRecDepth 100000 in
set_option maxHeartbeats 8000000 in
theorem sym_right (base g n cap : Nat) (P U Q L R : List Wri) (x : Wri) (w : World) (hn : n ≤ 100000) (hU : 1 < U.length) (hv : RiseW U) (hL : L = P ++ U ++ [x] ++ Q) (hR : R = P ++ sortW (U ++ [x]) ++ Q) (hl : n = L.length)
    (ho : Owns w base 43 3 Wri.enc (.slice (some ⟨g, 0, none⟩) n cap) L) (a m b : Nat) (ha : a = P.length) (hm : m = a + U.length) (hb : b = m + 1) :
    Calls Try.prog 56 #[.slice (some ⟨g, 0, none⟩) n cap, .int .i64 (a : Int), .int .i64 (m : Int), .int .i64 (b : Int), (.func (.func 28) #[] #[])] w (RowPost w base g n cap R) := by
  have hbn : b ≤ n := by rw [hL] at hl; simp only [List.length_append, List.length_singleton] at hl; omega
  have hS0 : Hid (SeekR w w base g n cap L U x a a m) := Lib.hid ⟨0, U.length, by omega, hm, by omega, Nat.le_refl _, fun t y ht => by omega, fun t y ht hy => by have := (List.getElem?_eq_some_iff.1 hy).1; omega, Row.start ho⟩
  obtain ⟨d0, hd0⟩ : ∃ d, d = m - a := ⟨_, rfl⟩
  have hma : IntKind.i64.wrap ((m : Int) - (a : Int)) = (d0 : Int) := by rw [IntWalk.i64_in _ (by omega)]; omega
  have hbm : IntKind.i64.wrap ((b : Int) - (m : Int)) = 1 := by rw [IntWalk.i64_in _ (by omega)]; omega
  have hd1 : ((d0 : Int) == 1) = false := by rw [beq_eq_false_iff_ne]; omega
  have hd2 : (d0 == 1) = false := by rw [beq_eq_false_iff_ne]; omega
  have hd3 : ¬ (d0 = 1) := by omega
  have HL := Lib.hid hL
  have HR := Lib.hid hR
  have HA := Lib.hid ha
  have HM := Lib.hid hm
  have HB := Lib.hid hb
  have HN := Lib.hid hl
  have ha1 : m < n := by omega
  clear hL hR ha hm hb hl ho hd0
  go_enter Try.func56, Try.ntmps56
  go_wp2_with fail
  clear hma hbm hd1 hd2 hd3
  go_loopw [14, 15] (fun i j wr => ∃ i' j' : Nat, i = .int .i64 (i' : Int) ∧ j = .int .i64 (j' : Int) ∧ SeekR w wr base g n cap L U x a i' j') (fun i j _ => (intOf j).toNat - (intOf i).toNat)
  case atStart => exact ⟨_, _, rfl, rfl, hS0.out⟩
  case round =>
    clear hS0
    obtain ⟨i, j, rfl, rfl, p, r, hi, hj, hpr, hrV, hlo, hhi, hr⟩ := hrel
    by_cases hij : i < j
    · have hij2 : (i : Int) < (j : Int) := by omega
      have HI := Lib.hid hi
      have HJ := Lib.hid hj
      obtain ⟨h, hh⟩ : ∃ h, h = (i + j) / 2 := ⟨_, rfl⟩
      obtain ⟨ss, hss⟩ : ∃ s, s = i + j := ⟨_, rfl⟩
      have jn : j ≤ n := by have := HM.out; omega
      have hh1 : i ≤ h := by omega
      have hh2 : h < j := by omega
      obtain ⟨t, ht⟩ : ∃ t, h = a + t := ⟨h - a, by omega⟩
      obtain ⟨y, hy⟩ : ∃ y, U[t]? = some y := ⟨_, List.getElem?_eq_getElem (by omega)⟩
      have ey : L[h]? = some y := by rw [HL.out, ht, HA.out, List.append_assoc, List.append_assoc, List.getElem?_append_right (by omega), Nat.add_sub_cancel_left, List.getElem?_append_left (by have := (List.getElem?_eq_some_iff.1 hy).1; omega)]; exact hy
      have ex : L[m]? = some x := by rw [HL.out, show m = (P ++ U).length by rw [List.length_append]; have := HA.out; have := HM.out; omega, List.append_assoc (P ++ U)]; exact at_len (P ++ U) Q x
      obtain ⟨y0, y1, y2⟩ := row_at hr.2 ey
      obtain ⟨x0, x1, x2⟩ := row_at hr.2 ex
      obtain ⟨-, hgl, -, -⟩ := row_frozen hr.2
      have i1 : (0 : Int) ≤ (h : Int) := by omega
      have i2 : (h : Int) < (n : Int) := by omega
      have i2n : h < n := by omega
      have i3 : (0 : Int) ≤ (m : Int) := by omega
      have i4 : (m : Int) < (n : Int) := by omega
      have i4n : m < n := by omega
      have HT := Lib.hid ht
      have HH := Lib.hid hh
      have HY := Lib.hid hy
      have HRW := Lib.hid hr
      have HLO := Lib.hid hlo
      have HHI := Lib.hid hhi
      have HN1 : Hid (∀ w2, Row w w2 base g n cap L → ltW x y = false → SeekR w w2 base g n cap L U x a (h + 1) j) := Lib.hid fun w2 hr2 hl => ⟨t + 1, r, by omega, hj, by omega, hrV, fun t2 y2 ht2 hy2 => geW_trans hl (rise_le hv hy2 hy (by omega)), hhi, hr2⟩
      have HN2 : Hid (∀ w2, Row w w2 base g n cap L → ltW x y = true → SeekR w w2 base g n cap L U x a i h) := Lib.hid fun w2 hr2 hl => ⟨p, t, hi, ht, by omega, by omega, hlo, fun t2 y2 ht2 hy2 => ltW_geW hl (rise_le hv hy hy2 ht2), hr2⟩
      have HPK := Lib.hid (And.intro hh1 (And.intro hh2 (And.intro jn (And.intro hpr (And.intro hrV (And.intro hij (And.intro ha1 (And.intro hbn hn))))))))
      obtain ⟨c1, c2, c3⟩ := half_facts hh hss (by omega) (by omega)
      clear hi hj ht hh hss ey ex hy hr hlo hhi hh1 hh2 jn hpr hrV hij ha1 hbn hn
      go_upto_region 17 with fail
      skip
      refine wp_region_held_drew (S := fun w' => Held wr w') (by kernel_rfl) (Held.of (New.refl _).drew) (fun hHeld => ?_)
      refine wpAnyH_take (i := 0) (oi := { dst := some 92, op := Op.move (Operand.tmp 4), type := 50, pos := "zsortanyfunc.go:414", after := #[], guard := none }) (v := ?_) rfl (by kernel_rfl) (by kernel_rfl) (by kernel_rfl) (fun _ _ _ h => h) (Or.inl ⟨by rfl, ?_⟩) (by assumption) ?_
      rotate_left
      · (intro wq hSw; (try dsimp only at hSw); go_simp; first | done | with_reducible rfl)
      try (simp only [Act.put, List.setIfInBounds_toArray, set16]; simp only [set4]; simp only [List.set_cons_zero])
      refine wpAnyH_take (i := 1) (oi := { dst := some 93, op := Op.move (Operand.tmp 0), type := 23, pos := "zsortanyfunc.go:414", after := #[], guard := none }) (v := ?_) rfl (by kernel_rfl) (by kernel_rfl) (by kernel_rfl) (fun _ _ _ h => h) (Or.inl ⟨by rfl, ?_⟩) (by assumption) ?_
      rotate_left
      · (intro wq hSw; (try dsimp only at hSw); go_simp; first | done | with_reducible rfl)
      try (simp only [Act.put, List.setIfInBounds_toArray, set16]; simp only [set4]; simp only [List.set_cons_succ, List.set_cons_zero])
      refine wpAnyH_take (i := 2) (oi := { dst := some 94, op := Op.move (Operand.tmp 2), type := 3, pos := "zsortanyfunc.go:414", after := #[], guard := none }) (v := ?_) rfl (by kernel_rfl) (by kernel_rfl) (by kernel_rfl) (fun _ _ _ h => h) (Or.inl ⟨by rfl, ?_⟩) (by assumption) ?_
      rotate_left
      · (intro wq hSw; (try dsimp only at hSw); go_simp; first | done | with_reducible rfl)
      try (simp only [Act.put, List.setIfInBounds_toArray, set16]; simp only [set4]; simp only [List.set_cons_succ, List.set_cons_zero])
      refine wpAnyH_take (i := 3) (oi := { dst := some 95, op := Op.indexAddr 23 (Operand.tmp 93) (Operand.tmp 94), type := 0, pos := "zsortanyfunc.go:414", after := #[{ on := 1, ground := Ground.data }, { on := 2, ground := Ground.data }], guard := none }) (v := ?_) rfl (by kernel_rfl) (by kernel_rfl) (by kernel_rfl) (fun _ _ _ h => h) (Or.inl ⟨by rfl, ?_⟩) (by assumption) ?_
      rotate_left
      · (intro wq hSw; (try dsimp only at hSw); go_simp; first | done | with_reducible rfl)
      try (simp only [Act.put, List.setIfInBounds_toArray, set16]; simp only [set4]; simp only [List.set_cons_succ, List.set_cons_zero])
      refine wpAnyH_take (i := 4) (oi := { dst := some 96, op := Op.load 43 (Operand.tmp 95), type := 43, pos := "zsortanyfunc.go:414", after := #[{ on := 3, ground := Ground.data }], guard := none }) (v := ?_) rfl (by kernel_rfl) (by kernel_rfl) (by kernel_rfl) (fun _ _ _ h => h) (Or.inl ⟨by rfl, ?_⟩) (by assumption) ?_
      rotate_left
      · (intro wq hSw; (try dsimp only at hSw); go_simp; first | done | with_reducible rfl)
      try (simp only [Act.put, List.setIfInBounds_toArray, set16]; simp only [List.set_cons_zero])
      refine wpAnyH_take (i := 5) (oi := { dst := some 97, op := Op.move (Operand.tmp 0), type := 23, pos := "zsortanyfunc.go:414", after := #[], guard := none }) (v := ?_) rfl (by kernel_rfl) (by kernel_rfl) (by kernel_rfl) (fun _ _ _ h => h) (Or.inl ⟨by rfl, ?_⟩) (by assumption) ?_
      rotate_left
      · (intro wq hSw; (try dsimp only at hSw); go_simp; first | done | with_reducible rfl)
      try (simp only [Act.put, List.setIfInBounds_toArray, set16]; simp only [List.set_cons_succ, List.set_cons_zero])
      refine wpAnyH_take (i := 6) (oi := { dst := some 98, op := Op.move (Operand.tmp 16), type := 3, pos := "zsortanyfunc.go:414", after := #[], guard := none }) (v := ?_) rfl (by kernel_rfl) (by kernel_rfl) (by kernel_rfl) (fun _ _ _ h => h) (Or.inl ⟨by rfl, ?_⟩) (by assumption) ?_
      rotate_left
      · (intro wq hSw; (try dsimp only at hSw); go_simp; first | done | with_reducible rfl)
      try (simp only [Act.put, List.setIfInBounds_toArray, set16]; simp only [List.set_cons_succ, List.set_cons_zero])
      refine wpAnyH_take (i := 7) (oi := { dst := some 99, op := Op.indexAddr 23 (Operand.tmp 97) (Operand.tmp 98), type := 0, pos := "zsortanyfunc.go:414", after := #[{ on := 5, ground := Ground.data }, { on := 6, ground := Ground.data }], guard := none }) (v := ?_) rfl (by kernel_rfl) (by kernel_rfl) (by kernel_rfl) (fun _ _ _ h => h) (Or.inl ⟨by rfl, ?_⟩) (by assumption) ?_
      rotate_left
      · (intro wq hSw; (try dsimp only at hSw); go_simp; first | done | with_reducible rfl)
      try (simp only [Act.put, List.setIfInBounds_toArray, set16]; simp only [List.set_cons_succ, List.set_cons_zero])
      refine wpAnyH_take (i := 8) (oi := { dst := some 100, op := Op.load 43 (Operand.tmp 99), type := 43, pos := "zsortanyfunc.go:414", after := #[{ on := 7, ground := Ground.data }], guard := none }) (v := ?_) rfl (by kernel_rfl) (by kernel_rfl) (by kernel_rfl) (fun _ _ _ h => h) (Or.inl ⟨by rfl, ?_⟩) (by assumption) ?_
      rotate_left
      · (intro wq hSw; (try dsimp only at hSw); go_simp; first | done | with_reducible rfl)
      try (simp only [Act.put, List.setIfInBounds_toArray, set16]; simp only [set4]; simp only [List.set_cons_zero])
      refine wpAnyH_ready (rs := [9]) (by kernel_rfl) (by simp) ?_
      refine AllReadyH.cons (o := { dst := some 101, op := Op.call { callee := Callee.value (Operand.tmp 92), args := #[Operand.tmp 96, Operand.tmp 100], argTypes := #[43, 43] }, type := 3, pos := "zsortanyfunc.go:414", after := #[{ on := 0, ground := Ground.data }, { on := 4, ground := Ground.data }, { on := 8, ground := Ground.data }], guard := none }) rfl (fun K hK => ?_) AllReadyH.nil
      go_simp
      refine (sortCmp_any x y _).mono ?_
      rintro e w2 ⟨rfl, hn2⟩
      have hn3 := (New.refl wr).drew.trans hn2
      refine hK.out _ _ ?_ (fun hHeld => ?_)
      · exact Held.of hn3
      clear hK K
      try (simp only [Act.put, List.setIfInBounds_toArray, set16]; simp only [set4]; simp only [List.set_cons_succ, List.set_cons_zero])
      refine wpAnyH_take (i := 10) (oi := { dst := some 102, op := Op.binOp BinOp.lss 3 (Operand.tmp 101) (Operand.const (Value.int IntKind.i64 0)) 3, type := 4, pos := "zsortanyfunc.go:414", after := #[{ on := 9, ground := Ground.data }], guard := none }) (v := .bool (ltW x y)) rfl (by kernel_rfl) (by kernel_rfl) (by kernel_rfl) (fun _ _ _ h => h) (Or.inl ⟨by rfl, ?_⟩) (by assumption) ?_
      · (intro wq hSw; (try dsimp only at hSw); go_simp; first | done | with_reducible rfl | (rw [cmpW_lt]; done) | simp only [cmpW_lt])
      try (simp only [Act.put, List.setIfInBounds_toArray, set16]; simp only [set4]; simp only [List.set_cons_succ, List.set_cons_zero])
      refine wpAnyH_take (i := 11) (oi := { dst := some 103, op := Op.unOp UnOp.not 4 (Operand.tmp 102), type := 4, pos := "zsortanyfunc.go:414", after := #[{ on := 10, ground := Ground.data }], guard := none }) (v := ?_) rfl (by kernel_rfl) (by kernel_rfl) (by kernel_rfl) (fun _ _ _ h => h) (Or.inl ⟨by rfl, ?_⟩) (by assumption) ?_
      rotate_left
      · (intro wq hSw; (try dsimp only at hSw); go_simp; first | done | with_reducible rfl)
      try (simp only [Act.put, List.setIfInBounds_toArray, set16]; simp only [set4]; simp only [List.set_cons_succ, List.set_cons_zero])
      refine wpAnyH_done (by kernel_rfl) ?_ _
      have HR2 := Lib.hid (HRW.out.keep hn3)
      clear hHeld hn3 hn2 x0 x1 x2 y0 y1 y2 HRW c1 c2 c3
      cases hlb : ltW x y with
      | false =>
        have HN := Lib.hid (HN1.out _ HR2.out hlb)
        obtain ⟨h1, hh1⟩ : ∃ h1, h1 = h + 1 := ⟨_, rfl⟩
        rw [← hh1] at HN
        have wh : IntKind.i64.wrap ((h : Int) + 1) = (h1 : Int) := by obtain ⟨_, _, _, _, _, _, _, _, _⟩ := HPK.out; rw [IntWalk.i64_in _ (by omega)]; omega
        have HH1 := Lib.hid hh1
        clear hlb HR2 HN1 HN2 hh1 i1 i2 i2n i3 i4 i4n hij2
        go_wp2_with fail
        go_roundw
        case rel => exact ⟨h1, j, rfl, rfl, HN.out⟩
        case measure => obtain ⟨_, _, _, _, _, _, _, _, _⟩ := HPK.out; have := HH1.out; simp [intOf]; omega
      | true =>
        have HN := Lib.hid (HN2.out _ HR2.out hlb)
        clear hlb HR2 HN1 HN2 i1 i2 i2n i3 i4 i4n hij2
        go_wp2_with fail
        go_roundw
        case rel => exact ⟨i, h, rfl, rfl, HN.out⟩
        case measure => obtain ⟨_, _, _, _, _, _, _, _, _⟩ := HPK.out; simp [intOf]; omega
    · have hij2 : ¬ (i : Int) < (j : Int) := by omega
      have hpr2 : p = r := by omega
      have HSP : Hid (sortW (U ++ [x]) = U.take p ++ x :: U.drop p) := Lib.hid (by
        have e := List.take_append_drop p U
        have h := sortW_right (x := x) (a := U.take p) (b := U.drop p) (by rw [e]; exact hv) (fun y hy => by
          obtain ⟨t, ht, hty⟩ := List.mem_iff_getElem.1 hy
          rw [List.length_take] at ht
          exact hlo t y (by omega) (by rw [← hty, List.getElem_take, List.getElem?_eq_getElem (by omega)])) (fun y hy => by
          obtain ⟨t, ht, hty⟩ := List.mem_iff_getElem.1 hy
          rw [List.length_drop] at ht
          exact hhi (p + t) y (by omega) (by rw [← hty, List.getElem_drop, List.getElem?_eq_getElem (by omega)]))
        rw [e] at h
        exact h)
      have HS0 : Hid (∃ t, m = a + t ∧ p ≤ t ∧ t ≤ U.length ∧ Row w wr base g n cap (P ++ U.take t ++ [x] ++ U.drop t ++ Q)) := Lib.hid ⟨U.length, HM.out, by omega, Nat.le_refl _, by rw [HL.out] at hr; rw [List.take_length, List.drop_length, List.append_nil]; exact hr⟩
      have HI := Lib.hid hi
      have HBN := Lib.hid (And.intro hbn (And.intro ha1 hn))
      clear hi hj hpr hrV hlo hhi hr hpr2 hbn ha1 hv hU
      go_wp2_with fail
      go_loopw [17] (fun k wr => ∃ k2 : Nat, k = .int .i64 (k2 : Int) ∧ ∃ t, k2 = a + t ∧ p ≤ t ∧ t ≤ U.length ∧ Row w wr base g n cap (P ++ U.take t ++ [x] ++ U.drop t ++ Q)) (fun k _ => (intOf k).toNat)
      case atStart => exact ⟨m, rfl, HS0.out⟩
      case round =>
        clear HS0
        obtain ⟨k, rfl, t, hk, htp, htu, hr⟩ := hrel
        by_cases hke : i < k
        · have hke2 : (i : Int) < (k : Int) := by omega
          obtain ⟨u, hu⟩ : ∃ u, t = u + 1 := ⟨t - 1, by have := HI.out; omega⟩
          subst hu
          obtain ⟨y, hy⟩ : ∃ y, U[u]? = some y := ⟨_, List.getElem?_eq_getElem (by omega)⟩
          obtain ⟨hyl, hye⟩ := List.getElem?_eq_some_iff.1 hy
          have eL : P ++ U.take (u + 1) ++ [x] ++ U.drop (u + 1) ++ Q = (P ++ U.take u) ++ y :: ([] ++ x :: (U.drop (u + 1) ++ Q)) := by rw [List.take_add_one, hy]; simp
          have eA : (P ++ U.take u).length = a + u := by rw [List.length_append, List.length_take]; have := HA.out; omega
          rw [eL] at hr
          obtain ⟨g1, g2⟩ := get_two (P ++ U.take u) [] (U.drop (u + 1) ++ Q) y x
          have hk2 := (List.getElem?_eq_some_iff.1 g2).1
          obtain ⟨hfz, hgl, hnn, -⟩ := row_frozen hr.2
          rw [← hnn] at hk2
          obtain ⟨y0, y1, y2⟩ := row_at hr.2 g1
          obtain ⟨x0, x1, x2⟩ := row_at hr.2 g2
          rw [eA, List.length_nil, Nat.add_zero] at x0 x1 x2 hk2
          rw [eA] at y0 y1 y2
          obtain ⟨k1, hk1⟩ : ∃ k1, k1 = a + u := ⟨_, rfl⟩
          have hp := (hr.put (k := k) (x := y) (by omega)).put (k := k1) (x := x) (by rw [List.length_set]; omega)
          have hsw := set_swap (P ++ U.take u) (U.drop (u + 1) ++ Q) y x
          rw [eA, ← hk1, show k1 + 1 = k by omega] at hsw
          rw [List.nil_append, hsw] at hp
          have hp2 : Row w (put3 (put3 wr g k y) g k1 x) base g n cap (P ++ U.take u ++ [x] ++ U.drop u ++ Q) := by rw [List.drop_eq_getElem_cons hyl, hye]; simpa using hp
          have HP := Lib.hid hp2
          rw [← hk1] at y0 y1 y2
          rw [show a + u + 1 = k by omega] at x0 x1 x2 hk2
          have w1 : IntKind.i64.wrap ((k : Int) - 1) = (k1 : Int) := by have := HBN.out; rw [IntWalk.i64_in _ (by omega)]; omega
          have j1 : (0 : Int) ≤ (k : Int) := by omega
          have j2 : (0 : Int) ≤ (k1 : Int) := by omega
          have j3 : (k : Int) < (n : Int) := by omega
          have j4 : (k1 : Int) < (n : Int) := by omega
          have j5 : k1 < n := by omega
          have n3 : k ≠ k1 := by omega
          have HK := Lib.hid hk
          have HK1 := Lib.hid hk1
          have HTP := Lib.hid (And.intro htp htu)
          have HKE := Lib.hid hke
          clear hk hk1 hr hp hp2 eL eA g1 g2 hy hyl hye htp htu hnn hsw hke hij
          go_upto_region 23 with fail
          go_region
          go_wp2_with fail
          go_roundw
          case rel => exact ⟨k1, rfl, u, HK1.out, by have := HK.out; have := HI.out; have := HKE.out; omega, by have := HTP.out; omega, HP.out.keep (New.refl _).drew⟩
          case measure => have := HK1.out; have := HK.out; simp [intOf]; omega
        · have hke2 : ¬ (i : Int) < (k : Int) := by omega
          have htp3 : t = p := by have := HI.out; omega
          have HD : Hid (Row w wr base g n cap R) := Lib.hid (by rw [HR.out, HSP.out]; rw [htp3] at hr; simpa using hr)
          clear hr hk htp htu htp3 hke
          go_wp2_with fail
          go_end0
          exact ⟨rfl, HD.out⟩
end Go.Proofs.Ytdobingccipkkaa
