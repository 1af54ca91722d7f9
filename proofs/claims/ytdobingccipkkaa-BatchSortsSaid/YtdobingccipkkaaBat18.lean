/- Chapter 5 (batch): two sorted runs of a row of writes are merged. Printed by genBat18.py. -/
import Derived.Test.YtdobingccipkkaaBat17
namespace Go.Proofs.Ytdobingccipkkaa
open Go.RowKit Go.Lap
set_option linter.unusedVariables false

theorem rise_le {l : List Wri} (h : RiseW l) {i j : Nat} {x y : Wri} (hi : l[i]? = some x) (hj : l[j]? = some y) (hij : i ≤ j) : ltW y x = false := by
  rcases Nat.lt_or_ge i j with hlt | hge
  · obtain ⟨h1, e1⟩ := List.getElem?_eq_some_iff.1 hi
    obtain ⟨h2, e2⟩ := List.getElem?_eq_some_iff.1 hj
    have := List.pairwise_iff_getElem.1 h i j h1 h2 hlt
    rwa [e1, e2] at this
  · have : i = j := by omega
    subst this
    rw [hi] at hj
    cases hj
    exact ltW_irr x

theorem wrap64_eq {a : Int} {s : Nat} (h : a = (s : Int)) (h0 : 0 ≤ a) (h1 : a ≤ 1000000000) : wrap64 a = (s : Int) := by unfold wrap64; omega
theorem half_facts {i j h ss : Nat} (hh : h = (i + j) / 2) (hss : ss = i + j) (hi : i ≤ 1000000) (hj : j ≤ 1000000) : wrap64 ((i : Int) + (j : Int)) = (ss : Int) ∧ IntKind.u64.wrap (ss : Int) = (ss : Int) ∧ wrap64 ((ss : Int) / 2) = (h : Int) :=
  ⟨wrap64_eq (by omega) (by omega) (by omega), by rw [IntKind.wrap_u64]; omega, wrap64_eq (by omega) (by omega) (by omega)⟩

theorem set4 {α : Type} (a b c d v : α) (l : List α) (n : Nat) : (a :: b :: c :: d :: l).set (n + 4) v = a :: b :: c :: d :: l.set n v := rfl
theorem set16 {α : Type} (a1 a2 a3 a4 a5 a6 a7 a8 a9 a10 a11 a12 a13 a14 a15 a16 v : α) (l : List α) (n : Nat) :
    (a1 :: a2 :: a3 :: a4 :: a5 :: a6 :: a7 :: a8 :: a9 :: a10 :: a11 :: a12 :: a13 :: a14 :: a15 :: a16 :: l).set (n + 16) v = a1 :: a2 :: a3 :: a4 :: a5 :: a6 :: a7 :: a8 :: a9 :: a10 :: a11 :: a12 :: a13 :: a14 :: a15 :: a16 :: l.set n v := rfl

/-- One write ahead of a run: the search, and the shift. -/
def SeekL (w0 wr : World) (base g n cap : Nat) (L V : List Wri) (x : Wri) (m i j : Nat) : Prop := ∃ p r : Nat, i = m + p ∧ j = m + r ∧ p ≤ r ∧ r ≤ V.length ∧ (∀ t y, t < p → V[t]? = some y → ltW y x = true) ∧ (∀ t y, r ≤ t → V[t]? = some y → ltW y x = false) ∧ Row w0 wr base g n cap L

set_option maxRecDepth 100000 in
set_option maxHeartbeats 8000000 in
theorem sym_left (base g n cap : Nat) (P V Q L R : List Wri) (x : Wri) (w : World) (hn : n ≤ 100000) (hV : 0 < V.length) (hv : RiseW V) (hL : L = P ++ [x] ++ V ++ Q) (hR : R = P ++ sortW (x :: V) ++ Q) (hl : n = L.length)
    (ho : Owns w base 43 3 Wri.enc (.slice (some ⟨g, 0, none⟩) n cap) L) (a m b : Nat) (ha : a = P.length) (hm : m = a + 1) (hb : b = m + V.length) :
    Calls Try.prog 56 #[.slice (some ⟨g, 0, none⟩) n cap, .int .i64 (a : Int), .int .i64 (m : Int), .int .i64 (b : Int), (.func (.func 28) #[] #[])] w (RowPost w base g n cap R) := by
  have hbn : b ≤ n := by rw [hL] at hl; simp only [List.length_append, List.length_singleton] at hl; omega
  have hS0 : Hid (SeekL w w base g n cap L V x m m b) := Lib.hid ⟨0, V.length, by omega, hb, by omega, Nat.le_refl _, fun t y ht => by omega, fun t y ht hy => by have := (List.getElem?_eq_some_iff.1 hy).1; omega, Row.start ho⟩
  have hma : IntKind.i64.wrap ((m : Int) - (a : Int)) = 1 := by rw [IntWalk.i64_in _ (by omega)]; omega
  have HL := Lib.hid hL
  have HR := Lib.hid hR
  have HA := Lib.hid ha
  have HM := Lib.hid hm
  have HB := Lib.hid hb
  have HN := Lib.hid hl
  have ha1 : a + 1 ≤ n := by omega
  clear hL hR ha hm hb hl ho
  go_enter Try.func56, Try.ntmps56
  go_wp2_with fail
  clear hma
  go_loopw [10, 11] (fun i j wr => ∃ i' j' : Nat, i = .int .i64 (i' : Int) ∧ j = .int .i64 (j' : Int) ∧ SeekL w wr base g n cap L V x m i' j') (fun i j _ => (intOf j).toNat - (intOf i).toNat)
  case atStart => exact ⟨_, _, rfl, rfl, hS0.out⟩
  case round =>
    clear hS0
    obtain ⟨i, j, rfl, rfl, p, r, hi, hj, hpr, hrV, hlo, hhi, hr⟩ := hrel
    by_cases hij : i < j
    · have hij2 : (i : Int) < (j : Int) := by omega
      have HI := Lib.hid hi
      have HJ := Lib.hid hj
      obtain ⟨h, hh⟩ : ∃ h, h = (i + j) / 2 := ⟨_, rfl⟩
      obtain ⟨ss, hss⟩ : ∃ s, s = i + j := ⟨_, rfl⟩
      have jn : j ≤ n := by have := HB.out; omega
      have hh1 : i ≤ h := by omega
      have hh2 : h < j := by omega
      obtain ⟨t, ht⟩ : ∃ t, h = m + t := ⟨h - m, by omega⟩
      obtain ⟨y, hy⟩ : ∃ y, V[t]? = some y := ⟨_, List.getElem?_eq_getElem (by omega)⟩
      have ey : L[h]? = some y := by rw [HL.out, ht, List.getElem?_append_left (by simp only [List.length_append, List.length_singleton]; have := (List.getElem?_eq_some_iff.1 hy).1; have := HA.out; have := HM.out; omega), List.getElem?_append_right (by simp only [List.length_append, List.length_singleton]; have := HA.out; have := HM.out; omega)]; rw [← hy]; congr 1; simp only [List.length_append, List.length_singleton]; have := HA.out; have := HM.out; omega
      have ex : L[a]? = some x := by rw [HL.out, HA.out, List.append_assoc, List.append_assoc]; exact at_len P _ x
      obtain ⟨y0, y1, y2⟩ := row_at hr.2 ey
      obtain ⟨x0, x1, x2⟩ := row_at hr.2 ex
      obtain ⟨-, hgl, -, -⟩ := row_frozen hr.2
      have i1 : (0 : Int) ≤ (h : Int) := by omega
      have i2 : (h : Int) < (n : Int) := by omega
      have i2n : h < n := by omega
      have i3 : (0 : Int) ≤ (a : Int) := by omega
      have i4 : (a : Int) < (n : Int) := by omega
      have i4n : a < n := by omega
      have HT := Lib.hid ht
      have HH := Lib.hid hh
      have HY := Lib.hid hy
      have HRW := Lib.hid hr
      have HLO := Lib.hid hlo
      have HHI := Lib.hid hhi
      have HN1 : Hid (∀ w2, Row w w2 base g n cap L → ltW y x = true → SeekL w w2 base g n cap L V x m (h + 1) j) := Lib.hid fun w2 hr2 hl => ⟨t + 1, r, by omega, hj, by omega, hrV, fun t2 y2 ht2 hy2 => geW_ltW (rise_le hv hy2 hy (by omega)) hl, hhi, hr2⟩
      have HN2 : Hid (∀ w2, Row w w2 base g n cap L → ltW y x = false → SeekL w w2 base g n cap L V x m i h) := Lib.hid fun w2 hr2 hl => ⟨p, t, hi, ht, by omega, by omega, hlo, fun t2 y2 ht2 hy2 => geW_trans (rise_le hv hy hy2 ht2) hl, hr2⟩
      have HPK := Lib.hid (And.intro hh1 (And.intro hh2 (And.intro jn (And.intro hpr (And.intro hrV (And.intro hij (And.intro ha1 (And.intro hbn hn))))))))
      obtain ⟨c1, c2, c3⟩ := half_facts hh hss (by omega) (by omega)
      clear hi hj ht hh hss ey ex hy hr hlo hhi hh1 hh2 jn hpr hrV hij ha1 hbn hn
      go_upto_region 5 with fail
      skip
      refine wp_region_held_drew (S := fun w' => Held wr w') (by kernel_rfl) (Held.of (New.refl _).drew) (fun hHeld => ?_)
      refine wpAnyH_take (i := 0) (oi := { dst := some 40, op := Op.move (Operand.tmp 4), type := 50, pos := "zsortanyfunc.go:390", after := #[], guard := none }) (v := ?_) rfl (by kernel_rfl) (by kernel_rfl) (by kernel_rfl) (fun _ _ _ h => h) (Or.inl ⟨by rfl, ?_⟩) (by assumption) ?_
      rotate_left
      · (intro wq hSw; (try dsimp only at hSw); go_simp; first | done | with_reducible rfl)
      try (simp only [Act.put, List.setIfInBounds_toArray, set16]; simp only [set4]; simp only [List.set_cons_zero])
      refine wpAnyH_take (i := 1) (oi := { dst := some 41, op := Op.move (Operand.tmp 0), type := 23, pos := "zsortanyfunc.go:390", after := #[], guard := none }) (v := ?_) rfl (by kernel_rfl) (by kernel_rfl) (by kernel_rfl) (fun _ _ _ h => h) (Or.inl ⟨by rfl, ?_⟩) (by assumption) ?_
      rotate_left
      · (intro wq hSw; (try dsimp only at hSw); go_simp; first | done | with_reducible rfl)
      try (simp only [Act.put, List.setIfInBounds_toArray, set16]; simp only [set4]; simp only [List.set_cons_succ, List.set_cons_zero])
      refine wpAnyH_take (i := 2) (oi := { dst := some 42, op := Op.move (Operand.tmp 12), type := 3, pos := "zsortanyfunc.go:390", after := #[], guard := none }) (v := ?_) rfl (by kernel_rfl) (by kernel_rfl) (by kernel_rfl) (fun _ _ _ h => h) (Or.inl ⟨by rfl, ?_⟩) (by assumption) ?_
      rotate_left
      · (intro wq hSw; (try dsimp only at hSw); go_simp; first | done | with_reducible rfl)
      try (simp only [Act.put, List.setIfInBounds_toArray, set16]; simp only [set4]; simp only [List.set_cons_succ, List.set_cons_zero])
      refine wpAnyH_take (i := 3) (oi := { dst := some 43, op := Op.indexAddr 23 (Operand.tmp 41) (Operand.tmp 42), type := 0, pos := "zsortanyfunc.go:390", after := #[{ on := 1, ground := Ground.data }, { on := 2, ground := Ground.data }], guard := none }) (v := ?_) rfl (by kernel_rfl) (by kernel_rfl) (by kernel_rfl) (fun _ _ _ h => h) (Or.inl ⟨by rfl, ?_⟩) (by assumption) ?_
      rotate_left
      · (intro wq hSw; (try dsimp only at hSw); go_simp; first | done | with_reducible rfl)
      try (simp only [Act.put, List.setIfInBounds_toArray, set16]; simp only [set4]; simp only [List.set_cons_succ, List.set_cons_zero])
      refine wpAnyH_take (i := 4) (oi := { dst := some 44, op := Op.load 43 (Operand.tmp 43), type := 43, pos := "zsortanyfunc.go:390", after := #[{ on := 3, ground := Ground.data }], guard := none }) (v := ?_) rfl (by kernel_rfl) (by kernel_rfl) (by kernel_rfl) (fun _ _ _ h => h) (Or.inl ⟨by rfl, ?_⟩) (by assumption) ?_
      rotate_left
      · (intro wq hSw; (try dsimp only at hSw); go_simp; first | done | with_reducible rfl)
      try (simp only [Act.put, List.setIfInBounds_toArray, set16]; simp only [set4]; simp only [List.set_cons_zero])
      refine wpAnyH_take (i := 5) (oi := { dst := some 45, op := Op.move (Operand.tmp 0), type := 23, pos := "zsortanyfunc.go:390", after := #[], guard := none }) (v := ?_) rfl (by kernel_rfl) (by kernel_rfl) (by kernel_rfl) (fun _ _ _ h => h) (Or.inl ⟨by rfl, ?_⟩) (by assumption) ?_
      rotate_left
      · (intro wq hSw; (try dsimp only at hSw); go_simp; first | done | with_reducible rfl)
      try (simp only [Act.put, List.setIfInBounds_toArray, set16]; simp only [set4]; simp only [List.set_cons_succ, List.set_cons_zero])
      refine wpAnyH_take (i := 6) (oi := { dst := some 46, op := Op.move (Operand.tmp 1), type := 3, pos := "zsortanyfunc.go:390", after := #[], guard := none }) (v := ?_) rfl (by kernel_rfl) (by kernel_rfl) (by kernel_rfl) (fun _ _ _ h => h) (Or.inl ⟨by rfl, ?_⟩) (by assumption) ?_
      rotate_left
      · (intro wq hSw; (try dsimp only at hSw); go_simp; first | done | with_reducible rfl)
      try (simp only [Act.put, List.setIfInBounds_toArray, set16]; simp only [set4]; simp only [List.set_cons_succ, List.set_cons_zero])
      refine wpAnyH_take (i := 7) (oi := { dst := some 47, op := Op.indexAddr 23 (Operand.tmp 45) (Operand.tmp 46), type := 0, pos := "zsortanyfunc.go:390", after := #[{ on := 5, ground := Ground.data }, { on := 6, ground := Ground.data }], guard := none }) (v := ?_) rfl (by kernel_rfl) (by kernel_rfl) (by kernel_rfl) (fun _ _ _ h => h) (Or.inl ⟨by rfl, ?_⟩) (by assumption) ?_
      rotate_left
      · (intro wq hSw; (try dsimp only at hSw); go_simp; first | done | with_reducible rfl)
      try (simp only [Act.put, List.setIfInBounds_toArray, set16]; simp only [set4]; simp only [List.set_cons_succ, List.set_cons_zero])
      refine wpAnyH_take (i := 8) (oi := { dst := some 48, op := Op.load 43 (Operand.tmp 47), type := 43, pos := "zsortanyfunc.go:390", after := #[{ on := 7, ground := Ground.data }], guard := none }) (v := ?_) rfl (by kernel_rfl) (by kernel_rfl) (by kernel_rfl) (fun _ _ _ h => h) (Or.inl ⟨by rfl, ?_⟩) (by assumption) ?_
      rotate_left
      · (intro wq hSw; (try dsimp only at hSw); go_simp; first | done | with_reducible rfl)
      try (simp only [Act.put, List.setIfInBounds_toArray, set16]; simp only [List.set_cons_zero])
      refine wpAnyH_ready (rs := [9]) (by kernel_rfl) (by simp) ?_
      refine AllReadyH.cons (o := { dst := some 49, op := Op.call { callee := Callee.value (Operand.tmp 40), args := #[Operand.tmp 44, Operand.tmp 48], argTypes := #[43, 43] }, type := 3, pos := "zsortanyfunc.go:390", after := #[{ on := 0, ground := Ground.data }, { on := 4, ground := Ground.data }, { on := 8, ground := Ground.data }], guard := none }) rfl (fun K hK => ?_) AllReadyH.nil
      go_simp
      refine (sortCmp_any y x _).mono ?_
      rintro e w2 ⟨rfl, hn2⟩
      have hn3 := (New.refl wr).drew.trans hn2
      refine hK.out _ _ ?_ (fun hHeld => ?_)
      · exact Held.of hn3
      clear hK K
      try (simp only [Act.put, List.setIfInBounds_toArray, set16]; simp only [List.set_cons_succ, List.set_cons_zero])
      refine wpAnyH_take (i := 10) (oi := { dst := some 50, op := Op.binOp BinOp.lss 3 (Operand.tmp 49) (Operand.const (Value.int IntKind.i64 0)) 3, type := 4, pos := "zsortanyfunc.go:390", after := #[{ on := 9, ground := Ground.data }], guard := none }) (v := .bool (ltW y x)) rfl (by kernel_rfl) (by kernel_rfl) (by kernel_rfl) (fun _ _ _ h => h) (Or.inl ⟨by rfl, ?_⟩) (by assumption) ?_
      · (intro wq hSw; (try dsimp only at hSw); go_simp; first | done | with_reducible rfl | (rw [cmpW_lt]; done) | simp only [cmpW_lt])
      try (simp only [Act.put, List.setIfInBounds_toArray, set16]; simp only [List.set_cons_succ, List.set_cons_zero])
      refine wpAnyH_done (by kernel_rfl) ?_ _
      have HR2 := Lib.hid (HRW.out.keep hn3)
      clear hHeld hn3 hn2 x0 x1 x2 y0 y1 y2 HRW c1 c2 c3
      cases hlb : ltW y x with
      | true =>
        have HN := Lib.hid (HN1.out _ HR2.out hlb)
        obtain ⟨h1, hh1⟩ : ∃ h1, h1 = h + 1 := ⟨_, rfl⟩
        rw [← hh1] at HN
        have wh : IntKind.i64.wrap ((h : Int) + 1) = (h1 : Int) := by obtain ⟨_, _, _, _, _, _, _, _, _⟩ := HPK.out; rw [IntWalk.i64_in _ (by omega)]; omega
        have HH1 := Lib.hid hh1
        clear hlb HR2 HN1 HN2 hh1 i1 i2 i2n i3 i4 i4n hij2
        go_wp2_with fail
        go_roundw
        case rel => exact ⟨h1, j, rfl, rfl, HN.out⟩
        case measure => obtain ⟨_, _, _, _, _, _, _, _, _⟩ := HPK.out; have := HH1.out; simp [intOf]; omega
      | false =>
        have HN := Lib.hid (HN2.out _ HR2.out hlb)
        clear hlb HR2 HN1 HN2 i1 i2 i2n i3 i4 i4n hij2
        go_wp2_with fail
        go_roundw
        case rel => exact ⟨i, h, rfl, rfl, HN.out⟩
        case measure => obtain ⟨_, _, _, _, _, _, _, _, _⟩ := HPK.out; simp [intOf]; omega
    · have hij2 : ¬ (i : Int) < (j : Int) := by omega
      have hpr2 : p = r := by omega
      have HSP : Hid (sortW (x :: V) = V.take p ++ x :: V.drop p) := Lib.hid (by
        have e := List.take_append_drop p V
        have h := sortW_left (x := x) (a := V.take p) (b := V.drop p) (by rw [e]; exact hv) (fun y hy => by
          obtain ⟨t, ht, hty⟩ := List.mem_iff_getElem.1 hy
          rw [List.length_take] at ht
          exact hlo t y (by omega) (by rw [← hty, List.getElem_take, List.getElem?_eq_getElem (by omega)])) (fun y hy => by
          obtain ⟨t, ht, hty⟩ := List.mem_iff_getElem.1 hy
          rw [List.length_drop] at ht
          exact hhi (p + t) y (by omega) (by rw [← hty, List.getElem_drop, List.getElem?_eq_getElem (by omega)]))
        rw [e] at h
        exact h)
      have HS0 : Hid (∃ t, a = a + t ∧ t ≤ p ∧ Row w wr base g n cap (P ++ V.take t ++ [x] ++ V.drop t ++ Q)) := Lib.hid ⟨0, rfl, by omega, by rw [HL.out] at hr; simpa using hr⟩
      obtain ⟨e0, he0⟩ : ∃ e0, e0 = a + p := ⟨_, rfl⟩
      have HE0 := Lib.hid he0
      have HPV := Lib.hid (show p ≤ V.length by omega)
      have HBN := Lib.hid (And.intro hbn (And.intro ha1 hn))
      have hie : IntKind.i64.wrap ((i : Int) - 1) = (e0 : Int) := by have := HM.out; have := HB.out; rw [IntWalk.i64_in _ (by omega)]; omega
      clear hi hj hpr hrV hlo hhi hr hpr2 he0 hbn ha1 hv hV
      go_wp2_with fail
      have HIE := Lib.hid hie
      clear hie
      go_loopw [13] (fun k wr => ∃ k2 : Nat, k = .int .i64 (k2 : Int) ∧ ∃ t, k2 = a + t ∧ t ≤ p ∧ Row w wr base g n cap (P ++ V.take t ++ [x] ++ V.drop t ++ Q)) (fun k _ => e0 - (intOf k).toNat)
      case atStart => exact ⟨a, rfl, HS0.out⟩
      case round =>
        clear HS0
        obtain ⟨k, rfl, t, hk, htp, hr⟩ := hrel
        by_cases hke : k < e0
        · have hke2 : (k : Int) < (e0 : Int) := by omega
          have htp2 : t < p := by have := HE0.out; omega
          obtain ⟨y, hy⟩ : ∃ y, V[t]? = some y := ⟨_, List.getElem?_eq_getElem (by have := HPV.out; omega)⟩
          obtain ⟨hyl, hye⟩ := List.getElem?_eq_some_iff.1 hy
          have eL : P ++ V.take t ++ [x] ++ V.drop t ++ Q = (P ++ V.take t) ++ x :: ([] ++ y :: (V.drop (t + 1) ++ Q)) := by rw [List.drop_eq_getElem_cons hyl, hye]; simp
          have eA : (P ++ V.take t).length = k := by rw [List.length_append, List.length_take]; have := HA.out; omega
          rw [eL] at hr
          obtain ⟨g1, g2⟩ := get_two (P ++ V.take t) [] (V.drop (t + 1) ++ Q) x y
          have hk2 := (List.getElem?_eq_some_iff.1 g2).1
          obtain ⟨hfz, hgl, hnn, -⟩ := row_frozen hr.2
          rw [← hnn] at hk2
          obtain ⟨x0, x1, x2⟩ := row_at hr.2 g1
          obtain ⟨y0, y1, y2⟩ := row_at hr.2 g2
          rw [eA, List.length_nil, Nat.add_zero] at y0 y1 y2 hk2
          rw [eA] at x0 x1 x2
          obtain ⟨k1, hk1⟩ : ∃ k1, k1 = k + 1 := ⟨_, rfl⟩
          have hp := (hr.put (k := k) (x := y) (by omega)).put (k := k1) (x := x) (by rw [List.length_set]; omega)
          rw [set_two (P ++ V.take t) [] (V.drop (t + 1) ++ Q) x y eA.symm (by rw [eA, List.length_nil]; omega)] at hp
          have hp2 : Row w (put3 (put3 wr g k y) g k1 x) base g n cap (P ++ V.take (t + 1) ++ [x] ++ V.drop (t + 1) ++ Q) := by rw [List.take_add_one, hy]; simpa using hp
          have HP := Lib.hid hp2
          rw [← hk1] at y0 y1 y2 hk2
          have w1 : IntKind.i64.wrap ((k : Int) + 1) = (k1 : Int) := by have := HBN.out; rw [IntWalk.i64_in _ (by omega)]; omega
          have j1 : (0 : Int) ≤ (k : Int) := by omega
          have j2 : (0 : Int) ≤ (k1 : Int) := by omega
          have j3 : (k : Int) < (n : Int) := by omega
          have j4 : (k1 : Int) < (n : Int) := by omega
          have j5 : k < n := by omega
          have n3 : k ≠ k1 := by omega
          have HK := Lib.hid hk
          have HK1 := Lib.hid hk1
          have HTP := Lib.hid htp2
          clear hk hk1 hr hp hp2 eL eA g1 g2 hy hyl hye htp htp2 hnn hij
          have hie := HIE.out
          go_upto_region 11 with fail
          go_region
          go_wp2_with fail
          go_roundw
          case rel => exact ⟨k1, rfl, t + 1, by have := HK.out; have := HK1.out; omega, by have := HTP.out; omega, HP.out.keep (New.refl _).drew⟩
          case measure => have := HK1.out; simp [intOf]; omega
        · have hke2 : ¬ (k : Int) < (e0 : Int) := by omega
          have htp3 : t = p := by have := HE0.out; omega
          have HD : Hid (Row w wr base g n cap R) := Lib.hid (by rw [HR.out, HSP.out]; rw [htp3] at hr; simpa using hr)
          clear hr hk htp htp3
          have hie := HIE.out
          go_wp2_with fail
          go_end0
          exact ⟨rfl, HD.out⟩
end Go.Proofs.Ytdobingccipkkaa
