/- Chapter 5 (batch): two runs of a row of writes change places. Printed by genBat17.py. -/
import Derived.Test.YtdobingccipkkaaBat16
import Derived.Test.YtdobingccipkkaaBat12
namespace Go.Proofs.Ytdobingccipkkaa
open Go.RowKit Go.Lap
set_option linter.unusedVariables false

/-- The row in block g holds these writes; nothing else of old has changed. -/
def Row (w0 wr : World) (base g n cap : Nat) (l : List Wri) : Prop := Upd (· = g) w0 wr ∧ Owns wr base 43 3 Wri.enc (.slice (some ⟨g, 0, none⟩) n cap) l
theorem Row.keep {w0 wr w' : World} {base g n cap : Nat} {l : List Wri} (h : Row w0 wr base g n cap l) (hn : New wr w') : Row w0 w' base g n cap l := ⟨h.1.transNew hn, h.2.new hn⟩
theorem Row.next {w0 wr w' : World} {base g n cap : Nat} {l l' : List Wri} (h : Row w0 wr base g n cap l) (k : Row wr w' base g n cap l') : Row w0 w' base g n cap l' := ⟨h.1.trans k.1 (fun _ _ h => h), k.2⟩
theorem Row.start {w : World} {base g n cap : Nat} {l : List Wri} (h : Owns w base 43 3 Wri.enc (.slice (some ⟨g, 0, none⟩) n cap) l) : Row w w base g n cap l := ⟨Upd.refl _ w, h⟩
theorem Row.put {w0 wr : World} {base g n cap k : Nat} {l : List Wri} {x : Wri} (h : Row w0 wr base g n cap l) (hk : k < l.length) : Row w0 (put3 wr g k x) base g n cap (l.set k x) :=
  ⟨h.1.trans (row_upd _ _ _ _) (fun _ _ h => h), row_put h.2 hk⟩
/-- What the row's functions answer. -/
def RowPost (w0 : World) (base g n cap : Nat) (l : List Wri) (e : Ending) (w' : World) : Prop := e = .returned (.tuple #[]) ∧ Row w0 w' base g n cap l

/-- Two writes change places. -/
theorem set_two (A B D : List Wri) (x y : Wri) {i j : Nat} (hi : i = A.length) (hj : j = A.length + 1 + B.length) : ((A ++ x :: (B ++ y :: D)).set i y).set j x = A ++ y :: (B ++ x :: D) := by
  subst hi hj
  rw [List.set_append_right _ _ (by omega), Nat.sub_self, List.set_cons_zero, List.set_append_right _ _ (by omega)]
  rw [show A.length + 1 + B.length - A.length = B.length + 1 by omega, List.set_cons_succ, List.set_append_right _ _ (by omega), Nat.sub_self, List.set_cons_zero]
theorem get_two (A B D : List Wri) (x y : Wri) : (A ++ x :: (B ++ y :: D))[A.length]? = some x ∧ (A ++ x :: (B ++ y :: D))[A.length + 1 + B.length]? = some y := by
  refine ⟨at_len _ _ _, ?_⟩
  have h := at_len (A ++ x :: B) D y
  simp only [List.append_assoc, List.cons_append, List.length_append, List.length_cons] at h
  rw [show A.length + 1 + B.length = A.length + (B.length + 1) by omega]
  exact h

/-- So many have changed places. -/
def SwapRow (P X M Y Q : List Wri) (i : Nat) : List Wri := P ++ (Y.take i ++ X.drop i) ++ M ++ (X.take i ++ Y.drop i) ++ Q
theorem sw_zero (P X M Y Q : List Wri) : SwapRow P X M Y Q 0 = P ++ X ++ M ++ Y ++ Q := by simp [SwapRow]
theorem sw_full {P X M Y Q : List Wri} {i : Nat} (hX : X.length = i) (hY : Y.length = i) : SwapRow P X M Y Q i = P ++ Y ++ M ++ X ++ Q := by
  unfold SwapRow
  rw [List.take_of_length_le (by omega), List.take_of_length_le (by omega), List.drop_eq_nil_of_le (by omega), List.drop_eq_nil_of_le (by omega)]
  simp
theorem sw_at {P X M Y Q : List Wri} {n i : Nat} {x y : Wri} (hX : X.length = n) (hY : Y.length = n) (hx : X[i]? = some x) (hy : Y[i]? = some y) :
    ∃ A B D : List Wri, A.length = P.length + i ∧ A.length + 1 + B.length = P.length + n + M.length + i ∧ SwapRow P X M Y Q i = A ++ x :: (B ++ y :: D) ∧ SwapRow P X M Y Q (i + 1) = A ++ y :: (B ++ x :: D) := by
  obtain ⟨hi, hxe⟩ := List.getElem?_eq_some_iff.1 hx
  obtain ⟨hj, hye⟩ := List.getElem?_eq_some_iff.1 hy
  refine ⟨P ++ Y.take i, X.drop (i + 1) ++ M ++ X.take i, Y.drop (i + 1) ++ Q, by simp; omega, by simp; omega, ?_, ?_⟩
  · unfold SwapRow
    rw [List.drop_eq_getElem_cons hi, List.drop_eq_getElem_cons hj, hxe, hye]
    simp
  · unfold SwapRow
    rw [List.take_add_one, List.take_add_one, hx, hy]
    simp

set_option maxRecDepth 100000 in
set_option maxHeartbeats 8000000 in
theorem swap_row (base g n cap k : Nat) (P X M Y Q L R : List Wri) (w : World) (hn : n ≤ 100000) (hX : X.length = k) (hY : Y.length = k) (hL : L = P ++ X ++ M ++ Y ++ Q) (hR : R = P ++ Y ++ M ++ X ++ Q) (hl : n = L.length)
    (ho : Owns w base 43 3 Wri.enc (.slice (some ⟨g, 0, none⟩) n cap) L) (a b : Nat) (ha : a = P.length) (hb : b = P.length + k + M.length) :
    Calls Try.prog 59 #[.slice (some ⟨g, 0, none⟩) n cap, .int .i64 (a : Int), .int .i64 (b : Int), .int .i64 (k : Int), (.func (.func 28) #[] #[])] w (RowPost w base g n cap R) := by
  have hR0 : Hid (Row w w base g n cap (SwapRow P X M Y Q 0)) := Lib.hid (by rw [sw_zero, ← hL]; exact Row.start ho)
  have HRR := Lib.hid hR
  rw [hL] at hl
  clear hR hL
  have hlen : b + k ≤ n := by simp only [List.length_append] at hl; omega
  have hak : a + k ≤ b := by omega
  have HX := Lib.hid hX
  have HY := Lib.hid hY
  have HA := Lib.hid ha
  have HB := Lib.hid hb
  clear hl hX hY ha hb
  clear ho
  go_enter Try.func59, Try.ntmps59
  go_wp2_with fail
  go_loopw [10] (fun i wr => ∃ j : Nat, j ≤ k ∧ i = .int .i64 (j : Int) ∧ Row w wr base g n cap (SwapRow P X M Y Q j)) (fun i _ => k - (intOf i).toNat)
  case atStart => exact ⟨0, by omega, rfl, hR0.out⟩
  case round =>
    clear hR0
    obtain ⟨j, hj, rfl, hr⟩ := hrel
    by_cases hlt : j < k
    · have hlt2 : (j : Int) < (k : Int) := by omega
      obtain ⟨x, hx⟩ : ∃ x, X[j]? = some x := ⟨_, List.getElem?_eq_getElem (by rw [HX.out]; exact hlt)⟩
      obtain ⟨y, hy⟩ : ∃ y, Y[j]? = some y := ⟨_, List.getElem?_eq_getElem (by rw [HY.out]; exact hlt)⟩
      obtain ⟨A, B, D, hA, hB, e1, e2⟩ := sw_at (P := P) (M := M) (Q := Q) HX.out HY.out hx hy
      rw [e1] at hr
      obtain ⟨g1, g2⟩ := get_two A B D x y
      obtain ⟨x0, x1, x2⟩ := row_at hr.2 g1
      obtain ⟨y0, y1, y2⟩ := row_at hr.2 g2
      have hb1 : b + j < (A ++ x :: (B ++ y :: D)).length := by have := (List.getElem?_eq_some_iff.1 g2).1; have := HB.out; omega
      have hp := (hr.put (k := a + j) (x := y) (by omega)).put (k := b + j) (x := x) (by rw [List.length_set]; omega)
      rw [set_two A B D x y (by have := HA.out; omega) (by have := HB.out; omega), ← e2] at hp
      have HP := Lib.hid hp
      obtain ⟨hfz, hgl, -, -⟩ := row_frozen hr.2
      have eA : A.length = a + j := by have := HA.out; omega
      have eB : A.length + 1 + B.length = b + j := by have := HB.out; omega
      rw [eA] at x0 x1 x2
      rw [eB] at y0 y1 y2
      clear hx hy g1 g2 e1 e2 hA hB eA eB hr hp hb1
      have w1 : IntKind.i64.wrap ((a : Int) + (j : Int)) = ((a + j : Nat) : Int) := by rw [IntWalk.i64_in _ (by omega)]; omega
      have w2 : IntKind.i64.wrap ((b : Int) + (j : Int)) = ((b + j : Nat) : Int) := by rw [IntWalk.i64_in _ (by omega)]; omega
      have n1 : a + j < n := by omega
      have n2 : b + j < n := by omega
      have n3 : a + j ≠ b + j := by omega
      have HN := Lib.hid (show b + k ≤ n from hlen)
      obtain ⟨ia, hia⟩ : ∃ ia, ia = a + j := ⟨_, rfl⟩
      obtain ⟨ib, hib⟩ : ∃ ib, ib = b + j := ⟨_, rfl⟩
      rw [← hia] at x0 x1 x2 w1 n1 n3 HP
      rw [← hib] at y0 y1 y2 w2 n2 n3 HP
      clear hia hib
      have i1 : (0 : Int) ≤ (ia : Int) := by omega
      have i2 : (0 : Int) ≤ (ib : Int) := by omega
      have i3 : (ia : Int) < (n : Int) := by omega
      have i4 : (ib : Int) < (n : Int) := by omega
      go_upto_region 3 with fail
      go_region
      go_wp2_with fail
      go_roundw
      case rel => exact ⟨j + 1, by omega, by go_num, HP.out.keep (New.refl _).drew⟩
      case measure => simp [intOf]; omega
    · have hlt2 : ¬ (j : Int) < (k : Int) := by omega
      have HD : Hid (Row w wr base g n cap R) := Lib.hid (by rw [HRR.out, ← sw_full (i := j) (by rw [HX.out]; omega) (by rw [HY.out]; omega)]; exact hr)
      clear hr
      go_wp2_with fail
      go_end0
      exact ⟨rfl, HD.out⟩

/-- A rotation in work: what is ahead and behind has its place. -/
def RotRel (w0 wr : World) (base g n cap : Nat) (P U V Q : List Wri) (m i j : Nat) : Prop := ∃ A U' V' B : List Wri, U'.length = i ∧ V'.length = j ∧ m = P.length + A.length + i ∧ 0 < i ∧ 0 < j ∧
  A ++ V' ++ U' ++ B = V ++ U ∧ Row w0 wr base g n cap (P ++ A ++ U' ++ V' ++ B ++ Q)

set_option maxRecDepth 100000 in
set_option maxHeartbeats 8000000 in
theorem rotate_row (base g n cap : Nat) (P U V Q L R : List Wri) (w : World) (hn : n ≤ 100000) (hU : 0 < U.length) (hV : 0 < V.length) (hL : L = P ++ U ++ V ++ Q) (hR : R = P ++ V ++ U ++ Q) (hl : n = L.length)
    (ho : Owns w base 43 3 Wri.enc (.slice (some ⟨g, 0, none⟩) n cap) L) (a m b : Nat) (ha : a = P.length) (hm : m = P.length + U.length) (hb : b = P.length + U.length + V.length) :
    Calls Try.prog 58 #[.slice (some ⟨g, 0, none⟩) n cap, .int .i64 (a : Int), .int .i64 (m : Int), .int .i64 (b : Int), (.func (.func 28) #[] #[])] w (RowPost w base g n cap R) := by
  rw [hL] at ho hl
  have HRR := Lib.hid hR
  clear hR hL
  have hR0 : Hid (RotRel w w base g n cap P U V Q m U.length V.length) := Lib.hid ⟨[], U, V, [], rfl, rfl, by simp; omega, hU, hV, by simp, by simpa using Row.start ho⟩
  have hbn : b ≤ n := by simp only [List.length_append] at hl; omega
  have hLN : Hid ((P ++ (V ++ U) ++ Q).length = n) := Lib.hid (by rw [hl]; simp; omega)
  have hma : IntKind.i64.wrap ((m : Int) - (a : Int)) = (U.length : Int) := by rw [IntWalk.i64_in _ (by omega)]; omega
  have hbm : IntKind.i64.wrap ((b : Int) - (m : Int)) = (V.length : Int) := by rw [IntWalk.i64_in _ (by omega)]; omega
  have HB := Lib.hid hb
  have HMM := Lib.hid hm
  clear ho hl ha hb hm hU hV
  go_enter Try.func58, Try.ntmps58
  go_wp2_with fail
  go_loopw [10, 11] (fun i j wr => ∃ i' j' : Nat, i = .int .i64 (i' : Int) ∧ j = .int .i64 (j' : Int) ∧ RotRel w wr base g n cap P U V Q m i' j') (fun i j _ => (intOf i).toNat + (intOf j).toNat)
  case atStart => exact ⟨_, _, rfl, rfl, hR0.out⟩
  case round =>
    clear hR0
    obtain ⟨i, j, rfl, rfl, A, U', V', B, hU', hV', hm, hi0, hj0, he, hr⟩ := hrel
    have hle : P.length + (A.length + j + i + B.length) + Q.length = n := by have h1 := congrArg List.length he; have h2 := hLN.out; simp only [List.length_append, hU', hV'] at h1 h2; omega
    have hlr : n = (P ++ A ++ U' ++ V' ++ B ++ Q).length := by simp only [List.length_append, hU', hV']; omega
    have HE := Lib.hid he
    have HU := Lib.hid hU'
    have HV := Lib.hid hV'
    have HM := Lib.hid hm
    have HR := Lib.hid hr
    have HLR := Lib.hid hlr
    have hmi : IntKind.i64.wrap ((m : Int) - (i : Int)) = ((m - i : Nat) : Int) := by rw [IntWalk.i64_in _ (by omega)]; omega
    clear he hU' hV' hm hr hlr hma hbm
    by_cases hij : i = j
    · subst hij
      have hne : ((i : Int) != (i : Int)) = false := by simp
      have hs := swap_row base g n cap i (P ++ A) U' [] V' (B ++ Q) _ R wr hn HU.out HV.out (by simp) (by rw [HRR.out]; have h := HE.out; calc P ++ V ++ U ++ Q = P ++ (V ++ U) ++ Q := by simp
        _ = _ := by rw [← h]; simp) HLR.out HR.out.2 (m - i) m (by rw [List.length_append]; have := HM.out; omega) (by rw [List.length_append]; have := HM.out; simp; omega)
      have HS := Lib.hid hs
      clear hs
      go_wp2_with fail
      refine HS.out.mono ?_
      rintro e w2 ⟨rfl, hr2⟩
      have HD := Lib.hid (HR.out.next hr2)
      clear hr2
      go_wp2_with fail
      go_end0
      exact ⟨rfl, HD.out⟩
    · have hne : ((i : Int) != (j : Int)) = true := by rw [bne_iff_ne]; omega
      by_cases hgt : j < i
      · have hgt2 : (j : Int) < (i : Int) := by omega
        have eU := (List.take_append_drop j U').symm
        have hX : (U'.take j).length = j := by rw [List.length_take, HU.out]; omega
        have hW : (U'.drop j).length = i - j := by rw [List.length_drop, HU.out]
        have hs := swap_row base g n cap j (P ++ A) (U'.take j) (U'.drop j) V' (B ++ Q) _ (P ++ (A ++ V') ++ U'.drop j ++ U'.take j ++ B ++ Q) wr hn hX HV.out (by have h : P ++ A ++ U' ++ V' ++ B ++ Q = P ++ A ++ (U'.take j ++ U'.drop j) ++ V' ++ B ++ Q := (by rw [← eU]); rw [h]; simp) (by simp) HLR.out HR.out.2 (m - i) m
          (by rw [List.length_append]; have := HM.out; omega) (by rw [List.length_append, hW]; have := HM.out; omega)
        have HS := Lib.hid hs
        have HNX : Hid (∀ w2, Row w w2 base g n cap (P ++ (A ++ V') ++ U'.drop j ++ U'.take j ++ B ++ Q) → RotRel w w2 base g n cap P U V Q m (i - j) j) := Lib.hid fun w2 h => ⟨A ++ V', U'.drop j, U'.take j, B, hW, hX, by rw [List.length_append, HV.out]; have := HM.out; omega, by omega, by omega, by have h := HE.out; rw [eU] at h; simpa using h, h⟩
        obtain ⟨d, hd⟩ : ∃ d, d = i - j := ⟨_, rfl⟩
        rw [← hd] at HNX
        have hij3 : IntKind.i64.wrap ((i : Int) - (j : Int)) = (d : Int) := by rw [IntWalk.i64_in _ (by omega)]; omega
        have HDD := Lib.hid hd
        clear hs eU hX hW hd
        go_wp2_with fail
        refine HS.out.mono ?_
        rintro e w2 ⟨rfl, hr2⟩
        have HN2 := Lib.hid (HNX.out w2 (HR.out.next hr2))
        clear hr2
        go_wp2_with fail
        go_roundw
        case rel => exact ⟨d, j, rfl, rfl, HN2.out⟩
        case measure => have := HDD.out; simp [intOf]; omega
      · have hgt2 : ¬ (j : Int) < (i : Int) := by omega
        have eV := (List.take_append_drop (j - i) V').symm
        have hW : (V'.take (j - i)).length = j - i := by rw [List.length_take, HV.out]; omega
        have hY : (V'.drop (j - i)).length = i := by rw [List.length_drop, HV.out]; omega
        have hs := swap_row base g n cap i (P ++ A) U' (V'.take (j - i)) (V'.drop (j - i)) (B ++ Q) _ (P ++ A ++ V'.drop (j - i) ++ V'.take (j - i) ++ (U' ++ B) ++ Q) wr hn HU.out hY (by have h : P ++ A ++ U' ++ V' ++ B ++ Q = P ++ A ++ U' ++ (V'.take (j - i) ++ V'.drop (j - i)) ++ B ++ Q := (by rw [← eV]); rw [h]; simp) (by simp) HLR.out HR.out.2 (m - i) (m + j - i)
          (by rw [List.length_append]; have := HM.out; omega) (by rw [List.length_append, hW]; have := HM.out; omega)
        have HS := Lib.hid hs
        have HNX : Hid (∀ w2, Row w w2 base g n cap (P ++ A ++ V'.drop (j - i) ++ V'.take (j - i) ++ (U' ++ B) ++ Q) → RotRel w w2 base g n cap P U V Q m i (j - i)) := Lib.hid fun w2 h => ⟨A, V'.drop (j - i), V'.take (j - i), U' ++ B, hY, hW, HM.out, by omega, by omega, by have h := HE.out; rw [eV] at h; simpa using h, h⟩
        obtain ⟨d, hd⟩ : ∃ d, d = j - i := ⟨_, rfl⟩
        rw [← hd] at HNX HS
        have hji3 : IntKind.i64.wrap ((j : Int) - (i : Int)) = (d : Int) := by rw [IntWalk.i64_in _ (by omega)]; omega
        have wmj : IntKind.i64.wrap ((m : Int) + (j : Int)) = (m : Int) + (j : Int) := by have := HM.out; rw [IntWalk.i64_in _ (by omega)]
        have wmji : IntKind.i64.wrap ((m : Int) + (j : Int) - (i : Int)) = ((m + j - i : Nat) : Int) := by have := HM.out; rw [IntWalk.i64_in _ (by omega)]; omega
        have HDD := Lib.hid hd
        clear hs eV hY hW hd
        go_wp2_with fail
        refine HS.out.mono ?_
        rintro e w2 ⟨rfl, hr2⟩
        have HN2 := Lib.hid (HNX.out w2 (HR.out.next hr2))
        clear hr2
        go_wp2_with fail
        go_roundw
        case rel => exact ⟨i, d, rfl, rfl, HN2.out⟩
        case measure => have := HDD.out; simp [intOf]; omega
end Go.Proofs.Ytdobingccipkkaa
