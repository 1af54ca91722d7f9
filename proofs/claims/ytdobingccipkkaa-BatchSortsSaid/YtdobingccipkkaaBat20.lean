/- Chapter 5 (batch): two sorted runs of a row of writes are merged, of any lengths. Printed by genBat20.py. -/
import Derived.Test.YtdobingccipkkaaBat19
namespace Go.Proofs.Ytdobingccipkkaa
open Go.RowKit Go.Lap
set_option linter.unusedVariables false

/-- Where the search begins and ends. -/
structure Cut (U V : List Wri) (a m b mid N lo hi : Nat) : Prop where
  hm : m = a + U.length
  hb : b = m + V.length
  hN : N = mid + m
  m1 : 2 * mid ≤ a + b
  m2 : a + b ≤ 2 * mid + 1
  ends : (mid < m ∧ lo = N - b ∧ hi = mid) ∨ (m ≤ mid ∧ lo = a ∧ hi = m)
theorem Cut.facts {U V : List Wri} {a m b mid N lo hi : Nat} (h : Cut U V a m b mid N lo hi) (hU : 1 < U.length) (hV : 1 < V.length) : a ≤ lo ∧ lo ≤ hi ∧ hi ≤ m ∧ N ≤ b + lo ∧ hi + m ≤ N ∧ a < mid ∧ mid < b ∧ a + b ≤ N + lo + 1 + b := by
  obtain ⟨hm, hb, hN, m1, m2, he⟩ := h
  rcases he with ⟨h1, h2, h3⟩ | ⟨h1, h2, h3⟩ <;> refine ⟨?_, ?_, ?_, ?_, ?_, ?_, ?_, ?_⟩ <;> omega

/-- Below a place the search has said no, from another one on yes. -/
def SeekG (U V : List Wri) (a m N lo hi s r : Nat) : Prop := lo ≤ s ∧ s ≤ r ∧ r ≤ hi ∧ (∀ t u v, lo ≤ t → t < s → U[t - a]? = some u → V[N - 1 - t - m]? = some v → ltW v u = false) ∧ (∀ t u v, r ≤ t → t < hi → U[t - a]? = some u → V[N - 1 - t - m]? = some v → ltW v u = true)

theorem mem_take_at {l : List Wri} {k : Nat} {x : Wri} (h : x ∈ l.take k) : ∃ i, i < k ∧ l[i]? = some x := by
  obtain ⟨t, ht, e⟩ := List.mem_iff_getElem.1 h
  rw [List.length_take] at ht
  exact ⟨t, by omega, by rw [← e, List.getElem_take, List.getElem?_eq_getElem (by omega)]⟩
theorem mem_drop_at {l : List Wri} {k : Nat} {x : Wri} (h : x ∈ l.drop k) : ∃ i, k ≤ i ∧ l[i]? = some x := by
  obtain ⟨t, ht, e⟩ := List.mem_iff_getElem.1 h
  rw [List.length_drop] at ht
  exact ⟨k + t, by omega, by rw [← e, List.getElem_drop, List.getElem?_eq_getElem (by omega)]⟩

theorem Cut.split {U V : List Wri} {a m b mid N lo hi s : Nat} (h : Cut U V a m b mid N lo hi) (hU : 1 < U.length) (hV : 1 < V.length) (rU : RiseW U) (rV : RiseW V) (hs : SeekG U V a m N lo hi s s) :
    (∀ u ∈ U.take (s - a), ∀ v ∈ V.drop (N - s - m), ltW v u = false) ∧ (∀ v ∈ V.take (N - s - m), ∀ u ∈ U.drop (s - a), ltW v u = true) := by
  obtain ⟨f1, f2, f3, f4, f5, f6, f7, _⟩ := h.facts hU hV
  obtain ⟨hm, hb, hN, m1, m2, he⟩ := h
  obtain ⟨s1, _, s2, hF, hT⟩ := hs
  refine ⟨fun u hu v hv => ?_, fun v hv u hu => ?_⟩
  · obtain ⟨i, hi1, hu⟩ := mem_take_at hu
    obtain ⟨j, hj1, hv⟩ := mem_drop_at hv
    have hil := (List.getElem?_eq_some_iff.1 hu).1
    have hjl := (List.getElem?_eq_some_iff.1 hv).1
    rcases Nat.lt_or_ge lo s with hlt | hge
    · obtain ⟨u0, hu0⟩ : ∃ u0, U[s - 1 - a]? = some u0 := ⟨_, List.getElem?_eq_getElem (by omega)⟩
      obtain ⟨v0, hv0⟩ : ∃ v0, V[N - 1 - (s - 1) - m]? = some v0 := ⟨_, List.getElem?_eq_getElem (by omega)⟩
      have h0 := hF (s - 1) u0 v0 (by omega) (by omega) hu0 hv0
      exact geW_trans (geW_trans (rise_le rV hv0 hv (by omega)) h0) (rise_le rU hu hu0 (by omega))
    · exfalso
      rcases he with ⟨h1, h2, h3⟩ | ⟨h1, h2, h3⟩ <;> omega
  · obtain ⟨j, hj1, hv⟩ := mem_take_at hv
    obtain ⟨i, hi1, hu⟩ := mem_drop_at hu
    have hil := (List.getElem?_eq_some_iff.1 hu).1
    have hjl := (List.getElem?_eq_some_iff.1 hv).1
    rcases Nat.lt_or_ge s hi with hlt | hge
    · obtain ⟨u0, hu0⟩ : ∃ u0, U[s - a]? = some u0 := ⟨_, List.getElem?_eq_getElem (by omega)⟩
      obtain ⟨v0, hv0⟩ : ∃ v0, V[N - 1 - s - m]? = some v0 := ⟨_, List.getElem?_eq_getElem (by omega)⟩
      have h0 := hT s u0 v0 (by omega) hlt hu0 hv0
      exact ltW_geW (geW_ltW (rise_le rV hv hv0 (by omega)) h0) (rise_le rU hu0 hu (by omega))
    · exfalso
      rcases he with ⟨h1, h2, h3⟩ | ⟨h1, h2, h3⟩ <;> omega

/-- The search in the walk. -/
def SeekW (w0 wr : World) (base g n cap : Nat) (L U V : List Wri) (a m N lo hi s r : Nat) : Prop := SeekG U V a m N lo hi s r ∧ Row w0 wr base g n cap L

/-- The merge of two runs that hold so many writes. -/
def SymAt (fuel : Nat) : Prop := ∀ (base g n cap : Nat) (P U V Q L R : List Wri) (w : World), n ≤ 100000 → U.length + V.length ≤ fuel → 0 < U.length → 0 < V.length → RiseW U → RiseW V → L = P ++ U ++ V ++ Q → R = P ++ sortW (U ++ V) ++ Q → n = L.length →
    Owns w base 43 3 Wri.enc (.slice (some ⟨g, 0, none⟩) n cap) L → ∀ (a m b : Nat), a = P.length → m = a + U.length → b = m + V.length →
    Calls Try.prog 56 #[.slice (some ⟨g, 0, none⟩) n cap, .int .i64 (a : Int), .int .i64 (m : Int), .int .i64 (b : Int), (.func (.func 28) #[] #[])] w (RowPost w base g n cap R)

set_option maxRecDepth 100000 in
set_option maxHeartbeats 8000000 in
theorem sym_step (fuel : Nat) (IH : SymAt fuel) : SymAt (fuel + 1) := by
  intro base g n cap P U V Q L R w hn hf hU0 hV0 rU rV hL hR hl ho a m b ha hm hb
  have IH := Lib.hid IH
  by_cases hU1 : U.length = 1
  · obtain ⟨x, rfl⟩ := List.length_eq_one_iff.1 hU1
    exact sym_left base g n cap P V Q L R x w hn hV0 rV hL hR hl ho a m b ha hm hb
  by_cases hV1 : V.length = 1
  · obtain ⟨x, rfl⟩ := List.length_eq_one_iff.1 hV1
    exact sym_right base g n cap P U Q L R x w hn (by omega) rU hL hR hl ho a m b ha hm hb
  have hU : 1 < U.length := by omega
  have hV : 1 < V.length := by omega
  have hbn : b ≤ n := by rw [hL] at hl; simp only [List.length_append] at hl; omega
  obtain ⟨d0, hd0⟩ : ∃ d, d = m - a := ⟨_, rfl⟩
  obtain ⟨d1, hd1⟩ : ∃ d, d = b - m := ⟨_, rfl⟩
  obtain ⟨mid, hmid⟩ : ∃ h, h = (a + b) / 2 := ⟨_, rfl⟩
  obtain ⟨ss, hss⟩ : ∃ s, s = a + b := ⟨_, rfl⟩
  obtain ⟨N, hN⟩ : ∃ N, N = mid + m := ⟨_, rfl⟩
  obtain ⟨pp, hpp⟩ : ∃ p, p = N - 1 := ⟨_, rfl⟩
  have q1 : ((d0 : Int) == 1) = false := by rw [beq_eq_false_iff_ne]; omega
  have q2 : (d0 == 1) = false := by rw [beq_eq_false_iff_ne]; omega
  have q3 : ¬ (d0 = 1) := by omega
  have q4 : ((d1 : Int) == 1) = false := by rw [beq_eq_false_iff_ne]; omega
  have q5 : (d1 == 1) = false := by rw [beq_eq_false_iff_ne]; omega
  have q6 : ¬ (d1 = 1) := by omega
  have hmn : m ≤ b := by omega
  have ham : a ≤ m := by omega
  have hRow := Lib.hid (Row.start ho)
  have HL := Lib.hid hL
  have HR := Lib.hid hR
  have HA := Lib.hid ha
  have HM := Lib.hid hm
  have HB := Lib.hid hb
  have HNN := Lib.hid hl
  have HMID := Lib.hid hmid
  have HN := Lib.hid hN
  have HPP := Lib.hid hpp
  have HFU := Lib.hid hf
  have HBN := Lib.hid hbn
  have h0 : (a + b) / 2 ≤ 100000 := by omega
  have hmidl : mid ≤ n := by omega
  have hN1 : N ≤ 2 * n := by omega
  have hNp : 1 ≤ N := by omega
  have w4 : IntKind.i64.wrap ((mid : Int) + (m : Int)) = (N : Int) := by rw [IntWalk.i64_in _ (by omega)]; omega
  have w5 : IntKind.i64.wrap ((N : Int) - 1) = (pp : Int) := by rw [IntWalk.i64_in _ (by omega)]; omega
  have w2 : IntKind.i64.wrap ((m : Int) - (a : Int)) = (d0 : Int) := by rw [IntWalk.i64_in _ (by omega)]; omega
  have w3 : IntKind.i64.wrap ((b : Int) - (m : Int)) = (d1 : Int) := by rw [IntWalk.i64_in _ (by omega)]; omega
  have HW := Lib.hid (And.intro w2 (And.intro w3 (And.intro w4 w5)))
  clear w2 w3 w4 w5
  have HC3 := Lib.hid (half_facts hmid hss (by omega) (by omega))
  by_cases hgt : mid < m
  · have hgt2 : (mid : Int) < (m : Int) := by omega
    obtain ⟨lo, hlo⟩ : ∃ l, l = N - b := ⟨_, rfl⟩
    have hC : Hid (Cut U V a m b mid N lo mid) := Lib.hid ⟨hm, hb, hN, by omega, by omega, .inl ⟨hgt, hlo, rfl⟩⟩
    have w6 : IntKind.i64.wrap ((N : Int) - (b : Int)) = (lo : Int) := by have := hC.out.facts hU hV; rw [IntWalk.i64_in _ (by omega)]; omega
    have hS0 : Hid (SeekW w w base g n cap L U V a m N lo mid lo mid) := Lib.hid ⟨⟨Nat.le_refl _, (hC.out.facts hU hV).2.1, Nat.le_refl _, fun t _ _ _ _ => by omega, fun t _ _ _ _ => by omega⟩, hRow.out⟩
    obtain ⟨w2, w3, w4, w5⟩ := HW.out
    obtain ⟨c1, c2, c3⟩ := HC3.out
    clear hRow hL hR ha hm hb hl hmid hss hN hpp hf ho hd0 hd1 hlo h0 hmidl hN1 hNp hmn ham hbn hU0 hV0 hU1 hV1
    go_enter Try.func56, Try.ntmps56
    go_wp2_with fail
    rw [c3]
    clear w2 w3 w4 w5 w6 c1 c2 c3 q1 q2 q3 q4 q5 q6
    go_loopw [20, 21] (fun i j wr => ∃ s r : Nat, i = .int .i64 (s : Int) ∧ j = .int .i64 (r : Int) ∧ SeekW w wr base g n cap L U V a m N lo mid s r) (fun i j _ => (intOf j).toNat - (intOf i).toNat)
    case atStart => exact ⟨_, _, rfl, rfl, hS0.out⟩
    case round =>
      clear hS0
      obtain ⟨s, r, rfl, rfl, hsk, hr⟩ := hrel
      by_cases hsr : s < r
      · have hsr2 : (s : Int) < (r : Int) := by omega
        have hm := HM.out
        have hb := HB.out
        have hN := HN.out
        have hpp := HPP.out
        have hCf := hC.out.facts hU hV
        obtain ⟨s1, s2, s3, hF, hT⟩ := hsk
        obtain ⟨h, hh⟩ : ∃ h, h = (s + r) / 2 := ⟨_, rfl⟩
        obtain ⟨st, hst⟩ : ∃ t, t = s + r := ⟨_, rfl⟩
        have hh1 : s ≤ h := by omega
        have hh2 : h < r := by omega
        obtain ⟨u, hu⟩ : ∃ u, U[h - a]? = some u := ⟨_, List.getElem?_eq_getElem (by omega)⟩
        obtain ⟨v, hv⟩ : ∃ v, V[N - 1 - h - m]? = some v := ⟨_, List.getElem?_eq_getElem (by omega)⟩
        obtain ⟨e, he⟩ : ∃ e, e = pp - h := ⟨_, rfl⟩
        have ha := HA.out
        have hal := (List.getElem?_eq_some_iff.1 hu).1
        have hvl := (List.getElem?_eq_some_iff.1 hv).1
        have eu : L[h]? = some u := by rw [HL.out, List.append_assoc, List.append_assoc, List.getElem?_append_right (by omega), List.getElem?_append_left (by omega), ← ha]; exact hu
        have ev : L[e]? = some v := by rw [HL.out, List.append_assoc (P ++ U), List.getElem?_append_right (by rw [List.length_append]; omega), List.getElem?_append_left (by rw [List.length_append]; omega), List.length_append, ← hv]; congr 1; omega
        have HN1 : Hid (∀ w2, Row w w2 base g n cap L → ltW v u = false → SeekW w w2 base g n cap L U V a m N lo mid (h + 1) r) := Lib.hid fun w2 hr2 hl => ⟨⟨by omega, by omega, s3, fun t u2 v2 t1 t2 hu2 hv2 => geW_trans (geW_trans (rise_le rV hv hv2 (by omega)) hl) (rise_le rU hu2 hu (by omega)), hT⟩, hr2⟩
        have HN2 : Hid (∀ w2, Row w w2 base g n cap L → ltW v u = true → SeekW w w2 base g n cap L U V a m N lo mid s h) := Lib.hid fun w2 hr2 hl => ⟨⟨s1, hh1, by omega, hF, fun t u2 v2 t1 t2 hu2 hv2 => ltW_geW (geW_ltW (rise_le rV hv2 hv (by omega)) hl) (rise_le rU hu hu2 (by omega))⟩, hr2⟩
        obtain ⟨x0, x1, x2⟩ := row_at hr.2 eu
        obtain ⟨y0, y1, y2⟩ := row_at hr.2 ev
        obtain ⟨-, hgl, hnl, -⟩ := row_frozen hr.2
        have i2n := (List.getElem?_eq_some_iff.1 eu).1
        have i4n := (List.getElem?_eq_some_iff.1 ev).1
        rw [← hnl] at i2n i4n
        have i1 : (0 : Int) ≤ (h : Int) := by omega
        have i2 : (h : Int) < (n : Int) := by omega
        have i3 : (0 : Int) ≤ (e : Int) := by omega
        have i4 : (e : Int) < (n : Int) := by omega
        have rn : r ≤ n := by omega
        have HRW := Lib.hid hr
        have hM := Lib.hid (And.intro hh1 hh2)
        have hpe : pp = e + h := by omega
        have hpl : pp ≤ 200000 := by omega
        have HH := Lib.hid hh
        have we : IntKind.i64.wrap ((pp : Int) - (h : Int)) = (e : Int) := by rw [IntWalk.i64_in _ (by omega)]; omega
        have WE := Lib.hid we
        clear we
        obtain ⟨c1, c2, c3⟩ := half_facts hh hst (by omega) (by omega)
        have we := WE.out
        have HHN := Lib.hid hn
        have HSR := Lib.hid hsr
        clear hm hb hN hpp hCf s1 s2 s3 hF hT hh hst hh1 hh2 hu hv he ha hal hvl eu ev hnl hr rn hpe hpl hn hsr
        go_upto_region 35 with fail
        refine wp_region_held_drew (S := fun w' => Held wr w') (by kernel_rfl) (Held.of (New.refl _).drew) (fun hHeld => ?_)
        refine wpAnyH_take (i := 0) (oi := { dst := some 158, op := Op.move (Operand.tmp 4), type := 50, pos := "zsortanyfunc.go:441", after := #[], guard := none }) (v := ?_) rfl (by kernel_rfl) (by kernel_rfl) (by kernel_rfl) (fun _ _ _ h => h) (Or.inl ⟨by rfl, ?_⟩) (by assumption) ?_
        rotate_left
        · (intro wq hSw; (try dsimp only at hSw); go_simp; first | done | with_reducible rfl)
        try (simp only [Act.put, List.setIfInBounds_toArray, set16]; simp only [set4]; simp only [List.set_cons_succ, List.set_cons_zero])
        refine wpAnyH_take (i := 1) (oi := { dst := some 159, op := Op.move (Operand.tmp 0), type := 23, pos := "zsortanyfunc.go:441", after := #[], guard := none }) (v := ?_) rfl (by kernel_rfl) (by kernel_rfl) (by kernel_rfl) (fun _ _ _ h => h) (Or.inl ⟨by rfl, ?_⟩) (by assumption) ?_
        rotate_left
        · (intro wq hSw; (try dsimp only at hSw); go_simp; first | done | with_reducible rfl)
        try (simp only [Act.put, List.setIfInBounds_toArray, set16]; simp only [set4]; simp only [List.set_cons_succ, List.set_cons_zero])
        refine wpAnyH_take (i := 2) (oi := { dst := some 160, op := Op.move (Operand.tmp 22), type := 3, pos := "zsortanyfunc.go:441", after := #[], guard := none }) (v := ?_) rfl (by kernel_rfl) (by kernel_rfl) (by kernel_rfl) (fun _ _ _ h => h) (Or.inl ⟨by rfl, ?_⟩) (by assumption) ?_
        rotate_left
        · (intro wq hSw; (try dsimp only at hSw); go_simp; first | done | with_reducible rfl)
        try (simp only [Act.put, List.setIfInBounds_toArray, set16]; simp only [List.set_cons_zero])
        refine wpAnyH_take (i := 3) (oi := { dst := some 161, op := Op.move (Operand.tmp 23), type := 3, pos := "zsortanyfunc.go:441", after := #[], guard := none }) (v := ?_) rfl (by kernel_rfl) (by kernel_rfl) (by kernel_rfl) (fun _ _ _ h => h) (Or.inl ⟨by rfl, ?_⟩) (by assumption) ?_
        rotate_left
        · (intro wq hSw; (try dsimp only at hSw); go_simp; first | done | with_reducible rfl)
        try (simp only [Act.put, List.setIfInBounds_toArray, set16]; simp only [List.set_cons_succ, List.set_cons_zero])
        refine wpAnyH_take (i := 4) (oi := { dst := some 162, op := Op.binOp BinOp.sub 3 (Operand.tmp 160) (Operand.tmp 161) 3, type := 3, pos := "zsortanyfunc.go:441", after := #[{ on := 2, ground := Ground.data }, { on := 3, ground := Ground.data }], guard := none }) (v := ?_) rfl (by kernel_rfl) (by kernel_rfl) (by kernel_rfl) (fun _ _ _ h => h) (Or.inl ⟨by rfl, ?_⟩) (by assumption) ?_
        rotate_left
        · (intro wq hSw; (try dsimp only at hSw); go_simp; first | done | with_reducible rfl)
        try (simp only [Act.put, List.setIfInBounds_toArray, set16]; simp only [List.set_cons_succ, List.set_cons_zero])
        refine wpAnyH_take (i := 5) (oi := { dst := some 163, op := Op.indexAddr 23 (Operand.tmp 159) (Operand.tmp 162), type := 0, pos := "zsortanyfunc.go:441", after := #[{ on := 1, ground := Ground.data }, { on := 4, ground := Ground.data }], guard := none }) (v := ?_) rfl (by kernel_rfl) (by kernel_rfl) (by kernel_rfl) (fun _ _ _ h => h) (Or.inl ⟨by rfl, ?_⟩) (by assumption) ?_
        rotate_left
        · (intro wq hSw; (try dsimp only at hSw); go_simp; first | done | with_reducible rfl)
        try (simp only [Act.put, List.setIfInBounds_toArray, set16]; simp only [List.set_cons_succ, List.set_cons_zero])
        refine wpAnyH_take (i := 6) (oi := { dst := some 164, op := Op.load 43 (Operand.tmp 163), type := 43, pos := "zsortanyfunc.go:441", after := #[{ on := 5, ground := Ground.data }], guard := none }) (v := ?_) rfl (by kernel_rfl) (by kernel_rfl) (by kernel_rfl) (fun _ _ _ h => h) (Or.inl ⟨by rfl, ?_⟩) (by assumption) ?_
        rotate_left
        · (intro wq hSw; (try dsimp only at hSw); go_simp; first | done | with_reducible rfl)
        try (simp only [Act.put, List.setIfInBounds_toArray, set16]; simp only [set4]; simp only [List.set_cons_zero])
        refine wpAnyH_take (i := 7) (oi := { dst := some 165, op := Op.move (Operand.tmp 0), type := 23, pos := "zsortanyfunc.go:441", after := #[], guard := none }) (v := ?_) rfl (by kernel_rfl) (by kernel_rfl) (by kernel_rfl) (fun _ _ _ h => h) (Or.inl ⟨by rfl, ?_⟩) (by assumption) ?_
        rotate_left
        · (intro wq hSw; (try dsimp only at hSw); go_simp; first | done | with_reducible rfl)
        try (simp only [Act.put, List.setIfInBounds_toArray, set16]; simp only [set4]; simp only [List.set_cons_succ, List.set_cons_zero])
        refine wpAnyH_take (i := 8) (oi := { dst := some 166, op := Op.move (Operand.tmp 23), type := 3, pos := "zsortanyfunc.go:441", after := #[], guard := none }) (v := ?_) rfl (by kernel_rfl) (by kernel_rfl) (by kernel_rfl) (fun _ _ _ h => h) (Or.inl ⟨by rfl, ?_⟩) (by assumption) ?_
        rotate_left
        · (intro wq hSw; (try dsimp only at hSw); go_simp; first | done | with_reducible rfl)
        try (simp only [Act.put, List.setIfInBounds_toArray, set16]; simp only [set4]; simp only [List.set_cons_succ, List.set_cons_zero])
        refine wpAnyH_take (i := 9) (oi := { dst := some 167, op := Op.indexAddr 23 (Operand.tmp 165) (Operand.tmp 166), type := 0, pos := "zsortanyfunc.go:441", after := #[{ on := 7, ground := Ground.data }, { on := 8, ground := Ground.data }], guard := none }) (v := ?_) rfl (by kernel_rfl) (by kernel_rfl) (by kernel_rfl) (fun _ _ _ h => h) (Or.inl ⟨by rfl, ?_⟩) (by assumption) ?_
        rotate_left
        · (intro wq hSw; (try dsimp only at hSw); go_simp; first | done | with_reducible rfl)
        try (simp only [Act.put, List.setIfInBounds_toArray, set16]; simp only [set4]; simp only [List.set_cons_succ, List.set_cons_zero])
        refine wpAnyH_take (i := 10) (oi := { dst := some 168, op := Op.load 43 (Operand.tmp 167), type := 43, pos := "zsortanyfunc.go:441", after := #[{ on := 9, ground := Ground.data }], guard := none }) (v := ?_) rfl (by kernel_rfl) (by kernel_rfl) (by kernel_rfl) (fun _ _ _ h => h) (Or.inl ⟨by rfl, ?_⟩) (by assumption) ?_
        rotate_left
        · (intro wq hSw; (try dsimp only at hSw); go_simp; first | done | with_reducible rfl)
        try (simp only [Act.put, List.setIfInBounds_toArray, set16]; simp only [set4]; simp only [List.set_cons_zero])
        refine wpAnyH_ready (rs := [11]) (by kernel_rfl) (by simp) ?_
        refine AllReadyH.cons (o := { dst := some 169, op := Op.call { callee := Callee.value (Operand.tmp 158), args := #[Operand.tmp 164, Operand.tmp 168], argTypes := #[43, 43] }, type := 3, pos := "zsortanyfunc.go:441", after := #[{ on := 0, ground := Ground.data }, { on := 6, ground := Ground.data }, { on := 10, ground := Ground.data }], guard := none }) rfl (fun K hK => ?_) AllReadyH.nil
        go_simp
        refine (sortCmp_any v u _).mono ?_
        rintro e2 w2 ⟨rfl, hn2⟩
        have hn3 := (New.refl wr).drew.trans hn2
        refine hK.out _ _ ?_ (fun hHeld => ?_)
        · exact Held.of hn3
        clear hK K
        try (simp only [Act.put, List.setIfInBounds_toArray, set16]; simp only [set4]; simp only [List.set_cons_succ, List.set_cons_zero])
        refine wpAnyH_take (i := 12) (oi := { dst := some 170, op := Op.binOp BinOp.lss 3 (Operand.tmp 169) (Operand.const (Value.int IntKind.i64 0)) 3, type := 4, pos := "zsortanyfunc.go:441", after := #[{ on := 11, ground := Ground.data }], guard := none }) (v := .bool (ltW v u)) rfl (by kernel_rfl) (by kernel_rfl) (by kernel_rfl) (fun _ _ _ h => h) (Or.inl ⟨by rfl, ?_⟩) (by assumption) ?_
        · (intro wq hSw; (try dsimp only at hSw); go_simp; first | done | with_reducible rfl | (rw [cmpW_lt]; done) | simp only [cmpW_lt])
        try (simp only [Act.put, List.setIfInBounds_toArray, set16]; simp only [set4]; simp only [List.set_cons_succ, List.set_cons_zero])
        refine wpAnyH_take (i := 13) (oi := { dst := some 171, op := Op.unOp UnOp.not 4 (Operand.tmp 170), type := 4, pos := "zsortanyfunc.go:441", after := #[{ on := 12, ground := Ground.data }], guard := none }) (v := ?_) rfl (by kernel_rfl) (by kernel_rfl) (by kernel_rfl) (fun _ _ _ h => h) (Or.inl ⟨by rfl, ?_⟩) (by assumption) ?_
        rotate_left
        · (intro wq hSw; (try dsimp only at hSw); go_simp; first | done | with_reducible rfl)
        try (simp only [Act.put, List.setIfInBounds_toArray, set16]; simp only [set4]; simp only [List.set_cons_succ, List.set_cons_zero])
        refine wpAnyH_done (by kernel_rfl) ?_ _
        have HR2 := Lib.hid (HRW.out.keep hn3)
        clear hHeld hn3 hn2 x0 x1 x2 y0 y1 y2 HRW c1 c2 c3 we i1 i2 i2n i3 i4 i4n hsr2
        cases hlb : ltW v u with
        | false =>
          have HNx := Lib.hid (HN1.out _ HR2.out hlb)
          obtain ⟨h1, hh1⟩ : ∃ h1, h1 = h + 1 := ⟨_, rfl⟩
          rw [← hh1] at HNx
          have wh : IntKind.i64.wrap ((h : Int) + 1) = (h1 : Int) := by have := hM.out; have := HHN.out; have := HNx.out.1.2.1; have := HNx.out.1.2.2.1; have := (hC.out.facts hU hV).2.2.1; have := HM.out; have := HB.out; have hbq := HBN.out; rw [IntWalk.i64_in _ (by omega)]; omega
          have HH1 := Lib.hid hh1
          clear hlb HR2 HN1 HN2 hh1
          go_wp2_with fail
          go_roundw
          case rel => exact ⟨h1, r, rfl, rfl, HNx.out⟩
          case measure => have := hM.out; have := HH1.out; simp [intOf]; omega
        | true =>
          have HNx := Lib.hid (HN2.out _ HR2.out hlb)
          clear hlb HR2 HN1 HN2
          go_wp2_with fail
          go_roundw
          case rel => exact ⟨s, h, rfl, rfl, HNx.out⟩
          case measure => have := hM.out; simp [intOf]; omega
      · have hsr2 : ¬ (s : Int) < (r : Int) := by omega
        have hsr3 : r = s := by have := hsk.2.1; omega
        have hsk2 : SeekG U V a m N lo mid s s := by rw [hsr3] at hsk; exact hsk
        obtain ⟨hsp1, hsp2⟩ := hC.out.split hU hV rU rV hsk2
        have hCf := hC.out.facts hU hV
        obtain ⟨s1, _, s3, _, _⟩ := hsk2
        have hm := HM.out
        have hb := HB.out
        have hN := HN.out
        have hbn := HBN.out
        have ha := HA.out
        have hf := HFU.out
        have hm1 := hC.out.m1
        have hm2 := hC.out.m2
        obtain ⟨en, hen⟩ : ∃ e, e = N - s := ⟨_, rfl⟩
        rw [← hen] at hsp1 hsp2
        obtain ⟨U1, hU1⟩ : ∃ l, l = U.take (s - a) := ⟨_, rfl⟩
        obtain ⟨U2, hU2⟩ : ∃ l, l = U.drop (s - a) := ⟨_, rfl⟩
        obtain ⟨V1, hV1⟩ : ∃ l, l = V.take (en - m) := ⟨_, rfl⟩
        obtain ⟨V2, hV2⟩ : ∃ l, l = V.drop (en - m) := ⟨_, rfl⟩
        rw [← hU1, ← hV2] at hsp1
        rw [← hU2, ← hV1] at hsp2
        have eU : U1 ++ U2 = U := by rw [hU1, hU2]; exact List.take_append_drop _ _
        have eV : V1 ++ V2 = V := by rw [hV1, hV2]; exact List.take_append_drop _ _
        have lU1 : U1.length = s - a := by rw [hU1, List.length_take]; omega
        have lU2 : U2.length = m - s := by rw [hU2, List.length_drop]; omega
        have lV1 : V1.length = en - m := by rw [hV1, List.length_take]; omega
        have lV2 : V2.length = b - en := by rw [hV2, List.length_drop]; omega
        have rUU : RiseW (U1 ++ U2) := by rw [eU]; exact rU
        have rVV : RiseW (V1 ++ V2) := by rw [eV]; exact rV
        obtain ⟨rU1, rU2, _⟩ := List.pairwise_append.1 rUU
        obtain ⟨rV1, rV2, _⟩ := List.pairwise_append.1 rVV
        have eR : sortW (U1 ++ V1) ++ sortW (U2 ++ V2) = sortW (U ++ V) := by rw [sortW_split rUU rVV hsp1 hsp2, eU, eV]
        have lS : (sortW (U1 ++ V1)).length = mid - a := by rw [sortW_length, List.length_append]; omega
        have o1 : a ≤ s := by omega
        have o2 : s ≤ m := by omega
        have o3 : m ≤ en := by omega
        have o4 : en ≤ b := by omega
        have o5 : mid - a = (s - a) + (en - m) := by omega
        have o6 : en - mid = m - s := by omega
        have o7 : mid ≤ en := by omega
        have o8 : s ≤ mid := by omega
        have o9 : a < mid := hCf.2.2.2.2.2.1
        have o10 : mid < b := hCf.2.2.2.2.2.2.1
        obtain ⟨R1, hR1⟩ : ∃ l, l = P ++ U1 ++ V1 ++ (U2 ++ V2 ++ Q) := ⟨_, rfl⟩
        obtain ⟨R2, hR2⟩ : ∃ l, l = P ++ sortW (U1 ++ V1) ++ (U2 ++ V2 ++ Q) := ⟨_, rfl⟩
        have hLn := HNN.out
        have eL : L = P ++ U1 ++ U2 ++ (V1 ++ V2) ++ Q := by rw [HL.out, ← eU, ← eV]; simp
        have n1 : n = R1.length := by rw [hLn, eL, hR1]; simp only [List.length_append]; omega
        have n2 : n = R2.length := by rw [n1, hR1, hR2]; simp only [List.length_append, sortW_length]; omega
        have eR3 : R = (P ++ sortW (U1 ++ V1)) ++ sortW (U2 ++ V2) ++ Q := by rw [HR.out, ← eR]; simp
        have HROT : Hid (∀ w0, Row w w0 base g n cap L → 0 < U2.length → 0 < V1.length → Calls Try.prog 58 #[.slice (some ⟨g, 0, none⟩) n cap, .int .i64 (s : Int), .int .i64 (m : Int), .int .i64 (en : Int), (.func (.func 28) #[] #[])] w0 (RowPost w0 base g n cap R1)) := Lib.hid fun w0 h q1 q2 => rotate_row base g n cap (P ++ U1) U2 V1 (V2 ++ Q) L R1 w0 hn q1 q2 (by rw [eL]; simp) (by rw [hR1]; simp) hLn h.2 s m en (by rw [List.length_append]; omega) (by rw [List.length_append]; omega) (by rw [List.length_append]; omega)
        have HSAME : Hid (∀ w0, Row w w0 base g n cap L → U2 = [] ∨ V1 = [] → Row w w0 base g n cap R1) := Lib.hid fun w0 h q => by have e : L = R1 := (by rw [eL, hR1]; rcases q with q | q <;> rw [q] <;> simp); rw [← e]; exact h
        have HREC1 : Hid (∀ w0, Row w w0 base g n cap R1 → 0 < U1.length → 0 < V1.length → Calls Try.prog 56 #[.slice (some ⟨g, 0, none⟩) n cap, .int .i64 (a : Int), .int .i64 (s : Int), .int .i64 (mid : Int), (.func (.func 28) #[] #[])] w0 (RowPost w0 base g n cap R2)) := Lib.hid fun w0 h q1 q2 => IH.out base g n cap P U1 V1 (U2 ++ V2 ++ Q) R1 R2 w0 hn (by omega) q1 q2 rU1 rV1 hR1 hR2 n1 h.2 a s mid ha (by omega) (by omega)
        have HSAME1 : Hid (∀ w0, Row w w0 base g n cap R1 → U1 = [] ∨ V1 = [] → Row w w0 base g n cap R2) := Lib.hid fun w0 h q => by have e : R1 = R2 := (by rw [hR1, hR2]; rcases q with q | q <;> rw [q] <;> simp [sortW_rise rU1, sortW_rise rV1]); rw [← e]; exact h
        have HREC2 : Hid (∀ w0, Row w w0 base g n cap R2 → 0 < U2.length → 0 < V2.length → Calls Try.prog 56 #[.slice (some ⟨g, 0, none⟩) n cap, .int .i64 (mid : Int), .int .i64 (en : Int), .int .i64 (b : Int), (.func (.func 28) #[] #[])] w0 (RowPost w0 base g n cap R)) := Lib.hid fun w0 h q1 q2 => IH.out base g n cap (P ++ sortW (U1 ++ V1)) U2 V2 Q R2 R w0 hn (by omega) q1 q2 rU2 rV2 (by rw [hR2]; simp) eR3 n2 h.2 mid en b (by rw [List.length_append, lS]; omega) (by omega) (by omega)
        have HSAME2 : Hid (∀ w0, Row w w0 base g n cap R2 → U2 = [] ∨ V2 = [] → Row w w0 base g n cap R) := Lib.hid fun w0 h q => by have e : R2 = R := (by rw [hR2, eR3]; rcases q with q | q <;> rw [q] <;> simp [sortW_rise rU2, sortW_rise rV2]); rw [← e]; exact h
        have hnn : N ≤ 300000 := by omega
        have wen : IntKind.i64.wrap ((N : Int) - (s : Int)) = (en : Int) := by rw [IntWalk.i64_in _ (by omega)]; omega
        have WEN := Lib.hid wen
        have HRow := Lib.hid hr
        have HLN := Lib.hid (And.intro lU1 (And.intro lU2 (And.intro lV1 (And.intro lV2 (And.intro o1 (And.intro o2 (And.intro o3 (And.intro o4 (And.intro o5 (And.intro o6 (And.intro o7 (And.intro o8 (And.intro o9 o10)))))))))))))
        clear hsp1 hsp2 hCf s1 s3 hm hb hN hbn ha hf hm1 hm2 hen hU1 hU2 hV1 hV2 eU eV rUU rVV rU1 rU2 rV1 rV2 eR lS hR1 hR2 hLn eL n1 n2 eR3 hnn wen hr lU1 lU2 lV1 lV2 o1 o2 o3 o4 o5 o6 o7 o8 o9 o10 hsk hsr hsr3
        obtain ⟨lU1, lU2, lV1, lV2, o1, o2, o3, o4, o5, o6, o7, o8, o9, o10⟩ := HLN.out
        clear lU1 lU2 lV1 lV2
        have ham2 : a < m := by have := HM.out; omega
        by_cases hA : s < m
        rotate_left
        · by_cases hB : m < en
          rotate_left
          · skip
            have zA : ¬ (s : Int) < (m : Int) := by omega
            have yA : ¬ s < m := by omega
            have xA : decide ((s : Int) < (m : Int)) = false := by simpa using yA
            have zB : ¬ (m : Int) < (en : Int) := by omega
            have yB : ¬ m < en := by omega
            have xB : decide ((m : Int) < (en : Int)) = false := by simpa using yB
            have zC : (a : Int) < (s : Int) := by omega
            have yC : a < s := by omega
            have xC : decide ((a : Int) < (s : Int)) = true := by simpa using yC
            have zD : ¬ (s : Int) < (mid : Int) := by omega
            have yD : ¬ s < mid := by omega
            have xD : decide ((s : Int) < (mid : Int)) = false := by simpa using yD
            have zE : ¬ (mid : Int) < (en : Int) := by omega
            have yE : ¬ mid < en := by omega
            have xE : decide ((mid : Int) < (en : Int)) = false := by simpa using yE
            have zF : (en : Int) < (b : Int) := by omega
            have yF : en < b := by omega
            have xF : decide ((en : Int) < (b : Int)) = true := by simpa using yF
            obtain ⟨lU1, lU2, lV1, lV2, _⟩ := HLN.out
            have K1 := Lib.hid (HSAME.out wr HRow.out (Or.inl (List.eq_nil_of_length_eq_zero (by omega))))
            have KN : Hid ((0 < U1.length ∨ U1 = []) ∧ True) := Lib.hid ⟨by rcases Nat.eq_zero_or_pos U1.length with h | h; exact .inr (List.eq_nil_of_length_eq_zero h); exact .inl h, trivial⟩
            have P1 := Lib.hid (show 0 < U1.length from by omega)
            have P2 := Lib.hid (show U2 = [] from List.eq_nil_of_length_eq_zero (by omega))
            have P3 := Lib.hid (show V1 = [] from List.eq_nil_of_length_eq_zero (by omega))
            have P4 := Lib.hid (show 0 < V2.length from by omega)
            clear KN lU1 lU2 lV1 lV2
            have wen := WEN.out
            clear hgt hn rU rV hU hV
            go_wp2_with fail
            have HB1 := K1
            have HB2 := Lib.hid (HSAME1.out wr HB1.out (Or.inr P3.out))
            have HB3 := Lib.hid (HSAME2.out wr HB2.out (Or.inl P2.out))
            go_end0
            exact ⟨rfl, HB3.out⟩
          · skip
            have zA : ¬ (s : Int) < (m : Int) := by omega
            have yA : ¬ s < m := by omega
            have xA : decide ((s : Int) < (m : Int)) = false := by simpa using yA
            have zB : (m : Int) < (en : Int) := by omega
            have yB : m < en := by omega
            have xB : decide ((m : Int) < (en : Int)) = true := by simpa using yB
            have zC : (a : Int) < (s : Int) := by omega
            have yC : a < s := by omega
            have xC : decide ((a : Int) < (s : Int)) = true := by simpa using yC
            have zD : (s : Int) < (mid : Int) := by omega
            have yD : s < mid := by omega
            have xD : decide ((s : Int) < (mid : Int)) = true := by simpa using yD
            have zE : ¬ (mid : Int) < (en : Int) := by omega
            have yE : ¬ mid < en := by omega
            have xE : decide ((mid : Int) < (en : Int)) = false := by simpa using yE
            have zF : (en : Int) < (b : Int) := by omega
            have yF : en < b := by omega
            have xF : decide ((en : Int) < (b : Int)) = true := by simpa using yF
            obtain ⟨lU1, lU2, lV1, lV2, _⟩ := HLN.out
            have K1 := Lib.hid (HSAME.out wr HRow.out (Or.inl (List.eq_nil_of_length_eq_zero (by omega))))
            have KN : Hid ((0 < U1.length ∨ U1 = []) ∧ True) := Lib.hid ⟨by rcases Nat.eq_zero_or_pos U1.length with h | h; exact .inr (List.eq_nil_of_length_eq_zero h); exact .inl h, trivial⟩
            have P1 := Lib.hid (show 0 < U1.length from by omega)
            have P2 := Lib.hid (show U2 = [] from List.eq_nil_of_length_eq_zero (by omega))
            have P3 := Lib.hid (show 0 < V1.length from by omega)
            have P4 := Lib.hid (show 0 < V2.length from by omega)
            clear KN lU1 lU2 lV1 lV2
            have wen := WEN.out
            clear hgt hn rU rV hU hV
            go_wp2_with fail
            have HB1 := K1
            refine (HREC1.out wr HB1.out P1.out P3.out).mono ?_
            rintro e2 w2 ⟨rfl, hr2⟩
            have HB2 := Lib.hid (HB1.out.next hr2)
            clear hr2
            go_wp2_with fail
            have HB3 := Lib.hid (HSAME2.out w2 HB2.out (Or.inl P2.out))
            go_end0
            exact ⟨rfl, HB3.out⟩
        by_cases hB : m < en
        rotate_left
        · by_cases hC : a < s
          rotate_left
          · by_cases hF : en < b
            rotate_left
            · skip
              have zA : (s : Int) < (m : Int) := by omega
              have yA : s < m := by omega
              have xA : decide ((s : Int) < (m : Int)) = true := by simpa using yA
              have zB : ¬ (m : Int) < (en : Int) := by omega
              have yB : ¬ m < en := by omega
              have xB : decide ((m : Int) < (en : Int)) = false := by simpa using yB
              have zC : ¬ (a : Int) < (s : Int) := by omega
              have yC : ¬ a < s := by omega
              have xC : decide ((a : Int) < (s : Int)) = false := by simpa using yC
              have zD : ¬ (s : Int) < (mid : Int) := by omega
              have yD : ¬ s < mid := by omega
              have xD : decide ((s : Int) < (mid : Int)) = false := by simpa using yD
              have zE : (mid : Int) < (en : Int) := by omega
              have yE : mid < en := by omega
              have xE : decide ((mid : Int) < (en : Int)) = true := by simpa using yE
              have zF : ¬ (en : Int) < (b : Int) := by omega
              have yF : ¬ en < b := by omega
              have xF : decide ((en : Int) < (b : Int)) = false := by simpa using yF
              obtain ⟨lU1, lU2, lV1, lV2, _⟩ := HLN.out
              have K1 := Lib.hid (HSAME.out wr HRow.out (Or.inr (List.eq_nil_of_length_eq_zero (by omega))))
              have KN : Hid ((0 < U1.length ∨ U1 = []) ∧ True) := Lib.hid ⟨by rcases Nat.eq_zero_or_pos U1.length with h | h; exact .inr (List.eq_nil_of_length_eq_zero h); exact .inl h, trivial⟩
              have P1 := Lib.hid (show U1 = [] from List.eq_nil_of_length_eq_zero (by omega))
              have P2 := Lib.hid (show 0 < U2.length from by omega)
              have P3 := Lib.hid (show V1 = [] from List.eq_nil_of_length_eq_zero (by omega))
              have P4 := Lib.hid (show V2 = [] from List.eq_nil_of_length_eq_zero (by omega))
              clear KN lU1 lU2 lV1 lV2
              have wen := WEN.out
              clear hgt hn rU rV hU hV
              go_wp2_with fail
              have HB1 := K1
              have HB2 := Lib.hid (HSAME1.out wr HB1.out (Or.inl P1.out))
              have HB3 := Lib.hid (HSAME2.out wr HB2.out (Or.inr P4.out))
              go_end0
              exact ⟨rfl, HB3.out⟩
            · skip
              have zA : (s : Int) < (m : Int) := by omega
              have yA : s < m := by omega
              have xA : decide ((s : Int) < (m : Int)) = true := by simpa using yA
              have zB : ¬ (m : Int) < (en : Int) := by omega
              have yB : ¬ m < en := by omega
              have xB : decide ((m : Int) < (en : Int)) = false := by simpa using yB
              have zC : ¬ (a : Int) < (s : Int) := by omega
              have yC : ¬ a < s := by omega
              have xC : decide ((a : Int) < (s : Int)) = false := by simpa using yC
              have zD : ¬ (s : Int) < (mid : Int) := by omega
              have yD : ¬ s < mid := by omega
              have xD : decide ((s : Int) < (mid : Int)) = false := by simpa using yD
              have zE : (mid : Int) < (en : Int) := by omega
              have yE : mid < en := by omega
              have xE : decide ((mid : Int) < (en : Int)) = true := by simpa using yE
              have zF : (en : Int) < (b : Int) := by omega
              have yF : en < b := by omega
              have xF : decide ((en : Int) < (b : Int)) = true := by simpa using yF
              obtain ⟨lU1, lU2, lV1, lV2, _⟩ := HLN.out
              have K1 := Lib.hid (HSAME.out wr HRow.out (Or.inr (List.eq_nil_of_length_eq_zero (by omega))))
              have KN : Hid ((0 < U1.length ∨ U1 = []) ∧ True) := Lib.hid ⟨by rcases Nat.eq_zero_or_pos U1.length with h | h; exact .inr (List.eq_nil_of_length_eq_zero h); exact .inl h, trivial⟩
              have P1 := Lib.hid (show U1 = [] from List.eq_nil_of_length_eq_zero (by omega))
              have P2 := Lib.hid (show 0 < U2.length from by omega)
              have P3 := Lib.hid (show V1 = [] from List.eq_nil_of_length_eq_zero (by omega))
              have P4 := Lib.hid (show 0 < V2.length from by omega)
              clear KN lU1 lU2 lV1 lV2
              have wen := WEN.out
              clear hgt hn rU rV hU hV
              go_wp2_with fail
              have HB1 := K1
              have HB2 := Lib.hid (HSAME1.out wr HB1.out (Or.inl P1.out))
              refine (HREC2.out wr HB2.out P2.out P4.out).mono ?_
              rintro e3 w3 ⟨rfl, hr3⟩
              have HB3 := Lib.hid (HB2.out.next hr3)
              clear hr3
              go_wp2_with fail
              go_end0
              exact ⟨rfl, HB3.out⟩
          · by_cases hF : en < b
            rotate_left
            · skip
              have zA : (s : Int) < (m : Int) := by omega
              have yA : s < m := by omega
              have xA : decide ((s : Int) < (m : Int)) = true := by simpa using yA
              have zB : ¬ (m : Int) < (en : Int) := by omega
              have yB : ¬ m < en := by omega
              have xB : decide ((m : Int) < (en : Int)) = false := by simpa using yB
              have zC : (a : Int) < (s : Int) := by omega
              have yC : a < s := by omega
              have xC : decide ((a : Int) < (s : Int)) = true := by simpa using yC
              have zD : ¬ (s : Int) < (mid : Int) := by omega
              have yD : ¬ s < mid := by omega
              have xD : decide ((s : Int) < (mid : Int)) = false := by simpa using yD
              have zE : (mid : Int) < (en : Int) := by omega
              have yE : mid < en := by omega
              have xE : decide ((mid : Int) < (en : Int)) = true := by simpa using yE
              have zF : ¬ (en : Int) < (b : Int) := by omega
              have yF : ¬ en < b := by omega
              have xF : decide ((en : Int) < (b : Int)) = false := by simpa using yF
              obtain ⟨lU1, lU2, lV1, lV2, _⟩ := HLN.out
              have K1 := Lib.hid (HSAME.out wr HRow.out (Or.inr (List.eq_nil_of_length_eq_zero (by omega))))
              have KN : Hid ((0 < U1.length ∨ U1 = []) ∧ True) := Lib.hid ⟨by rcases Nat.eq_zero_or_pos U1.length with h | h; exact .inr (List.eq_nil_of_length_eq_zero h); exact .inl h, trivial⟩
              have P1 := Lib.hid (show 0 < U1.length from by omega)
              have P2 := Lib.hid (show 0 < U2.length from by omega)
              have P3 := Lib.hid (show V1 = [] from List.eq_nil_of_length_eq_zero (by omega))
              have P4 := Lib.hid (show V2 = [] from List.eq_nil_of_length_eq_zero (by omega))
              clear KN lU1 lU2 lV1 lV2
              have wen := WEN.out
              clear hgt hn rU rV hU hV
              go_wp2_with fail
              have HB1 := K1
              have HB2 := Lib.hid (HSAME1.out wr HB1.out (Or.inr P3.out))
              have HB3 := Lib.hid (HSAME2.out wr HB2.out (Or.inr P4.out))
              go_end0
              exact ⟨rfl, HB3.out⟩
            · skip
              have zA : (s : Int) < (m : Int) := by omega
              have yA : s < m := by omega
              have xA : decide ((s : Int) < (m : Int)) = true := by simpa using yA
              have zB : ¬ (m : Int) < (en : Int) := by omega
              have yB : ¬ m < en := by omega
              have xB : decide ((m : Int) < (en : Int)) = false := by simpa using yB
              have zC : (a : Int) < (s : Int) := by omega
              have yC : a < s := by omega
              have xC : decide ((a : Int) < (s : Int)) = true := by simpa using yC
              have zD : ¬ (s : Int) < (mid : Int) := by omega
              have yD : ¬ s < mid := by omega
              have xD : decide ((s : Int) < (mid : Int)) = false := by simpa using yD
              have zE : (mid : Int) < (en : Int) := by omega
              have yE : mid < en := by omega
              have xE : decide ((mid : Int) < (en : Int)) = true := by simpa using yE
              have zF : (en : Int) < (b : Int) := by omega
              have yF : en < b := by omega
              have xF : decide ((en : Int) < (b : Int)) = true := by simpa using yF
              obtain ⟨lU1, lU2, lV1, lV2, _⟩ := HLN.out
              have K1 := Lib.hid (HSAME.out wr HRow.out (Or.inr (List.eq_nil_of_length_eq_zero (by omega))))
              have KN : Hid ((0 < U1.length ∨ U1 = []) ∧ True) := Lib.hid ⟨by rcases Nat.eq_zero_or_pos U1.length with h | h; exact .inr (List.eq_nil_of_length_eq_zero h); exact .inl h, trivial⟩
              have P1 := Lib.hid (show 0 < U1.length from by omega)
              have P2 := Lib.hid (show 0 < U2.length from by omega)
              have P3 := Lib.hid (show V1 = [] from List.eq_nil_of_length_eq_zero (by omega))
              have P4 := Lib.hid (show 0 < V2.length from by omega)
              clear KN lU1 lU2 lV1 lV2
              have wen := WEN.out
              clear hgt hn rU rV hU hV
              go_wp2_with fail
              have HB1 := K1
              have HB2 := Lib.hid (HSAME1.out wr HB1.out (Or.inr P3.out))
              refine (HREC2.out wr HB2.out P2.out P4.out).mono ?_
              rintro e3 w3 ⟨rfl, hr3⟩
              have HB3 := Lib.hid (HB2.out.next hr3)
              clear hr3
              go_wp2_with fail
              go_end0
              exact ⟨rfl, HB3.out⟩
        · by_cases hC : a < s
          rotate_left
          · by_cases hF : en < b
            rotate_left
            · skip
              have zA : (s : Int) < (m : Int) := by omega
              have yA : s < m := by omega
              have xA : decide ((s : Int) < (m : Int)) = true := by simpa using yA
              have zB : (m : Int) < (en : Int) := by omega
              have yB : m < en := by omega
              have xB : decide ((m : Int) < (en : Int)) = true := by simpa using yB
              have zC : ¬ (a : Int) < (s : Int) := by omega
              have yC : ¬ a < s := by omega
              have xC : decide ((a : Int) < (s : Int)) = false := by simpa using yC
              have zD : (s : Int) < (mid : Int) := by omega
              have yD : s < mid := by omega
              have xD : decide ((s : Int) < (mid : Int)) = true := by simpa using yD
              have zE : (mid : Int) < (en : Int) := by omega
              have yE : mid < en := by omega
              have xE : decide ((mid : Int) < (en : Int)) = true := by simpa using yE
              have zF : ¬ (en : Int) < (b : Int) := by omega
              have yF : ¬ en < b := by omega
              have xF : decide ((en : Int) < (b : Int)) = false := by simpa using yF
              obtain ⟨lU1, lU2, lV1, lV2, _⟩ := HLN.out
              have k1 := HROT.out wr HRow.out (by omega) (by omega)
              have K1 := Lib.hid k1
              clear k1
              have KN : Hid ((0 < U1.length ∨ U1 = []) ∧ True) := Lib.hid ⟨by rcases Nat.eq_zero_or_pos U1.length with h | h; exact .inr (List.eq_nil_of_length_eq_zero h); exact .inl h, trivial⟩
              have P1 := Lib.hid (show U1 = [] from List.eq_nil_of_length_eq_zero (by omega))
              have P2 := Lib.hid (show 0 < U2.length from by omega)
              have P3 := Lib.hid (show 0 < V1.length from by omega)
              have P4 := Lib.hid (show V2 = [] from List.eq_nil_of_length_eq_zero (by omega))
              clear KN lU1 lU2 lV1 lV2
              have wen := WEN.out
              clear hgt hn rU rV hU hV
              go_wp2_with fail
              refine K1.out.mono ?_
              rintro e1 w1 ⟨rfl, hr1⟩
              have HB1 := Lib.hid (HRow.out.next hr1)
              clear hr1
              go_wp2_with fail
              have HB2 := Lib.hid (HSAME1.out w1 HB1.out (Or.inl P1.out))
              have HB3 := Lib.hid (HSAME2.out w1 HB2.out (Or.inr P4.out))
              go_end0
              exact ⟨rfl, HB3.out⟩
            · skip
              have zA : (s : Int) < (m : Int) := by omega
              have yA : s < m := by omega
              have xA : decide ((s : Int) < (m : Int)) = true := by simpa using yA
              have zB : (m : Int) < (en : Int) := by omega
              have yB : m < en := by omega
              have xB : decide ((m : Int) < (en : Int)) = true := by simpa using yB
              have zC : ¬ (a : Int) < (s : Int) := by omega
              have yC : ¬ a < s := by omega
              have xC : decide ((a : Int) < (s : Int)) = false := by simpa using yC
              have zD : (s : Int) < (mid : Int) := by omega
              have yD : s < mid := by omega
              have xD : decide ((s : Int) < (mid : Int)) = true := by simpa using yD
              have zE : (mid : Int) < (en : Int) := by omega
              have yE : mid < en := by omega
              have xE : decide ((mid : Int) < (en : Int)) = true := by simpa using yE
              have zF : (en : Int) < (b : Int) := by omega
              have yF : en < b := by omega
              have xF : decide ((en : Int) < (b : Int)) = true := by simpa using yF
              obtain ⟨lU1, lU2, lV1, lV2, _⟩ := HLN.out
              have k1 := HROT.out wr HRow.out (by omega) (by omega)
              have K1 := Lib.hid k1
              clear k1
              have KN : Hid ((0 < U1.length ∨ U1 = []) ∧ True) := Lib.hid ⟨by rcases Nat.eq_zero_or_pos U1.length with h | h; exact .inr (List.eq_nil_of_length_eq_zero h); exact .inl h, trivial⟩
              have P1 := Lib.hid (show U1 = [] from List.eq_nil_of_length_eq_zero (by omega))
              have P2 := Lib.hid (show 0 < U2.length from by omega)
              have P3 := Lib.hid (show 0 < V1.length from by omega)
              have P4 := Lib.hid (show 0 < V2.length from by omega)
              clear KN lU1 lU2 lV1 lV2
              have wen := WEN.out
              clear hgt hn rU rV hU hV
              go_wp2_with fail
              refine K1.out.mono ?_
              rintro e1 w1 ⟨rfl, hr1⟩
              have HB1 := Lib.hid (HRow.out.next hr1)
              clear hr1
              go_wp2_with fail
              have HB2 := Lib.hid (HSAME1.out w1 HB1.out (Or.inl P1.out))
              refine (HREC2.out w1 HB2.out P2.out P4.out).mono ?_
              rintro e3 w3 ⟨rfl, hr3⟩
              have HB3 := Lib.hid (HB2.out.next hr3)
              clear hr3
              go_wp2_with fail
              go_end0
              exact ⟨rfl, HB3.out⟩
          · by_cases hF : en < b
            rotate_left
            · skip
              have zA : (s : Int) < (m : Int) := by omega
              have yA : s < m := by omega
              have xA : decide ((s : Int) < (m : Int)) = true := by simpa using yA
              have zB : (m : Int) < (en : Int) := by omega
              have yB : m < en := by omega
              have xB : decide ((m : Int) < (en : Int)) = true := by simpa using yB
              have zC : (a : Int) < (s : Int) := by omega
              have yC : a < s := by omega
              have xC : decide ((a : Int) < (s : Int)) = true := by simpa using yC
              have zD : (s : Int) < (mid : Int) := by omega
              have yD : s < mid := by omega
              have xD : decide ((s : Int) < (mid : Int)) = true := by simpa using yD
              have zE : (mid : Int) < (en : Int) := by omega
              have yE : mid < en := by omega
              have xE : decide ((mid : Int) < (en : Int)) = true := by simpa using yE
              have zF : ¬ (en : Int) < (b : Int) := by omega
              have yF : ¬ en < b := by omega
              have xF : decide ((en : Int) < (b : Int)) = false := by simpa using yF
              obtain ⟨lU1, lU2, lV1, lV2, _⟩ := HLN.out
              have k1 := HROT.out wr HRow.out (by omega) (by omega)
              have K1 := Lib.hid k1
              clear k1
              have KN : Hid ((0 < U1.length ∨ U1 = []) ∧ True) := Lib.hid ⟨by rcases Nat.eq_zero_or_pos U1.length with h | h; exact .inr (List.eq_nil_of_length_eq_zero h); exact .inl h, trivial⟩
              have P1 := Lib.hid (show 0 < U1.length from by omega)
              have P2 := Lib.hid (show 0 < U2.length from by omega)
              have P3 := Lib.hid (show 0 < V1.length from by omega)
              have P4 := Lib.hid (show V2 = [] from List.eq_nil_of_length_eq_zero (by omega))
              clear KN lU1 lU2 lV1 lV2
              have wen := WEN.out
              clear hgt hn rU rV hU hV
              go_wp2_with fail
              refine K1.out.mono ?_
              rintro e1 w1 ⟨rfl, hr1⟩
              have HB1 := Lib.hid (HRow.out.next hr1)
              clear hr1
              go_wp2_with fail
              refine (HREC1.out w1 HB1.out P1.out P3.out).mono ?_
              rintro e2 w2 ⟨rfl, hr2⟩
              have HB2 := Lib.hid (HB1.out.next hr2)
              clear hr2
              go_wp2_with fail
              have HB3 := Lib.hid (HSAME2.out w2 HB2.out (Or.inr P4.out))
              go_end0
              exact ⟨rfl, HB3.out⟩
            · skip
              have zA : (s : Int) < (m : Int) := by omega
              have yA : s < m := by omega
              have xA : decide ((s : Int) < (m : Int)) = true := by simpa using yA
              have zB : (m : Int) < (en : Int) := by omega
              have yB : m < en := by omega
              have xB : decide ((m : Int) < (en : Int)) = true := by simpa using yB
              have zC : (a : Int) < (s : Int) := by omega
              have yC : a < s := by omega
              have xC : decide ((a : Int) < (s : Int)) = true := by simpa using yC
              have zD : (s : Int) < (mid : Int) := by omega
              have yD : s < mid := by omega
              have xD : decide ((s : Int) < (mid : Int)) = true := by simpa using yD
              have zE : (mid : Int) < (en : Int) := by omega
              have yE : mid < en := by omega
              have xE : decide ((mid : Int) < (en : Int)) = true := by simpa using yE
              have zF : (en : Int) < (b : Int) := by omega
              have yF : en < b := by omega
              have xF : decide ((en : Int) < (b : Int)) = true := by simpa using yF
              obtain ⟨lU1, lU2, lV1, lV2, _⟩ := HLN.out
              have k1 := HROT.out wr HRow.out (by omega) (by omega)
              have K1 := Lib.hid k1
              clear k1
              have KN : Hid ((0 < U1.length ∨ U1 = []) ∧ True) := Lib.hid ⟨by rcases Nat.eq_zero_or_pos U1.length with h | h; exact .inr (List.eq_nil_of_length_eq_zero h); exact .inl h, trivial⟩
              have P1 := Lib.hid (show 0 < U1.length from by omega)
              have P2 := Lib.hid (show 0 < U2.length from by omega)
              have P3 := Lib.hid (show 0 < V1.length from by omega)
              have P4 := Lib.hid (show 0 < V2.length from by omega)
              clear KN lU1 lU2 lV1 lV2
              have wen := WEN.out
              clear hgt hn rU rV hU hV
              go_wp2_with fail
              refine K1.out.mono ?_
              rintro e1 w1 ⟨rfl, hr1⟩
              have HB1 := Lib.hid (HRow.out.next hr1)
              clear hr1
              go_wp2_with fail
              refine (HREC1.out w1 HB1.out P1.out P3.out).mono ?_
              rintro e2 w2 ⟨rfl, hr2⟩
              have HB2 := Lib.hid (HB1.out.next hr2)
              clear hr2
              go_wp2_with fail
              refine (HREC2.out w2 HB2.out P2.out P4.out).mono ?_
              rintro e3 w3 ⟨rfl, hr3⟩
              have HB3 := Lib.hid (HB2.out.next hr3)
              clear hr3
              go_wp2_with fail
              go_end0
              exact ⟨rfl, HB3.out⟩
  · have hgt2 : ¬ (mid : Int) < (m : Int) := by omega
    have hC : Hid (Cut U V a m b mid N a m) := Lib.hid ⟨hm, hb, hN, by omega, by omega, .inr ⟨by omega, rfl, rfl⟩⟩
    have hS0 : Hid (SeekW w w base g n cap L U V a m N a m a m) := Lib.hid ⟨⟨Nat.le_refl _, (hC.out.facts hU hV).2.1, Nat.le_refl _, fun t _ _ _ _ => by omega, fun t _ _ _ _ => by omega⟩, hRow.out⟩
    have w6 : True := trivial
    obtain ⟨w2, w3, w4, w5⟩ := HW.out
    obtain ⟨c1, c2, c3⟩ := HC3.out
    clear hRow hL hR ha hm hb hl hmid hss hN hpp hf ho hd0 hd1 h0 hmidl hN1 hNp hmn ham hbn hU0 hV0 hU1 hV1
    go_enter Try.func56, Try.ntmps56
    go_wp2_with fail
    try rw [c3]
    clear w2 w3 w4 w5 w6 c1 c2 c3 q1 q2 q3 q4 q5 q6
    go_loopw [20, 21] (fun i j wr => ∃ s r : Nat, i = .int .i64 (s : Int) ∧ j = .int .i64 (r : Int) ∧ SeekW w wr base g n cap L U V a m N a m s r) (fun i j _ => (intOf j).toNat - (intOf i).toNat)
    case atStart => exact ⟨_, _, rfl, rfl, hS0.out⟩
    case round =>
      clear hS0
      obtain ⟨s, r, rfl, rfl, hsk, hr⟩ := hrel
      by_cases hsr : s < r
      · have hsr2 : (s : Int) < (r : Int) := by omega
        have hm := HM.out
        have hb := HB.out
        have hN := HN.out
        have hpp := HPP.out
        have hCf := hC.out.facts hU hV
        obtain ⟨s1, s2, s3, hF, hT⟩ := hsk
        obtain ⟨h, hh⟩ : ∃ h, h = (s + r) / 2 := ⟨_, rfl⟩
        obtain ⟨st, hst⟩ : ∃ t, t = s + r := ⟨_, rfl⟩
        have hh1 : s ≤ h := by omega
        have hh2 : h < r := by omega
        obtain ⟨u, hu⟩ : ∃ u, U[h - a]? = some u := ⟨_, List.getElem?_eq_getElem (by omega)⟩
        obtain ⟨v, hv⟩ : ∃ v, V[N - 1 - h - m]? = some v := ⟨_, List.getElem?_eq_getElem (by omega)⟩
        obtain ⟨e, he⟩ : ∃ e, e = pp - h := ⟨_, rfl⟩
        have ha := HA.out
        have hal := (List.getElem?_eq_some_iff.1 hu).1
        have hvl := (List.getElem?_eq_some_iff.1 hv).1
        have eu : L[h]? = some u := by rw [HL.out, List.append_assoc, List.append_assoc, List.getElem?_append_right (by omega), List.getElem?_append_left (by omega), ← ha]; exact hu
        have ev : L[e]? = some v := by rw [HL.out, List.append_assoc (P ++ U), List.getElem?_append_right (by rw [List.length_append]; omega), List.getElem?_append_left (by rw [List.length_append]; omega), List.length_append, ← hv]; congr 1; omega
        have HN1 : Hid (∀ w2, Row w w2 base g n cap L → ltW v u = false → SeekW w w2 base g n cap L U V a m N a m (h + 1) r) := Lib.hid fun w2 hr2 hl => ⟨⟨by omega, by omega, s3, fun t u2 v2 t1 t2 hu2 hv2 => geW_trans (geW_trans (rise_le rV hv hv2 (by omega)) hl) (rise_le rU hu2 hu (by omega)), hT⟩, hr2⟩
        have HN2 : Hid (∀ w2, Row w w2 base g n cap L → ltW v u = true → SeekW w w2 base g n cap L U V a m N a m s h) := Lib.hid fun w2 hr2 hl => ⟨⟨s1, hh1, by omega, hF, fun t u2 v2 t1 t2 hu2 hv2 => ltW_geW (geW_ltW (rise_le rV hv2 hv (by omega)) hl) (rise_le rU hu hu2 (by omega))⟩, hr2⟩
        obtain ⟨x0, x1, x2⟩ := row_at hr.2 eu
        obtain ⟨y0, y1, y2⟩ := row_at hr.2 ev
        obtain ⟨-, hgl, hnl, -⟩ := row_frozen hr.2
        have i2n := (List.getElem?_eq_some_iff.1 eu).1
        have i4n := (List.getElem?_eq_some_iff.1 ev).1
        rw [← hnl] at i2n i4n
        have i1 : (0 : Int) ≤ (h : Int) := by omega
        have i2 : (h : Int) < (n : Int) := by omega
        have i3 : (0 : Int) ≤ (e : Int) := by omega
        have i4 : (e : Int) < (n : Int) := by omega
        have rn : r ≤ n := by omega
        have HRW := Lib.hid hr
        have hM := Lib.hid (And.intro hh1 hh2)
        have hpe : pp = e + h := by omega
        have hpl : pp ≤ 200000 := by omega
        have HH := Lib.hid hh
        have we : IntKind.i64.wrap ((pp : Int) - (h : Int)) = (e : Int) := by rw [IntWalk.i64_in _ (by omega)]; omega
        have WE := Lib.hid we
        clear we
        obtain ⟨c1, c2, c3⟩ := half_facts hh hst (by omega) (by omega)
        have we := WE.out
        have HHN := Lib.hid hn
        have HSR := Lib.hid hsr
        clear hm hb hN hpp hCf s1 s2 s3 hF hT hh hst hh1 hh2 hu hv he ha hal hvl eu ev hnl hr rn hpe hpl hn hsr
        go_upto_region 35 with fail
        refine wp_region_held_drew (S := fun w' => Held wr w') (by kernel_rfl) (Held.of (New.refl _).drew) (fun hHeld => ?_)
        refine wpAnyH_take (i := 0) (oi := { dst := some 158, op := Op.move (Operand.tmp 4), type := 50, pos := "zsortanyfunc.go:441", after := #[], guard := none }) (v := ?_) rfl (by kernel_rfl) (by kernel_rfl) (by kernel_rfl) (fun _ _ _ h => h) (Or.inl ⟨by rfl, ?_⟩) (by assumption) ?_
        rotate_left
        · (intro wq hSw; (try dsimp only at hSw); go_simp; first | done | with_reducible rfl)
        try (simp only [Act.put, List.setIfInBounds_toArray, set16]; simp only [set4]; simp only [List.set_cons_succ, List.set_cons_zero])
        refine wpAnyH_take (i := 1) (oi := { dst := some 159, op := Op.move (Operand.tmp 0), type := 23, pos := "zsortanyfunc.go:441", after := #[], guard := none }) (v := ?_) rfl (by kernel_rfl) (by kernel_rfl) (by kernel_rfl) (fun _ _ _ h => h) (Or.inl ⟨by rfl, ?_⟩) (by assumption) ?_
        rotate_left
        · (intro wq hSw; (try dsimp only at hSw); go_simp; first | done | with_reducible rfl)
        try (simp only [Act.put, List.setIfInBounds_toArray, set16]; simp only [set4]; simp only [List.set_cons_succ, List.set_cons_zero])
        refine wpAnyH_take (i := 2) (oi := { dst := some 160, op := Op.move (Operand.tmp 22), type := 3, pos := "zsortanyfunc.go:441", after := #[], guard := none }) (v := ?_) rfl (by kernel_rfl) (by kernel_rfl) (by kernel_rfl) (fun _ _ _ h => h) (Or.inl ⟨by rfl, ?_⟩) (by assumption) ?_
        rotate_left
        · (intro wq hSw; (try dsimp only at hSw); go_simp; first | done | with_reducible rfl)
        try (simp only [Act.put, List.setIfInBounds_toArray, set16]; simp only [List.set_cons_zero])
        refine wpAnyH_take (i := 3) (oi := { dst := some 161, op := Op.move (Operand.tmp 23), type := 3, pos := "zsortanyfunc.go:441", after := #[], guard := none }) (v := ?_) rfl (by kernel_rfl) (by kernel_rfl) (by kernel_rfl) (fun _ _ _ h => h) (Or.inl ⟨by rfl, ?_⟩) (by assumption) ?_
        rotate_left
        · (intro wq hSw; (try dsimp only at hSw); go_simp; first | done | with_reducible rfl)
        try (simp only [Act.put, List.setIfInBounds_toArray, set16]; simp only [List.set_cons_succ, List.set_cons_zero])
        refine wpAnyH_take (i := 4) (oi := { dst := some 162, op := Op.binOp BinOp.sub 3 (Operand.tmp 160) (Operand.tmp 161) 3, type := 3, pos := "zsortanyfunc.go:441", after := #[{ on := 2, ground := Ground.data }, { on := 3, ground := Ground.data }], guard := none }) (v := ?_) rfl (by kernel_rfl) (by kernel_rfl) (by kernel_rfl) (fun _ _ _ h => h) (Or.inl ⟨by rfl, ?_⟩) (by assumption) ?_
        rotate_left
        · (intro wq hSw; (try dsimp only at hSw); go_simp; first | done | with_reducible rfl)
        try (simp only [Act.put, List.setIfInBounds_toArray, set16]; simp only [List.set_cons_succ, List.set_cons_zero])
        refine wpAnyH_take (i := 5) (oi := { dst := some 163, op := Op.indexAddr 23 (Operand.tmp 159) (Operand.tmp 162), type := 0, pos := "zsortanyfunc.go:441", after := #[{ on := 1, ground := Ground.data }, { on := 4, ground := Ground.data }], guard := none }) (v := ?_) rfl (by kernel_rfl) (by kernel_rfl) (by kernel_rfl) (fun _ _ _ h => h) (Or.inl ⟨by rfl, ?_⟩) (by assumption) ?_
        rotate_left
        · (intro wq hSw; (try dsimp only at hSw); go_simp; first | done | with_reducible rfl)
        try (simp only [Act.put, List.setIfInBounds_toArray, set16]; simp only [List.set_cons_succ, List.set_cons_zero])
        refine wpAnyH_take (i := 6) (oi := { dst := some 164, op := Op.load 43 (Operand.tmp 163), type := 43, pos := "zsortanyfunc.go:441", after := #[{ on := 5, ground := Ground.data }], guard := none }) (v := ?_) rfl (by kernel_rfl) (by kernel_rfl) (by kernel_rfl) (fun _ _ _ h => h) (Or.inl ⟨by rfl, ?_⟩) (by assumption) ?_
        rotate_left
        · (intro wq hSw; (try dsimp only at hSw); go_simp; first | done | with_reducible rfl)
        try (simp only [Act.put, List.setIfInBounds_toArray, set16]; simp only [set4]; simp only [List.set_cons_zero])
        refine wpAnyH_take (i := 7) (oi := { dst := some 165, op := Op.move (Operand.tmp 0), type := 23, pos := "zsortanyfunc.go:441", after := #[], guard := none }) (v := ?_) rfl (by kernel_rfl) (by kernel_rfl) (by kernel_rfl) (fun _ _ _ h => h) (Or.inl ⟨by rfl, ?_⟩) (by assumption) ?_
        rotate_left
        · (intro wq hSw; (try dsimp only at hSw); go_simp; first | done | with_reducible rfl)
        try (simp only [Act.put, List.setIfInBounds_toArray, set16]; simp only [set4]; simp only [List.set_cons_succ, List.set_cons_zero])
        refine wpAnyH_take (i := 8) (oi := { dst := some 166, op := Op.move (Operand.tmp 23), type := 3, pos := "zsortanyfunc.go:441", after := #[], guard := none }) (v := ?_) rfl (by kernel_rfl) (by kernel_rfl) (by kernel_rfl) (fun _ _ _ h => h) (Or.inl ⟨by rfl, ?_⟩) (by assumption) ?_
        rotate_left
        · (intro wq hSw; (try dsimp only at hSw); go_simp; first | done | with_reducible rfl)
        try (simp only [Act.put, List.setIfInBounds_toArray, set16]; simp only [set4]; simp only [List.set_cons_succ, List.set_cons_zero])
        refine wpAnyH_take (i := 9) (oi := { dst := some 167, op := Op.indexAddr 23 (Operand.tmp 165) (Operand.tmp 166), type := 0, pos := "zsortanyfunc.go:441", after := #[{ on := 7, ground := Ground.data }, { on := 8, ground := Ground.data }], guard := none }) (v := ?_) rfl (by kernel_rfl) (by kernel_rfl) (by kernel_rfl) (fun _ _ _ h => h) (Or.inl ⟨by rfl, ?_⟩) (by assumption) ?_
        rotate_left
        · (intro wq hSw; (try dsimp only at hSw); go_simp; first | done | with_reducible rfl)
        try (simp only [Act.put, List.setIfInBounds_toArray, set16]; simp only [set4]; simp only [List.set_cons_succ, List.set_cons_zero])
        refine wpAnyH_take (i := 10) (oi := { dst := some 168, op := Op.load 43 (Operand.tmp 167), type := 43, pos := "zsortanyfunc.go:441", after := #[{ on := 9, ground := Ground.data }], guard := none }) (v := ?_) rfl (by kernel_rfl) (by kernel_rfl) (by kernel_rfl) (fun _ _ _ h => h) (Or.inl ⟨by rfl, ?_⟩) (by assumption) ?_
        rotate_left
        · (intro wq hSw; (try dsimp only at hSw); go_simp; first | done | with_reducible rfl)
        try (simp only [Act.put, List.setIfInBounds_toArray, set16]; simp only [set4]; simp only [List.set_cons_zero])
        refine wpAnyH_ready (rs := [11]) (by kernel_rfl) (by simp) ?_
        refine AllReadyH.cons (o := { dst := some 169, op := Op.call { callee := Callee.value (Operand.tmp 158), args := #[Operand.tmp 164, Operand.tmp 168], argTypes := #[43, 43] }, type := 3, pos := "zsortanyfunc.go:441", after := #[{ on := 0, ground := Ground.data }, { on := 6, ground := Ground.data }, { on := 10, ground := Ground.data }], guard := none }) rfl (fun K hK => ?_) AllReadyH.nil
        go_simp
        refine (sortCmp_any v u _).mono ?_
        rintro e2 w2 ⟨rfl, hn2⟩
        have hn3 := (New.refl wr).drew.trans hn2
        refine hK.out _ _ ?_ (fun hHeld => ?_)
        · exact Held.of hn3
        clear hK K
        try (simp only [Act.put, List.setIfInBounds_toArray, set16]; simp only [set4]; simp only [List.set_cons_succ, List.set_cons_zero])
        refine wpAnyH_take (i := 12) (oi := { dst := some 170, op := Op.binOp BinOp.lss 3 (Operand.tmp 169) (Operand.const (Value.int IntKind.i64 0)) 3, type := 4, pos := "zsortanyfunc.go:441", after := #[{ on := 11, ground := Ground.data }], guard := none }) (v := .bool (ltW v u)) rfl (by kernel_rfl) (by kernel_rfl) (by kernel_rfl) (fun _ _ _ h => h) (Or.inl ⟨by rfl, ?_⟩) (by assumption) ?_
        · (intro wq hSw; (try dsimp only at hSw); go_simp; first | done | with_reducible rfl | (rw [cmpW_lt]; done) | simp only [cmpW_lt])
        try (simp only [Act.put, List.setIfInBounds_toArray, set16]; simp only [set4]; simp only [List.set_cons_succ, List.set_cons_zero])
        refine wpAnyH_take (i := 13) (oi := { dst := some 171, op := Op.unOp UnOp.not 4 (Operand.tmp 170), type := 4, pos := "zsortanyfunc.go:441", after := #[{ on := 12, ground := Ground.data }], guard := none }) (v := ?_) rfl (by kernel_rfl) (by kernel_rfl) (by kernel_rfl) (fun _ _ _ h => h) (Or.inl ⟨by rfl, ?_⟩) (by assumption) ?_
        rotate_left
        · (intro wq hSw; (try dsimp only at hSw); go_simp; first | done | with_reducible rfl)
        try (simp only [Act.put, List.setIfInBounds_toArray, set16]; simp only [set4]; simp only [List.set_cons_succ, List.set_cons_zero])
        refine wpAnyH_done (by kernel_rfl) ?_ _
        have HR2 := Lib.hid (HRW.out.keep hn3)
        clear hHeld hn3 hn2 x0 x1 x2 y0 y1 y2 HRW c1 c2 c3 we i1 i2 i2n i3 i4 i4n hsr2
        cases hlb : ltW v u with
        | false =>
          have HNx := Lib.hid (HN1.out _ HR2.out hlb)
          obtain ⟨h1, hh1⟩ : ∃ h1, h1 = h + 1 := ⟨_, rfl⟩
          rw [← hh1] at HNx
          have wh : IntKind.i64.wrap ((h : Int) + 1) = (h1 : Int) := by have := hM.out; have := HHN.out; have := HNx.out.1.2.1; have := HNx.out.1.2.2.1; have := (hC.out.facts hU hV).2.2.1; have := HM.out; have := HB.out; have hbq := HBN.out; rw [IntWalk.i64_in _ (by omega)]; omega
          have HH1 := Lib.hid hh1
          clear hlb HR2 HN1 HN2 hh1
          go_wp2_with fail
          go_roundw
          case rel => exact ⟨h1, r, rfl, rfl, HNx.out⟩
          case measure => have := hM.out; have := HH1.out; simp [intOf]; omega
        | true =>
          have HNx := Lib.hid (HN2.out _ HR2.out hlb)
          clear hlb HR2 HN1 HN2
          go_wp2_with fail
          go_roundw
          case rel => exact ⟨s, h, rfl, rfl, HNx.out⟩
          case measure => have := hM.out; simp [intOf]; omega
      · have hsr2 : ¬ (s : Int) < (r : Int) := by omega
        have hsr3 : r = s := by have := hsk.2.1; omega
        have hsk2 : SeekG U V a m N a m s s := by rw [hsr3] at hsk; exact hsk
        obtain ⟨hsp1, hsp2⟩ := hC.out.split hU hV rU rV hsk2
        have hCf := hC.out.facts hU hV
        obtain ⟨s1, _, s3, _, _⟩ := hsk2
        have hm := HM.out
        have hb := HB.out
        have hN := HN.out
        have hbn := HBN.out
        have ha := HA.out
        have hf := HFU.out
        have hm1 := hC.out.m1
        have hm2 := hC.out.m2
        obtain ⟨en, hen⟩ : ∃ e, e = N - s := ⟨_, rfl⟩
        rw [← hen] at hsp1 hsp2
        obtain ⟨U1, hU1⟩ : ∃ l, l = U.take (s - a) := ⟨_, rfl⟩
        obtain ⟨U2, hU2⟩ : ∃ l, l = U.drop (s - a) := ⟨_, rfl⟩
        obtain ⟨V1, hV1⟩ : ∃ l, l = V.take (en - m) := ⟨_, rfl⟩
        obtain ⟨V2, hV2⟩ : ∃ l, l = V.drop (en - m) := ⟨_, rfl⟩
        rw [← hU1, ← hV2] at hsp1
        rw [← hU2, ← hV1] at hsp2
        have eU : U1 ++ U2 = U := by rw [hU1, hU2]; exact List.take_append_drop _ _
        have eV : V1 ++ V2 = V := by rw [hV1, hV2]; exact List.take_append_drop _ _
        have lU1 : U1.length = s - a := by rw [hU1, List.length_take]; omega
        have lU2 : U2.length = m - s := by rw [hU2, List.length_drop]; omega
        have lV1 : V1.length = en - m := by rw [hV1, List.length_take]; omega
        have lV2 : V2.length = b - en := by rw [hV2, List.length_drop]; omega
        have rUU : RiseW (U1 ++ U2) := by rw [eU]; exact rU
        have rVV : RiseW (V1 ++ V2) := by rw [eV]; exact rV
        obtain ⟨rU1, rU2, _⟩ := List.pairwise_append.1 rUU
        obtain ⟨rV1, rV2, _⟩ := List.pairwise_append.1 rVV
        have eR : sortW (U1 ++ V1) ++ sortW (U2 ++ V2) = sortW (U ++ V) := by rw [sortW_split rUU rVV hsp1 hsp2, eU, eV]
        have lS : (sortW (U1 ++ V1)).length = mid - a := by rw [sortW_length, List.length_append]; omega
        have o1 : a ≤ s := by omega
        have o2 : s ≤ m := by omega
        have o3 : m ≤ en := by omega
        have o4 : en ≤ b := by omega
        have o5 : mid - a = (s - a) + (en - m) := by omega
        have o6 : en - mid = m - s := by omega
        have o7 : mid ≤ en := by omega
        have o8 : s ≤ mid := by omega
        have o9 : a < mid := hCf.2.2.2.2.2.1
        have o10 : mid < b := hCf.2.2.2.2.2.2.1
        obtain ⟨R1, hR1⟩ : ∃ l, l = P ++ U1 ++ V1 ++ (U2 ++ V2 ++ Q) := ⟨_, rfl⟩
        obtain ⟨R2, hR2⟩ : ∃ l, l = P ++ sortW (U1 ++ V1) ++ (U2 ++ V2 ++ Q) := ⟨_, rfl⟩
        have hLn := HNN.out
        have eL : L = P ++ U1 ++ U2 ++ (V1 ++ V2) ++ Q := by rw [HL.out, ← eU, ← eV]; simp
        have n1 : n = R1.length := by rw [hLn, eL, hR1]; simp only [List.length_append]; omega
        have n2 : n = R2.length := by rw [n1, hR1, hR2]; simp only [List.length_append, sortW_length]; omega
        have eR3 : R = (P ++ sortW (U1 ++ V1)) ++ sortW (U2 ++ V2) ++ Q := by rw [HR.out, ← eR]; simp
        have HROT : Hid (∀ w0, Row w w0 base g n cap L → 0 < U2.length → 0 < V1.length → Calls Try.prog 58 #[.slice (some ⟨g, 0, none⟩) n cap, .int .i64 (s : Int), .int .i64 (m : Int), .int .i64 (en : Int), (.func (.func 28) #[] #[])] w0 (RowPost w0 base g n cap R1)) := Lib.hid fun w0 h q1 q2 => rotate_row base g n cap (P ++ U1) U2 V1 (V2 ++ Q) L R1 w0 hn q1 q2 (by rw [eL]; simp) (by rw [hR1]; simp) hLn h.2 s m en (by rw [List.length_append]; omega) (by rw [List.length_append]; omega) (by rw [List.length_append]; omega)
        have HSAME : Hid (∀ w0, Row w w0 base g n cap L → U2 = [] ∨ V1 = [] → Row w w0 base g n cap R1) := Lib.hid fun w0 h q => by have e : L = R1 := (by rw [eL, hR1]; rcases q with q | q <;> rw [q] <;> simp); rw [← e]; exact h
        have HREC1 : Hid (∀ w0, Row w w0 base g n cap R1 → 0 < U1.length → 0 < V1.length → Calls Try.prog 56 #[.slice (some ⟨g, 0, none⟩) n cap, .int .i64 (a : Int), .int .i64 (s : Int), .int .i64 (mid : Int), (.func (.func 28) #[] #[])] w0 (RowPost w0 base g n cap R2)) := Lib.hid fun w0 h q1 q2 => IH.out base g n cap P U1 V1 (U2 ++ V2 ++ Q) R1 R2 w0 hn (by omega) q1 q2 rU1 rV1 hR1 hR2 n1 h.2 a s mid ha (by omega) (by omega)
        have HSAME1 : Hid (∀ w0, Row w w0 base g n cap R1 → U1 = [] ∨ V1 = [] → Row w w0 base g n cap R2) := Lib.hid fun w0 h q => by have e : R1 = R2 := (by rw [hR1, hR2]; rcases q with q | q <;> rw [q] <;> simp [sortW_rise rU1, sortW_rise rV1]); rw [← e]; exact h
        have HREC2 : Hid (∀ w0, Row w w0 base g n cap R2 → 0 < U2.length → 0 < V2.length → Calls Try.prog 56 #[.slice (some ⟨g, 0, none⟩) n cap, .int .i64 (mid : Int), .int .i64 (en : Int), .int .i64 (b : Int), (.func (.func 28) #[] #[])] w0 (RowPost w0 base g n cap R)) := Lib.hid fun w0 h q1 q2 => IH.out base g n cap (P ++ sortW (U1 ++ V1)) U2 V2 Q R2 R w0 hn (by omega) q1 q2 rU2 rV2 (by rw [hR2]; simp) eR3 n2 h.2 mid en b (by rw [List.length_append, lS]; omega) (by omega) (by omega)
        have HSAME2 : Hid (∀ w0, Row w w0 base g n cap R2 → U2 = [] ∨ V2 = [] → Row w w0 base g n cap R) := Lib.hid fun w0 h q => by have e : R2 = R := (by rw [hR2, eR3]; rcases q with q | q <;> rw [q] <;> simp [sortW_rise rU2, sortW_rise rV2]); rw [← e]; exact h
        have hnn : N ≤ 300000 := by omega
        have wen : IntKind.i64.wrap ((N : Int) - (s : Int)) = (en : Int) := by rw [IntWalk.i64_in _ (by omega)]; omega
        have WEN := Lib.hid wen
        have HRow := Lib.hid hr
        have HLN := Lib.hid (And.intro lU1 (And.intro lU2 (And.intro lV1 (And.intro lV2 (And.intro o1 (And.intro o2 (And.intro o3 (And.intro o4 (And.intro o5 (And.intro o6 (And.intro o7 (And.intro o8 (And.intro o9 o10)))))))))))))
        clear hsp1 hsp2 hCf s1 s3 hm hb hN hbn ha hf hm1 hm2 hen hU1 hU2 hV1 hV2 eU eV rUU rVV rU1 rU2 rV1 rV2 eR lS hR1 hR2 hLn eL n1 n2 eR3 hnn wen hr lU1 lU2 lV1 lV2 o1 o2 o3 o4 o5 o6 o7 o8 o9 o10 hsk hsr hsr3
        obtain ⟨lU1, lU2, lV1, lV2, o1, o2, o3, o4, o5, o6, o7, o8, o9, o10⟩ := HLN.out
        clear lU1 lU2 lV1 lV2
        have ham2 : a < m := by have := HM.out; omega
        by_cases hA : s < m
        rotate_left
        · by_cases hB : m < en
          rotate_left
          · skip
            have zA : ¬ (s : Int) < (m : Int) := by omega
            have yA : ¬ s < m := by omega
            have xA : decide ((s : Int) < (m : Int)) = false := by simpa using yA
            have zB : ¬ (m : Int) < (en : Int) := by omega
            have yB : ¬ m < en := by omega
            have xB : decide ((m : Int) < (en : Int)) = false := by simpa using yB
            have zC : (a : Int) < (s : Int) := by omega
            have yC : a < s := by omega
            have xC : decide ((a : Int) < (s : Int)) = true := by simpa using yC
            have zD : ¬ (s : Int) < (mid : Int) := by omega
            have yD : ¬ s < mid := by omega
            have xD : decide ((s : Int) < (mid : Int)) = false := by simpa using yD
            have zE : ¬ (mid : Int) < (en : Int) := by omega
            have yE : ¬ mid < en := by omega
            have xE : decide ((mid : Int) < (en : Int)) = false := by simpa using yE
            have zF : (en : Int) < (b : Int) := by omega
            have yF : en < b := by omega
            have xF : decide ((en : Int) < (b : Int)) = true := by simpa using yF
            obtain ⟨lU1, lU2, lV1, lV2, _⟩ := HLN.out
            have K1 := Lib.hid (HSAME.out wr HRow.out (Or.inl (List.eq_nil_of_length_eq_zero (by omega))))
            have KN : Hid ((0 < U1.length ∨ U1 = []) ∧ True) := Lib.hid ⟨by rcases Nat.eq_zero_or_pos U1.length with h | h; exact .inr (List.eq_nil_of_length_eq_zero h); exact .inl h, trivial⟩
            have P1 := Lib.hid (show 0 < U1.length from by omega)
            have P2 := Lib.hid (show U2 = [] from List.eq_nil_of_length_eq_zero (by omega))
            have P3 := Lib.hid (show V1 = [] from List.eq_nil_of_length_eq_zero (by omega))
            have P4 := Lib.hid (show 0 < V2.length from by omega)
            clear KN lU1 lU2 lV1 lV2
            have wen := WEN.out
            clear hgt hn rU rV hU hV
            go_wp2_with fail
            have HB1 := K1
            have HB2 := Lib.hid (HSAME1.out wr HB1.out (Or.inr P3.out))
            have HB3 := Lib.hid (HSAME2.out wr HB2.out (Or.inl P2.out))
            go_end0
            exact ⟨rfl, HB3.out⟩
          · skip
            have zA : ¬ (s : Int) < (m : Int) := by omega
            have yA : ¬ s < m := by omega
            have xA : decide ((s : Int) < (m : Int)) = false := by simpa using yA
            have zB : (m : Int) < (en : Int) := by omega
            have yB : m < en := by omega
            have xB : decide ((m : Int) < (en : Int)) = true := by simpa using yB
            have zC : (a : Int) < (s : Int) := by omega
            have yC : a < s := by omega
            have xC : decide ((a : Int) < (s : Int)) = true := by simpa using yC
            have zD : (s : Int) < (mid : Int) := by omega
            have yD : s < mid := by omega
            have xD : decide ((s : Int) < (mid : Int)) = true := by simpa using yD
            have zE : ¬ (mid : Int) < (en : Int) := by omega
            have yE : ¬ mid < en := by omega
            have xE : decide ((mid : Int) < (en : Int)) = false := by simpa using yE
            have zF : (en : Int) < (b : Int) := by omega
            have yF : en < b := by omega
            have xF : decide ((en : Int) < (b : Int)) = true := by simpa using yF
            obtain ⟨lU1, lU2, lV1, lV2, _⟩ := HLN.out
            have K1 := Lib.hid (HSAME.out wr HRow.out (Or.inl (List.eq_nil_of_length_eq_zero (by omega))))
            have KN : Hid ((0 < U1.length ∨ U1 = []) ∧ True) := Lib.hid ⟨by rcases Nat.eq_zero_or_pos U1.length with h | h; exact .inr (List.eq_nil_of_length_eq_zero h); exact .inl h, trivial⟩
            have P1 := Lib.hid (show 0 < U1.length from by omega)
            have P2 := Lib.hid (show U2 = [] from List.eq_nil_of_length_eq_zero (by omega))
            have P3 := Lib.hid (show 0 < V1.length from by omega)
            have P4 := Lib.hid (show 0 < V2.length from by omega)
            clear KN lU1 lU2 lV1 lV2
            have wen := WEN.out
            clear hgt hn rU rV hU hV
            go_wp2_with fail
            have HB1 := K1
            refine (HREC1.out wr HB1.out P1.out P3.out).mono ?_
            rintro e2 w2 ⟨rfl, hr2⟩
            have HB2 := Lib.hid (HB1.out.next hr2)
            clear hr2
            go_wp2_with fail
            have HB3 := Lib.hid (HSAME2.out w2 HB2.out (Or.inl P2.out))
            go_end0
            exact ⟨rfl, HB3.out⟩
        by_cases hB : m < en
        rotate_left
        · by_cases hC : a < s
          rotate_left
          · by_cases hF : en < b
            rotate_left
            · skip
              have zA : (s : Int) < (m : Int) := by omega
              have yA : s < m := by omega
              have xA : decide ((s : Int) < (m : Int)) = true := by simpa using yA
              have zB : ¬ (m : Int) < (en : Int) := by omega
              have yB : ¬ m < en := by omega
              have xB : decide ((m : Int) < (en : Int)) = false := by simpa using yB
              have zC : ¬ (a : Int) < (s : Int) := by omega
              have yC : ¬ a < s := by omega
              have xC : decide ((a : Int) < (s : Int)) = false := by simpa using yC
              have zD : ¬ (s : Int) < (mid : Int) := by omega
              have yD : ¬ s < mid := by omega
              have xD : decide ((s : Int) < (mid : Int)) = false := by simpa using yD
              have zE : (mid : Int) < (en : Int) := by omega
              have yE : mid < en := by omega
              have xE : decide ((mid : Int) < (en : Int)) = true := by simpa using yE
              have zF : ¬ (en : Int) < (b : Int) := by omega
              have yF : ¬ en < b := by omega
              have xF : decide ((en : Int) < (b : Int)) = false := by simpa using yF
              obtain ⟨lU1, lU2, lV1, lV2, _⟩ := HLN.out
              have K1 := Lib.hid (HSAME.out wr HRow.out (Or.inr (List.eq_nil_of_length_eq_zero (by omega))))
              have KN : Hid ((0 < U1.length ∨ U1 = []) ∧ True) := Lib.hid ⟨by rcases Nat.eq_zero_or_pos U1.length with h | h; exact .inr (List.eq_nil_of_length_eq_zero h); exact .inl h, trivial⟩
              have P1 := Lib.hid (show U1 = [] from List.eq_nil_of_length_eq_zero (by omega))
              have P2 := Lib.hid (show 0 < U2.length from by omega)
              have P3 := Lib.hid (show V1 = [] from List.eq_nil_of_length_eq_zero (by omega))
              have P4 := Lib.hid (show V2 = [] from List.eq_nil_of_length_eq_zero (by omega))
              clear KN lU1 lU2 lV1 lV2
              have wen := WEN.out
              clear hgt hn rU rV hU hV
              go_wp2_with fail
              have HB1 := K1
              have HB2 := Lib.hid (HSAME1.out wr HB1.out (Or.inl P1.out))
              have HB3 := Lib.hid (HSAME2.out wr HB2.out (Or.inr P4.out))
              go_end0
              exact ⟨rfl, HB3.out⟩
            · skip
              have zA : (s : Int) < (m : Int) := by omega
              have yA : s < m := by omega
              have xA : decide ((s : Int) < (m : Int)) = true := by simpa using yA
              have zB : ¬ (m : Int) < (en : Int) := by omega
              have yB : ¬ m < en := by omega
              have xB : decide ((m : Int) < (en : Int)) = false := by simpa using yB
              have zC : ¬ (a : Int) < (s : Int) := by omega
              have yC : ¬ a < s := by omega
              have xC : decide ((a : Int) < (s : Int)) = false := by simpa using yC
              have zD : ¬ (s : Int) < (mid : Int) := by omega
              have yD : ¬ s < mid := by omega
              have xD : decide ((s : Int) < (mid : Int)) = false := by simpa using yD
              have zE : (mid : Int) < (en : Int) := by omega
              have yE : mid < en := by omega
              have xE : decide ((mid : Int) < (en : Int)) = true := by simpa using yE
              have zF : (en : Int) < (b : Int) := by omega
              have yF : en < b := by omega
              have xF : decide ((en : Int) < (b : Int)) = true := by simpa using yF
              obtain ⟨lU1, lU2, lV1, lV2, _⟩ := HLN.out
              have K1 := Lib.hid (HSAME.out wr HRow.out (Or.inr (List.eq_nil_of_length_eq_zero (by omega))))
              have KN : Hid ((0 < U1.length ∨ U1 = []) ∧ True) := Lib.hid ⟨by rcases Nat.eq_zero_or_pos U1.length with h | h; exact .inr (List.eq_nil_of_length_eq_zero h); exact .inl h, trivial⟩
              have P1 := Lib.hid (show U1 = [] from List.eq_nil_of_length_eq_zero (by omega))
              have P2 := Lib.hid (show 0 < U2.length from by omega)
              have P3 := Lib.hid (show V1 = [] from List.eq_nil_of_length_eq_zero (by omega))
              have P4 := Lib.hid (show 0 < V2.length from by omega)
              clear KN lU1 lU2 lV1 lV2
              have wen := WEN.out
              clear hgt hn rU rV hU hV
              go_wp2_with fail
              have HB1 := K1
              have HB2 := Lib.hid (HSAME1.out wr HB1.out (Or.inl P1.out))
              refine (HREC2.out wr HB2.out P2.out P4.out).mono ?_
              rintro e3 w3 ⟨rfl, hr3⟩
              have HB3 := Lib.hid (HB2.out.next hr3)
              clear hr3
              go_wp2_with fail
              go_end0
              exact ⟨rfl, HB3.out⟩
          · by_cases hF : en < b
            rotate_left
            · skip
              have zA : (s : Int) < (m : Int) := by omega
              have yA : s < m := by omega
              have xA : decide ((s : Int) < (m : Int)) = true := by simpa using yA
              have zB : ¬ (m : Int) < (en : Int) := by omega
              have yB : ¬ m < en := by omega
              have xB : decide ((m : Int) < (en : Int)) = false := by simpa using yB
              have zC : (a : Int) < (s : Int) := by omega
              have yC : a < s := by omega
              have xC : decide ((a : Int) < (s : Int)) = true := by simpa using yC
              have zD : ¬ (s : Int) < (mid : Int) := by omega
              have yD : ¬ s < mid := by omega
              have xD : decide ((s : Int) < (mid : Int)) = false := by simpa using yD
              have zE : (mid : Int) < (en : Int) := by omega
              have yE : mid < en := by omega
              have xE : decide ((mid : Int) < (en : Int)) = true := by simpa using yE
              have zF : ¬ (en : Int) < (b : Int) := by omega
              have yF : ¬ en < b := by omega
              have xF : decide ((en : Int) < (b : Int)) = false := by simpa using yF
              obtain ⟨lU1, lU2, lV1, lV2, _⟩ := HLN.out
              have K1 := Lib.hid (HSAME.out wr HRow.out (Or.inr (List.eq_nil_of_length_eq_zero (by omega))))
              have KN : Hid ((0 < U1.length ∨ U1 = []) ∧ True) := Lib.hid ⟨by rcases Nat.eq_zero_or_pos U1.length with h | h; exact .inr (List.eq_nil_of_length_eq_zero h); exact .inl h, trivial⟩
              have P1 := Lib.hid (show 0 < U1.length from by omega)
              have P2 := Lib.hid (show 0 < U2.length from by omega)
              have P3 := Lib.hid (show V1 = [] from List.eq_nil_of_length_eq_zero (by omega))
              have P4 := Lib.hid (show V2 = [] from List.eq_nil_of_length_eq_zero (by omega))
              clear KN lU1 lU2 lV1 lV2
              have wen := WEN.out
              clear hgt hn rU rV hU hV
              go_wp2_with fail
              have HB1 := K1
              have HB2 := Lib.hid (HSAME1.out wr HB1.out (Or.inr P3.out))
              have HB3 := Lib.hid (HSAME2.out wr HB2.out (Or.inr P4.out))
              go_end0
              exact ⟨rfl, HB3.out⟩
            · skip
              have zA : (s : Int) < (m : Int) := by omega
              have yA : s < m := by omega
              have xA : decide ((s : Int) < (m : Int)) = true := by simpa using yA
              have zB : ¬ (m : Int) < (en : Int) := by omega
              have yB : ¬ m < en := by omega
              have xB : decide ((m : Int) < (en : Int)) = false := by simpa using yB
              have zC : (a : Int) < (s : Int) := by omega
              have yC : a < s := by omega
              have xC : decide ((a : Int) < (s : Int)) = true := by simpa using yC
              have zD : ¬ (s : Int) < (mid : Int) := by omega
              have yD : ¬ s < mid := by omega
              have xD : decide ((s : Int) < (mid : Int)) = false := by simpa using yD
              have zE : (mid : Int) < (en : Int) := by omega
              have yE : mid < en := by omega
              have xE : decide ((mid : Int) < (en : Int)) = true := by simpa using yE
              have zF : (en : Int) < (b : Int) := by omega
              have yF : en < b := by omega
              have xF : decide ((en : Int) < (b : Int)) = true := by simpa using yF
              obtain ⟨lU1, lU2, lV1, lV2, _⟩ := HLN.out
              have K1 := Lib.hid (HSAME.out wr HRow.out (Or.inr (List.eq_nil_of_length_eq_zero (by omega))))
              have KN : Hid ((0 < U1.length ∨ U1 = []) ∧ True) := Lib.hid ⟨by rcases Nat.eq_zero_or_pos U1.length with h | h; exact .inr (List.eq_nil_of_length_eq_zero h); exact .inl h, trivial⟩
              have P1 := Lib.hid (show 0 < U1.length from by omega)
              have P2 := Lib.hid (show 0 < U2.length from by omega)
              have P3 := Lib.hid (show V1 = [] from List.eq_nil_of_length_eq_zero (by omega))
              have P4 := Lib.hid (show 0 < V2.length from by omega)
              clear KN lU1 lU2 lV1 lV2
              have wen := WEN.out
              clear hgt hn rU rV hU hV
              go_wp2_with fail
              have HB1 := K1
              have HB2 := Lib.hid (HSAME1.out wr HB1.out (Or.inr P3.out))
              refine (HREC2.out wr HB2.out P2.out P4.out).mono ?_
              rintro e3 w3 ⟨rfl, hr3⟩
              have HB3 := Lib.hid (HB2.out.next hr3)
              clear hr3
              go_wp2_with fail
              go_end0
              exact ⟨rfl, HB3.out⟩
        · by_cases hC : a < s
          rotate_left
          · by_cases hF : en < b
            rotate_left
            · skip
              have zA : (s : Int) < (m : Int) := by omega
              have yA : s < m := by omega
              have xA : decide ((s : Int) < (m : Int)) = true := by simpa using yA
              have zB : (m : Int) < (en : Int) := by omega
              have yB : m < en := by omega
              have xB : decide ((m : Int) < (en : Int)) = true := by simpa using yB
              have zC : ¬ (a : Int) < (s : Int) := by omega
              have yC : ¬ a < s := by omega
              have xC : decide ((a : Int) < (s : Int)) = false := by simpa using yC
              have zD : (s : Int) < (mid : Int) := by omega
              have yD : s < mid := by omega
              have xD : decide ((s : Int) < (mid : Int)) = true := by simpa using yD
              have zE : (mid : Int) < (en : Int) := by omega
              have yE : mid < en := by omega
              have xE : decide ((mid : Int) < (en : Int)) = true := by simpa using yE
              have zF : ¬ (en : Int) < (b : Int) := by omega
              have yF : ¬ en < b := by omega
              have xF : decide ((en : Int) < (b : Int)) = false := by simpa using yF
              obtain ⟨lU1, lU2, lV1, lV2, _⟩ := HLN.out
              have k1 := HROT.out wr HRow.out (by omega) (by omega)
              have K1 := Lib.hid k1
              clear k1
              have KN : Hid ((0 < U1.length ∨ U1 = []) ∧ True) := Lib.hid ⟨by rcases Nat.eq_zero_or_pos U1.length with h | h; exact .inr (List.eq_nil_of_length_eq_zero h); exact .inl h, trivial⟩
              have P1 := Lib.hid (show U1 = [] from List.eq_nil_of_length_eq_zero (by omega))
              have P2 := Lib.hid (show 0 < U2.length from by omega)
              have P3 := Lib.hid (show 0 < V1.length from by omega)
              have P4 := Lib.hid (show V2 = [] from List.eq_nil_of_length_eq_zero (by omega))
              clear KN lU1 lU2 lV1 lV2
              have wen := WEN.out
              clear hgt hn rU rV hU hV
              go_wp2_with fail
              refine K1.out.mono ?_
              rintro e1 w1 ⟨rfl, hr1⟩
              have HB1 := Lib.hid (HRow.out.next hr1)
              clear hr1
              go_wp2_with fail
              have HB2 := Lib.hid (HSAME1.out w1 HB1.out (Or.inl P1.out))
              have HB3 := Lib.hid (HSAME2.out w1 HB2.out (Or.inr P4.out))
              go_end0
              exact ⟨rfl, HB3.out⟩
            · skip
              have zA : (s : Int) < (m : Int) := by omega
              have yA : s < m := by omega
              have xA : decide ((s : Int) < (m : Int)) = true := by simpa using yA
              have zB : (m : Int) < (en : Int) := by omega
              have yB : m < en := by omega
              have xB : decide ((m : Int) < (en : Int)) = true := by simpa using yB
              have zC : ¬ (a : Int) < (s : Int) := by omega
              have yC : ¬ a < s := by omega
              have xC : decide ((a : Int) < (s : Int)) = false := by simpa using yC
              have zD : (s : Int) < (mid : Int) := by omega
              have yD : s < mid := by omega
              have xD : decide ((s : Int) < (mid : Int)) = true := by simpa using yD
              have zE : (mid : Int) < (en : Int) := by omega
              have yE : mid < en := by omega
              have xE : decide ((mid : Int) < (en : Int)) = true := by simpa using yE
              have zF : (en : Int) < (b : Int) := by omega
              have yF : en < b := by omega
              have xF : decide ((en : Int) < (b : Int)) = true := by simpa using yF
              obtain ⟨lU1, lU2, lV1, lV2, _⟩ := HLN.out
              have k1 := HROT.out wr HRow.out (by omega) (by omega)
              have K1 := Lib.hid k1
              clear k1
              have KN : Hid ((0 < U1.length ∨ U1 = []) ∧ True) := Lib.hid ⟨by rcases Nat.eq_zero_or_pos U1.length with h | h; exact .inr (List.eq_nil_of_length_eq_zero h); exact .inl h, trivial⟩
              have P1 := Lib.hid (show U1 = [] from List.eq_nil_of_length_eq_zero (by omega))
              have P2 := Lib.hid (show 0 < U2.length from by omega)
              have P3 := Lib.hid (show 0 < V1.length from by omega)
              have P4 := Lib.hid (show 0 < V2.length from by omega)
              clear KN lU1 lU2 lV1 lV2
              have wen := WEN.out
              clear hgt hn rU rV hU hV
              go_wp2_with fail
              refine K1.out.mono ?_
              rintro e1 w1 ⟨rfl, hr1⟩
              have HB1 := Lib.hid (HRow.out.next hr1)
              clear hr1
              go_wp2_with fail
              have HB2 := Lib.hid (HSAME1.out w1 HB1.out (Or.inl P1.out))
              refine (HREC2.out w1 HB2.out P2.out P4.out).mono ?_
              rintro e3 w3 ⟨rfl, hr3⟩
              have HB3 := Lib.hid (HB2.out.next hr3)
              clear hr3
              go_wp2_with fail
              go_end0
              exact ⟨rfl, HB3.out⟩
          · by_cases hF : en < b
            rotate_left
            · skip
              have zA : (s : Int) < (m : Int) := by omega
              have yA : s < m := by omega
              have xA : decide ((s : Int) < (m : Int)) = true := by simpa using yA
              have zB : (m : Int) < (en : Int) := by omega
              have yB : m < en := by omega
              have xB : decide ((m : Int) < (en : Int)) = true := by simpa using yB
              have zC : (a : Int) < (s : Int) := by omega
              have yC : a < s := by omega
              have xC : decide ((a : Int) < (s : Int)) = true := by simpa using yC
              have zD : (s : Int) < (mid : Int) := by omega
              have yD : s < mid := by omega
              have xD : decide ((s : Int) < (mid : Int)) = true := by simpa using yD
              have zE : (mid : Int) < (en : Int) := by omega
              have yE : mid < en := by omega
              have xE : decide ((mid : Int) < (en : Int)) = true := by simpa using yE
              have zF : ¬ (en : Int) < (b : Int) := by omega
              have yF : ¬ en < b := by omega
              have xF : decide ((en : Int) < (b : Int)) = false := by simpa using yF
              obtain ⟨lU1, lU2, lV1, lV2, _⟩ := HLN.out
              have k1 := HROT.out wr HRow.out (by omega) (by omega)
              have K1 := Lib.hid k1
              clear k1
              have KN : Hid ((0 < U1.length ∨ U1 = []) ∧ True) := Lib.hid ⟨by rcases Nat.eq_zero_or_pos U1.length with h | h; exact .inr (List.eq_nil_of_length_eq_zero h); exact .inl h, trivial⟩
              have P1 := Lib.hid (show 0 < U1.length from by omega)
              have P2 := Lib.hid (show 0 < U2.length from by omega)
              have P3 := Lib.hid (show 0 < V1.length from by omega)
              have P4 := Lib.hid (show V2 = [] from List.eq_nil_of_length_eq_zero (by omega))
              clear KN lU1 lU2 lV1 lV2
              have wen := WEN.out
              clear hgt hn rU rV hU hV
              go_wp2_with fail
              refine K1.out.mono ?_
              rintro e1 w1 ⟨rfl, hr1⟩
              have HB1 := Lib.hid (HRow.out.next hr1)
              clear hr1
              go_wp2_with fail
              refine (HREC1.out w1 HB1.out P1.out P3.out).mono ?_
              rintro e2 w2 ⟨rfl, hr2⟩
              have HB2 := Lib.hid (HB1.out.next hr2)
              clear hr2
              go_wp2_with fail
              have HB3 := Lib.hid (HSAME2.out w2 HB2.out (Or.inr P4.out))
              go_end0
              exact ⟨rfl, HB3.out⟩
            · skip
              have zA : (s : Int) < (m : Int) := by omega
              have yA : s < m := by omega
              have xA : decide ((s : Int) < (m : Int)) = true := by simpa using yA
              have zB : (m : Int) < (en : Int) := by omega
              have yB : m < en := by omega
              have xB : decide ((m : Int) < (en : Int)) = true := by simpa using yB
              have zC : (a : Int) < (s : Int) := by omega
              have yC : a < s := by omega
              have xC : decide ((a : Int) < (s : Int)) = true := by simpa using yC
              have zD : (s : Int) < (mid : Int) := by omega
              have yD : s < mid := by omega
              have xD : decide ((s : Int) < (mid : Int)) = true := by simpa using yD
              have zE : (mid : Int) < (en : Int) := by omega
              have yE : mid < en := by omega
              have xE : decide ((mid : Int) < (en : Int)) = true := by simpa using yE
              have zF : (en : Int) < (b : Int) := by omega
              have yF : en < b := by omega
              have xF : decide ((en : Int) < (b : Int)) = true := by simpa using yF
              obtain ⟨lU1, lU2, lV1, lV2, _⟩ := HLN.out
              have k1 := HROT.out wr HRow.out (by omega) (by omega)
              have K1 := Lib.hid k1
              clear k1
              have KN : Hid ((0 < U1.length ∨ U1 = []) ∧ True) := Lib.hid ⟨by rcases Nat.eq_zero_or_pos U1.length with h | h; exact .inr (List.eq_nil_of_length_eq_zero h); exact .inl h, trivial⟩
              have P1 := Lib.hid (show 0 < U1.length from by omega)
              have P2 := Lib.hid (show 0 < U2.length from by omega)
              have P3 := Lib.hid (show 0 < V1.length from by omega)
              have P4 := Lib.hid (show 0 < V2.length from by omega)
              clear KN lU1 lU2 lV1 lV2
              have wen := WEN.out
              clear hgt hn rU rV hU hV
              go_wp2_with fail
              refine K1.out.mono ?_
              rintro e1 w1 ⟨rfl, hr1⟩
              have HB1 := Lib.hid (HRow.out.next hr1)
              clear hr1
              go_wp2_with fail
              refine (HREC1.out w1 HB1.out P1.out P3.out).mono ?_
              rintro e2 w2 ⟨rfl, hr2⟩
              have HB2 := Lib.hid (HB1.out.next hr2)
              clear hr2
              go_wp2_with fail
              refine (HREC2.out w2 HB2.out P2.out P4.out).mono ?_
              rintro e3 w3 ⟨rfl, hr3⟩
              have HB3 := Lib.hid (HB2.out.next hr3)
              clear hr3
              go_wp2_with fail
              go_end0
              exact ⟨rfl, HB3.out⟩

theorem sym_all : ∀ fuel, SymAt fuel
  | 0 => by
    intro base g n cap P U V Q L R w hn hf hU0
    omega
  | fuel + 1 => sym_step fuel (sym_all fuel)
end Go.Proofs.Ytdobingccipkkaa
