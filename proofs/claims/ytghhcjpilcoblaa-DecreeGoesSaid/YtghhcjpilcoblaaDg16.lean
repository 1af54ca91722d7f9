/- Chapter 22 (decree), the document's words on lists: Prefix, Has, Same. -/
import Derived.Test.YtghhcjpilcoblaaDg15
namespace Go.Proofs.Ytghhcjpilcoblaa
open Go.RowKit Go.Lap
set_option linter.unusedVariables false
section
variable {w : World} {v v2 : Value} {a b l : List ByteArray}
theorem str_at {b off : Nat} (hc : ∀ k x, l[k]? = some x → ∀ j u, (sEnc x)[j]? = some u → w.cell? ⟨b, off + k * 1 + j, none⟩ = some u) {k : Nat} {x : ByteArray} (hx : l[k]? = some x) :
    w.cell? ⟨b, off + k, none⟩ = some (.string x) := by have := hc _ x hx 0 _ rfl; simpa using this
theorem pre_cons_lt (h : ¬ a.length ≤ b.length) : ¬ a <+: b := fun hp => h hp.length_le
theorem pre_take {k : Nat} {x y : ByteArray} (h : a.take k = b.take k) (hx : a[k]? = some x) (hy : b[k]? = some y) : (a.take (k + 1) = b.take (k + 1) ↔ x = y) := by
  rw [List.take_add_one, List.take_add_one, hx, hy, h]
  simp
set_option maxRecDepth 100000 in
set_option maxHeartbeats 4000000 in
theorem prefix22 (h1 : SlIn w 1 sEnc v a) (h2 : SlIn w 1 sEnc v2 b) (ha : a.length ≤ 1000000000) (hb : b.length ≤ 1000000000) :
    Calls Try.prog 29 #[v, v2] w fun e w' => e = .returned (.bool (decide (a <+: b))) ∧ New w w' := by
  obtain ⟨A, cp, rfl, hcp, hor⟩ := h1
  obtain ⟨A2, cp2, rfl, hcp2, hor2⟩ := h2
  by_cases hgt : a.length ≤ b.length
  · have hgt' : ¬ (b.length : Int) < (a.length : Int) := by omega
    go_enter Try.func29, Try.ntmps29
    go_wp2_with fail
    go_loopw [5] (fun i wr => ∃ k : Nat, k ≤ a.length ∧ i = .int .i64 k ∧ New w wr ∧ a.take k = b.take k) (fun i _ => a.length - (intOf i).toNat)
    case atStart => exact ⟨0, by omega, rfl, New.refl _, by simp⟩
    case round =>
      obtain ⟨k, hk, rfl, hn, ht⟩ := hrel
      have HN := Lib.hid hn
      by_cases hlt : k < a.length
      · have hlt' : (k : Int) < (a.length : Int) := by omega
        have hlt2' : (k : Int) < (b.length : Int) := by omega
        have hk0 : (0 : Int) ≤ (k : Int) := by omega
        rcases hor with hor | ⟨b1, off, rfl, hb1, hc⟩
        · rw [hor] at hlt; simp at hlt
        rcases hor2 with hor2 | ⟨b2, off2, rfl, hb2, hc2⟩
        · rw [hor2] at hgt; simp at hgt; rw [hgt] at hlt; simp at hlt
        obtain ⟨x, hx⟩ : ∃ x, a[k]? = some x := ⟨_, List.getElem?_eq_getElem hlt⟩
        obtain ⟨y, hy⟩ : ∃ y, b[k]? = some y := ⟨_, List.getElem?_eq_getElem (show k < b.length by omega)⟩
        have e0 := str_at (w := wr) (fun k x h j u hu => (hn.cells.1 _ _ hb1).trans (hc k x h j u hu)) hx
        have f0 := str_at (w := wr) (fun k x h j u hu => (hn.cells.1 _ _ hb2).trans (hc2 k x h j u hu)) hy
        have hbl := Nat.lt_of_lt_of_le hb1 hn.size
        have hbl2 := Nat.lt_of_lt_of_le hb2 hn.size
        have hit := pre_take ht hx hy
        by_cases hxy : x = y
        · have HT := Lib.hid (hit.2 hxy)
          subst hxy
          clear hc hc2 hx hy hn ht hit
          go_wp2_with fail
          go_quiet (fail)
          go_wp2_with fail
          go_roundw
          case rel => exact ⟨k + 1, by omega, by go_num, HN.out.drewN _, HT.out⟩
          case measure => simp [intOf]; omega
        · have HF := Lib.hid (show decide (a <+: b) = false from decide_eq_false fun hp => hxy (hit.1 (by
            obtain ⟨t, rfl⟩ := hp
            rw [List.take_append_of_le_length (by omega)])))
          have hq := list_ne hxy
          clear hc hc2 hx hy hn ht hit hxy
          go_wp2_with fail
          go_quiet (fail)
          go_wp2_with fail
          go_ret
          exact ⟨ret_bool (a := false) HF.out.symm, HN.out.drewN _⟩
      · have hlt' : ¬ (k : Int) < (a.length : Int) := by omega
        have HF := Lib.hid (show decide (a <+: b) = true from decide_eq_true (by
          have hka : k = a.length := by omega
          rw [hka, List.take_length] at ht
          rw [ht]; exact List.take_prefix _ _))
        clear ht
        go_wp2_with fail
        go_ret
        exact ⟨ret_bool (a := true) HF.out.symm, HN.out⟩
  · have hgt' : (b.length : Int) < (a.length : Int) := by omega
    have HF := Lib.hid (show decide (a <+: b) = false from decide_eq_false (pre_cons_lt hgt))
    clear hgt
    go_enter Try.func29, Try.ntmps29
    go_wp2_with fail
    go_ret
    exact ⟨ret_bool (a := false) HF.out.symm, New.refl _⟩
/-- Has a list a value? -/
def hasL (l : List ByteArray) (x : ByteArray) : Bool := l.any fun y => decide (y = x)
theorem hasL_iff {x : ByteArray} : hasL l x = true ↔ x ∈ l := by
  unfold hasL
  rw [List.any_eq_true]
  constructor
  · rintro ⟨y, hy, h⟩; rw [← of_decide_eq_true h]; exact hy
  · exact fun h => ⟨x, h, decide_eq_true rfl⟩
theorem hasL_no {x : ByteArray} (h : x ∉ l) : hasL l x = false := by
  cases hq : hasL l x with
  | false => rfl
  | true => exact absurd (hasL_iff.1 hq) h
set_option maxRecDepth 100000 in
set_option maxHeartbeats 4000000 in
theorem has22 (h1 : SlIn w 1 sEnc v l) (x : ByteArray) (hl : l.length ≤ 1000000000) :
    Calls Try.prog 30 #[v, .string x] w fun e w' => e = .returned (.bool (hasL l x)) ∧ New w w' := by
  obtain ⟨A, cp, rfl, hcp, hor⟩ := h1
  go_enter Try.func30, Try.ntmps30
  go_wp2_with fail
  go_loopw [5] (fun i wr => ∃ k : Nat, k ≤ l.length ∧ i = .int .i64 k ∧ New w wr ∧ x ∉ l.take k) (fun i _ => l.length - (intOf i).toNat)
  case atStart => exact ⟨0, by omega, rfl, New.refl _, by simp⟩
  case round =>
    obtain ⟨k, hk, rfl, hn, ht⟩ := hrel
    have HN := Lib.hid hn
    by_cases hlt : k < l.length
    · have hlt' : (k : Int) < (l.length : Int) := by omega
      have hk0 : (0 : Int) ≤ (k : Int) := by omega
      rcases hor with hor | ⟨b1, off, rfl, hb1, hc⟩
      · rw [hor] at hlt; simp at hlt
      obtain ⟨y, hy⟩ : ∃ y, l[k]? = some y := ⟨_, List.getElem?_eq_getElem hlt⟩
      have e0 := str_at (w := wr) (fun k x h j u hu => (hn.cells.1 _ _ hb1).trans (hc k x h j u hu)) hy
      have hbl := Nat.lt_of_lt_of_le hb1 hn.size
      by_cases hxy : y = x
      · have HF := Lib.hid (show hasL l x = true from hasL_iff.2 (hxy ▸ List.mem_of_getElem? hy))
        subst hxy
        clear hc hy hn ht
        go_wp2_with fail
        try go_quiet (fail)
        go_wp2_with fail
        go_ret
        exact ⟨ret_bool (a := true) HF.out.symm, HN.out⟩
      · have HT := Lib.hid (show x ∉ l.take (k + 1) by
          rw [List.take_add_one, hy]
          simp only [Option.toList_some, List.mem_append, List.mem_singleton]
          exact fun h => h.elim ht fun h => hxy h.symm)
        have hq := list_ne hxy
        clear hc hy hn ht hxy
        go_wp2_with fail
        try go_quiet (fail)
        go_wp2_with fail
        go_roundw
        case rel => exact ⟨k + 1, by omega, by go_num, HN.out, HT.out⟩
        case measure => simp [intOf]; omega
    · have hlt' : ¬ (k : Int) < (l.length : Int) := by omega
      have HF := Lib.hid (show hasL l x = false from hasL_no (by rwa [List.take_of_length_le (by omega)] at ht))
      clear ht
      go_wp2_with fail
      go_ret
      exact ⟨ret_bool (a := false) HF.out.symm, HN.out⟩
set_option maxRecDepth 100000 in
set_option maxHeartbeats 4000000 in
theorem same22 (h1 : SlIn w 1 sEnc v a) (h2 : SlIn w 1 sEnc v2 b) (ha : a.length ≤ 1000000000) (hb : b.length ≤ 1000000000) :
    Calls Try.prog 26 #[v, v2] w fun e w' => e = .returned (.bool (decide (a = b))) ∧ New w w' := by
  have HP := Lib.hid (prefix22 h1 h2 ha hb)
  obtain ⟨A, cp, rfl, hcp, hor⟩ := h1
  obtain ⟨A2, cp2, rfl, hcp2, hor2⟩ := h2
  clear hor hor2
  by_cases hl : a.length = b.length
  · have hl' : (a.length : Int) = (b.length : Int) := by omega
    have HF := Lib.hid (show decide (a = b) = decide (a <+: b) from by
      by_cases hp : a <+: b
      · rw [decide_eq_true hp, decide_eq_true (hp.eq_of_length hl)]
      · rw [decide_eq_false hp, decide_eq_false (fun he => hp (by rw [he]; exact List.prefix_refl b))])
    clear hl
    go_enter Try.func26, Try.ntmps26
    go_wp2_with (go_at_call 29; refine HP.out.mono ?_; rintro e w9 ⟨rfl, hn9⟩)
    go_ret
    exact ⟨ret_bool HF.out.symm, hn9⟩
  · have hl' : ¬ (a.length : Int) = (b.length : Int) := by omega
    have HF := Lib.hid (show decide (a = b) = false from decide_eq_false fun h => hl (by rw [h]))
    clear hl HP
    go_enter Try.func26, Try.ntmps26
    go_wp2_with fail
    go_ret
    exact ⟨ret_bool (a := false) HF.out.symm, New.refl _⟩
end
end Go.Proofs.Ytghhcjpilcoblaa
