/- Strings in their order, and cmp.Compare of strings. -/
import Derived.Test.YtcganajbfplmpaaRows
import Derived.Test.YtcganajbfplmpaaSl
import Derived.Deep.QuietTactic
import Derived.BigQuiet
import Derived.Deep.DeepCutAuto
import Derived.IntWalk
namespace Go.Proofs.Ytcganajbfplmpaa
open Go.RowKit Go.Lap
set_option linter.unusedVariables false

theorem less_trich : ∀ a b : List UInt8, (Op.bytesLess a b || a == b) = !Op.bytesLess b a
  | [], [] => rfl
  | [], _ :: _ => rfl
  | _ :: _, [] => rfl
  | x :: a, y :: b => by
    have ih := less_trich a b
    simp only [Op.bytesLess]
    by_cases h : x = y
    · subst h
      have hx : (x < x) = False := by simp
      simp only [hx, decide_false, Bool.false_or, beq_self_eq_true, Bool.true_and]
      rw [← ih]
      simp
    · have hb : (x == y) = false := by simpa using h
      have hb2 : (y == x) = false := by simpa using Ne.symm h
      have hc : (x :: a == y :: b) = false := by simp [h]
      rw [hb, hb2, hc]
      simp only [Bool.false_and, Bool.or_false]
      have : ¬ x.toNat = y.toNat := fun e => h (UInt8.toNat_inj.1 e)
      rw [Bool.eq_iff_iff]
      simp [UInt8.lt_iff_toNat_lt]
      omega
theorem le_or (a b : ByteArray) : (Op.bytesLess a.toList b.toList || a.toList == b.toList) = !Op.bytesLess b.toList a.toList := less_trich _ _
theorem less_trans : ∀ a b c : List UInt8, Op.bytesLess a b = true → Op.bytesLess b c = true → Op.bytesLess a c = true
  | [], [], _, h, _ => by simp [Op.bytesLess] at h
  | [], _ :: _, [], _, h => by simp [Op.bytesLess] at h
  | [], _ :: _, _ :: _, _, _ => rfl
  | _ :: _, [], _, h, _ => by simp [Op.bytesLess] at h
  | _ :: _, _ :: _, [], _, h => by simp [Op.bytesLess] at h
  | x :: a, y :: b, z :: c, h, h' => by
    have ih := less_trans a b c
    simp only [Op.bytesLess, Bool.or_eq_true, Bool.and_eq_true, decide_eq_true_eq, beq_iff_eq, UInt8.lt_iff_toNat_lt] at h h' ⊢
    rcases h with h | ⟨rfl, h⟩
    · rcases h' with h' | ⟨rfl, _⟩
      · exact .inl (by omega)
      · exact .inl h
    · rcases h' with h' | ⟨rfl, h'⟩
      · exact .inl h'
      · exact .inr ⟨rfl, ih h h'⟩
theorem less_irr (a : List UInt8) : Op.bytesLess a a = false := by
  have h := less_trich a a
  simp only [beq_self_eq_true, Bool.or_true] at h
  simpa using h.symm
theorem less_tri (a b : List UInt8) (h1 : Op.bytesLess a b = false) (h2 : Op.bytesLess b a = false) : a = b := by
  have h := less_trich a b
  rw [h1, h2] at h
  simpa using h
def cmpS (a b : ByteArray) : Int := if Op.bytesLess a.toList b.toList = true then -1 else if Op.bytesLess b.toList a.toList = true then 1 else 0
set_option maxHeartbeats 1000000 in
theorem isNaN_any (a : ByteArray) (w : World) : Calls Try.prog 71 #[.string a] w fun e w' => e = .returned (.bool false) ∧ w' = w := by
  go_enter Try.func71, Try.ntmps71
  go_wp2_with fail
  go_ret
  exact ⟨rfl, rfl⟩

set_option maxHeartbeats 1000000 in
theorem compare_any (a b : ByteArray) (w : World) : Calls Try.prog 51 #[.string a, .string b] w fun e w' => e = .returned (.int .i64 (cmpS a b)) ∧ w' = w := by
  have ha := isNaN_any a
  have hb := isNaN_any b
  cases h1 : Op.bytesLess a.toList b.toList with
  | true =>
    have HF := Lib.hid (show cmpS a b = -1 by simp [cmpS, h1])
    go_enter Try.func51, Try.ntmps51
    go_wp2_with fail
    refine (ha _).mono ?_
    rintro e w1 ⟨rfl, rfl⟩
    go_wp2_with fail
    refine (hb _).mono ?_
    rintro e w2 ⟨rfl, rfl⟩
    go_wp2_with fail
    go_ret
    exact ⟨ret_int (a := -1) HF.out.symm, rfl⟩
  | false =>
    cases h2 : Op.bytesLess b.toList a.toList with
    | true =>
      have HF := Lib.hid (show cmpS a b = 1 by simp [cmpS, h1, h2])
      have he : (a.toList == b.toList) = false := by have h := le_or a b; rw [h1, h2] at h; simpa using h
      go_enter Try.func51, Try.ntmps51
      go_wp2_with fail
      refine (ha _).mono ?_
      rintro e w1 ⟨rfl, rfl⟩
      go_wp2_with fail
      refine (hb _).mono ?_
      rintro e w2 ⟨rfl, rfl⟩
      go_wp2_with fail
      go_ret
      exact ⟨ret_int (a := 1) HF.out.symm, rfl⟩
    | false =>
      have HF := Lib.hid (show cmpS a b = 0 by simp [cmpS, h1, h2])
      have he : (a.toList == b.toList) = true := by have h := le_or a b; rw [h1, h2] at h; simpa using h
      go_enter Try.func51, Try.ntmps51
      go_wp2_with fail
      refine (ha _).mono ?_
      rintro e w1 ⟨rfl, rfl⟩
      go_wp2_with fail
      refine (hb _).mono ?_
      rintro e w2 ⟨rfl, rfl⟩
      go_wp2_with fail
      go_ret
      exact ⟨ret_int (a := 0) HF.out.symm, rfl⟩
end Go.Proofs.Ytcganajbfplmpaa
