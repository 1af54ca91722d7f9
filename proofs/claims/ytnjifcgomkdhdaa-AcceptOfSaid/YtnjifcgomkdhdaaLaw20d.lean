/- The law AcceptOf (chapter 20): the plain law, and its walk. -/
import Derived.Test.YtnjifcgomkdhdaaRefO
import Derived.Test.YtnjifcgomkdhdaaAwake20
namespace Go.Proofs.Ytnjifcgomkdhdaa
open Go.RowKit Go.Lap
set_option linter.unusedVariables false

theorem str_list (l : List UInt8) : (str l).data.toList = l := by simp [str]
theorem numR_back {bs : List UInt8} (he : (numR bs 0).2.2 = 0) : (numR bs 0).1 < 18446744073709551616 ∧ varB (numR bs 0).1 ++ (numR bs 0).2.1 = bs := by
  have h := takeF_back 0 0 bs (.inl rfl) (by simpa [takeF] using he)
  exact ⟨by simpa [takeF] using h.1, by simpa [takeF, encF] using h.2.2⟩
theorem textR_back {bs : List UInt8} (he : (textR bs 0).2.2 = 0) : (textR bs 0).1.length ≤ 65536 ∧ varB (textR bs 0).1.length ++ (textR bs 0).1 ++ (textR bs 0).2.1 = bs := by
  have h := takeF_back 1 0 bs (.inr (.inl rfl)) (by simpa [takeF] using he)
  refine ⟨by simpa [takeF, str_size] using h.2.1, ?_⟩
  have h2 : encF ⟨1, 0, str (textR bs 0).1, false, 0⟩ ++ (textR bs 0).2.1 = bs := by simpa [takeF] using h.2.2
  unfold encF at h2
  rw [if_pos rfl, str_size, str_list] at h2
  exact h2
theorem flagR_back {bs : List UInt8} (he : (flagR bs 0).2.2 = 0) : varB (flagN (flagR bs 0).1) ++ (flagR bs 0).2.1 = bs := by
  have h := takeF_back 2 0 bs (.inr (.inr (.inl rfl))) (by simpa [takeF] using he)
  simpa [takeF, encF] using h.2.2

theorem numR_err (bs : List UInt8) {err : Int} (h : err ≠ 0) : numR bs err = (0, bs, err) := by unfold numR; rw [if_neg h]
theorem textR_err (bs : List UInt8) {err : Int} (h : err ≠ 0) : textR bs err = ([], bs, err) := by unfold textR; rw [if_neg (fun h1 => h h1.1)]; unfold belowErr; rw [if_neg h]
theorem flagR_err (bs : List UInt8) {err : Int} (h : err ≠ 0) : flagR bs err = (false, bs, err) := by unfold flagR; rw [if_neg h]
theorem endR_err (bs : List UInt8) {err : Int} (h : err ≠ 0) : endR bs err = err := by unfold endR; rw [if_neg h]
theorem endR_zero (bs : List UInt8) : endR bs 0 = 0 ↔ bs = [] := by unfold endR; rw [if_pos rfl]; split <;> simp_all

theorem ofC_ofR (bs : List UInt8) : ofC bs = ofR bs := by
  unfold ofC ofR
  generalize numR bs 0 = r1
  obtain ⟨n1, b1, e1⟩ := r1
  by_cases h1 : e1 = 0
  case neg => simp [h1, numR_err _ h1, flagR_err _ h1, endR_err _ h1]
  subst h1
  simp only [if_pos]
  generalize numR b1 0 = r2
  obtain ⟨n2, b2, e2⟩ := r2
  by_cases h2 : e2 = 0
  case neg => simp [h2, flagR_err _ h2, endR_err _ h2]
  subst h2
  simp only [if_pos]
  generalize flagR b2 0 = r3
  obtain ⟨yes, b3, e3⟩ := r3
  by_cases h3 : e3 = 0
  case neg => cases yes <;> simp [h3, numR_err _ h3, textR_err _ h3, endR_err _ h3]
  subst h3
  cases yes with
  | false => simp [endR_zero]
  | true =>
    simp only [if_pos]
    generalize numR b3 0 = r4
    obtain ⟨n4, b4, e4⟩ := r4
    by_cases h4 : e4 = 0
    case neg => simp [h4, numR_err _ h4, textR_err _ h4, endR_err _ h4]
    subst h4
    simp only [if_pos]
    generalize numR b4 0 = r5
    obtain ⟨n5, b5, e5⟩ := r5
    by_cases h5 : e5 = 0
    case neg => simp [h5, textR_err _ h5, endR_err _ h5]
    subst h5
    simp only [if_pos]
    generalize textR b5 0 = r6
    obtain ⟨s6, b6, e6⟩ := r6
    by_cases h6 : e6 = 0
    case neg => simp [h6, endR_err _ h6]
    subst h6
    simp [endR_zero]

/-- What is read, put again, is what was read. -/
theorem ofR_back {bs : List UInt8} {a : AccV} (h : ofR bs = some a) : a.pr < 18446744073709551616 ∧ a.pn < 18446744073709551616 ∧ a.ar < 18446744073709551616 ∧ a.an < 18446744073709551616 ∧ a.v.length ≤ 65536 ∧ accB a.pr a.pn a.h a.ar a.an (str a.v) = bs := by
  unfold ofR at h
  simp only at h
  split at h
  case isFalse => cases h
  rename_i h1
  split at h
  case isFalse => cases h
  rename_i h2
  split at h
  case isFalse => cases h
  rename_i h3
  have k1 := numR_back h1
  have k2 := numR_back h2
  have k3 := flagR_back h3
  split at h
  · rename_i hy
    split at h
    case isFalse => cases h
    rename_i h4
    split at h
    case isFalse => cases h
    rename_i h5
    split at h
    case isFalse => cases h
    rename_i h6
    split at h
    case isFalse => cases h
    rename_i h7
    split at h
    case isFalse => cases h
    have k4 := numR_back h4
    have k5 := numR_back h5
    have k6 := textR_back h6
    cases h
    refine ⟨k1.1, k2.1, k4.1, k5.1, k6.1, ?_⟩
    rw [h7, List.append_nil] at k6
    rw [hy] at k3
    show varB _ ++ varB _ ++ varB _ ++ _ = bs
    rw [if_pos rfl, str_size]
    have e : (str (textR (numR (numR (flagR (numR (numR bs 0).2.1 0).2.1 0).2.1 0).2.1 0).2.1 0).1).data.toList = (textR (numR (numR (flagR (numR (numR bs 0).2.1 0).2.1 0).2.1 0).2.1 0).2.1 0).1 := by simp [str]
    rw [e]
    simp only [List.append_assoc]
    rw [k6.2, k5.2, k4.2, k3, k2.2, k1.2]
  · rename_i hy
    split at h
    case isFalse => cases h
    rename_i h4
    cases h
    rw [h4, List.append_nil] at k3
    refine ⟨k1.1, k2.1, by show (0 : Nat) < _; decide, by show (0 : Nat) < _; decide, by simp, ?_⟩
    show varB _ ++ varB _ ++ varB _ ++ _ = bs
    rw [if_neg (by simp), List.append_nil]
    have hy' : (flagR (numR (numR bs 0).2.1 0).2.1 0).1 = false := by simpa using hy
    rw [hy'] at k3
    rw [List.append_assoc, k3, k2.2, k1.2]
end Go.Proofs.Ytnjifcgomkdhdaa
