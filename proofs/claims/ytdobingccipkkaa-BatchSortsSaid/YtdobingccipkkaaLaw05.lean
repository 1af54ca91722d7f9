/- Chapter 5 (batch): what the walks of the laws share. -/
import Derived.Test.YtdobingccipkkaaBat15
namespace Go.Proofs.Ytdobingccipkkaa
open Go.RowKit Go.Lap
set_option linter.unusedVariables false

set_option maxHeartbeats 1000000 in
theorem few_big (c r s : Nat) (v : Value) (l : List Wri) (w : World) (h80 : 80 < l.length) (hs : SlIn w 3 Wri.enc v l) :
    Calls Try.prog 10 #[.agg #[.int .u64 (c : Int), .int .u64 (r : Int), .int .u64 (s : Int), v]] w fun e w' => e = .returned (.bool false) ∧ New w w' := by
  obtain ⟨A, cap, rfl, hlc, hh⟩ := hs
  have h8' : (80 : Int) < (l.length : Int) := by omega
  clear hh
  go_enter Try.func10, Try.ntmps10
  go_wp2_with fail
  go_ret
  exact ⟨rfl, (New.refl w).alloc _⟩
theorem few_all (c r s : Nat) (v : Value) (l : List Wri) (w : World) (hs : SlIn w 3 Wri.enc v l) :
    Calls Try.prog 10 #[.agg #[.int .u64 (c : Int), .int .u64 (r : Int), .int .u64 (s : Int), v]] w fun e w' => e = .returned (.bool (fewB l)) ∧ New w w' := by
  by_cases h80 : 80 < l.length
  · have e : fewB l = false := by simp [fewB]; omega
    rw [e]
    exact few_big c r s v l w h80 hs
  · exact few_any c r s v l w (by omega) hs
theorem fewB_len {l : List Wri} (h : fewB l = true) : l.length ≤ 80 := by
  simp only [fewB, Bool.and_eq_true, decide_eq_true_eq] at h
  exact h.1
end Go.Proofs.Ytdobingccipkkaa
