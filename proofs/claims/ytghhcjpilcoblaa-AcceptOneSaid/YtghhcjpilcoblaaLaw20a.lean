/- The walks of the laws AcceptLess and AcceptChooses (chapter 20): for every input they answer true. -/
import Derived.Test.YtghhcjpilcoblaaAwake20
namespace Go.Proofs.Ytghhcjpilcoblaa
open Go.RowKit Go.Lap

theorem lessB_irrefl (a b : Int) : lessB a b a b = false := by simp [lessB]
theorem lessB_anti {a b c d : Int} (h : lessB a b c d = true) : lessB c d a b = false := by simp [lessB] at *; omega
theorem lessB_eq {a b c d : Int} (h : lessB a b c d = false) (k : lessB c d a b = false) : a = c ∧ b = d := by simp [lessB] at *; omega
theorem lessB_trans {a b c d e f : Int} (h : lessB a b c d = true) (k : lessB c d e f = true) : lessB a b e f = true := by simp [lessB] at *; omega

end Go.Proofs.Ytghhcjpilcoblaa
