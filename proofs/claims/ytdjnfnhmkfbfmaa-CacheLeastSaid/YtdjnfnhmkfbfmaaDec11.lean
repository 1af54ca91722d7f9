/- How the arguments of the laws of chapter 11 are opened. -/
import Derived.Test.YtdjnfnhmkfbfmaaOpen
import Derived.Test.YtdjnfnhmkfbfmaaChecked
import Derived.Test.YtdjnfnhmkfbfmaaRows
import Derived.Test.YtdjnfnhmkfbfmaaLaw11
namespace Go.Proofs.Ytdjnfnhmkfbfmaa
open Go.ChangeShapes Go.WideShapes Go.ChangeAt Go.RowKit Go.Lap
section
variable {H : Type} {enc : TypeId × Value → H} {w : World} {base : Nat} {spare : Nat → Bool} {held : Bool}
theorem decIE {cs : List Value} (h : OkAll enc Try.prog w base spare held [3] cs) : ∃ p : Int, cs = iE p ∧ (Lit.int .i64 p).wf = true := by
  match cs, h with
  | [a], ⟨ha, _⟩ =>
    obtain ⟨y, rfl, wy⟩ := okL_int Try.underlying3 ha
    exact ⟨y, rfl, wy⟩
end
end Go.Proofs.Ytdjnfnhmkfbfmaa
