/- How the arguments of the laws of chapter 16 are opened. -/
import Derived.Test.YtdjnfnhmkfbfmaaOpen
import Derived.Test.YtdjnfnhmkfbfmaaVer
namespace Go.Proofs.Ytdjnfnhmkfbfmaa
open Go.ChangeShapes Go.WideShapes Go.ChangeAt Go.RowKit Go.Lap
section
variable {H : Type} {enc : TypeId × Value → H} {w : World} {base : Nat} {spare : Nat → Bool} {held : Bool}
def Ver.good (p : Ver) : Prop := (Lit.int .u64 p.at_).wf = true ∧ p.val.size ≤ maxLen
theorem decVer {cs : List Value} (h : OkAll enc Try.prog w base spare held [36, 9, 4] cs) : ∃ p : Ver, cs = p.enc ∧ p.good := by
  match cs, h with
  | [a, b, c], ⟨ha, hb, hc, _⟩ =>
    obtain ⟨y, rfl, wy⟩ := okL_int Try.underlying36 ha
    obtain ⟨s, rfl, ws⟩ := okL_string Try.underlying9 hb
    obtain ⟨x, rfl⟩ := okL_bool Try.underlying4 hc
    exact ⟨⟨y, s, x⟩, rfl, wy, ws⟩
end
end Go.Proofs.Ytdjnfnhmkfbfmaa
