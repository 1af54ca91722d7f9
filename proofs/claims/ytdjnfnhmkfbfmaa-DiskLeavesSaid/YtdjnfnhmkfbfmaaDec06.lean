/- How the arguments of the laws of chapter 6 are opened. -/
import Derived.Test.YtdjnfnhmkfbfmaaOpen
import Derived.Test.YtdjnfnhmkfbfmaaChecked
import Derived.Test.YtdjnfnhmkfbfmaaRows
import Derived.Test.YtdjnfnhmkfbfmaaLaw06e
namespace Go.Proofs.Ytdjnfnhmkfbfmaa
open Go.ChangeShapes Go.WideShapes Go.ChangeAt Go.RowKit Go.Lap
section
variable {H : Type} {enc : TypeId × Value → H} {w : World} {base : Nat} {spare : Nat → Bool} {held : Bool}
theorem decSv {cs : List Value} (h : OkAll enc Try.prog w base spare held [3, 3] cs) : ∃ p : Int × Int, cs = svE p ∧ okI p.1 ∧ okI p.2 := by
  match cs, h with
  | [a, b], ⟨ha, hb, _⟩ =>
    obtain ⟨x, rfl, wx⟩ := okL_int Try.underlying3 ha
    obtain ⟨y, rfl, wy⟩ := okL_int Try.underlying3 hb
    exact ⟨(x, y), rfl, wx, wy⟩
theorem openSv {v : Value} (h : OkL enc Try.prog w base spare held 53 v) : SvOk w v maxLen := by
  obtain ⟨l, h1, h2, h3⟩ := open_sl (n := 4) Try.underlying53 (by kernel_rfl : flat Try.prog 4 71 = some [3, 3]) (by kernel_rfl) (by decide) (fun _ ok => decSv ok) h
  exact ⟨l, h1, h3, h2⟩
theorem decAc {cs : List Value} (h : OkAll enc Try.prog w base spare held [3, 3, 9, 53] cs) : ∃ p : Ac, cs = acE p ∧ AcGood w p := by
  match cs, h with
  | [a, b, c, d], ⟨ha, hb, hc, hd, _⟩ =>
    obtain ⟨x, rfl, wx⟩ := okL_int Try.underlying3 ha
    obtain ⟨y, rfl, wy⟩ := okL_int Try.underlying3 hb
    obtain ⟨z, rfl, wz⟩ := okL_string Try.underlying9 hc
    exact ⟨⟨x, y, z, d⟩, rfl, wx, wy, wz, openSv hd⟩
end
end Go.Proofs.Ytdjnfnhmkfbfmaa
