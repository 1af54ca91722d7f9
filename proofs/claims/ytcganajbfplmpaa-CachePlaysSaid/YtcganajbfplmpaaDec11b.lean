/- How the acts of the laws of chapter 11 are opened. -/
import Derived.Test.YtcganajbfplmpaaOpen
import Derived.Test.YtcganajbfplmpaaChecked
import Derived.Test.YtcganajbfplmpaaRows
import Derived.Test.YtcganajbfplmpaaAct11
namespace Go.Proofs.Ytcganajbfplmpaa
open Go.ChangeShapes Go.WideShapes Go.ChangeAt Go.RowKit Go.Lap
section
variable {H : Type} {enc : TypeId × Value → H} {w : World} {base : Nat} {spare : Nat → Bool} {held : Bool}
theorem decCA {cs : List Value} (h : OkAll enc Try.prog w base spare held [3, 3, 3, 9, 4] cs) : ∃ p : CAct, cs = caE p ∧ p.good := by
  match cs, h with
  | [a, b, c, d, e], ⟨ha, hb, hc, hd, he, _⟩ =>
    obtain ⟨x, rfl, wx⟩ := okL_int Try.underlying3 ha
    obtain ⟨y, rfl, wy⟩ := okL_int Try.underlying3 hb
    obtain ⟨z, rfl, wz⟩ := okL_int Try.underlying3 hc
    obtain ⟨s, rfl, ws⟩ := okL_string Try.underlying9 hd
    obtain ⟨t, rfl⟩ := okL_bool Try.underlying4 he
    exact ⟨⟨x, y, z, s, t⟩, rfl, wx, wy, wz, ws⟩
end
end Go.Proofs.Ytcganajbfplmpaa
