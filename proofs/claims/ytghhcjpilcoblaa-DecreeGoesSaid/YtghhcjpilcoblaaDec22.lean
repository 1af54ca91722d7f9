/- How the arguments of the laws of chapter 22 are opened. -/
import Derived.Test.YtghhcjpilcoblaaOpen
import Derived.Test.YtghhcjpilcoblaaChecked
import Derived.Test.YtghhcjpilcoblaaRows
import Derived.Test.YtghhcjpilcoblaaDg18
namespace Go.Proofs.Ytghhcjpilcoblaa
open Go.ChangeShapes Go.WideShapes Go.ChangeAt Go.RowKit Go.Lap
section
variable {H : Type} {enc : TypeId × Value → H} {w : World} {base : Nat} {spare : Nat → Bool} {held : Bool}
theorem decS22 {cs : List Value} (h : OkAll enc Try.prog w base spare held [9] cs) : ∃ p : ByteArray, cs = sEnc p ∧ p.size ≤ maxLen := by
  match cs, h with
  | [a], ⟨ha, _⟩ =>
    obtain ⟨x, rfl, wx⟩ := okL_string Try.underlying9 ha
    exact ⟨x, rfl, wx⟩
theorem decDA {cs : List Value} (h : OkAll enc Try.prog w base spare held [3, 3, 3, 3, 9] cs) : ∃ p : DAct, cs = daE p ∧ p.v.size ≤ maxLen := by
  match cs, h with
  | [a, b, c, d, e], ⟨ha, hb, hc, hd, he, _⟩ =>
    obtain ⟨x, rfl, wx⟩ := okL_int Try.underlying3 ha
    obtain ⟨y, rfl, wy⟩ := okL_int Try.underlying3 hb
    obtain ⟨z, rfl, wz⟩ := okL_int Try.underlying3 hc
    obtain ⟨t, rfl, wt⟩ := okL_int Try.underlying3 hd
    obtain ⟨s, rfl, ws⟩ := okL_string Try.underlying9 he
    exact ⟨⟨x, y, z, t, s⟩, rfl, ws⟩
end
end Go.Proofs.Ytghhcjpilcoblaa
