/- How the arguments of the law AcceptOne are opened. -/
import Derived.Test.YtghhcjpilcoblaaOpen
import Derived.Test.YtghhcjpilcoblaaChecked
import Derived.Test.YtghhcjpilcoblaaRows
import Derived.Test.YtghhcjpilcoblaaOne3
namespace Go.Proofs.Ytghhcjpilcoblaa
open Go.ChangeShapes Go.WideShapes Go.ChangeAt Go.RowKit Go.Lap
section
variable {H : Type} {enc : TypeId × Value → H} {w : World} {base : Nat} {spare : Nat → Bool} {held : Bool}
theorem nat8 {n : Int} (h : (Lit.int .u8 n).wf = true) : ∃ m : Nat, n = (m : Int) ∧ m < 256 := by
  have hx : 0 ≤ n ∧ n < 256 := by simp [Lit.wf, IntKind.min, IntKind.max, IntKind.signed, IntKind.bits] at h; omega
  exact ⟨n.toNat, by omega, by omega⟩
theorem decSC {cs : List Value} (h : OkAll enc Try.prog w base spare held [9] cs) : ∃ p : ByteArray, cs = strC p ∧ p.size ≤ maxLen := by
  match cs, h with
  | [a], ⟨ha, _⟩ =>
    obtain ⟨x, rfl, wx⟩ := okL_string Try.underlying9 ha
    exact ⟨x, rfl, wx⟩
theorem decOS {cs : List Value} (h : OkAll enc Try.prog w base spare held [5, 5, 4, 4] cs) : ∃ p : OStep, cs = osE p ∧ p.pr < 256 ∧ p.ac < 256 := by
  match cs, h with
  | [a, b, c, d], ⟨ha, hb, hc, hd, _⟩ =>
    obtain ⟨x, rfl, wx⟩ := okL_int Try.underlying5 ha
    obtain ⟨y, rfl, wy⟩ := okL_int Try.underlying5 hb
    obtain ⟨u, rfl⟩ := okL_bool Try.underlying4 hc
    obtain ⟨v, rfl⟩ := okL_bool Try.underlying4 hd
    obtain ⟨x1, rfl, wx1⟩ := nat8 wx
    obtain ⟨y1, rfl, wy1⟩ := nat8 wy
    exact ⟨⟨x1, y1, u, v⟩, rfl, wx1, wy1⟩
end
end Go.Proofs.Ytghhcjpilcoblaa
