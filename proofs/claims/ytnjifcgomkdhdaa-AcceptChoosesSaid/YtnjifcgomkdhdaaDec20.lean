/- How the arguments of the laws of chapter 20 are opened. -/
import Derived.Test.YtnjifcgomkdhdaaOpen
import Derived.Test.YtnjifcgomkdhdaaAcc
namespace Go.Proofs.Ytnjifcgomkdhdaa
open Go.ChangeShapes Go.WideShapes Go.ChangeAt Go.RowKit Go.Lap
section
variable {H : Type} {enc : TypeId × Value → H} {w : World} {base : Nat} {spare : Nat → Bool} {held : Bool}
theorem decBallot {cs : List Value} (h : OkAll enc Try.prog w base spare held [28, 28] cs) : ∃ x y, cs = [.int .u64 x, .int .u64 y] ∧ (Lit.int .u64 x).wf = true ∧ (Lit.int .u64 y).wf = true := by
  match cs, h with
  | [a, b], ⟨ha, hb, _⟩ =>
    obtain ⟨x, rfl, wx⟩ := okL_int Try.underlying28 ha
    obtain ⟨y, rfl, wy⟩ := okL_int Try.underlying28 hb
    exact ⟨x, y, rfl, wx, wy⟩
def Pro.good (p : Pro) : Prop := (Lit.int .u64 p.r).wf = true ∧ (Lit.int .u64 p.n).wf = true ∧ p.v.size ≤ maxLen
theorem decPro {cs : List Value} (h : OkAll enc Try.prog w base spare held [4, 28, 28, 9] cs) : ∃ p : Pro, cs = p.enc ∧ p.good := by
  match cs, h with
  | [a, b, c, d], ⟨ha, hb, hc, hd, _⟩ =>
    obtain ⟨x, rfl⟩ := okL_bool Try.underlying4 ha
    obtain ⟨y, rfl, wy⟩ := okL_int Try.underlying28 hb
    obtain ⟨z, rfl, wz⟩ := okL_int Try.underlying28 hc
    obtain ⟨s, rfl, ws⟩ := okL_string Try.underlying9 hd
    exact ⟨⟨x, y, z, s⟩, rfl, wy, wz, ws⟩
end
end Go.Proofs.Ytnjifcgomkdhdaa
