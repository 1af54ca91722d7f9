/- How the acts of the laws of chapter 18 are opened. -/
import Derived.Test.YtcganajbfplmpaaOpen
import Derived.Test.YtcganajbfplmpaaChecked
import Derived.Test.YtcganajbfplmpaaRows
import Derived.Test.YtcganajbfplmpaaLaw18
namespace Go.Proofs.Ytcganajbfplmpaa
open Go.ChangeShapes Go.WideShapes Go.ChangeAt Go.RowKit Go.Lap
section
variable {H : Type} {enc : TypeId × Value → H} {w : World} {base : Nat} {spare : Nat → Bool} {held : Bool}
theorem natU {n : Int} (h : (Lit.int .u64 n).wf = true) : ∃ m : Nat, n = (m : Int) ∧ okU m := by
  have hx : 0 ≤ n := by simp [Lit.wf, IntKind.min, IntKind.signed] at h; omega
  refine ⟨n.toNat, by omega, ?_⟩
  unfold okU
  rw [Int.toNat_of_nonneg hx]
  exact h
theorem decPA {cs : List Value} (h : OkAll enc Try.prog w base spare held [3, 9, 55, 55, 55] cs) : ∃ p : PAct, cs = paE p ∧ p.good := by
  match cs, h with
  | [a, b, c, d, e], ⟨ha, hb, hc, hd, he, _⟩ =>
    obtain ⟨x, rfl, wx⟩ := okL_int Try.underlying3 ha
    obtain ⟨s, rfl, ws⟩ := okL_string Try.underlying9 hb
    obtain ⟨y, rfl, wy⟩ := okL_int Try.underlying55 hc
    obtain ⟨z, rfl, wz⟩ := okL_int Try.underlying55 hd
    obtain ⟨t, rfl, wt⟩ := okL_int Try.underlying55 he
    obtain ⟨y, rfl, wy⟩ := natU wy
    obtain ⟨z, rfl, wz⟩ := natU wz
    obtain ⟨t, rfl, wt⟩ := natU wt
    exact ⟨⟨x, s, y, z, t⟩, rfl, ws, wy, wz, wt⟩
end
end Go.Proofs.Ytcganajbfplmpaa
