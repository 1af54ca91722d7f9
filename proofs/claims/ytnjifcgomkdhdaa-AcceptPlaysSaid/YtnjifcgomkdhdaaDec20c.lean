/- How the arguments of the law AcceptPlays are opened. -/
import Derived.Test.YtnjifcgomkdhdaaOpen
import Derived.Test.YtnjifcgomkdhdaaLaw20c
namespace Go.Proofs.Ytnjifcgomkdhdaa
open Go.ChangeShapes Go.WideShapes Go.ChangeAt Go.RowKit Go.Lap
section
variable {H : Type} {enc : TypeId × Value → H} {w : World} {base : Nat} {spare : Nat → Bool} {held : Bool}
theorem okL_u64 {t : TypeId} {v : Value} (ht : Try.prog.underlying t = some (.int .u64)) (h : OkL enc Try.prog w base spare held t v) : ∃ n : Nat, v = .int .u64 (n : Int) ∧ n < 18446744073709551616 := by
  obtain ⟨n, rfl, wn⟩ := okL_int ht h
  obtain ⟨h0, h1⟩ := bounds_u64 wn
  obtain ⟨m, rfl⟩ := Int.eq_ofNat_of_zero_le h0
  exact ⟨m, rfl, by omega⟩
theorem decAct {cs : List Value} (h : OkAll enc Try.prog w base spare held [4, 28, 28, 9] cs) : ∃ p : Act, cs = p.enc ∧ p.good := by
  match cs, h with
  | [a, b, c, d], ⟨ha, hb, hc, hd, _⟩ =>
    obtain ⟨x, rfl⟩ := okL_bool Try.underlying4 ha
    obtain ⟨y, rfl, wy⟩ := okL_u64 Try.underlying28 hb
    obtain ⟨z, rfl, wz⟩ := okL_u64 Try.underlying28 hc
    obtain ⟨s, rfl, ws⟩ := okL_string Try.underlying9 hd
    exact ⟨⟨x, y, z, s⟩, rfl, wy, wz, ws⟩
end
end Go.Proofs.Ytnjifcgomkdhdaa
