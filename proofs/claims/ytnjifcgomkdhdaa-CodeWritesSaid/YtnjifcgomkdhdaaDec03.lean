/- How the fields among the arguments of the laws of chapter 3 are opened. -/
import Derived.Test.YtnjifcgomkdhdaaOpen
import Derived.Test.YtnjifcgomkdhdaaFld
import Derived.SizedLaws
namespace Go.Proofs.Ytnjifcgomkdhdaa
open Go.ChangeShapes Go.WideShapes Go.ChangeAt Go.RowKit Go.Lap
section
variable {H : Type} {enc : TypeId × Value → H} {w : World} {base : Nat} {spare : Nat → Bool} {held : Bool}
theorem okL_u64F {t : TypeId} {v : Value} (ht : Try.prog.underlying t = some (.int .u64)) (h : OkL enc Try.prog w base spare held t v) : ∃ n : Nat, v = .int .u64 (n : Int) ∧ n < 18446744073709551616 := by
  obtain ⟨n, rfl, wn⟩ := okL_int ht h
  obtain ⟨h0, h1⟩ := bounds_u64 wn
  obtain ⟨m, rfl⟩ := Int.eq_ofNat_of_zero_le h0
  exact ⟨m, rfl, by omega⟩
theorem decFld {cs : List Value} (h : OkAll enc Try.prog w base spare held [3, 28, 9, 4, 3] cs) : ∃ p : Fld, cs = p.enc ∧ p.good := by
  match cs, h with
  | [a, b, c, d, e], ⟨ha, hb, hc, hd, he, _⟩ =>
    obtain ⟨x, rfl, wx⟩ := okL_int Try.underlying3 ha
    obtain ⟨y, rfl, wy⟩ := okL_u64F Try.underlying28 hb
    obtain ⟨s, rfl, ws⟩ := okL_string Try.underlying9 hc
    obtain ⟨z, rfl⟩ := okL_bool Try.underlying4 hd
    obtain ⟨m, rfl, wm⟩ := okL_int Try.underlying3 he
    have h1 := bounds_i64 wx
    have h2 := bounds_i64 wm
    exact ⟨⟨x, y, s, z, m⟩, rfl, wy, ws, h1.1, h1.2, h2.1, h2.2⟩
end
end Go.Proofs.Ytnjifcgomkdhdaa
