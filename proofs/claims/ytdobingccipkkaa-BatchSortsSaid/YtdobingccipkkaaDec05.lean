/- How the batches among the arguments of the laws of chapter 5 are opened. -/
import Derived.Test.YtdobingccipkkaaOpen
import Derived.Test.YtdobingccipkkaaBat
import Derived.SizedLaws
namespace Go.Proofs.Ytdobingccipkkaa
open Go.ChangeShapes Go.WideShapes Go.ChangeAt Go.RowKit Go.Lap
section
variable {H : Type} {enc : TypeId × Value → H} {w : World} {base : Nat} {spare : Nat → Bool} {held : Bool}
theorem okL_u64B {t : TypeId} {v : Value} (ht : Try.prog.underlying t = some (.int .u64)) (h : OkL enc Try.prog w base spare held t v) : ∃ n : Nat, v = .int .u64 (n : Int) ∧ n < 18446744073709551616 := by
  obtain ⟨n, rfl, wn⟩ := okL_int ht h
  obtain ⟨h0, h1⟩ := bounds_u64 wn
  obtain ⟨m, rfl⟩ := Int.eq_ofNat_of_zero_le h0
  exact ⟨m, rfl, by omega⟩
theorem decWri {cs : List Value} (h : OkAll enc Try.prog w base spare held [9, 9, 4] cs) : ∃ p : Wri, cs = p.enc ∧ True := by
  match cs, h with
  | [a, b, c], ⟨ha, hb, hc, _⟩ =>
    obtain ⟨x, rfl, _⟩ := okL_string Try.underlying9 ha
    obtain ⟨y, rfl, _⟩ := okL_string Try.underlying9 hb
    obtain ⟨z, rfl⟩ := okL_bool Try.underlying4 hc
    exact ⟨⟨x, y, z⟩, rfl, trivial⟩
theorem decBatch {cs : List Value} (h : OkAll enc Try.prog w base spare held [22, 22, 22, 23] cs) :
    ∃ (c r s : Nat) (v : Value), cs = [.int .u64 (c : Int), .int .u64 (r : Int), .int .u64 (s : Int), v] ∧ c < 18446744073709551616 ∧ r < 18446744073709551616 ∧ s < 18446744073709551616 ∧ OkL enc Try.prog w base spare held 23 v := by
  match cs, h with
  | [a, b, c, d], ⟨ha, hb, hc, hd, _⟩ =>
    obtain ⟨x, rfl, wx⟩ := okL_u64B Try.underlying22 ha
    obtain ⟨y, rfl, wy⟩ := okL_u64B Try.underlying22 hb
    obtain ⟨z, rfl, wz⟩ := okL_u64B Try.underlying22 hc
    exact ⟨x, y, z, d, rfl, wx, wy, wz, hd⟩
end
end Go.Proofs.Ytdobingccipkkaa
