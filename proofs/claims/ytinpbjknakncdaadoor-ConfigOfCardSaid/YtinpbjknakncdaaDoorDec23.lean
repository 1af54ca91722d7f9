/- How the arguments of the laws of chapter 23 are opened. -/
import Derived.Test.YtinpbjknakncdaaDoorOpen
import Derived.Test.YtinpbjknakncdaaDoorCfgC
import Derived.SizedLaws
namespace Go.Proofs.YtinpbjknakncdaaDoor
open Go.ChangeShapes Go.WideShapes Go.ChangeAt Go.RowKit Go.Lap
section
variable {H : Type} {enc : TypeId × Value → H} {w : World} {base : Nat} {spare : Nat → Bool} {held : Bool}
theorem okL_u64C {t : TypeId} {v : Value} (ht : Tryd.prog.underlying t = some (.int .u64)) (h : OkL enc Tryd.prog w base spare held t v) : ∃ n : Nat, v = .int .u64 (n : Int) ∧ n < 18446744073709551616 := by
  obtain ⟨n, rfl, wn⟩ := okL_int ht h
  obtain ⟨h0, h1⟩ := bounds_u64 wn
  obtain ⟨m, rfl⟩ := Int.eq_ofNat_of_zero_le h0
  exact ⟨m, rfl, by omega⟩
theorem decCfg {cs : List Value} (h : OkAll enc Tryd.prog w base spare held [22, 23] cs) :
    ∃ (e : Nat) (v : Value), cs = [.int .u64 (e : Int), v] ∧ e < 18446744073709551616 ∧ OkL enc Tryd.prog w base spare held 23 v := by
  match cs, h with
  | [a, d], ⟨ha, hd, _⟩ =>
    obtain ⟨x, rfl, wx⟩ := okL_u64C Tryd.underlying22 ha
    exact ⟨x, d, rfl, wx, hd⟩
theorem decInt {cs : List Value} (h : OkAll enc Tryd.prog w base spare held [3] cs) : ∃ p : Int, cs = iEnc p ∧ -9223372036854775808 ≤ p ∧ p ≤ 9223372036854775807 := by
  match cs, h with
  | [a], ⟨ha, _⟩ =>
    obtain ⟨x, rfl, wx⟩ := okL_int Tryd.underlying3 ha
    obtain ⟨h0, h1⟩ := bounds_i64 wx
    exact ⟨x, rfl, h0, h1⟩
theorem decStr {cs : List Value} (h : OkAll enc Tryd.prog w base spare held [9] cs) : ∃ p : ByteArray, cs = sEnc p ∧ p.size ≤ maxLen := by
  match cs, h with
  | [a], ⟨ha, _⟩ =>
    obtain ⟨x, rfl, wx⟩ := okL_string Tryd.underlying9 ha
    exact ⟨x, rfl, wx⟩
end
end Go.Proofs.YtinpbjknakncdaaDoor
