/- How the arguments of the chain's laws (chapter 24) are opened; what the listed package-level variables are. -/
import Derived.Test.YtecniafnihpjmaaGreatDoorOpen
import Derived.Test.YtecniafnihpjmaaGreatDoorChecked
import Derived.Test.YtecniafnihpjmaaGreatDoorRows
import Derived.Test.YtecniafnihpjmaaGreatDoorMg11
import Derived.LaidMore
import Derived.Stop.Joined
import Derived.Lay
namespace Go.Proofs.YtecniafnihpjmaaGreatDoor
open Go.ChangeShapes Go.WideShapes Go.ChangeAt Go.RowKit Go.Lap
set_option maxRecDepth 100000
def laidL : List (String × DataW Unit) := Rows.replicaChainRow.laid
theorem ownK : ownKnob Tryz.prog.godebug = none := by kernel_rfl
theorem plainL {w : World} (h : laidMet Tryz.prog laidL w) : laidMetH Tryz.prog laidL w := by rw [MakeChecks.laidMetH_plain _ _ _ (by kernel_rfl)]; exact h
section
variable {H : Type} {enc : TypeId × Value → H} {w : World} {base : Nat} {spare : Nat → Bool} {held : Bool}
theorem okL_u64D {t : TypeId} {v : Value} (ht : Tryz.prog.underlying t = some (.int .u64)) (h : OkL enc Tryz.prog w base spare held t v) : ∃ n : Nat, v = .int .u64 (n : Int) ∧ n < big := by
  obtain ⟨n, rfl, wn⟩ := okL_int ht h
  have wn : 0 ≤ n ∧ n ≤ 18446744073709551615 := by simp [Lit.wf, IntKind.min, IntKind.max, IntKind.signed, IntKind.bits] at wn; omega
  obtain ⟨m, rfl⟩ := Int.eq_ofNat_of_zero_le wn.1
  exact ⟨m, rfl, by unfold big; omega⟩
theorem decWri {cs : List Value} (h : OkAll enc Tryz.prog w base spare held [9, 9, 4] cs) : ∃ p : Wri, cs = p.enc ∧ True := by
  match cs, h with
  | [a, b, c], ⟨ha, hb, hc, _⟩ =>
    obtain ⟨x, rfl, _⟩ := okL_string Tryz.underlying9 ha
    obtain ⟨y, rfl, _⟩ := okL_string Tryz.underlying9 hb
    obtain ⟨z, rfl⟩ := okL_bool Tryz.underlying4 hc
    exact ⟨⟨x, y, z⟩, rfl, trivial⟩
end
end Go.Proofs.YtecniafnihpjmaaGreatDoor
