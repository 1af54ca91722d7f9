/- How the arguments of the chain's laws (chapter 24) are opened; what the listed package-level variables are. -/
import Derived.Test.YtecniafnihpjmaaGreatDoorOpen
import Derived.Test.YtecniafnihpjmaaGreatDoorChecked
import Derived.Test.YtecniafnihpjmaaGreatDoorRows
import Derived.Test.YtecniafnihpjmaaGreatDoorMg11
import Derived.LaidMore
import Derived.Stop.Joined
import Derived.Lay
namespace Go.Proofs.YtecniafnihpjmaaGreatDoor
open Go.ChangeShapes Go.WideShapes Go.ChangeAt Go.RowKit Go.Lap
set_option maxRecDepth 100000
def laidL : List (String × DataW Unit) := Rows.replicaChainRow.laid
theorem ownK : ownKnob Tryz.prog.godebug = none := by kernel_rfl
theorem plainL {w : World} (h : laidMet Tryz.prog laidL w) : laidMetH Tryz.prog laidL w := by rw [MakeChecks.laidMetH_plain _ _ _ (by kernel_rfl)]; exact h
section
variable {H : Type} {enc : TypeId × Value → H} {w : World} {base : Nat} {spare : Nat → Bool} {held : Bool}
theorem okL_u64D {t : TypeId} {v : Value} (ht : Tryz.prog.underlying t = some (.int .u64)) (h : OkL enc Tryz.prog w base spare held t v) : ∃ n : Nat, v = .int .u64 (n : Int) ∧ n < big := by
  obtain ⟨n, rfl, wn⟩ := okL_int ht h
  have wn : 0 ≤ n ∧ n ≤ 18446744073709551615 := by simp [Lit.wf, IntKind.min, IntKind.max, IntKind.signed, IntKind.bits] at wn; omega
  obtain ⟨m, rfl⟩ := Int.eq_ofNat_of_zero_le wn.1
  exact ⟨m, rfl, by unfold big; omega⟩
theorem okL_u8D {t : TypeId} {v : Value} (ht : Tryz.prog.underlying t = some (.int .u8)) (h : OkL enc Tryz.prog w base spare held t v) : ∃ n : Nat, v = .int .u8 (n : Int) ∧ n < 256 := by
  obtain ⟨n, rfl, wn⟩ := okL_int ht h
  have wn : 0 ≤ n ∧ n ≤ 255 := by simp [Lit.wf, IntKind.min, IntKind.max, IntKind.signed, IntKind.bits] at wn; omega
  obtain ⟨m, rfl⟩ := Int.eq_ofNat_of_zero_le wn.1
  exact ⟨m, rfl, by omega⟩
theorem okL_u16D {t : TypeId} {v : Value} (ht : Tryz.prog.underlying t = some (.int .u16)) (h : OkL enc Tryz.prog w base spare held t v) : ∃ n : Nat, v = .int .u16 (n : Int) ∧ n < 65536 := by
  obtain ⟨n, rfl, wn⟩ := okL_int ht h
  have wn : 0 ≤ n ∧ n ≤ 65535 := by simp [Lit.wf, IntKind.min, IntKind.max, IntKind.signed, IntKind.bits] at wn; omega
  obtain ⟨m, rfl⟩ := Int.eq_ofNat_of_zero_le wn.1
  exact ⟨m, rfl, by omega⟩
theorem decWri {cs : List Value} (h : OkAll enc Tryz.prog w base spare held [9, 9, 4] cs) : ∃ p : Wri, cs = p.enc ∧ True := by
  match cs, h with
  | [a, b, c], ⟨ha, hb, hc, _⟩ =>
    obtain ⟨x, rfl, _⟩ := okL_string Tryz.underlying9 ha
    obtain ⟨y, rfl, _⟩ := okL_string Tryz.underlying9 hb
    obtain ⟨z, rfl⟩ := okL_bool Tryz.underlying4 hc
    exact ⟨⟨x, y, z⟩, rfl, trivial⟩
theorem decStp {cs : List Value} (h : OkAll enc Tryz.prog w base spare held [3, 5, 68, 22, 22, 22, 38] cs) : ∃ p : StV, cs = p.enc ∧ StOk w p := by
  match cs, h with
  | [a, b, c, d, e, f, g], ⟨ha, hb, hc, hd, he, hf, hg, _⟩ =>
    obtain ⟨k, rfl, _⟩ := okL_int Tryz.underlying3 ha
    obtain ⟨nd, rfl, wnd⟩ := okL_u8D Tryz.underlying5 hb
    obtain ⟨at_, rfl, wat⟩ := okL_u16D Tryz.underlying68 hc
    obtain ⟨bc, rfl, wbc⟩ := okL_u64D Tryz.underlying22 hd
    obtain ⟨br, rfl, wbr⟩ := okL_u64D Tryz.underlying22 he
    obtain ⟨bs, rfl, wbs⟩ := okL_u64D Tryz.underlying22 hf
    obtain ⟨l, hsl, _, hll⟩ := open_sl (n := 4) Tryz.underlying38 (by kernel_rfl : flat Tryz.prog 4 97 = some [9, 9, 4]) (by kernel_rfl) (by decide) (fun _ ok => decWri ok) hg
    obtain ⟨A, cp, hv⟩ := hsl.form
    subst hv
    exact ⟨⟨k, nd, at_, ⟨bc, br, bs, l⟩, A, cp⟩, rfl, ⟨hsl, hll, wbc, wbr, wbs, wnd, wat⟩⟩
end
end Go.Proofs.YtecniafnihpjmaaGreatDoor
