/- How ReplicaReads' arguments are opened. -/
import Derived.Test.YtecniafnihpjmaaGreatDoorDec24
import Derived.Test.YtecniafnihpjmaaGreatDoorRdL
namespace Go.Proofs.YtecniafnihpjmaaGreatDoor
open Go.ChangeShapes Go.WideShapes Go.ChangeAt Go.RowKit Go.Lap
set_option maxRecDepth 100000
section
variable {H : Type} {enc : TypeId × Value → H} {w : World} {base : Nat} {spare : Nat → Bool} {held : Bool}
theorem decBvi {cs : List Value} (h : OkAll enc Tryz.prog w base spare held [22, 22, 22, 38] cs) : ∃ p : BtV, cs = p.enc ∧ BvIn w p := by
  match cs, h with
  | [d, e, f, g], ⟨hd, he, hf, hg, _⟩ =>
    obtain ⟨bc, rfl, wbc⟩ := okL_u64D Tryz.underlying22 hd
    obtain ⟨br, rfl, wbr⟩ := okL_u64D Tryz.underlying22 he
    obtain ⟨bs, rfl, wbs⟩ := okL_u64D Tryz.underlying22 hf
    obtain ⟨l, hsl, _, hll⟩ := open_sl (n := 4) Tryz.underlying38 (by kernel_rfl : flat Tryz.prog 4 97 = some [9, 9, 4]) (by kernel_rfl) (by decide) (fun _ ok => decWri ok) hg
    obtain ⟨A, cp, hv⟩ := hsl.form
    subst hv
    exact ⟨⟨⟨bc, br, bs, l⟩, A, cp⟩, rfl, ⟨hsl, hll, wbc, wbr, wbs⟩⟩
theorem decQn {cs : List Value} (h : OkAll enc Tryz.prog w base spare held [9, 9, 9, 4, 4, 3, 22] cs) : ∃ (key : ByteArray) (r : Rng) (a : Nat), cs = [.string key, .string r.fr, .string r.te, .bool r.op, .bool r.bk, .int .i64 r.lim, .int .u64 (a : Int)] ∧ key.size ≤ maxLen ∧ a < big := by
  match cs, h with
  | [k, f, t, o, b, n, u], ⟨hk, hf, ht, ho, hb, hn, hu, _⟩ =>
    obtain ⟨k, rfl, wk⟩ := okL_string Tryz.underlying9 hk
    obtain ⟨f, rfl, _⟩ := okL_string Tryz.underlying9 hf
    obtain ⟨t, rfl, _⟩ := okL_string Tryz.underlying9 ht
    obtain ⟨o, rfl⟩ := okL_bool Tryz.underlying4 ho
    obtain ⟨b, rfl⟩ := okL_bool Tryz.underlying4 hb
    obtain ⟨n, rfl, _⟩ := okL_int Tryz.underlying3 hn
    obtain ⟨u, rfl, wu⟩ := okL_u64D Tryz.underlying22 hu
    exact ⟨k, ⟨f, t, o, b, n⟩, u, rfl, wk, wu⟩
end
end Go.Proofs.YtecniafnihpjmaaGreatDoor
