/- How ReplicaRestores' arguments are opened. -/
import Derived.Test.YtecniafnihpjmaaGreatDoorDec24
import Derived.Test.YtecniafnihpjmaaGreatDoorRsL
namespace Go.Proofs.YtecniafnihpjmaaGreatDoor
open Go.ChangeShapes Go.WideShapes Go.ChangeAt Go.RowKit Go.Lap
set_option maxRecDepth 100000
section
variable {H : Type} {enc : TypeId × Value → H} {w : World} {base : Nat} {spare : Nat → Bool} {held : Bool}
theorem decBv {cs : List Value} (h : OkAll enc Tryz.prog w base spare held [22, 22, 22, 38] cs) : ∃ p : BtV, cs = p.enc ∧ BvOk w p := by
  match cs, h with
  | [d, e, f, g], ⟨hd, he, hf, hg, _⟩ =>
    obtain ⟨bc, rfl, wbc⟩ := okL_u64D Tryz.underlying22 hd
    obtain ⟨br, rfl, wbr⟩ := okL_u64D Tryz.underlying22 he
    obtain ⟨bs, rfl, wbs⟩ := okL_u64D Tryz.underlying22 hf
    obtain ⟨l, hsl, _, hll⟩ := open_sl (n := 4) Tryz.underlying38 (by kernel_rfl : flat Tryz.prog 4 97 = some [9, 9, 4]) (by kernel_rfl) (by decide) (fun _ ok => decWri ok) hg
    obtain ⟨A, cp, hv⟩ := hsl.form
    subst hv
    exact ⟨⟨⟨bc, br, bs, l⟩, A, cp⟩, rfl, ⟨hsl, hll, wbc, wbr, wbs⟩⟩
theorem decCfgR {cs : List Value} (h : OkAll enc Tryz.prog w base spare held [22, 23] cs) : ∃ (e : Nat) (v : Value), cs = [.int .u64 (e : Int), v] ∧ e < big ∧ OkL enc Tryz.prog w base spare held 23 v := by
  match cs, h with
  | [a, b], ⟨ha, hb, _⟩ =>
    obtain ⟨e, rfl, we⟩ := okL_u64D Tryz.underlying22 ha
    exact ⟨e, b, rfl, we, hb⟩
theorem decIntR {cs : List Value} (h : OkAll enc Tryz.prog w base spare held [3] cs) : ∃ p : Int, cs = C.iEnc p ∧ True := by
  match cs, h with
  | [a], ⟨ha, _⟩ =>
    obtain ⟨k, rfl, _⟩ := okL_int Tryz.underlying3 ha
    exact ⟨k, rfl, trivial⟩
theorem open_arr2R {t e : TypeId} {v : Value} {d : DataW H} {p : List MemPlace} {r : Reach} {b0 : Nat} (ht : Tryz.prog.underlying t = some (.array 2 e)) (hce : Tryz.prog.cellsOf e = 1) (hct : Tryz.prog.cellsOf t = 2)
    (hv : Value.okWide Tryz.prog w r b0 t v) (h : DataW.Trod enc Tryz.prog w base spare held t v d p) : ∃ a b, v = .agg #[a, b] ∧ OkL enc Tryz.prog w base spare held e a ∧ OkL enc Tryz.prog w base spare held e b := by
  simp only [Value.okWide, ht] at hv
  obtain ⟨cs, rfl, h2, _⟩ := hv
  rw [hct] at h2
  obtain ⟨c⟩ := cs
  match c, h2 with
  | [a, b], _ =>
    obtain ⟨fuel, hx⟩ := h
    obtain ⟨xs, m, _, _, _, hxl, hi⟩ := DataW.trod_array ht hx
    rw [hce] at hi
    have h0 := hi 0 (by omega)
    have h1 := hi 1 (by omega)
    obtain ⟨x0, hx0⟩ : ∃ x, xs[0]? = some x := ⟨_, List.getElem?_eq_getElem (by omega)⟩
    obtain ⟨x1, hx1⟩ : ∃ x, xs[1]? = some x := ⟨_, List.getElem?_eq_getElem (by omega)⟩
    rw [hx0] at h0
    rw [hx1] at h1
    exact ⟨a, b, rfl, ⟨m, x0, by simpa [Value.cells] using h0⟩, ⟨m, x1, by simpa [Value.cells] using h1⟩⟩
end
end Go.Proofs.YtecniafnihpjmaaGreatDoor
