/- How the arguments of the laws of chapter 6 are opened. -/
import Derived.Test.YtdjnfnhmkfbfmaaOpen
import Derived.Test.YtdjnfnhmkfbfmaaChecked
import Derived.Test.YtdjnfnhmkfbfmaaRows
import Derived.Test.YtdjnfnhmkfbfmaaLaw06e
namespace Go.Proofs.Ytdjnfnhmkfbfmaa
open Go.ChangeShapes Go.WideShapes Go.ChangeAt Go.RowKit Go.Lap
section
variable {H : Type} {enc : TypeId × Value → H} {w : World} {base : Nat} {spare : Nat → Bool} {held : Bool}
theorem decSv {cs : List Value} (h : OkAll enc Try.prog w base spare held [3, 3] cs) : ∃ p : Int × Int, cs = svE p ∧ okI p.1 ∧ okI p.2 := by
  match cs, h with
  | [a, b], ⟨ha, hb, _⟩ =>
    obtain ⟨x, rfl, wx⟩ := okL_int Try.underlying3 ha
    obtain ⟨y, rfl, wy⟩ := okL_int Try.underlying3 hb
    exact ⟨(x, y), rfl, wx, wy⟩
theorem openSv {v : Value} (h : OkL enc Try.prog w base spare held 53 v) : SvOk w v maxLen := by
  obtain ⟨l, h1, h2, h3⟩ := open_sl (n := 4) Try.underlying53 (by kernel_rfl : flat Try.prog 4 71 = some [3, 3]) (by kernel_rfl) (by decide) (fun _ ok => decSv ok) h
  exact ⟨l, h1, h3, h2⟩
theorem decAc {cs : List Value} (h : OkAll enc Try.prog w base spare held [3, 3, 9, 53] cs) : ∃ p : Ac, cs = acE p ∧ AcGood w p := by
  match cs, h with
  | [a, b, c, d], ⟨ha, hb, hc, hd, _⟩ =>
    obtain ⟨x, rfl, wx⟩ := okL_int Try.underlying3 ha
    obtain ⟨y, rfl, wy⟩ := okL_int Try.underlying3 hb
    obtain ⟨z, rfl, wz⟩ := okL_string Try.underlying9 hc
    exact ⟨⟨x, y, z, d⟩, rfl, wx, wy, wz, openSv hd⟩
set_option maxRecDepth 100000 in
theorem open_arr2 {t e : TypeId} {v : Value} {d : DataW H} {p : List MemPlace} {r : Reach} {b0 : Nat} (ht : Try.prog.underlying t = some (.array 2 e)) (hce : Try.prog.cellsOf e = 1) (hct : Try.prog.cellsOf t = 2)
    (hv : Value.okWide Try.prog w r b0 t v) (h : DataW.Trod enc Try.prog w base spare held t v d p) : ∃ a b, v = .agg #[a, b] ∧ OkL enc Try.prog w base spare held e a ∧ OkL enc Try.prog w base spare held e b := by
  simp only [Value.okWide, ht] at hv
  obtain ⟨cs, rfl, h2, _⟩ := hv
  rw [hct] at h2
  obtain ⟨c⟩ := cs
  match c, h2 with
  | [a, b], _ =>
    obtain ⟨fuel, hx⟩ := h
    obtain ⟨xs, m, _, _, _, hxl, hi⟩ := DataW.trod_array ht hx
    rw [hce] at hi
    have h0 := hi 0 (by omega)
    have h1 := hi 1 (by omega)
    obtain ⟨x0, hx0⟩ : ∃ x, xs[0]? = some x := ⟨_, List.getElem?_eq_getElem (by omega)⟩
    obtain ⟨x1, hx1⟩ : ∃ x, xs[1]? = some x := ⟨_, List.getElem?_eq_getElem (by omega)⟩
    rw [hx0] at h0
    rw [hx1] at h1
    exact ⟨a, b, rfl, ⟨m, x0, by simpa [Value.cells] using h0⟩, ⟨m, x1, by simpa [Value.cells] using h1⟩⟩
end
end Go.Proofs.Ytdjnfnhmkfbfmaa
