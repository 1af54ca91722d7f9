/- What the bound of the second form gives: no string of a row of strings is longer than the row's bulk. -/
import Derived.Test.YtinpbjknakncdaaDoorDec23
import Derived.Deep.Slices
namespace Go.Proofs.YtinpbjknakncdaaDoor
open Go.ChangeShapes Go.WideShapes Go.ChangeAt Go.RowKit Go.Lap
set_option linter.unusedVariables false

theorem bulk_part {H : Type} {d : DataW H} {l : List (DataW H)} (h : d ∈ l) : Rows.uptoBulk d ≤ Rows.uptoBulkAll l := by
  induction l with
  | nil => cases h
  | cons x r ih =>
    simp only [Rows.uptoBulkAll]
    cases List.mem_cons.1 h with
    | inl e => subst e; omega
    | inr e => have := ih e; omega
theorem bulk_bound {H : Type} {l : List (DataW H)} (hk : Rows.uptoSmall H l = true) : Rows.uptoBulkAll l ≤ 1048576 := by
  unfold Rows.uptoSmall at hk
  exact of_decide_eq_true hk
theorem strs_bulk {H : Type} {enc : TypeId × Value → H} {W : World} {base : Nat} {sp : Nat → Bool} {held : Bool} {v : Value} {d : DataW H} {p : List MemPlace} {ls : List ByteArray} {n : Nat}
    (h : ∃ m, DataW.trod enc Tryd.prog W base sp held m 33 [v] = some (d, p)) (hs : SlIn W 1 sEnc v ls) (hb : Rows.uptoBulk d ≤ n) : ∀ x ∈ ls, x.size ≤ n := by
  obtain ⟨m, h⟩ := h
  obtain ⟨A, c, rfl, hlc, hh⟩ := hs
  intro x hx
  obtain ⟨k, hk, rfl⟩ := List.mem_iff_getElem.1 hx
  rcases hh with rfl | ⟨b, off, rfl, hbb, hc⟩
  · simp at hk
  rcases Go.Deep.open_slice1 Tryd.underlying33 (by kernel_rfl) h with ⟨h0, _⟩ | ⟨a, len, cap, m2, n2, V, D, Pl, hcs, _, hl, hm, hmm, hxx, hi⟩
  · cases h0
  · injection hcs with hcs _
    injection hcs with ha hlen hcap
    injection ha with ha
    subst ha
    have hkm : k < m2 := by rw [hmm]; split <;> omega
    obtain ⟨hcell, htrod⟩ := hi k hkm
    have h1 := hc k _ (List.getElem?_eq_getElem hk) 0 _ rfl
    have h2 : W.cell? ((⟨b, off, none⟩ : Addr).add k) = some (.string ls[k]) := by
      rw [Lib.add_plain]
      simpa using h1
    rw [hcell] at h2
    injection h2 with h2
    rw [h2] at htrod
    obtain ⟨s, hs1, hs2, _⟩ := DataW.trod_string Tryd.underlying9 htrod
    injection hs1 with hs1 _
    injection hs1 with hs1
    injection hs2 with hs2 _
    have hd : d = .slice ((List.range len).map fun i => D i) ((List.range (m2 - len)).map fun j => D (len + j)) := by
      injection hxx
    have hmem : D k ∈ (List.range len).map fun i => D i := List.mem_map.2 ⟨k, List.mem_range.2 (by omega), rfl⟩
    have h3 := bulk_part hmem
    rw [hd] at hb
    simp only [Rows.uptoBulk] at hb
    rw [hs2] at h3
    simp only [Rows.uptoBulk, Array.length_toList] at h3
    rw [← hs1] at h3
    have h4 : ls[k].data.size = ls[k].size := rfl
    omega
end Go.Proofs.YtinpbjknakncdaaDoor
