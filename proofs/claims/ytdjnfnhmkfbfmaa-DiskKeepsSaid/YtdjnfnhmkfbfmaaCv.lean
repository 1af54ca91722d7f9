/- Strings made of bytes, bytes of a string. -/
import Derived.Test.YtdjnfnhmkfbfmaaDk
namespace Go.Proofs.Ytdjnfnhmkfbfmaa
open Go.RowKit Go.Lap
set_option linter.unusedVariables false

/-- A list of bytes as a string. -/
def str (l : List UInt8) : ByteArray := ⟨l.toArray⟩

theorem str_size (l : List UInt8) : (str l).size = l.length := by simp [str, ByteArray.size]
theorem str_append (a b : List UInt8) : str a ++ str b = str (a ++ b) := by
  apply ByteArray.ext
  simp [str]
theorem str_data (s : ByteArray) : str s.data.toList = s := by simp [str]

theorem run_str (w : World) {v : Value} {bs : List UInt8} (hs : SlIn w 1 byE v bs) : (convert 63 9 v).run Try.prog w = .ok (.string (str bs)) w := by
  obtain ⟨A, c, rfl, hlc, h⟩ := hs
  have key : ∀ b off, (∀ k x, bs[k]? = some x → ∀ j u, (byE x)[j]? = some u → w.cell? ⟨b, off + k * 1 + j, none⟩ = some u) → (convert 63 9 (.slice (some ⟨b, off, none⟩) bs.length c)).run Try.prog w = .ok (.string (str bs)) w := by
    intro b off h
    have := run_convert_bytes_arg (P := Try.prog) w 63 5 Try.underlying63 Try.underlying5 b off bs.length c (bs.map fun x => (x.toNat : Int)) (by simp) (fun i hi => by
      have := h i _ (List.getElem?_eq_getElem hi) 0 _ rfl
      simpa [hi] using this) 9 Try.underlying9
    exact this.trans (congrArg (fun s => Result.ok (Value.string s) w) (by simp [strOfNums, str, Function.comp_def]))
  rcases h with rfl | ⟨b, off, rfl, hb, h⟩
  · cases A with
    | none => exact run_convert_bytes_nil w 63 5 Try.underlying63 Try.underlying5 0 c 9 Try.underlying9
    | some ad =>
      obtain ⟨b, off, spot⟩ := ad
      show (convert 63 9 (.slice (some ⟨b, off, spot⟩) 0 c)).run Try.prog w = _
      rw [run_convert_bytes_string w 63 9 5 _ 0 c Try.underlying63 Try.underlying5 Try.underlying9]
      have hl : (loadCells ⟨b, off, spot⟩ 0).run Try.prog w = .ok (([] : List Int).map (Value.int .u8)).toArray w := run_loadCells_list (P := Try.prog) w ⟨b, off, spot⟩ [] (by simp)
      rw [run_bytesToString w _ 0 c [] hl]
      rfl
  · exact key b off h

/-- '[]byte(s)': a new row that reads as the string's bytes. -/
theorem run_bytesP (s : ByteArray) (w : World) : ∃ v w', (convert 9 63 (.string s)).run Try.prog w = .ok v w' ∧ SlIn w' 1 byE v s.data.toList ∧ New w w' := by
  refine ⟨_, _, run_bytes_of_string w 9 63 5 s Try.underlying9 Try.underlying63 Try.underlying5, ?_, (New.refl w).drew.alloc _⟩
  have hge := grownCap_ge w s.size 0 5
  generalize grownCap w s.size 0 5 = cap at *
  have hlen : s.data.toList.length = s.size := Array.length_toList
  refine ⟨some ⟨w.heap.size, 0, none⟩, cap, by rw [hlen], by omega, .inr ⟨w.heap.size, 0, rfl, by simp, ?_⟩⟩
  intro k x hk j u hu
  have hj : j = 0 := by
    have := (List.getElem?_eq_some_iff.1 hu).1
    simp [byE] at this
    exact this
  subst hj
  simp [byE] at hu
  have hk2 := (List.getElem?_eq_some_iff.1 hk).1
  rw [hlen] at hk2
  have hb : (w.drew.alloc (.cells (bytesRow s cap) 5 ((bytesRow s cap).size, (bytesRow s cap).size + 1))).heap[w.heap.size]? = some (.cells (bytesRow s cap) 5 ((bytesRow s cap).size, (bytesRow s cap).size + 1)) := by
    show (w.heap.push _)[w.heap.size]? = _
    simp
  unfold World.cell?
  simp only [hb]
  rw [Array.getElem?_toList] at hk
  obtain ⟨hk3, hk4⟩ := Array.getElem?_eq_some_iff.1 hk
  simp [bytesRow, Array.getElem?_append, hk2, ← hu, hk4]
end Go.Proofs.Ytdjnfnhmkfbfmaa
