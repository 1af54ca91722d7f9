/- Contracts of the references of chapters 1 and 3: Var, GetVar, Text, Put, Num, Take. -/
import Derived.Test.YtlhlcdjkacglnaaGreatDoorJk2
namespace Go.Proofs.YtlhlcdjkacglnaaGreatDoor
open Go.RowKit Go.Lap
set_option linter.unusedVariables false

/-- A list of bytes as a string. -/
def str (l : List UInt8) : ByteArray := ⟨l.toArray⟩

theorem str_size (l : List UInt8) : (str l).size = l.length := by simp [str, ByteArray.size]
theorem str_append (a b : List UInt8) : str a ++ str b = str (a ++ b) := by
  apply ByteArray.ext
  simp [str]
theorem str_data (s : ByteArray) : str s.data.toList = s := by simp [str]

theorem run_str (w : World) {v : Value} {bs : List UInt8} (hs : SlIn w 1 bEnc v bs) : (convert 86 9 v).run Tryz.prog w = .ok (.string (str bs)) w := by
  obtain ⟨A, c, rfl, hlc, h⟩ := hs
  have key : ∀ b off, (∀ k x, bs[k]? = some x → ∀ j u, (bEnc x)[j]? = some u → w.cell? ⟨b, off + k * 1 + j, none⟩ = some u) → (convert 86 9 (.slice (some ⟨b, off, none⟩) bs.length c)).run Tryz.prog w = .ok (.string (str bs)) w := by
    intro b off h
    have := run_convert_bytes_arg (P := Tryz.prog) w 86 5 Tryz.underlying86 Tryz.underlying5 b off bs.length c (bs.map fun x => (x.toNat : Int)) (by simp) (fun i hi => by
      have := h i _ (List.getElem?_eq_getElem hi) 0 _ rfl
      simpa [hi] using this) 9 Tryz.underlying9
    exact this.trans (congrArg (fun s => Result.ok (Value.string s) w) (by simp [strOfNums, str, Function.comp_def]))
  rcases h with rfl | ⟨b, off, rfl, hb, h⟩
  · cases A with
    | none => exact run_convert_bytes_nil w 86 5 Tryz.underlying86 Tryz.underlying5 0 c 9 Tryz.underlying9
    | some ad =>
      obtain ⟨b, off, spot⟩ := ad
      show (convert 86 9 (.slice (some ⟨b, off, spot⟩) 0 c)).run Tryz.prog w = _
      rw [run_convert_bytes_string w 86 9 5 _ 0 c Tryz.underlying86 Tryz.underlying5 Tryz.underlying9]
      have hl : (loadCells ⟨b, off, spot⟩ 0).run Tryz.prog w = .ok (([] : List Int).map (Value.int .u8)).toArray w := run_loadCells_list (P := Tryz.prog) w ⟨b, off, spot⟩ [] (by simp)
      rw [run_bytesToString w _ 0 c [] hl]
      rfl
  · exact key b off h

end Go.Proofs.YtlhlcdjkacglnaaGreatDoor
