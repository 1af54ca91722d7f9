/- Contracts of the references of chapters 1 and 3: Var, GetVar, Text, Put, Num, Take. -/
import Derived.Test.YtcganajbfplmpaaCodeW
namespace Go.Proofs.Ytcganajbfplmpaa
open Go.RowKit Go.Lap
set_option linter.unusedVariables false

/-- A list of bytes as a string. -/
def str (l : List UInt8) : ByteArray := ⟨l.toArray⟩

theorem str_size (l : List UInt8) : (str l).size = l.length := by simp [str, ByteArray.size]
theorem str_append (a b : List UInt8) : str a ++ str b = str (a ++ b) := by
  apply ByteArray.ext
  simp [str]
theorem str_data (s : ByteArray) : str s.data.toList = s := by simp [str]

theorem run_str (w : World) {v : Value} {bs : List UInt8} (hs : SlIn w 1 bEnc v bs) : (convert 77 9 v).run Try.prog w = .ok (.string (str bs)) w := by
  obtain ⟨A, c, rfl, hlc, h⟩ := hs
  have key : ∀ b off, (∀ k x, bs[k]? = some x → ∀ j u, (bEnc x)[j]? = some u → w.cell? ⟨b, off + k * 1 + j, none⟩ = some u) → (convert 77 9 (.slice (some ⟨b, off, none⟩) bs.length c)).run Try.prog w = .ok (.string (str bs)) w := by
    intro b off h
    have := run_convert_bytes_arg (P := Try.prog) w 77 5 Try.underlying77 Try.underlying5 b off bs.length c (bs.map fun x => (x.toNat : Int)) (by simp) (fun i hi => by
      have := h i _ (List.getElem?_eq_getElem hi) 0 _ rfl
      simpa [hi] using this) 9 Try.underlying9
    exact this.trans (congrArg (fun s => Result.ok (Value.string s) w) (by simp [strOfNums, str, Function.comp_def]))
  rcases h with rfl | ⟨b, off, rfl, hb, h⟩
  · cases A with
    | none => exact run_convert_bytes_nil w 77 5 Try.underlying77 Try.underlying5 0 c 9 Try.underlying9
    | some ad =>
      obtain ⟨b, off, spot⟩ := ad
      show (convert 77 9 (.slice (some ⟨b, off, spot⟩) 0 c)).run Try.prog w = _
      rw [run_convert_bytes_string w 77 9 5 _ 0 c Try.underlying77 Try.underlying5 Try.underlying9]
      have hl : (loadCells ⟨b, off, spot⟩ 0).run Try.prog w = .ok (([] : List Int).map (Value.int .u8)).toArray w := run_loadCells_list (P := Try.prog) w ⟨b, off, spot⟩ [] (by simp)
      rw [run_bytesToString w _ 0 c [] hl]
      rfl
  · exact key b off h

def VarRel (n : Nat) (w : World) (x s : Value) (wr : World) : Prop := ∃ (m : Nat) (pre : List UInt8), x = .int .u64 m ∧ m < 18446744073709551616 ∧ New w wr ∧ s = .string (str pre) ∧ pre ++ varB m = varB n

set_option maxRecDepth 100000 in
set_option maxHeartbeats 1000000 in
theorem refVar_any (n : Nat) (w : World) (hn : n < 18446744073709551616) :
    Calls Try.prog 58 #[.int .u64 n] w fun e w' => e = .returned (.string (str (varB n))) ∧ New w w' := by
  have HN := Lib.hid hn
  clear hn
  go_enter Try.func58, Try.ntmps58
  go_wp2_with fail
  go_loopw [0, 3] (fun x s wr => VarRel n w x s wr) (fun x _ _ => (intOf x).toNat)
  case atStart => exact ⟨n, [], rfl, HN.out, New.refl _, rfl, rfl⟩
  case round =>
    obtain ⟨m, pre, rfl, hm, hn, rfl, hp⟩ := hrel
    have HP := Lib.hid hp
    have HMm := Lib.hid hm
    clear hp
    by_cases h128 : 128 ≤ m
    · have h' : (0 : Int) < (m : Int) / 128 := by omega
      have hb : ((m : Int) % 128 + 128) = ((UInt8.ofNat (m % 128 + 128)).toNat : Int) := by rw [byte_hi]; omega
      have HB := Lib.hid hb
      have hv := varB_big h128
      have HV := Lib.hid hv
      clear hb hv
      generalize UInt8.ofNat (m % 128 + 128) = y at *
      have hcv := run_str (wr.alloc (.cells #[.int .u8 ((m : Int) % 128 + 128)] 5)) (SlIn.one (x := y) (Blk.mk_new wr _ _) bEncOk (by simp only [bEnc]; rw [HB.out]))
      have hl := congrArg List.length HP.out
      have h10 := varB_len10 HN.out
      simp only [List.length_append] at hl
      have hsz : (str pre).size + (str [y]).size ≤ 9223372036854775807 := by rw [str_size, str_size]; simp; omega
      clear hl h10
      go_wp2_with fail
      go_roundw
      case rel => exact ⟨m / 128, pre ++ [y], by go_num, by have := HMm.out; omega, hn.alloc _, by rw [str_append], by rw [← HP.out, HV.out]; simp⟩
      case measure => simp [intOf]; omega
    · have h' : ¬ (0 : Int) < (m : Int) / 128 := by omega
      have hb := byte_lo (n := m) (by omega)
      have HB := Lib.hid hb
      have hv := varB_small (n := m) (by omega)
      have HV := Lib.hid hv
      clear hb hv
      generalize UInt8.ofNat m = y at *
      have hcv := run_str (wr.alloc (.cells #[.int .u8 (m : Int)] 5)) (SlIn.one (x := y) (Blk.mk_new wr _ _) bEncOk (by simp only [bEnc]; rw [HB.out]))
      have hl := congrArg List.length HP.out
      have h10 := varB_len10 HN.out
      simp only [List.length_append] at hl
      have hsz : (str pre).size + (str [y]).size ≤ 9223372036854775807 := by rw [str_size, str_size]; simp; omega
      clear hl h10
      go_wp2_with fail
      go_ret
      refine ⟨ret_eq ?_, hn.alloc _⟩
      show Value.string (str pre ++ str [y]) = _
      rw [← HP.out, HV.out, str_append]
end Go.Proofs.Ytcganajbfplmpaa
