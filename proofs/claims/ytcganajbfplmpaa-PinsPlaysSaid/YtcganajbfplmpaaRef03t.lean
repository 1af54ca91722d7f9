/- The document's answer for a field put (chapter 3). -/
import Derived.Test.YtcganajbfplmpaaCodeQ
namespace Go.Proofs.Ytcganajbfplmpaa
open Go.RowKit Go.Lap
set_option linter.unusedVariables false

theorem str_of (s : ByteArray) (l : List UInt8) : str l ++ s = str (l ++ s.data.toList) := by rw [← str_append, str_data]

set_option maxRecDepth 100000 in
set_option maxHeartbeats 1000000 in
theorem refTextW_any (s : ByteArray) (w : World) (hs : s.size ≤ 1000000000000) :
    Calls Try.prog 59 #[.string s] w fun e w' => e = .returned (.string (str (varB s.size ++ s.data.toList))) ∧ New w w' := by
  have h10 := varB_len10 (n := s.size) (by omega)
  have hz : (str (varB s.size)).size + s.size ≤ 9223372036854775807 := by rw [str_size]; omega
  have hw : IntKind.u64.wrap (s.size : Int) = (s.size : Int) := by rw [IntKind.wrap_u64]; omega
  go_enter Try.func59, Try.ntmps59
  go_wp2_with fail
  refine (refVar_any s.size w (by omega)).mono ?_
  rintro e w1 ⟨rfl, hn1⟩
  go_wp2_with fail
  go_ret
  exact ⟨ret_eq (congrArg Value.string (str_of _ _)), hn1⟩
end Go.Proofs.Ytcganajbfplmpaa
