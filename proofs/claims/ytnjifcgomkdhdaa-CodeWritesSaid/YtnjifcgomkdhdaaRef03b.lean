/- The document's answer for a field put (chapter 3). -/
import Derived.Test.YtnjifcgomkdhdaaCodeP
namespace Go.Proofs.Ytnjifcgomkdhdaa
open Go.RowKit Go.Lap
set_option linter.unusedVariables false

theorem str_of (s : ByteArray) (l : List UInt8) : str l ++ s = str (l ++ s.data.toList) := by rw [← str_append, str_data]

set_option maxRecDepth 100000 in
set_option maxHeartbeats 1000000 in
theorem refText_any (s : ByteArray) (w : World) (hs : s.size ≤ 1000000000000) :
    Calls Try.prog 47 #[.string s] w fun e w' => e = .returned (.string (str (varB s.size ++ s.data.toList))) ∧ New w w' := by
  have h10 := varB_len10 (n := s.size) (by omega)
  have hz : (str (varB s.size)).size + s.size ≤ 9223372036854775807 := by rw [str_size]; omega
  have hw : IntKind.u64.wrap (s.size : Int) = (s.size : Int) := by rw [IntKind.wrap_u64]; omega
  go_enter Try.func47, Try.ntmps47
  go_wp2_with fail
  refine (refVar_any s.size w (by omega)).mono ?_
  rintro e w1 ⟨rfl, hn1⟩
  go_wp2_with fail
  go_ret
  exact ⟨ret_eq (congrArg Value.string (str_of _ _)), hn1⟩

set_option maxRecDepth 100000 in
set_option maxHeartbeats 1000000 in
theorem refPut_any (f : Fld) (w : World) (hv : f.v < 18446744073709551616) (hs : f.s.size ≤ 1000000000000) :
    Calls Try.prog 30 #[.agg #[.int .i64 f.kind, .int .u64 (f.v : Int), .string f.s, .bool f.yes, .int .i64 f.most]] w fun e w' => e = .returned (.string (str (encF f))) ∧ New w w' := by
  obtain ⟨kind, fv, fs, yes, most⟩ := f
  simp only at hv hs ⊢
  have hE : encF ⟨kind, fv, fs, yes, most⟩ = if kind = 1 then varB fs.size ++ fs.data.toList else if kind = 2 then varB (flagN yes) else varB fv := rfl
  rw [hE]
  clear hE
  by_cases hk1 : kind = 1
  · subst hk1
    rw [if_pos rfl]
    go_enter Try.func30, Try.ntmps30
    go_wp2_with fail
    refine (refText_any fs _ hs).mono ?_
    rintro e w1 ⟨rfl, hn1⟩
    go_wp2_with fail
    go_ret
    exact ⟨rfl, ((New.refl w).alloc _).trans hn1⟩
  · by_cases hk2 : kind = 2
    · subst hk2
      rw [if_neg (by decide), if_pos rfl]
      cases yes with
      | false =>
        have h0 : varB (flagN false) = [0] := by rw [varB_small (by decide)]; rfl
        rw [h0]
        go_enter Try.func30, Try.ntmps30
        go_wp2_with fail
        go_ret
        exact ⟨rfl, (New.refl w).alloc _⟩
      | true =>
        have h0 : varB (flagN true) = [1] := by rw [varB_small (by decide)]; rfl
        rw [h0]
        go_enter Try.func30, Try.ntmps30
        go_wp2_with fail
        go_ret
        exact ⟨rfl, (New.refl w).alloc _⟩
    · rw [if_neg hk1, if_neg hk2]
      have b1 : ((kind : Int) == 1) = false := by simpa using hk1
      have b2 : ((kind : Int) == 2) = false := by simpa using hk2
      clear hk1 hk2
      go_enter Try.func30, Try.ntmps30
      go_wp2_with fail
      refine (refVar_any fv _ hv).mono ?_
      rintro e w1 ⟨rfl, hn1⟩
      go_wp2_with fail
      go_ret
      exact ⟨rfl, ((New.refl w).alloc _).trans hn1⟩
end Go.Proofs.Ytnjifcgomkdhdaa
