/- The walk of the law AcceptChooses (chapter 20): for every input it answers true. -/
import Derived.Test.YtnjifcgomkdhdaaAwake20
namespace Go.Proofs.Ytnjifcgomkdhdaa
open Go.RowKit Go.Lap

theorem quorum_pos (n : Int) (w : World) (h0 : 0 < n) (h1 : n ≤ 9223372036854775807) :
    Calls Try.prog 14 #[.int .i64 n] w fun e w' => e = .returned (.int .i64 (n / 2 + 1)) ∧ w = w' :=
  (quorum_any n w (by omega) h1).mono fun _ _ h => ⟨h.1.trans (ret_int (by omega)), h.2.symm⟩
theorem quorum_not (n : Int) (w : World) (h0 : ¬ 0 < n) (h1 : -9223372036854775808 ≤ n) :
    Calls Try.prog 14 #[.int .i64 n] w fun e w' => e = .returned (.int .i64 1) ∧ w = w' :=
  (quorum_any n w h1 (by omega)).mono fun _ _ h => ⟨h.1.trans (ret_int (by omega)), h.2.symm⟩

set_option maxHeartbeats 1000000 in
theorem acceptChooses_walk (own : ByteArray) (l : List Pro) (v : Value) (n : Int) (w : World) (hs : SlIn w 4 Pro.enc v l) (hl : l.length ≤ maxLen) (hn0 : -9223372036854775808 ≤ n) (hn1 : n ≤ 9223372036854775807) :
    Calls Try.prog 3 #[.string own, v, .int .i64 n] w fun e w' => e = .returned (.bool true) ∧ New w w' := by
  unfold maxLen at hl
  by_cases hbig : 100 < l.length
  · obtain ⟨A, c, rfl, _, _⟩ := hs
    have hb' : (100 : Int) < (l.length : Int) := by omega
    go_enter Try.func3, Try.ntmps3
    go_wp2_with fail
    refine (awake20 _).mono ?_
    rintro e w1 ⟨rfl, hn⟩
    go_wp2_with fail
    go_ret
    exact ⟨rfl, hn⟩
  · have hs' := hs
    obtain ⟨A, c, hv, _, _⟩ := hs
    subst hv
    have hb' : ¬ (100 : Int) < (l.length : Int) := by omega
    have HS := Lib.hid hs'
    clear hs'
    by_cases hp : 0 < n
    all_goals
      go_enter Try.func3, Try.ntmps3
      go_wp2_with fail
      refine (show Calls _ _ _ _ _ from by first | exact quorum_pos n _ (by omega) hn1 | exact quorum_not n _ (by omega) hn0).mono ?_
      rintro e w0 ⟨rfl, rfl⟩
      go_wp2_with fail
      refine (awake20 _).mono ?_
      rintro e w1 ⟨rfl, hn⟩
      go_wp2_with fail
      refine (choose_any own l _ _ (by omega) (HS.out.new hn)).mono ?_
      rintro e w2 ⟨rfl, hn2⟩
      go_wp2_with fail
      refine (refChoose_any own l _ _ (by omega) ((HS.out.new hn).new hn2)).mono ?_
      rintro e w3 ⟨rfl, hn3⟩
      go_wp2_with fail
      go_ret
      exact ⟨rfl, (hn.trans hn2).trans hn3⟩
end Go.Proofs.Ytnjifcgomkdhdaa
