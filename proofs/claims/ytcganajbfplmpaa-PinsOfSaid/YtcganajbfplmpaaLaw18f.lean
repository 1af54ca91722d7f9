/- The walk of the law PinsOf (chapter 18): for every input it answers true. -/
import Derived.Test.YtcganajbfplmpaaAwake18
import Derived.Test.YtcganajbfplmpaaPnQ
namespace Go.Proofs.Ytcganajbfplmpaa
open Go.RowKit Go.Lap
set_option linter.unusedVariables false

set_option maxRecDepth 100000 in
set_option maxHeartbeats 4000000 in
theorem pinsOf_walk (s0 : ByteArray) (w : World) :
    Calls Try.prog 8 #[.string s0] w fun e w' => e = .returned (.bool true) ∧ New w w' := by
  obtain ⟨bs, hb0⟩ : ∃ bs, s0 = str bs := ⟨s0.data.toList, (str_data s0).symm⟩
  subst hb0
  have hlen : (str bs).size = bs.length := str_size bs
  by_cases ht : bs.length ≤ 1000
  · have t1' : ¬ (1000 : Int) < (bs.length : Int) := by omega
    obtain ⟨vb, wb, hrun, hslb, hnb⟩ := run_bytesP (str bs) w
    rw [show (str bs).data.toList = bs from by simp [str]] at hslb
    have HOR := Lib.hid (show ∀ E, GoodE E → ofP bs = some E → rOf bs = some (E, []) ∧ bs = encE E from fun E hE h => ⟨ofP_rOf hE h, ofP_back h⟩)
    have HRO := Lib.hid (show ∀ E, rOf bs = some (E, []) → ofP bs = some E from fun E h => (rOf_ofP h).1)
    go_enter Try.func8, Try.ntmps8
    go_wp2_with fail
    refine (pof_any bs vb wb (by omega) hslb).mono ?_
    rintro e w1 ⟨hn1, hr1⟩
    have hN1 := hnb.trans hn1
    clear hrun hslb hnb hn1
    have href := rof_any bs w1 (by omega)
    cases hof : ofP bs with
    | none =>
      rw [hof] at hr1
      dsimp only at hr1
      subst hr1
      have HNO := Lib.hid (show ∀ E, rOf bs ≠ some (E, []) → True from fun _ _ => trivial)
      cases hro : rOf bs with
      | none =>
        rw [hro] at href
        clear hof hro
        go_wp2_with fail
        refine href.mono ?_
        rintro e w2 ⟨hn2, rfl⟩
        go_wp2_with fail
        refine (awake18 _).mono ?_
        rintro e w3 ⟨rfl, hn3⟩
        go_wp2_with fail
        go_ret
        exact ⟨rfl, (hN1.trans hn2).trans hn3⟩
      | some r =>
        obtain ⟨E, b5⟩ := r
        have hne : decide (b5 = []) = false := decide_eq_false (fun h => by
          subst h
          have := HRO.out E hro
          rw [hof] at this
          cases this)
        rw [hro] at href
        clear hof hro
        go_wp2_with fail
        refine href.mono ?_
        rintro e w2 ⟨hn2, u5, rfl, -⟩
        rw [hne]
        clear hne
        go_wp2_with fail
        refine (awake18 _).mono ?_
        rintro e w3 ⟨rfl, hn3⟩
        go_wp2_with fail
        go_ret
        exact ⟨rfl, (hN1.trans hn2).trans hn3⟩
    | some E =>
      rw [hof] at hr1
      obtain ⟨p, nm, lm, rfl, hP, hF⟩ := hr1
      obtain ⟨hro, hbe⟩ := HOR.out E hP.e hof
      rw [hro] at href
      have HBE := Lib.hid hbe
      clear hof hro hbe
      go_wp2_with fail
      refine href.mono ?_
      rintro e w2 ⟨hn2, u5, rfl, hs2⟩
      rw [decide_eq_true (rfl : ([] : List UInt8) = [])]
      have hP2 := hP.new hn2
      have hN2 := hN1.trans hn2
      clear hP hN1 hn2
      go_wp2_with fail
      refine (awake18 _).mono ?_
      rintro e w3 ⟨rfl, hn3⟩
      have hP3 := hP2.new hn3
      have hs3 := hs2.new hn3
      have hN3 := hN2.trans hn3
      clear hP2 hs2 hN2 hn3
      go_wp2_with fail
      refine (listS _ hP3).mono ?_
      rintro e w4 ⟨v4, rfl, hs4, -, hn4⟩
      have hP4 := hP3.new hn4
      have hs34 := hs3.new hn4
      have hN4 := hN3.trans hn4
      clear hP3 hs3 hN3 hn4
      go_wp2_with fail
      refine (psame_eq _ hs4 hs34 (by have := hP4.e.len; omega)).mono ?_
      rintro e w5 ⟨rfl, hn5⟩
      have hP5 := hP4.new hn5
      have hN5 := hN4.trans hn5
      clear hP4 hs4 hs34 hN4 hn5
      go_wp2_with fail
      refine (bytesS _ hP5).mono ?_
      rintro e w6 ⟨u, rfl, ho, hn6⟩
      have hN6 := hN5.trans hn6
      have hcv := run_str w6 (Owns.slIn bEncOk ho)
      rw [← HBE.out] at hcv
      clear hP5 hN5 hn6 ho
      go_wp2_with fail
      go_ret
      exact ⟨by simp, hN6⟩
  · have t1' : (1000 : Int) < (bs.length : Int) := by omega
    go_enter Try.func8, Try.ntmps8
    go_wp2_with fail
    refine (awake18 _).mono ?_
    rintro e w3 ⟨rfl, hn3⟩
    go_wp2_with fail
    go_ret
    exact ⟨rfl, hn3⟩
end Go.Proofs.Ytcganajbfplmpaa
