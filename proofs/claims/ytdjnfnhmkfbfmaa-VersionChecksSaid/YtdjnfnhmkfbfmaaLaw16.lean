/- The walks of the laws of chapter 16 (version): for every input they answer true. -/
import Derived.Test.YtdjnfnhmkfbfmaaAwake16
import Derived.Test.YtdjnfnhmkfbfmaaVerP
namespace Go.Proofs.Ytdjnfnhmkfbfmaa
open Go.RowKit Go.Lap
set_option linter.unusedVariables false

theorem few_no (l : List Ver) (v : Value) (w : World) (h : 200 < l.length) (h2 : l.length ≤ 9223372036854775807) (hs : SlIn w 3 Ver.enc v l) :
    Calls Try.prog 16 #[v] w fun e w' => e = .returned (.bool false) ∧ w = w' := by
  obtain ⟨A, c, rfl, hlc, _⟩ := hs
  have h' : ¬ (l.length : Int) ≤ 200 := by omega
  go_enter Try.func16, Try.ntmps16
  go_wp2_with fail
  go_ret
  exact ⟨rfl, rfl⟩
theorem few_yes (l : List Ver) (v : Value) (w : World) (h : l.length ≤ 200) (hs : SlIn w 3 Ver.enc v l) :
    Calls Try.prog 16 #[v] w fun e w' => e = .returned (.bool true) ∧ w = w' := by
  obtain ⟨A, c, rfl, hlc, _⟩ := hs
  have h' : (l.length : Int) ≤ 200 := by omega
  go_enter Try.func16, Try.ntmps16
  go_wp2_with fail
  go_ret
  exact ⟨rfl, rfl⟩
theorem refCheck_no (l : List Ver) (v : Value) (w : World) (hl : l.length ≤ 200) (hs : SlIn w 3 Ver.enc v l) (hr : riseB l = false) :
    Calls Try.prog 17 #[v] w fun e w' => e = .returned (.bool false) ∧ New w w' :=
  (refCheck_any l v w (by omega) hs).mono fun e w' ⟨he, hn⟩ => ⟨by rw [he, hr], hn⟩
theorem refCheck_yes (l : List Ver) (v : Value) (w : World) (hl : l.length ≤ 200) (hs : SlIn w 3 Ver.enc v l) (hr : riseB l = true) :
    Calls Try.prog 17 #[v] w fun e w' => e = .returned (.bool true) ∧ New w w' :=
  (refCheck_any l v w (by omega) hs).mono fun e w' ⟨he, hn⟩ => ⟨by rw [he, hr], hn⟩

set_option maxRecDepth 100000 in
set_option maxHeartbeats 2000000 in
theorem versionAts_walk (l : List Ver) (v : Value) (at_ : Int) (w : World) (hl : l.length ≤ maxLen) (hs : SlIn w 3 Ver.enc v l) :
    Calls Try.prog 4 #[v, .int .u64 at_] w fun e w' => e = .returned (.bool true) ∧ New w w' := by
  unfold maxLen at hl
  by_cases hbig : 200 < l.length
  · go_enter Try.func4, Try.ntmps4
    go_wp2_with fail
    refine (few_no l _ _ hbig (by omega) hs).mono ?_
    rintro e w1 ⟨rfl, rfl⟩
    go_wp2_with fail
    refine (awake16 _).mono ?_
    rintro e w2 ⟨rfl, hn⟩
    go_wp2_with fail
    go_ret
    exact ⟨rfl, hn⟩
  by_cases hr : riseB l = false
  · go_enter Try.func4, Try.ntmps4
    go_wp2_with fail
    refine (few_yes l _ _ (by omega) hs).mono ?_
    rintro e w1 ⟨rfl, rfl⟩
    go_wp2_with fail
    refine (refCheck_no l _ _ (by omega) hs hr).mono ?_
    rintro e w2 ⟨rfl, hn2⟩
    go_wp2_with fail
    refine (awake16 _).mono ?_
    rintro e w3 ⟨rfl, hn3⟩
    go_wp2_with fail
    go_ret
    exact ⟨rfl, hn2.trans hn3⟩
  have hrt : riseB l = true := by simpa using hr
  have hrise := (riseB_iff l).1 hrt
  clear hr
  have HRT := Lib.hid hrt
  have HR := Lib.hid hrise
  clear hrt hrise
  go_enter Try.func4, Try.ntmps4
  go_wp2_with fail
  refine (few_yes l _ _ (by omega) hs).mono ?_
  rintro e w1 ⟨rfl, rfl⟩
  go_wp2_with fail
  refine (refCheck_yes l _ _ (by omega) hs HRT.out).mono ?_
  rintro e w2 ⟨rfl, hn2⟩
  go_wp2_with fail
  refine (at_any l _ at_ _ (by omega) HR.out (hs.new hn2)).mono ?_
  rintro e w3 ⟨rfl, hn3⟩
  go_wp2_with fail
  refine (refAt_any l _ at_ _ (by omega) HR.out ((hs.new hn2).new hn3)).mono ?_
  rintro e w4 ⟨rfl, hn4⟩
  go_wp2_with fail
  refine (awake16 _).mono ?_
  rintro e w5 ⟨rfl, hn5⟩
  go_wp2_with fail
  go_ret
  exact ⟨rfl, ((hn2.trans hn3).trans hn4).trans hn5⟩

set_option maxRecDepth 100000 in
set_option maxHeartbeats 2000000 in
theorem versionTrims_walk (l : List Ver) (v : Value) (at_ : Int) (w : World) (hl : l.length ≤ maxLen) (hs : SlIn w 3 Ver.enc v l) :
    Calls Try.prog 7 #[v, .int .u64 at_] w fun e w' => e = .returned (.bool true) ∧ New w w' := by
  unfold maxLen at hl
  by_cases hbig : 200 < l.length
  · go_enter Try.func7, Try.ntmps7
    go_wp2_with fail
    refine (few_no l _ _ hbig (by omega) hs).mono ?_
    rintro e w1 ⟨rfl, rfl⟩
    go_wp2_with fail
    refine (awake16 _).mono ?_
    rintro e w2 ⟨rfl, hn⟩
    go_wp2_with fail
    go_ret
    exact ⟨rfl, hn⟩
  by_cases hr : riseB l = false
  · go_enter Try.func7, Try.ntmps7
    go_wp2_with fail
    refine (few_yes l _ _ (by omega) hs).mono ?_
    rintro e w1 ⟨rfl, rfl⟩
    go_wp2_with fail
    refine (refCheck_no l _ _ (by omega) hs hr).mono ?_
    rintro e w2 ⟨rfl, hn2⟩
    go_wp2_with fail
    refine (awake16 _).mono ?_
    rintro e w3 ⟨rfl, hn3⟩
    go_wp2_with fail
    go_ret
    exact ⟨rfl, hn2.trans hn3⟩
  have hrt : riseB l = true := by simpa using hr
  have hrise := (riseB_iff l).1 hrt
  clear hr
  have HRT := Lib.hid hrt
  have HR := Lib.hid hrise
  clear hrt hrise
  go_enter Try.func7, Try.ntmps7
  go_wp2_with fail
  refine (few_yes l _ _ (by omega) hs).mono ?_
  rintro e w1 ⟨rfl, rfl⟩
  go_wp2_with fail
  refine (refCheck_yes l _ _ (by omega) hs HRT.out).mono ?_
  rintro e w2 ⟨rfl, hn2⟩
  go_wp2_with fail
  refine (awake16 _).mono ?_
  rintro e w3 ⟨rfl, hn3⟩
  go_wp2_with fail
  refine (trim_any l _ at_ _ (by omega) HR.out ((hs.new hn2).new hn3)).mono ?_
  rintro e w4 ⟨u4, rfl, ho4, hn4⟩
  go_wp2_with fail
  refine (refTrim_any l _ at_ false _ (by omega) HR.out (((hs.new hn2).new hn3).new hn4)).mono ?_
  rintro e w5 ⟨u5, rfl, ho5, hn5⟩
  go_wp2_with fail
  rw [keptL_end l _ false (firstN_le l at_)] at ho5
  refine (same_eq (trimL l at_) _ _ _ (by have := trim_len l at_; omega) ((Owns.slIn Ver.encOk ho4).new hn5) (Owns.slIn Ver.encOk ho5)).mono ?_
  rintro e w6 ⟨rfl, hn6⟩
  go_wp2_with fail
  have hN := ((((hn2.trans hn3).trans hn4).trans hn5).trans hn6)
  have hs6 := hs.new hN
  refine (dead_any l _ at_ _ (by omega) HR.out hs6).mono ?_
  rintro e w7 ⟨u7, rfl, ho7, hn7⟩
  go_wp2_with fail
  refine (refTrim_any l _ at_ true _ (by omega) HR.out (hs6.new hn7)).mono ?_
  rintro e w8 ⟨u8, rfl, ho8, hn8⟩
  go_wp2_with fail
  rw [keptL_end l _ true (firstN_le l at_)] at ho8
  refine (same_eq (l.take (firstN l at_)) _ _ _ (by simp; omega) ((Owns.slIn Ver.encOk ho7).new hn8) (Owns.slIn Ver.encOk ho8)).mono ?_
  rintro e w9 ⟨rfl, hn9⟩
  go_wp2_with fail
  go_ret
  exact ⟨rfl, ((hN.trans hn7).trans hn8).trans hn9⟩

set_option maxRecDepth 100000 in
set_option maxHeartbeats 2000000 in
theorem versionGoes_walk (l : List Ver) (v : Value) (from_ more : Int) (w : World) (hl : l.length ≤ maxLen) (hs : SlIn w 3 Ver.enc v l) :
    Calls Try.prog 6 #[v, .int .u64 from_, .int .u64 more] w fun e w' => e = .returned (.bool true) ∧ New w w' := by
  unfold maxLen at hl
  by_cases hbig : 200 < l.length
  · go_enter Try.func6, Try.ntmps6
    go_wp2_with fail
    refine (few_no l _ _ hbig (by omega) hs).mono ?_
    rintro e w1 ⟨rfl, rfl⟩
    go_wp2_with fail
    refine (awake16 _).mono ?_
    rintro e w2 ⟨rfl, hn⟩
    go_wp2_with fail
    go_ret
    exact ⟨rfl, hn⟩
  by_cases hr : riseB l = false
  · go_enter Try.func6, Try.ntmps6
    go_wp2_with fail
    refine (few_yes l _ _ (by omega) hs).mono ?_
    rintro e w1 ⟨rfl, rfl⟩
    go_wp2_with fail
    refine (refCheck_no l _ _ (by omega) hs hr).mono ?_
    rintro e w2 ⟨rfl, hn2⟩
    go_wp2_with fail
    refine (awake16 _).mono ?_
    rintro e w3 ⟨rfl, hn3⟩
    go_wp2_with fail
    go_ret
    exact ⟨rfl, hn2.trans hn3⟩
  have hrt : riseB l = true := by simpa using hr
  have hrise := (riseB_iff l).1 hrt
  clear hr
  have HRT := Lib.hid hrt
  have HR := Lib.hid hrise
  clear hrt hrise
  by_cases hlt : more < from_
  · go_enter Try.func6, Try.ntmps6
    go_wp2_with fail
    refine (few_yes l _ _ (by omega) hs).mono ?_
    rintro e w1 ⟨rfl, rfl⟩
    go_wp2_with fail
    refine (refCheck_yes l _ _ (by omega) hs HRT.out).mono ?_
    rintro e w2 ⟨rfl, hn2⟩
    go_wp2_with fail
    refine (awake16 _).mono ?_
    rintro e w3 ⟨rfl, hn3⟩
    go_wp2_with fail
    go_ret
    exact ⟨rfl, hn2.trans hn3⟩
  go_enter Try.func6, Try.ntmps6
  go_wp2_with fail
  refine (few_yes l _ _ (by omega) hs).mono ?_
  rintro e w1 ⟨rfl, rfl⟩
  go_wp2_with fail
  refine (refCheck_yes l _ _ (by omega) hs HRT.out).mono ?_
  rintro e w2 ⟨rfl, hn2⟩
  go_wp2_with fail
  refine (awake16 _).mono ?_
  rintro e w3 ⟨rfl, hn3⟩
  go_wp2_with fail
  have hN := hn2.trans hn3
  have hlen := trim_len l from_
  refine (trim_any l _ from_ _ (by omega) HR.out (hs.new hN)).mono ?_
  rintro e w4 ⟨u4, rfl, ho4, hn4⟩
  go_wp2_with fail
  refine (trim_any (trimL l from_) _ more _ (by omega) (trim_rise HR.out from_) (Owns.slIn Ver.encOk ho4)).mono ?_
  rintro e w5 ⟨u5, rfl, ho5, hn5⟩
  go_wp2_with fail
  rw [trim_trim HR.out (by omega)] at ho5
  have hN5 := (hN.trans hn4).trans hn5
  refine (trim_any l _ more _ (by omega) HR.out (hs.new hN5)).mono ?_
  rintro e w6 ⟨u6, rfl, ho6, hn6⟩
  go_wp2_with fail
  refine (same_eq (trimL l more) _ _ _ (by have := trim_len l more; omega) ((Owns.slIn Ver.encOk ho5).new hn6) (Owns.slIn Ver.encOk ho6)).mono ?_
  rintro e w7 ⟨rfl, hn7⟩
  go_wp2_with fail
  go_ret
  exact ⟨rfl, (hN5.trans hn6).trans hn7⟩

set_option maxRecDepth 100000 in
set_option maxHeartbeats 2000000 in
theorem versionUnseen_walk (l : List Ver) (v : Value) (from_ at_ : Int) (w : World) (hl : l.length ≤ maxLen) (hs : SlIn w 3 Ver.enc v l) :
    Calls Try.prog 8 #[v, .int .u64 from_, .int .u64 at_] w fun e w' => e = .returned (.bool true) ∧ New w w' := by
  obtain ⟨A, c, hv⟩ := hs.form
  subst hv
  unfold maxLen at hl
  by_cases hbig : 200 < l.length
  · go_enter Try.func8, Try.ntmps8
    go_wp2_with fail
    refine (few_no l _ _ hbig (by omega) hs).mono ?_
    rintro e w1 ⟨rfl, rfl⟩
    go_wp2_with fail
    refine (awake16 _).mono ?_
    rintro e w2 ⟨rfl, hn⟩
    go_wp2_with fail
    go_ret
    exact ⟨rfl, hn⟩
  by_cases hr : riseB l = false
  · go_enter Try.func8, Try.ntmps8
    go_wp2_with fail
    refine (few_yes l _ _ (by omega) hs).mono ?_
    rintro e w1 ⟨rfl, rfl⟩
    go_wp2_with fail
    refine (refCheck_no l _ _ (by omega) hs hr).mono ?_
    rintro e w2 ⟨rfl, hn2⟩
    go_wp2_with fail
    refine (awake16 _).mono ?_
    rintro e w3 ⟨rfl, hn3⟩
    go_wp2_with fail
    go_ret
    exact ⟨rfl, hn2.trans hn3⟩
  have hrt : riseB l = true := by simpa using hr
  have hrise := (riseB_iff l).1 hrt
  clear hr
  have HRT := Lib.hid hrt
  have HR := Lib.hid hrise
  clear hrt hrise
  by_cases hlt : at_ < from_
  · go_enter Try.func8, Try.ntmps8
    go_wp2_with fail
    refine (few_yes l _ _ (by omega) hs).mono ?_
    rintro e w1 ⟨rfl, rfl⟩
    go_wp2_with fail
    refine (refCheck_yes l _ _ (by omega) hs HRT.out).mono ?_
    rintro e w2 ⟨rfl, hn2⟩
    go_wp2_with fail
    refine (awake16 _).mono ?_
    rintro e w3 ⟨rfl, hn3⟩
    go_wp2_with fail
    go_ret
    exact ⟨rfl, hn2.trans hn3⟩
  go_enter Try.func8, Try.ntmps8
  go_wp2_with fail
  refine (few_yes l _ _ (by omega) hs).mono ?_
  rintro e w1 ⟨rfl, rfl⟩
  go_wp2_with fail
  refine (refCheck_yes l _ _ (by omega) hs HRT.out).mono ?_
  rintro e w2 ⟨rfl, hn2⟩
  go_wp2_with fail
  have hlen := trim_len l from_
  have hdl := dead_len l from_
  refine (trim_any l _ from_ _ (by omega) HR.out (hs.new hn2)).mono ?_
  rintro e w3 ⟨u3, rfl, ho3, hn3⟩
  go_wp2_with fail
  have hN := hn2.trans hn3
  have ht3 := Owns.slIn Ver.encOk ho3
  refine (at_any l _ at_ _ (by omega) HR.out (hs.new hN)).mono ?_
  rintro e w4 ⟨rfl, hn4⟩
  go_wp2_with fail
  refine (at_any (trimL l from_) _ at_ _ (by omega) (trim_rise HR.out from_) (ht3.new hn4)).mono ?_
  rintro e w5 ⟨rfl, hn5⟩
  go_wp2_with fail
  rw [atV_drop HR.out (show from_ ≤ at_ by omega)]
  refine (awake16 _).mono ?_
  rintro e w6 ⟨rfl, hn6⟩
  go_wp2_with fail
  have ht6 := ((ht3.new hn4).new hn5).new hn6
  have hN6 := ((hN.trans hn4).trans hn5).trans hn6
  refine (trim_any (trimL l from_) _ from_ _ (by omega) (trim_rise HR.out from_) ht6).mono ?_
  rintro e w7 ⟨u7, rfl, ho7, hn7⟩
  go_wp2_with fail
  rw [trim_trim HR.out (Int.le_refl _)] at ho7
  refine (same_eq (trimL l from_) _ _ _ (by omega) (Owns.slIn Ver.encOk ho7) (ht6.new hn7)).mono ?_
  rintro e w8 ⟨rfl, hn8⟩
  go_wp2_with fail
  obtain ⟨A3, c3, hu3⟩ := ht6.form
  subst hu3
  refine (dead_any l _ from_ _ (by omega) HR.out (hs.new ((hN6.trans hn7).trans hn8))).mono ?_
  rintro e w9 ⟨u9, rfl, ho9, hn9⟩
  obtain ⟨A9, c9, hu9⟩ := (Owns.slIn Ver.encOk ho9).form
  subst hu9
  have hNe := ((hN6.trans hn7).trans hn8).trans hn9
  clear ho9 ho7 ho3 ht3 ht6 hs
  generalize (l.take (firstN l from_)).length = a at *
  generalize (trimL l from_).length = b at *
  have hsum : (((a : Int) + (b : Int)) == (l.length : Int)) = true := by simp; omega
  have ha : a ≤ 200 := by omega
  have hb : b ≤ 200 := by omega
  clear hdl
  go_wp2_with fail
  go_ret
  exact ⟨rfl, hNe⟩

end Go.Proofs.Ytdjnfnhmkfbfmaa
