/- The law's own example (chapter 16): it answers true, and changes nothing that was there. -/
import Derived.Test.YtdjnfnhmkfbfmaaVer4
namespace Go.Proofs.Ytdjnfnhmkfbfmaa
open Go.RowKit Go.Lap
set_option linter.unusedVariables false

theorem exampleRise : Rise exampleL := (riseB_iff _).1 (by decide)

theorem at_ex (n r : Int) (s : ByteArray) (v : Value) (w : World) (h : atV exampleL (cutN exampleL n) = (s, r)) (hs : SlIn w 3 Ver.enc v exampleL) :
    Calls Try.prog 19 #[v, .int .u64 n] w fun e w' => e = .returned (.tuple #[.string s, .int .i64 r]) ∧ New w w' :=
  (at_any exampleL v n w (by decide) exampleRise hs).mono fun e w' ⟨he, hn⟩ => ⟨by rw [he, h], hn⟩

set_option maxRecDepth 100000 in
set_option maxHeartbeats 2000000 in
theorem awake16 (w : World) : Calls Try.prog 18 #[] w fun e w' => e = .returned (.bool true) ∧ New w w' := by
  go_enter Try.func18, Try.ntmps18
  go_wp2_with fail
  refine (example_any _).mono ?_
  rintro e w1 ⟨v1, rfl, hs1, hn1⟩
  go_wp2_with fail
  refine (at_ex 1 161 ⟨#[]⟩ _ _ rfl hs1).mono ?_
  rintro e w2 ⟨rfl, hn2⟩
  have hN2 := hn1.trans hn2
  clear hn1 hn2 hs1
  go_wp2_with fail
  refine (example_any _).mono ?_
  rintro e w3 ⟨v3, rfl, hs3, hn3⟩
  go_wp2_with fail
  refine (at_ex 4 0 ⟨#[97]⟩ _ _ rfl hs3).mono ?_
  rintro e w4 ⟨rfl, hn4⟩
  have hN4 := (hN2.trans hn3).trans hn4
  clear hN2 hn3 hn4 hs3
  go_wp2_with fail
  refine (example_any _).mono ?_
  rintro e w5 ⟨v5, rfl, hs5, hn5⟩
  go_wp2_with fail
  refine (at_ex 6 161 ⟨#[]⟩ _ _ rfl hs5).mono ?_
  rintro e w6 ⟨rfl, hn6⟩
  have hN6 := (hN4.trans hn5).trans hn6
  clear hN4 hn5 hn6 hs5
  go_wp2_with fail
  refine (example_any _).mono ?_
  rintro e w7 ⟨v7, rfl, hs7, hn7⟩
  go_wp2_with fail
  refine (at_ex 9 0 ⟨#[98]⟩ _ _ rfl hs7).mono ?_
  rintro e w8 ⟨rfl, hn8⟩
  have hN8 := (hN6.trans hn7).trans hn8
  clear hN6 hn7 hn8 hs7
  go_wp2_with fail
  refine (example_any _).mono ?_
  rintro e w9 ⟨v9, rfl, hs9, hn9⟩
  go_wp2_with fail
  refine (trim_any exampleL _ 6 _ (by decide) exampleRise hs9).mono ?_
  rintro e w10 ⟨u, rfl, ho, hn10⟩
  have hN10 := (hN8.trans hn9).trans hn10
  have hsl := Owns.slIn Ver.encOk ho
  have htl : trimL exampleL 6 = [⟨7, ⟨#[98]⟩, false⟩] := rfl
  rw [htl] at hsl
  clear hN8 hn9 hn10 hs9 ho htl
  obtain ⟨A, c, rfl, hlc, h⟩ := hsl
  rcases h with h | ⟨b, off, rfl, hb, hc⟩
  · cases h
  have e1 : w10.cell? ⟨b, off, none⟩ = some (.int .u64 7) := by simpa using hc 0 _ rfl 0 _ rfl
  clear hc
  go_wp2_with fail
  refine (example_any _).mono ?_
  rintro e w11 ⟨v11, rfl, hs11, hn11⟩
  go_wp2_with fail
  refine (trim_any exampleL _ 3 _ (by decide) exampleRise hs11).mono ?_
  rintro e w12 ⟨u2, rfl, ho2, hn12⟩
  have hN12 := (hN10.trans hn11).trans hn12
  obtain ⟨A2, c2, rfl, hlc2, h2⟩ := Owns.slIn Ver.encOk ho2
  have htl2 : (trimL exampleL 3).length = 3 := rfl
  rw [htl2]
  clear hN10 hn11 hn12 hs11 ho2 htl2 h2 hlc2
  go_wp2_with fail
  refine (example_any _).mono ?_
  rintro e w13 ⟨v13, rfl, hs13, hn13⟩
  go_wp2_with fail
  refine (check_any exampleL _ _ (by decide) hs13).mono ?_
  rintro e w14 ⟨rfl, hn14⟩
  rw [show riseB exampleL = true from rfl]
  have hN14 := (hN12.trans hn13).trans hn14
  clear hN12 hn13 hn14 hs13
  go_wp2_with fail
  refine (example_any _).mono ?_
  rintro e w15 ⟨v15, rfl, hs15, hn15⟩
  go_wp2_with fail
  refine (last_any exampleL _ _ (by decide) hs15).mono ?_
  rintro e w16 ⟨rfl, rfl⟩
  rw [show lastN exampleL = 7 from rfl]
  go_wp2_with fail
  go_ret
  exact ⟨rfl, hN14.trans hn15⟩
end Go.Proofs.Ytdjnfnhmkfbfmaa
