/- Chapter 18 (pins): the laws' own example. -/
import Derived.Test.YtcganajbfplmpaaLaw18
namespace Go.Proofs.Ytcganajbfplmpaa
open Go.RowKit Go.Lap
set_option linter.unusedVariables false

set_option maxRecDepth 100000 in
set_option maxHeartbeats 4000000 in
theorem awake18 (w : World) : Calls Try.prog 24 #[] w fun e w' => e = .returned (.bool true) ∧ New w w' := by
  go_enter Try.func24, Try.ntmps24
  go_wp2_with fail
  refine (newS _).mono ?_
  rintro e w1 ⟨p, nm, lm, rfl, h1, hF, hn1⟩
  have HF := Lib.hid hF
  go_wp2_with fail
  refine (pinS _ h1 ⟨#[97]⟩ (by decide) 5 (by decide)).mono ?_
  rintro e w2 ⟨rfl, h2, hu2⟩
  rw [show pinErr [] ⟨#[97]⟩ = 0 by decide]
  have hn2 := hn1.upd hu2 hF
  have h2 : PSt w2 p nm lm [⟨⟨#[97]⟩, 5⟩] [] := h2
  clear h1 hn1 hu2
  go_wp2_with fail
  refine (leaseS _ h2 1 3 9 (by decide) (by decide) (by decide)).mono ?_
  rintro e w3 ⟨rfl, h3, hu3⟩
  rw [show leaseErr [] 1 3 = 0 by decide]
  have hn3 := hn2.upd hu3 hF
  have h3 : PSt w3 p nm lm [⟨⟨#[97]⟩, 5⟩] [⟨1, 3, 9⟩] := h3
  clear h2 hn2 hu3
  go_wp2_with fail
  refine (floorS _ h3 7).mono ?_
  rintro e w4 ⟨rfl, hn4⟩
  rw [show floorP [⟨⟨#[97]⟩, 5⟩] [⟨1, 3, 9⟩] 7 = 3 by decide]
  have h4 := h3.new hn4
  have hN4 := hn3.trans hn4
  clear h3 hn3 hn4
  go_wp2_with fail
  refine (expS _ h4 9).mono ?_
  rintro e w5 ⟨rfl, h5, hu5⟩
  rw [show ([⟨1, 3, 9⟩] : List Lse).length - (expK [⟨1, 3, 9⟩] 9).length = 1 by decide]
  have hn5 := hN4.upd hu5 hF
  have h5 : PSt w5 p nm lm [⟨⟨#[97]⟩, 5⟩] [] := h5
  clear h4 hN4 hu5
  go_wp2_with fail
  refine (floorS _ h5 7).mono ?_
  rintro e w6 ⟨rfl, hn6⟩
  rw [show floorP [⟨⟨#[97]⟩, 5⟩] [] 7 = 5 by decide]
  have h6 := h5.new hn6
  have hN6 := hn5.trans hn6
  clear h5 hn5 hn6
  go_wp2_with fail
  refine (floorS _ h6 2).mono ?_
  rintro e w7 ⟨rfl, hn7⟩
  rw [show floorP [⟨⟨#[97]⟩, 5⟩] [] 2 = 2 by decide]
  have h7 := h6.new hn7
  have hN7 := hN6.trans hn7
  clear h6 hN6 hn7
  go_wp2_with fail
  refine (bytesS _ h7).mono ?_
  rintro e w8 ⟨u, rfl, ho, hn8⟩
  have hN8 := hN7.trans hn8
  have hcv := run_str w8 (Owns.slIn bEncOk ho)
  rw [show str (encE [⟨⟨#[97]⟩, 5⟩]) = ⟨#[1, 1, 97, 5]⟩ from by kernel_rfl] at hcv
  go_wp2_with fail
  go_ret
  exact ⟨rfl, hN8⟩
end Go.Proofs.Ytcganajbfplmpaa
