/- The walk of the law ConfigPlaces (chapter 23): for every input it answers true. Printed by genCfg.py. -/
import Derived.Test.YtinpbjknakncdaaDoorCfgO
namespace Go.Proofs.YtinpbjknakncdaaDoor
open Go.RowKit Go.Lap
set_option linter.unusedVariables false

set_option maxRecDepth 100000 in
set_option maxHeartbeats 16000000 in
theorem configPlaces_walk (e : Nat) (v : Value) (ms : List Int) (n : Int) (w : World) (hep : e < 18446744073709551616) (hs : SlIn w 1 iEnc v ms) (henv : Env w) :
    Calls Tryd.prog 8 #[.agg #[.int .u64 (e : Int), v], .int .i64 n] w fun e' w' => e' = .returned (.bool true) ∧ New w w' := by
  obtain ⟨A, m, cap, rfl⟩ := hs.shape
  obtain ⟨A', c', hv, hlc, -⟩ := id hs
  cases hv
  have HE := Lib.hid henv
  have HS0 := Lib.hid hs
  have HN0 := Lib.hid ((New.refl w).alloc (.cells #[.int .u64 (e : Int), .slice A ms.length cap] 25))
  have HB0 := Lib.hid (Blk.mk_new w 25 #[.int .u64 (e : Int), .slice A ms.length cap])
  clear hs henv
  go_enter Tryd.func8, Tryd.ntmps8
  go_upto_region 1 with fail
  generalize w.alloc _ = w1 at *
  obtain ⟨p0, p1, p2, pz⟩ := Blk2F HB0.out
  go_wp2_with fail
  refine (few_any e _ ms w1 (HS0.out.new HN0.out)).mono ?_
  rintro e9 w2 ⟨rfl, hn2⟩
  have HN2 := Lib.hid (HN0.out.trans hn2)
  have HB2 := Lib.hid (HB0.out.new hn2)
  clear HN0 HB0 hn2 p0 p1 p2 pz
  by_cases h20 : ms.length ≤ 20
  rotate_left
  · rw [decide_eq_false h20]
    go_wp2_with fail
    refine (awake23 _ (HE.out.new HN2.out)).mono ?_
    rintro e9 wz ⟨rfl, hnz⟩
    go_wp2_with fail
    go_ret
    exact ⟨rfl, HN2.out.trans hnz⟩
  rw [decide_eq_true h20]
  obtain ⟨p0, p1, p2, pz⟩ := Blk2F HB2.out
  have hc1 := fun wx hx => refPlace_any e (.slice A ms.length cap) ms n wx (by omega) hx
  have hc2 := fun wx hx => next_any e (.slice A ms.length cap) ms n wx (by omega) hx
  have hc3 := fun wx hx => before_any e (.slice A ms.length cap) ms n wx (by omega) hx
  have hc4 := fun wx hx => place_any e (.slice A ms.length cap) ms n wx (by omega) hx
  rcases place_cases ms n with ⟨hni, hp⟩ | ⟨k, hk, hx, hnt, hp⟩
  · rw [hp] at hc1 hc2 hc3 hc4
    rw [at_no (.inl (by decide))] at hc2
    rw [at_no (.inl (by decide))] at hc3
    clear hp hni
    go_wp2_with fail
    refine (hc1 _ (HS0.out.new HN2.out)).mono ?_
    rintro e9 w3 ⟨rfl, hn3⟩
    have HN3 := Lib.hid (HN2.out.trans hn3)
    have HB3 := Lib.hid (HB2.out.new hn3)
    clear HN2 HB2 hn3 p0 p1 p2 pz
    obtain ⟨p0, p1, p2, pz⟩ := Blk2F HB3.out
    go_wp2_with fail
    refine (hc2 _ (HS0.out.new HN3.out)).mono ?_
    rintro e9 w4 ⟨rfl, hn4⟩
    dsimp only
    have HN4 := Lib.hid (HN3.out.trans hn4)
    have HB4 := Lib.hid (HB3.out.new hn4)
    clear HN3 HB3 hn4 p0 p1 p2 pz
    obtain ⟨p0, p1, p2, pz⟩ := Blk2F HB4.out
    go_wp2_with fail
    refine (hc3 _ (HS0.out.new HN4.out)).mono ?_
    rintro e9 w5 ⟨rfl, hn5⟩
    dsimp only
    have HN5 := Lib.hid (HN4.out.trans hn5)
    have HB5 := Lib.hid (HB4.out.new hn5)
    clear HN4 HB4 hn5 p0 p1 p2 pz
    obtain ⟨p0, p1, p2, pz⟩ := Blk2F HB5.out
    go_wp2_with fail
    refine (hc4 _ (HS0.out.new HN5.out)).mono ?_
    rintro e9 w6 ⟨rfl, hn6⟩
    have HN6 := Lib.hid (HN5.out.trans hn6)
    have HB6 := Lib.hid (HB5.out.new hn6)
    clear HN5 HB5 hn6 p0 p1 p2 pz
    obtain ⟨p0, p1, p2, pz⟩ := Blk2F HB6.out
    clear hc1 hc2 hc3 hc4
    go_wp2_with fail
    refine (awake23 _ (HE.out.new HN6.out)).mono ?_
    rintro e9 wz ⟨rfl, hnz⟩
    go_wp2_with fail
    go_ret
    exact ⟨rfl, HN6.out.trans hnz⟩
  rw [hp] at hc1 hc2 hc3 hc4
  have hk0 : (0 : Int) ≤ (k : Int) := by omega
  have hw1 : IntKind.i64.wrap ((k : Int) + 1) = ((k + 1 : Nat) : Int) := by rw [IntWalk.i64_in _ (by omega)]; omega
  clear hp hnt hx
  by_cases hnx : k + 1 < ms.length
  · have hnx2 : (k : Int) + 1 < (ms.length : Int) := by omega
    obtain ⟨x, hx⟩ : ∃ x, ms[k + 1]? = some x := ⟨_, List.getElem?_eq_getElem hnx⟩
    rw [show (k : Int) + 1 = ((k + 1 : Nat) : Int) from by omega, at_yes hk0 hx] at hc2
    have HX := Lib.hid hx
    clear hx
    cases k with
    | zero =>
      rw [at_no (.inr (.inl (by decide)))] at hc3
      have hnx3 : (0 : Int) + 1 < (ms.length : Int) := by omega
      have hnx4 : (1 : Int) < (ms.length : Int) := by omega
      go_wp2_with fail
      refine (hc1 _ (HS0.out.new HN2.out)).mono ?_
      rintro e9 w3 ⟨rfl, hn3⟩
      have HN3 := Lib.hid (HN2.out.trans hn3)
      have HB3 := Lib.hid (HB2.out.new hn3)
      clear HN2 HB2 hn3 p0 p1 p2 pz
      obtain ⟨p0, p1, p2, pz⟩ := Blk2F HB3.out
      go_wp2_with fail
      refine (hc2 _ (HS0.out.new HN3.out)).mono ?_
      rintro e9 w4 ⟨rfl, hn4⟩
      dsimp only
      have HN4 := Lib.hid (HN3.out.trans hn4)
      have HB4 := Lib.hid (HB3.out.new hn4)
      clear HN3 HB3 hn4 p0 p1 p2 pz
      obtain ⟨p0, p1, p2, pz⟩ := Blk2F HB4.out
      go_wp2_with fail
      refine (hc3 _ (HS0.out.new HN4.out)).mono ?_
      rintro e9 w5 ⟨rfl, hn5⟩
      dsimp only
      have HN5 := Lib.hid (HN4.out.trans hn5)
      have HB5 := Lib.hid (HB4.out.new hn5)
      clear HN4 HB4 hn5 p0 p1 p2 pz
      obtain ⟨p0, p1, p2, pz⟩ := Blk2F HB5.out
      go_wp2_with fail
      refine (hc4 _ (HS0.out.new HN5.out)).mono ?_
      rintro e9 w6 ⟨rfl, hn6⟩
      have HN6 := Lib.hid (HN5.out.trans hn6)
      have HB6 := Lib.hid (HB5.out.new hn6)
      clear HN5 HB5 hn6 p0 p1 p2 pz
      obtain ⟨p0, p1, p2, pz⟩ := Blk2F HB6.out
      clear hc1 hc2 hc3 hc4
      obtain ⟨A', c', hv, _, hh⟩ := HS0.out.new HN6.out
      cases hv
      rcases hh with rfl | ⟨b, off, rfl, hbb, hc⟩
      · simp at hk
      have e1 := SlIn.int_at hc HX.out
      clear hc
      go_wp2_with fail
      refine (awake23 _ (HE.out.new HN6.out)).mono ?_
      rintro e9 wz ⟨rfl, hnz⟩
      go_wp2_with fail
      go_ret
      exact ⟨rfl, HN6.out.trans hnz⟩
    | succ k =>
      obtain ⟨y, hy⟩ : ∃ y, ms[k]? = some y := ⟨_, List.getElem?_eq_getElem (by omega)⟩
      rw [show ((k + 1 : Nat) : Int) + -1 = (k : Int) from by omega, at_yes hk0 hy] at hc3
      have HY := Lib.hid hy
      clear hy
      have hw2 : IntKind.i64.wrap ((k : Int) + 1 - 1) = (k : Int) := by rw [IntWalk.i64_in _ (by omega)]; omega
      have hw2b : IntKind.i64.wrap (k : Int) = (k : Int) := by rw [IntWalk.i64_in _ (by omega)]
      have hgt : (0 : Int) < (k : Int) + 1 := by omega
      have hkk : k < ms.length := by omega
      have hkk2 : (k : Int) < (ms.length : Int) := by omega
      have hkk0 : (0 : Int) ≤ (k : Int) := by omega
      have hnx5 : ((k : Int) + 1 + 1).toNat = k + 1 + 1 := by omega
      have hnx6 : (k : Int) + 1 + 1 < (ms.length : Int) := by omega
      have hnx7 : (0 : Int) ≤ (k : Int) + 1 + 1 := by omega
      have hw3 : IntKind.i64.wrap ((k : Int) + 1 + 1) = (k : Int) + 1 + 1 := by rw [IntWalk.i64_in _ (by omega)]
      go_wp2_with fail
      refine (hc1 _ (HS0.out.new HN2.out)).mono ?_
      rintro e9 w3 ⟨rfl, hn3⟩
      have HN3 := Lib.hid (HN2.out.trans hn3)
      have HB3 := Lib.hid (HB2.out.new hn3)
      clear HN2 HB2 hn3 p0 p1 p2 pz
      obtain ⟨p0, p1, p2, pz⟩ := Blk2F HB3.out
      go_wp2_with fail
      refine (hc2 _ (HS0.out.new HN3.out)).mono ?_
      rintro e9 w4 ⟨rfl, hn4⟩
      dsimp only
      have HN4 := Lib.hid (HN3.out.trans hn4)
      have HB4 := Lib.hid (HB3.out.new hn4)
      clear HN3 HB3 hn4 p0 p1 p2 pz
      obtain ⟨p0, p1, p2, pz⟩ := Blk2F HB4.out
      go_wp2_with fail
      refine (hc3 _ (HS0.out.new HN4.out)).mono ?_
      rintro e9 w5 ⟨rfl, hn5⟩
      dsimp only
      have HN5 := Lib.hid (HN4.out.trans hn5)
      have HB5 := Lib.hid (HB4.out.new hn5)
      clear HN4 HB4 hn5 p0 p1 p2 pz
      obtain ⟨p0, p1, p2, pz⟩ := Blk2F HB5.out
      go_wp2_with fail
      refine (hc4 _ (HS0.out.new HN5.out)).mono ?_
      rintro e9 w6 ⟨rfl, hn6⟩
      have HN6 := Lib.hid (HN5.out.trans hn6)
      have HB6 := Lib.hid (HB5.out.new hn6)
      clear HN5 HB5 hn6 p0 p1 p2 pz
      obtain ⟨p0, p1, p2, pz⟩ := Blk2F HB6.out
      clear hc1 hc2 hc3 hc4
      obtain ⟨A', c', hv, _, hh⟩ := HS0.out.new HN6.out
      cases hv
      rcases hh with rfl | ⟨b, off, rfl, hbb, hc⟩
      · simp at hk
      have e1 := SlIn.int_at hc HX.out
      have e2 := SlIn.int_at hc HY.out
      clear hc
      go_wp2_with fail
      refine (awake23 _ (HE.out.new HN6.out)).mono ?_
      rintro e9 wz ⟨rfl, hnz⟩
      go_wp2_with fail
      go_ret
      exact ⟨rfl, HN6.out.trans hnz⟩
  skip
  · have hnx2 : ¬ (k : Int) + 1 < (ms.length : Int) := by omega
    rw [at_no (.inr (.inr (by omega)))] at hc2
    cases k with
    | zero =>
      rw [at_no (.inr (.inl (by decide)))] at hc3
      go_wp2_with fail
      refine (hc1 _ (HS0.out.new HN2.out)).mono ?_
      rintro e9 w3 ⟨rfl, hn3⟩
      have HN3 := Lib.hid (HN2.out.trans hn3)
      have HB3 := Lib.hid (HB2.out.new hn3)
      clear HN2 HB2 hn3 p0 p1 p2 pz
      obtain ⟨p0, p1, p2, pz⟩ := Blk2F HB3.out
      go_wp2_with fail
      refine (hc2 _ (HS0.out.new HN3.out)).mono ?_
      rintro e9 w4 ⟨rfl, hn4⟩
      dsimp only
      have HN4 := Lib.hid (HN3.out.trans hn4)
      have HB4 := Lib.hid (HB3.out.new hn4)
      clear HN3 HB3 hn4 p0 p1 p2 pz
      obtain ⟨p0, p1, p2, pz⟩ := Blk2F HB4.out
      go_wp2_with fail
      refine (hc3 _ (HS0.out.new HN4.out)).mono ?_
      rintro e9 w5 ⟨rfl, hn5⟩
      dsimp only
      have HN5 := Lib.hid (HN4.out.trans hn5)
      have HB5 := Lib.hid (HB4.out.new hn5)
      clear HN4 HB4 hn5 p0 p1 p2 pz
      obtain ⟨p0, p1, p2, pz⟩ := Blk2F HB5.out
      go_wp2_with fail
      refine (hc4 _ (HS0.out.new HN5.out)).mono ?_
      rintro e9 w6 ⟨rfl, hn6⟩
      have HN6 := Lib.hid (HN5.out.trans hn6)
      have HB6 := Lib.hid (HB5.out.new hn6)
      clear HN5 HB5 hn6 p0 p1 p2 pz
      obtain ⟨p0, p1, p2, pz⟩ := Blk2F HB6.out
      clear hc1 hc2 hc3 hc4
      obtain ⟨A', c', hv, _, hh⟩ := HS0.out.new HN6.out
      cases hv
      rcases hh with rfl | ⟨b, off, rfl, hbb, hc⟩
      · simp at hk
      clear hc
      go_wp2_with fail
      refine (awake23 _ (HE.out.new HN6.out)).mono ?_
      rintro e9 wz ⟨rfl, hnz⟩
      go_wp2_with fail
      go_ret
      exact ⟨rfl, HN6.out.trans hnz⟩
    | succ k =>
      obtain ⟨y, hy⟩ : ∃ y, ms[k]? = some y := ⟨_, List.getElem?_eq_getElem (by omega)⟩
      rw [show ((k + 1 : Nat) : Int) + -1 = (k : Int) from by omega, at_yes hk0 hy] at hc3
      have HY := Lib.hid hy
      clear hy
      have hw2 : IntKind.i64.wrap ((k : Int) + 1 - 1) = (k : Int) := by rw [IntWalk.i64_in _ (by omega)]; omega
      have hw2b : IntKind.i64.wrap (k : Int) = (k : Int) := by rw [IntWalk.i64_in _ (by omega)]
      have hgt : (0 : Int) < (k : Int) + 1 := by omega
      have hkk : k < ms.length := by omega
      have hkk2 : (k : Int) < (ms.length : Int) := by omega
      have hkk0 : (0 : Int) ≤ (k : Int) := by omega
      go_wp2_with fail
      refine (hc1 _ (HS0.out.new HN2.out)).mono ?_
      rintro e9 w3 ⟨rfl, hn3⟩
      have HN3 := Lib.hid (HN2.out.trans hn3)
      have HB3 := Lib.hid (HB2.out.new hn3)
      clear HN2 HB2 hn3 p0 p1 p2 pz
      obtain ⟨p0, p1, p2, pz⟩ := Blk2F HB3.out
      go_wp2_with fail
      refine (hc2 _ (HS0.out.new HN3.out)).mono ?_
      rintro e9 w4 ⟨rfl, hn4⟩
      dsimp only
      have HN4 := Lib.hid (HN3.out.trans hn4)
      have HB4 := Lib.hid (HB3.out.new hn4)
      clear HN3 HB3 hn4 p0 p1 p2 pz
      obtain ⟨p0, p1, p2, pz⟩ := Blk2F HB4.out
      go_wp2_with fail
      refine (hc3 _ (HS0.out.new HN4.out)).mono ?_
      rintro e9 w5 ⟨rfl, hn5⟩
      dsimp only
      have HN5 := Lib.hid (HN4.out.trans hn5)
      have HB5 := Lib.hid (HB4.out.new hn5)
      clear HN4 HB4 hn5 p0 p1 p2 pz
      obtain ⟨p0, p1, p2, pz⟩ := Blk2F HB5.out
      go_wp2_with fail
      refine (hc4 _ (HS0.out.new HN5.out)).mono ?_
      rintro e9 w6 ⟨rfl, hn6⟩
      have HN6 := Lib.hid (HN5.out.trans hn6)
      have HB6 := Lib.hid (HB5.out.new hn6)
      clear HN5 HB5 hn6 p0 p1 p2 pz
      obtain ⟨p0, p1, p2, pz⟩ := Blk2F HB6.out
      clear hc1 hc2 hc3 hc4
      obtain ⟨A', c', hv, _, hh⟩ := HS0.out.new HN6.out
      cases hv
      rcases hh with rfl | ⟨b, off, rfl, hbb, hc⟩
      · simp at hk
      have e2 := SlIn.int_at hc HY.out
      clear hc
      go_wp2_with fail
      refine (awake23 _ (HE.out.new HN6.out)).mono ?_
      rintro e9 wz ⟨rfl, hnz⟩
      go_wp2_with fail
      go_ret
      exact ⟨rfl, HN6.out.trans hnz⟩
end Go.Proofs.YtinpbjknakncdaaDoor
