/- The walk of the law VersionLeast (chapter 16): for every input it answers true. -/
import Derived.Test.YtdjnfnhmkfbfmaaLaw16
namespace Go.Proofs.Ytdjnfnhmkfbfmaa
open Go.RowKit Go.Lap
set_option linter.unusedVariables false

theorem at_is (t : List Ver) (v : Value) (a r : Int) (s : ByteArray) (w : World) (hl : t.length ≤ 1000000000) (hr : Rise t) (hs : SlIn w 3 Ver.enc v t) (h : atV t (cutN t a) = (s, r)) :
    Calls Try.prog 19 #[v, .int .u64 a] w fun e w' => e = .returned (.tuple #[.string s, .int .i64 r]) ∧ New w w' :=
  (at_any t v a w hl hr hs).mono fun e w' ⟨he, hn⟩ => ⟨by rw [he, h], hn⟩

set_option maxRecDepth 100000 in
set_option maxHeartbeats 4000000 in
theorem versionLeast_walk (l : List Ver) (v : Value) (from_ : Int) (w : World) (hl : l.length ≤ maxLen) (hs : SlIn w 3 Ver.enc v l) :
    Calls Try.prog 5 #[v, .int .u64 from_] w fun e w' => e = .returned (.bool true) ∧ New w w' := by
  unfold maxLen at hl
  by_cases hbig : 200 < l.length
  · go_enter Try.func5, Try.ntmps5
    go_wp2_with fail
    refine (few_no l _ _ hbig (by omega) hs).mono ?_
    rintro e w1 ⟨rfl, rfl⟩
    go_wp2_with fail
    refine (awake16 _).mono ?_
    rintro e w2 ⟨rfl, hn⟩
    go_wp2_with fail
    go_ret
    exact ⟨rfl, hn⟩
  by_cases hr : riseB l = false
  · go_enter Try.func5, Try.ntmps5
    go_wp2_with fail
    refine (few_yes l _ _ (by omega) hs).mono ?_
    rintro e w1 ⟨rfl, rfl⟩
    go_wp2_with fail
    refine (refCheck_no l _ _ (by omega) hs hr).mono ?_
    rintro e w2 ⟨rfl, hn2⟩
    go_wp2_with fail
    refine (awake16 _).mono ?_
    rintro e w3 ⟨rfl, hn3⟩
    go_wp2_with fail
    go_ret
    exact ⟨rfl, hn2.trans hn3⟩
  have hrt : riseB l = true := by simpa using hr
  have hrise := (riseB_iff l).1 hrt
  clear hr
  have HRT := Lib.hid hrt
  have HR := Lib.hid hrise
  clear hrt hrise
  go_enter Try.func5, Try.ntmps5
  go_wp2_with fail
  refine (few_yes l _ _ (by omega) hs).mono ?_
  rintro e w1 ⟨rfl, rfl⟩
  go_wp2_with fail
  refine (refCheck_yes l _ _ (by omega) hs HRT.out).mono ?_
  rintro e w2 ⟨rfl, hn2⟩
  go_wp2_with fail
  refine (trim_any l _ from_ _ (by omega) HR.out (hs.new hn2)).mono ?_
  rintro e w3 ⟨u3, rfl, ho3, hn3⟩
  have hs3 := Owns.slIn Ver.encOk ho3
  have hlen := trim_len l from_
  have hold : ∀ (i : Nat) (x : Ver), (trimL l from_)[i]? = some x → x.at_ ≤ from_ → i = 0 ∧ x.gone = false := fun i x hx h => trim_old HR.out hx h
  have hseen : ∀ (i : Nat) (x : Ver), (trimL l from_)[i]? = some x → atV (trimL l from_) (cutN (trimL l from_) (if x.at_ < from_ then from_ else x.at_)) = if x.gone then (⟨#[]⟩, 161) else (x.val, 0) := fun i x hx => trim_seen HR.out hx
  have hrt := trim_rise HR.out from_
  generalize trimL l from_ = t at *
  have HO := Lib.hid hold
  have HE := Lib.hid hseen
  have HT := Lib.hid hrt
  have HS := Lib.hid hs3
  have hN := hn2.trans hn3
  clear hold hseen hrt hn2 hn3 ho3 HRT
  obtain ⟨A, c, rfl, hlc, h⟩ := hs3
  go_wp2_with fail
  go_loopw [6, 7, 8, 9, 10] (fun o i _ _ _ wr => ∃ j k : Nat, j ≤ t.length ∧ k ≤ j ∧ k ≤ 1 ∧ i = .int .i64 j ∧ o = .int .i64 k ∧ New w3 wr) (fun _ i _ _ _ _ => t.length - (intOf i).toNat)
  case atStart => exact ⟨0, 0, by omega, by omega, by omega, rfl, rfl, New.refl _⟩
  case round =>
    obtain ⟨j, k, hj, hkj, hk1, rfl, rfl, hn⟩ := hrel
    by_cases hlt : j < t.length
    · have hlt' : (j : Int) < (t.length : Int) := by omega
      have hj0 : (0 : Int) ≤ (j : Int) := by omega
      rcases h with rfl | ⟨b, off, rfl, hb, hc⟩
      · simp at hlt
      obtain ⟨x, hx⟩ : ∃ x, t[j]? = some x := ⟨_, List.getElem?_eq_getElem (by omega)⟩
      have hox := HO.out j x hx
      have hex := HE.out j x hx
      have hC := hn.cells.1
      have e1 : wr.cell? ⟨b, off + j * 3, none⟩ = some (.int .u64 x.at_) := (hC _ _ hb).trans (hc _ x hx 0 _ rfl)
      have e2 : wr.cell? ⟨b, off + j * 3 + 1, none⟩ = some (.string x.val) := (hC _ _ hb).trans (hc _ x hx 1 _ rfl)
      have e3 : wr.cell? ⟨b, off + j * 3 + 2, none⟩ = some (.bool x.gone) := (hC _ _ hb).trans (hc _ x hx 2 _ rfl)
      have hbr : b < wr.heap.size := Nat.lt_of_lt_of_le hb hn.size
      clear hC
      have HC := Lib.hid hc
      clear hc hx
      obtain ⟨xa, xv, xg⟩ := x
      simp only at e1 e2 e3 hox hex
      by_cases h1 : xa ≤ from_
      · obtain ⟨hj0', hg⟩ := hox h1
        have hk0 : k = 0 := by omega
        subst hk0 hg
        clear hox
        by_cases h2 : xa < from_
        · rw [if_pos h2] at hex
          have HX := Lib.hid hex
          have HJ := Lib.hid hj0'
          clear hex hj0'
          go_wp2_with fail
          refine (at_is t _ from_ 0 xv _ (by omega) HT.out (HS.out.new hn) (by rw [HX.out]; rfl)).mono ?_
          rintro e w4 ⟨rfl, hn4⟩
          have hC4 := hn4.cells.1
          go_wp2_with fail
          go_roundw
          case rel => exact ⟨j + 1, 1, by omega, by omega, by omega, by go_num, rfl, hn.trans hn4⟩
          case measure => simp [intOf]; omega
        · rw [if_neg h2] at hex
          have HX := Lib.hid hex
          have HJ := Lib.hid hj0'
          clear hex hj0'
          go_wp2_with fail
          refine (at_is t _ xa 0 xv _ (by omega) HT.out (HS.out.new hn) (by rw [HX.out]; rfl)).mono ?_
          rintro e w4 ⟨rfl, hn4⟩
          have hC4 := hn4.cells.1
          go_wp2_with fail
          go_roundw
          case rel => exact ⟨j + 1, 1, by omega, by omega, by omega, by go_num, rfl, hn.trans hn4⟩
          case measure => simp [intOf]; omega
      · have h2 : ¬ xa < from_ := by omega
        rw [if_neg h2] at hex
        have HX := Lib.hid hex
        clear hex hox
        cases xg with
        | false =>
          go_wp2_with fail
          refine (at_is t _ xa 0 xv _ (by omega) HT.out (HS.out.new hn) (by rw [HX.out]; rfl)).mono ?_
          rintro e w4 ⟨rfl, hn4⟩
          have hC4 := hn4.cells.1
          go_wp2_with fail
          go_roundw
          case rel => exact ⟨j + 1, k, by omega, by omega, by omega, by go_num, rfl, hn.trans hn4⟩
          case measure => simp [intOf]; omega
        | true =>
          go_wp2_with fail
          refine (at_is t _ xa 161 ⟨#[]⟩ _ (by omega) HT.out (HS.out.new hn) (by rw [HX.out]; rfl)).mono ?_
          rintro e w4 ⟨rfl, hn4⟩
          have hC4 := hn4.cells.1
          go_wp2_with fail
          all_goals
            go_roundw
            case rel => exact ⟨j + 1, k, by omega, by omega, by omega, by go_num, rfl, hn.trans hn4⟩
            case measure => simp [intOf]; omega
    · have hlt' : ¬ (j : Int) < (t.length : Int) := by omega
      have hk' : (k : Int) ≤ 1 := by omega
      go_wp2_with fail
      refine (awake16 _).mono ?_
      rintro e w5 ⟨rfl, hn5⟩
      go_wp2_with fail
      go_ret
      exact ⟨rfl, (hN.trans hn).trans hn5⟩
end Go.Proofs.Ytdjnfnhmkfbfmaa
