/- Chapter 22 (decree): is a message of a node's proposal; what a node says that is asked. -/
import Derived.Test.YtghhcjpilcoblaaDn2
import Derived.Deep.RegionHeld3
namespace Go.Proofs.Ytghhcjpilcoblaa
open Go.RowKit Go.Lap
set_option linter.unusedVariables false
section
variable {w w' w'' : World} {S F G : Nat → Prop} {am lm nb B : Nat} {ab : Nat → Nat} {ac : Nat → Option Acr} {lg : Nat → Option ByteArray} {id : Int} {L : NdL} {x : Nod}
theorem mine_none (h : x.nw = none) (m : Msg) : x.mine m = false := by unfold Nod.mine; rw [h]
theorem mine_some {p : Prs} (h : x.nw = some p) (m : Msg) : x.mine m = mineP p m := by unfold Nod.mine; rw [h]
set_option maxRecDepth 100000 in
set_option maxHeartbeats 4000000 in
theorem nmine (h : NdAt w F nb id B L x) (m : Msg) :
    Calls Try.prog 80 #[.pointer (some ⟨nb, 0, none⟩), m.val] w fun e w' => e = .returned (.bool (x.mine m)) ∧ New w w' := by
  obtain ⟨mk, ms, mr, mn, mv, mh, mhr, mhn, mhv⟩ := m
  have hN := (New.refl w).alloc (.cells (Msg.cs ⟨mk, ms, mr, mn, mv, mh, mhr, mhn, mhv⟩) 107)
  have hM := Blk.mk_new w 107 (Msg.cs ⟨mk, ms, mr, mn, mv, mh, mhr, mhn, mhv⟩)
  have HN := Lib.hid hN
  have h1 := h.new hN
  obtain ⟨g0, c0, c1, c2, c3, c4, c5, cz⟩ := Blk6F h1.blk
  obtain ⟨m0, d0, d1, d2, d3, d4, d5, d6, d7, d8, dz⟩ := Blk9F hM
  cases hp : x.nw with
  | none =>
    have hw : L.pw = .pointer none := by have := h.nw; rw [hp] at this; exact this
    rw [hw] at c5
    rw [mine_none hp]
    clear h h1 hN hM hp hw
    go_enter Try.func80, Try.ntmps80
    go_wp2_with fail
    go_quiet (fail)
    go_wp2_with fail
    go_ret
    exact ⟨rfl, HN.out.drewN _⟩
  | some p =>
    obtain ⟨P, hw, hP⟩ : ∃ P : PrL, L.pw = .pointer (some ⟨P.pb, 0, none⟩) ∧ PrsAt (w.alloc (.cells (Msg.cs ⟨mk, ms, mr, mn, mv, mh, mhr, mhn, mhv⟩) 107)) F L.am L.lm P p := by have := h1.nw; rw [hp] at this; exact this
    rw [hw] at c5
    rw [mine_some hp]
    obtain ⟨ps, pr, pn, ppm, pfr, pby, pv, pch⟩ := p
    obtain ⟨q0, e0, e1, e2, e3, e4, e5, e6, e7, ez⟩ := Blk8F hP.blk
    unfold mineP
    dsimp only at e0 e1 e2 ⊢
    clear h h1 hN hM hp hw hP
    by_cases hs : ps = ms
    · subst hs
      by_cases hr : pr = mr
      · subst hr
        by_cases hn : pn = mn
        · subst hn
          go_enter Try.func80, Try.ntmps80
          go_wp2_with fail
          go_quiet (fail)
          go_wp2_with fail
          go_ret
          exact ⟨by simp, HN.out.drewN _⟩
        · have hn2 : ((pn : Int) == (mn : Int)) = false := by rw [beq_eq_false_iff_ne]; omega
          have HR := Lib.hid (show decide (ps = ps ∧ pr = pr ∧ pn = mn) = false from decide_eq_false fun h => hn h.2.2)
          clear hn
          go_enter Try.func80, Try.ntmps80
          go_wp2_with fail
          go_quiet (fail)
          go_wp2_with fail
          go_ret
          exact ⟨by rw [HR.out]; rfl, HN.out.drewN _⟩
      · have hn2 : ((pr : Int) == (mr : Int)) = false := by rw [beq_eq_false_iff_ne]; omega
        have HR := Lib.hid (show decide (ps = ps ∧ pr = mr ∧ pn = mn) = false from decide_eq_false fun h => hr h.2.1)
        clear hr
        go_enter Try.func80, Try.ntmps80
        go_wp2_with fail
        go_quiet (fail)
        go_wp2_with fail
        go_ret
        exact ⟨by rw [HR.out]; rfl, HN.out.drewN _⟩
    · have hn2 : ((ps : Int) == (ms : Int)) = false := by rw [beq_eq_false_iff_ne]; omega
      have HR := Lib.hid (show decide (ps = ms ∧ pr = mr ∧ pn = mn) = false from decide_eq_false fun h => hs h.1)
      clear hs
      go_enter Try.func80, Try.ntmps80
      go_wp2_with fail
      go_quiet (fail)
      go_wp2_with fail
      go_ret
      exact ⟨by rw [HR.out]; rfl, HN.out.drewN _⟩
end
end Go.Proofs.Ytghhcjpilcoblaa
