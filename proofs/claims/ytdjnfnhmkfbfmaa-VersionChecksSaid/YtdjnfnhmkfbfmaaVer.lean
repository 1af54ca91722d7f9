/- Contracts of the package version and of its reference: each says what the call answers and which memory it may have changed. -/
import Derived.Test.YtdjnfnhmkfbfmaaRows
import Derived.Test.YtdjnfnhmkfbfmaaSl
import Derived.Deep.QuietTactic
import Derived.BigQuiet
import Derived.Deep.RegionHeld3
namespace Go.Proofs.Ytdjnfnhmkfbfmaa
open Go.RowKit Go.Lap
set_option linter.unusedVariables false

structure Ver where
  at_ : Int
  val : ByteArray
  gone : Bool

def Ver.enc (v : Ver) : List Value := [.int .u64 v.at_, .string v.val, .bool v.gone]
theorem Ver.encOk : Enc Ver.enc 3 := fun _ => ⟨rfl, by simp [Ver.enc, Value.oneCell']⟩
theorem verTy : SlTy Try.prog 35 43 (.agg #[.int .u64 0, .string ⟨#[]⟩, .bool false]) 3 32 := ⟨Try.underlying35, by kernel_rfl, rfl, by decide⟩

/-- Rising timestamps. -/
def Rise (l : List Ver) : Prop := ∀ (i : Nat) (x y : Ver), l[i]? = some x → l[i + 1]? = some y → x.at_ < y.at_

theorem Rise.lt {l : List Ver} (h : Rise l) : ∀ (d i : Nat) (x y : Ver), l[i]? = some x → l[i + d + 1]? = some y → x.at_ < y.at_
  | 0, i, x, y, hx, hy => h i x y hx hy
  | d + 1, i, x, y, hx, hy => by
    have hlt : i + d + 1 < l.length := by have := (List.getElem?_eq_some_iff.1 hy).1; omega
    have h1 := Rise.lt h d i x _ hx (List.getElem?_eq_getElem hlt)
    have h2 := h (i + d + 1) _ y (List.getElem?_eq_getElem hlt) hy
    omega
theorem Rise.le {l : List Ver} (h : Rise l) {i j : Nat} {x y : Ver} (hx : l[i]? = some x) (hy : l[j]? = some y) (hij : i ≤ j) : x.at_ ≤ y.at_ := by
  rcases Nat.lt_or_ge i j with hlt | hge
  · have := h.lt (j - i - 1) i x y hx (by rw [← hy]; congr 1; omega)
    omega
  · have : i = j := by omega
    subst this
    rw [hx] at hy
    cases hy
    exact Int.le_refl _

/-- How many are not above a timestamp, as a search finds it. -/
def Cut (l : List Ver) (at_ : Int) (k : Nat) : Prop := k ≤ l.length ∧ (∀ i x, l[i]? = some x → i < k → x.at_ ≤ at_) ∧ ∀ i x, l[i]? = some x → k ≤ i → at_ < x.at_

def cutN (l : List Ver) (at_ : Int) : Nat := (l.takeWhile (fun v => decide (v.at_ ≤ at_))).length
theorem cutN_le (l : List Ver) (at_ : Int) : cutN l at_ ≤ l.length := (List.takeWhile_prefix _).length_le
theorem Cut.eq {l : List Ver} {at_ : Int} {k : Nat} (h : Cut l at_ k) : k = cutN l at_ := by
  induction l generalizing k with
  | nil => have := h.1; simp at this; subst this; rfl
  | cons x l ih =>
    by_cases hx : x.at_ ≤ at_
    · have hk : 0 < k := by
        rcases Nat.eq_zero_or_pos k with h0 | h0
        · have := h.2.2 0 x rfl (by omega); omega
        · exact h0
      have := ih (k := k - 1) ⟨by have := h.1; simp at this; omega, fun i y hy hi => h.2.1 (i + 1) y (by simpa using hy) (by omega), fun i y hy hi => h.2.2 (i + 1) y (by simpa using hy) (by omega)⟩
      simp only [cutN, List.takeWhile_cons, hx, decide_true, if_true, List.length_cons] at *
      omega
    · have : k = 0 := by
        rcases Nat.eq_zero_or_pos k with h0 | h0
        · exact h0
        · have := h.2.1 0 x rfl h0; omega
      subst this
      simp [cutN, hx]

set_option maxHeartbeats 400000 in
theorem above1 (i : Nat) (l : List Ver) (b off c : Nat) (at_ : Int) (g1 g2 : Nat) (x : Ver) (w : World) (hi : i < l.length) (hl : l.length ≤ 1000000000) (hx : l[i]? = some x)
    (h1 : w.cell? ⟨g1, 0, none⟩ = some (.slice (some ⟨b, off, none⟩) l.length c)) (h2 : w.cell? ⟨g2, 0, none⟩ = some (.int .u64 at_)) (h3 : w.cell? ⟨b, off + i * 3, none⟩ = some (.int .u64 x.at_)) :
    Calls Try.prog 52 #[.int .i64 i, .pointer (some ⟨g1, 0, none⟩), .pointer (some ⟨g2, 0, none⟩)] w fun e w' => e = .returned (.bool (decide (at_ < x.at_))) ∧ New w w' := by
  have hlt : (i : Int) < (l.length : Int) := by omega
  have h0 : (0 : Int) ≤ (i : Int) := by omega
  clear hx
  go_enter Try.func52, Try.ntmps52
  go_wp2_with fail
  go_quiet (fail)
  go_wp2_with fail
  go_ret
  exact ⟨rfl, (New.refl _).drewN _⟩

set_option maxHeartbeats 1000000 in
theorem search_above (l : List Ver) (b off c : Nat) (at_ : Int) (g1 g2 : Nat) (w : World) (hl : l.length ≤ 1000000000) (hr : Rise l) (hg1 : g1 < w.heap.size) (hg2 : g2 < w.heap.size) (hb : b < w.heap.size)
    (h1 : w.cell? ⟨g1, 0, none⟩ = some (.slice (some ⟨b, off, none⟩) l.length c)) (h2 : w.cell? ⟨g2, 0, none⟩ = some (.int .u64 at_))
    (hc : ∀ k x, l[k]? = some x → w.cell? ⟨b, off + k * 3, none⟩ = some (.int .u64 x.at_)) :
    Calls Try.prog 51 #[.int .i64 l.length, .func (.func 52) #[] #[.pointer (some ⟨g1, 0, none⟩), .pointer (some ⟨g2, 0, none⟩)]] w fun e w' => ∃ k : Nat, Cut l at_ k ∧ e = .returned (.int .i64 k) ∧ New w w' := by
  go_enter Try.func51, Try.ntmps51
  go_wp2_with fail
  go_loopw [5, 6, 7] (fun i j _ wr => ∃ (p q : Nat), p ≤ q ∧ q ≤ l.length ∧ i = .int .i64 p ∧ j = .int .i64 q ∧ New w wr ∧ (∀ k x, l[k]? = some x → k < p → x.at_ ≤ at_) ∧ (∀ k x, l[k]? = some x → q ≤ k → at_ < x.at_)) (fun i j _ _ => (intOf j).toNat - (intOf i).toNat)
  case atStart => exact ⟨0, l.length, by omega, by omega, rfl, rfl, New.refl _, fun _ _ _ h => absurd h (by omega), fun k x hx h => absurd (List.getElem?_eq_some_iff.1 hx).1 (by omega)⟩
  case round =>
    obtain ⟨p, q, hpq, hq, rfl, rfl, hn, hlo, hhi⟩ := hrel
    have HLO := Lib.hid hlo
    have HHI := Lib.hid hhi
    have HC := Lib.hid hc
    have HR := Lib.hid hr
    clear hlo hhi hc hr
    by_cases hlt : p < q
    · have hlt' : (p : Int) < (q : Int) := by omega
      go_wp2_with fail
      rw [show ((p : Int) + (q : Int)) / 2 = (((p + q) / 2 : Nat) : Int) from by omega]
      have hm1 : p ≤ (p + q) / 2 := by omega
      have hm2 : (p + q) / 2 < q := by omega
      generalize (p + q) / 2 = m at *
      obtain ⟨x, hx⟩ : ∃ x, l[m]? = some x := ⟨_, List.getElem?_eq_getElem (by omega)⟩
      refine (above1 m l b off c at_ g1 g2 x wr (by omega) hl hx ((hn.cells.1 _ _ hg1).trans h1) ((hn.cells.1 _ _ hg2).trans h2) ((hn.cells.1 _ _ hb).trans (HC.out m x hx))).mono ?_
      rintro e w1 ⟨rfl, hn1⟩
      have HX := Lib.hid hx
      clear hx
      by_cases hd : at_ < x.at_
      · have hd' : decide (at_ < x.at_) = true := by simpa using hd
        go_wp2_with fail
        go_roundw
        case rel => exact ⟨p, m, by omega, by omega, rfl, rfl, hn.trans hn1, HLO.out, fun k y hy hk => by have := HR.out.le HX.out hy hk; omega⟩
        case measure => simp [intOf]; omega
      · have hd' : decide (at_ < x.at_) = false := by simpa using hd
        go_wp2_with fail
        go_roundw
        case rel => exact ⟨m + 1, q, by omega, by omega, by go_num, rfl, hn.trans hn1, fun k y hy hk => by have := HR.out.le hy HX.out (by omega); omega, HHI.out⟩
        case measure => simp [intOf]; omega
    · have hlt' : ¬ (p : Int) < (q : Int) := by omega
      go_wp2_with fail
      go_ret
      exact ⟨p, ⟨by omega, HLO.out, fun k x hx h => HHI.out k x hx (by omega)⟩, rfl, hn⟩

set_option maxHeartbeats 400000 in
theorem above_any (l : List Ver) (v : Value) (at_ : Int) (w : World) (hl : l.length ≤ 1000000000) (hr : Rise l) (hs : SlIn w 3 Ver.enc v l) :
    Calls Try.prog 43 #[v, .int .u64 at_] w fun e w' => e = .returned (.int .i64 (cutN l at_)) ∧ New w w' := by
  obtain ⟨A, c, rfl, _, h⟩ := hs
  rcases h with rfl | ⟨b, off, rfl, hb, hc⟩
  · go_enter Try.func43, Try.ntmps43
    go_wp2_with fail
    go_in
    go_wp2_with fail
    refine wp_loop_rounds 1 ?_
    rw [rounds_succ]
    go_wp2_with fail
    go_ret
    exact ⟨rfl, ((New.refl w).alloc _).alloc _⟩
  · go_enter Try.func43, Try.ntmps43
    go_wp2_with fail
    refine (search_above l b off c at_ w.heap.size (w.heap.size + 1) _ hl hr (by simp; omega) (by simp) (by simp; omega) (by simp [go_sem]) (by simp [go_sem]) (fun k x hx => ?_)).mono ?_
    · rw [World.cell?_alloc_lt _ _ _ (by simp; omega), World.cell?_alloc_lt _ _ _ (by simpa using hb)]
      exact hc k x hx 0 _ rfl
    rintro e w1 ⟨k, hk, rfl, hn⟩
    go_wp2_with fail
    go_ret
    show Ending.returned (.int .i64 (k : Int)) = _ ∧ _
    exact ⟨by rw [hk.eq], (((New.refl w).alloc _).alloc _).trans hn⟩
/-- What a key had: the last version that is not above, unless it is gone. -/
def atV (l : List Ver) (k : Nat) : ByteArray × Int := if k = 0 then (⟨#[]⟩, 161) else match l[k - 1]? with | some x => if x.gone then (⟨#[]⟩, 161) else (x.val, 0) | none => (⟨#[]⟩, 161)

set_option maxHeartbeats 1000000 in
theorem at_any (l : List Ver) (v : Value) (at_ : Int) (w : World) (hl : l.length ≤ 1000000000) (hr : Rise l) (hs : SlIn w 3 Ver.enc v l) :
    Calls Try.prog 19 #[v, .int .u64 at_] w fun e w' => e = .returned (.tuple #[.string (atV l (cutN l at_)).1, .int .i64 (atV l (cutN l at_)).2]) ∧ New w w' := by
  have hs' := hs
  obtain ⟨A, c, rfl, hlc, h⟩ := hs
  go_enter Try.func19, Try.ntmps19
  go_wp2_with fail
  refine (above_any l _ at_ w hl hr hs').mono ?_
  rintro e w1 ⟨rfl, hn⟩
  have hkl := cutN_le l at_
  generalize hk : cutN l at_ = k at *
  have HK := Lib.hid hk.symm
  clear hk
  by_cases h0 : k = 0
  · subst h0
    go_wp2_with fail
    go_ret2
    exact ⟨by rw [← HK.out]; rfl, hn⟩
  · obtain ⟨x, hx⟩ : ∃ x, l[k - 1]? = some x := ⟨_, List.getElem?_eq_getElem (by omega)⟩
    rcases h with rfl | ⟨b, off, rfl, hb, hc⟩
    · simp at hx
    · have e1 : w1.cell? ⟨b, off + (k - 1) * 3 + 1, none⟩ = some (.string x.val) := (hn.cells.1 _ _ hb).trans (hc _ x hx 1 _ rfl)
      have e2 : w1.cell? ⟨b, off + (k - 1) * 3 + 2, none⟩ = some (.bool x.gone) := (hn.cells.1 _ _ hb).trans (hc _ x hx 2 _ rfl)
      have hk0 : ((k : Int) == 0) = false := by simpa using h0
      have hk1 : (1 : Int) ≤ (k : Int) := by omega
      have hk2 : (k : Int) - 1 < (l.length : Int) := by omega
      have hk3 : (0 : Int) ≤ (k : Int) - 1 := by omega
      obtain ⟨xa, xv, xg⟩ := x
      have hat : atV l k = if xg then (⟨#[]⟩, 161) else (xv, 0) := by simp [atV, h0, hx]
      have HAT := Lib.hid hat
      clear hat hx hc hs'
      cases xg
      all_goals
        go_wp2_with fail
        go_ret2
        exact ⟨by rw [← HK.out, HAT.out]; rfl, hn⟩

def firstN (l : List Ver) (from_ : Int) : Nat := if cutN l from_ = 0 then 0 else match l[cutN l from_ - 1]? with | some x => if x.gone then cutN l from_ else cutN l from_ - 1 | none => cutN l from_
theorem firstN_le (l : List Ver) (from_ : Int) : firstN l from_ ≤ l.length := by
  have := cutN_le l from_
  unfold firstN
  split
  · omega
  · split
    · split <;> omega
    · omega

set_option maxHeartbeats 1000000 in
theorem first_any (l : List Ver) (v : Value) (at_ : Int) (w : World) (hl : l.length ≤ 1000000000) (hr : Rise l) (hs : SlIn w 3 Ver.enc v l) :
    Calls Try.prog 45 #[v, .int .u64 at_] w fun e w' => e = .returned (.int .i64 (firstN l at_)) ∧ New w w' := by
  have hs' := hs
  obtain ⟨A, c, rfl, hlc, h⟩ := hs
  go_enter Try.func45, Try.ntmps45
  go_wp2_with fail
  refine (above_any l _ at_ w hl hr hs').mono ?_
  rintro e w1 ⟨rfl, hn⟩
  have hkl := cutN_le l at_
  have hfirst : firstN l at_ = if cutN l at_ = 0 then 0 else match l[cutN l at_ - 1]? with | some x => if x.gone then cutN l at_ else cutN l at_ - 1 | none => cutN l at_ := rfl
  generalize hk : cutN l at_ = k at *
  clear hk
  by_cases h0 : k = 0
  · subst h0
    have HF := Lib.hid hfirst
    clear hfirst
    go_wp2_with fail
    go_ret
    exact ⟨by rw [HF.out]; rfl, hn⟩
  · obtain ⟨x, hx⟩ : ∃ x, l[k - 1]? = some x := ⟨_, List.getElem?_eq_getElem (by omega)⟩
    rcases h with rfl | ⟨b, off, rfl, hb, hc⟩
    · simp at hx
    · have e2 : w1.cell? ⟨b, off + (k - 1) * 3 + 2, none⟩ = some (.bool x.gone) := (hn.cells.1 _ _ hb).trans (hc _ x hx 2 _ rfl)
      have hk0 : (0 : Int) < (k : Int) := by omega
      have hk1 : (1 : Int) ≤ (k : Int) := by omega
      have hk2 : (k : Int) - 1 < (l.length : Int) := by omega
      have hk3 : (0 : Int) ≤ (k : Int) - 1 := by omega
      obtain ⟨xa, xv, xg⟩ := x
      have hat : firstN l at_ = if xg then k else k - 1 := by rw [hfirst, if_neg h0, hx]
      have HAT := Lib.hid hat
      clear hat hx hc hs' hfirst
      cases xg
      all_goals
        go_wp2_with fail
        go_ret
        exact ⟨ret_int (by rw [HAT.out]; simp; try omega), hn⟩

end Go.Proofs.Ytdjnfnhmkfbfmaa
