/- The parts Ver, RpL, RpE, joined. -/
import Derived.Test.YtecniafnihpjmaaGreatDoorRows
import Derived.Test.YtecniafnihpjmaaGreatDoorSl
import Derived.Deep.QuietTactic
import Derived.BigQuiet
import Derived.Deep.RegionHeld3
import Derived.Test.YtecniafnihpjmaaGreatDoorTk
import Derived.Test.YtecniafnihpjmaaGreatDoorMg9
import Derived.Test.YtecniafnihpjmaaGreatDoorHz
import Derived.Test.YtecniafnihpjmaaGreatDoorRpZ2
import Derived.Test.YtecniafnihpjmaaGreatDoorMg12
import Derived.Test.YtecniafnihpjmaaGreatDoorMg10
/- Contracts of the package version and of its reference: each says what the call answers and which memory it may have changed. -/
namespace Go.Proofs.YtecniafnihpjmaaGreatDoor
open Go.RowKit Go.Lap
set_option linter.unusedVariables false

structure Ver where
  at_ : Int
  val : ByteArray
  gone : Bool

def Ver.enc (v : Ver) : List Value := [.int .u64 v.at_, .string v.val, .bool v.gone]
theorem Ver.encOk : Enc Ver.enc 3 := fun _ => ⟨rfl, by simp [Ver.enc, Value.oneCell']⟩
theorem verTy : SlTy Tryz.prog 120 131 (.agg #[.int .u64 0, .string ⟨#[]⟩, .bool false]) 3 32 := ⟨Tryz.underlying120, by kernel_rfl, rfl, by decide⟩

/-- Rising timestamps. -/
def Rise (l : List Ver) : Prop := ∀ (i : Nat) (x y : Ver), l[i]? = some x → l[i + 1]? = some y → x.at_ < y.at_

theorem Rise.lt {l : List Ver} (h : Rise l) : ∀ (d i : Nat) (x y : Ver), l[i]? = some x → l[i + d + 1]? = some y → x.at_ < y.at_
  | 0, i, x, y, hx, hy => h i x y hx hy
  | d + 1, i, x, y, hx, hy => by
    have hlt : i + d + 1 < l.length := by have := (List.getElem?_eq_some_iff.1 hy).1; omega
    have h1 := Rise.lt h d i x _ hx (List.getElem?_eq_getElem hlt)
    have h2 := h (i + d + 1) _ y (List.getElem?_eq_getElem hlt) hy
    omega
theorem Rise.le {l : List Ver} (h : Rise l) {i j : Nat} {x y : Ver} (hx : l[i]? = some x) (hy : l[j]? = some y) (hij : i ≤ j) : x.at_ ≤ y.at_ := by
  rcases Nat.lt_or_ge i j with hlt | hge
  · have := h.lt (j - i - 1) i x y hx (by rw [← hy]; congr 1; omega)
    omega
  · have : i = j := by omega
    subst this
    rw [hx] at hy
    cases hy
    exact Int.le_refl _

/-- How many are not above a timestamp, as a search finds it. -/
def Cut (l : List Ver) (at_ : Int) (k : Nat) : Prop := k ≤ l.length ∧ (∀ i x, l[i]? = some x → i < k → x.at_ ≤ at_) ∧ ∀ i x, l[i]? = some x → k ≤ i → at_ < x.at_

def cutN (l : List Ver) (at_ : Int) : Nat := (l.takeWhile (fun v => decide (v.at_ ≤ at_))).length
theorem cutN_le (l : List Ver) (at_ : Int) : cutN l at_ ≤ l.length := (List.takeWhile_prefix _).length_le
theorem Cut.eq {l : List Ver} {at_ : Int} {k : Nat} (h : Cut l at_ k) : k = cutN l at_ := by
  induction l generalizing k with
  | nil => have := h.1; simp at this; subst this; rfl
  | cons x l ih =>
    by_cases hx : x.at_ ≤ at_
    · have hk : 0 < k := by
        rcases Nat.eq_zero_or_pos k with h0 | h0
        · have := h.2.2 0 x rfl (by omega); omega
        · exact h0
      have := ih (k := k - 1) ⟨by have := h.1; simp at this; omega, fun i y hy hi => h.2.1 (i + 1) y (by simpa using hy) (by omega), fun i y hy hi => h.2.2 (i + 1) y (by simpa using hy) (by omega)⟩
      simp only [cutN, List.takeWhile_cons, hx, decide_true, if_true, List.length_cons] at *
      omega
    · have : k = 0 := by
        rcases Nat.eq_zero_or_pos k with h0 | h0
        · exact h0
        · have := h.2.1 0 x rfl h0; omega
      subst this
      simp [cutN, hx]

set_option maxHeartbeats 400000 in
theorem above1 (i : Nat) (l : List Ver) (b off c : Nat) (at_ : Int) (g1 g2 : Nat) (x : Ver) (w : World) (hi : i < l.length) (hl : l.length ≤ 1000000000) (hx : l[i]? = some x)
    (h1 : w.cell? ⟨g1, 0, none⟩ = some (.slice (some ⟨b, off, none⟩) l.length c)) (h2 : w.cell? ⟨g2, 0, none⟩ = some (.int .u64 at_)) (h3 : w.cell? ⟨b, off + i * 3, none⟩ = some (.int .u64 x.at_)) :
    Calls Tryz.prog 103 #[.int .i64 i, .pointer (some ⟨g1, 0, none⟩), .pointer (some ⟨g2, 0, none⟩)] w fun e w' => e = .returned (.bool (decide (at_ < x.at_))) ∧ New w w' := by
  have hlt : (i : Int) < (l.length : Int) := by omega
  have h0 : (0 : Int) ≤ (i : Int) := by omega
  clear hx
  go_enter Tryz.func103, Tryz.ntmps103
  go_wp2_with fail
  go_quiet (fail)
  go_wp2_with fail
  go_ret
  exact ⟨rfl, (New.refl _).drewN _⟩

set_option maxHeartbeats 1000000 in
theorem search_above (l : List Ver) (b off c : Nat) (at_ : Int) (g1 g2 : Nat) (w : World) (hl : l.length ≤ 1000000000) (hr : Rise l) (hg1 : g1 < w.heap.size) (hg2 : g2 < w.heap.size) (hb : b < w.heap.size)
    (h1 : w.cell? ⟨g1, 0, none⟩ = some (.slice (some ⟨b, off, none⟩) l.length c)) (h2 : w.cell? ⟨g2, 0, none⟩ = some (.int .u64 at_))
    (hc : ∀ k x, l[k]? = some x → w.cell? ⟨b, off + k * 3, none⟩ = some (.int .u64 x.at_)) :
    Calls Tryz.prog 102 #[.int .i64 l.length, .func (.func 103) #[] #[.pointer (some ⟨g1, 0, none⟩), .pointer (some ⟨g2, 0, none⟩)]] w fun e w' => ∃ k : Nat, Cut l at_ k ∧ e = .returned (.int .i64 k) ∧ New w w' := by
  go_enter Tryz.func102, Tryz.ntmps102
  go_wp2_with fail
  go_loopw [5, 6, 7] (fun i j _ wr => ∃ (p q : Nat), p ≤ q ∧ q ≤ l.length ∧ i = .int .i64 p ∧ j = .int .i64 q ∧ New w wr ∧ (∀ k x, l[k]? = some x → k < p → x.at_ ≤ at_) ∧ (∀ k x, l[k]? = some x → q ≤ k → at_ < x.at_)) (fun i j _ _ => (intOf j).toNat - (intOf i).toNat)
  case atStart => exact ⟨0, l.length, by omega, by omega, rfl, rfl, New.refl _, fun _ _ _ h => absurd h (by omega), fun k x hx h => absurd (List.getElem?_eq_some_iff.1 hx).1 (by omega)⟩
  case round =>
    obtain ⟨p, q, hpq, hq, rfl, rfl, hn, hlo, hhi⟩ := hrel
    have HLO := Lib.hid hlo
    have HHI := Lib.hid hhi
    have HC := Lib.hid hc
    have HR := Lib.hid hr
    clear hlo hhi hc hr
    by_cases hlt : p < q
    · have hlt' : (p : Int) < (q : Int) := by omega
      go_wp2_with fail
      rw [show ((p : Int) + (q : Int)) / 2 = (((p + q) / 2 : Nat) : Int) from by omega]
      have hm1 : p ≤ (p + q) / 2 := by omega
      have hm2 : (p + q) / 2 < q := by omega
      generalize (p + q) / 2 = m at *
      obtain ⟨x, hx⟩ : ∃ x, l[m]? = some x := ⟨_, List.getElem?_eq_getElem (by omega)⟩
      refine (above1 m l b off c at_ g1 g2 x wr (by omega) hl hx ((hn.cells.1 _ _ hg1).trans h1) ((hn.cells.1 _ _ hg2).trans h2) ((hn.cells.1 _ _ hb).trans (HC.out m x hx))).mono ?_
      rintro e w1 ⟨rfl, hn1⟩
      have HX := Lib.hid hx
      clear hx
      by_cases hd : at_ < x.at_
      · have hd' : decide (at_ < x.at_) = true := by simpa using hd
        go_wp2_with fail
        go_roundw
        case rel => exact ⟨p, m, by omega, by omega, rfl, rfl, hn.trans hn1, HLO.out, fun k y hy hk => by have := HR.out.le HX.out hy hk; omega⟩
        case measure => simp [intOf]; omega
      · have hd' : decide (at_ < x.at_) = false := by simpa using hd
        go_wp2_with fail
        go_roundw
        case rel => exact ⟨m + 1, q, by omega, by omega, by go_num, rfl, hn.trans hn1, fun k y hy hk => by have := HR.out.le hy HX.out (by omega); omega, HHI.out⟩
        case measure => simp [intOf]; omega
    · have hlt' : ¬ (p : Int) < (q : Int) := by omega
      go_wp2_with fail
      go_ret
      exact ⟨p, ⟨by omega, HLO.out, fun k x hx h => HHI.out k x hx (by omega)⟩, rfl, hn⟩

set_option maxHeartbeats 400000 in
theorem above_any (l : List Ver) (v : Value) (at_ : Int) (w : World) (hl : l.length ≤ 1000000000) (hr : Rise l) (hs : SlIn w 3 Ver.enc v l) :
    Calls Tryz.prog 91 #[v, .int .u64 at_] w fun e w' => e = .returned (.int .i64 (cutN l at_)) ∧ New w w' := by
  obtain ⟨A, c, rfl, _, h⟩ := hs
  rcases h with rfl | ⟨b, off, rfl, hb, hc⟩
  · go_enter Tryz.func91, Tryz.ntmps91
    go_wp2_with fail
    go_in
    go_wp2_with fail
    refine wp_loop_rounds 1 ?_
    rw [rounds_succ]
    go_wp2_with fail
    go_ret
    exact ⟨rfl, ((New.refl w).alloc _).alloc _⟩
  · go_enter Tryz.func91, Tryz.ntmps91
    go_wp2_with fail
    refine (search_above l b off c at_ w.heap.size (w.heap.size + 1) _ hl hr (by simp; omega) (by simp) (by simp; omega) (by simp [go_sem]) (by simp [go_sem]) (fun k x hx => ?_)).mono ?_
    · rw [World.cell?_alloc_lt _ _ _ (by simp; omega), World.cell?_alloc_lt _ _ _ (by simpa using hb)]
      exact hc k x hx 0 _ rfl
    rintro e w1 ⟨k, hk, rfl, hn⟩
    go_wp2_with fail
    go_ret
    show Ending.returned (.int .i64 (k : Int)) = _ ∧ _
    exact ⟨by rw [hk.eq], (((New.refl w).alloc _).alloc _).trans hn⟩
/-- What a key had: the last version that is not above, unless it is gone. -/
def atV (l : List Ver) (k : Nat) : ByteArray × Int := if k = 0 then (⟨#[]⟩, 161) else match l[k - 1]? with | some x => if x.gone then (⟨#[]⟩, 161) else (x.val, 0) | none => (⟨#[]⟩, 161)

set_option maxHeartbeats 1000000 in
theorem at_any (l : List Ver) (v : Value) (at_ : Int) (w : World) (hl : l.length ≤ 1000000000) (hr : Rise l) (hs : SlIn w 3 Ver.enc v l) :
    Calls Tryz.prog 63 #[v, .int .u64 at_] w fun e w' => e = .returned (.tuple #[.string (atV l (cutN l at_)).1, .int .i64 (atV l (cutN l at_)).2]) ∧ New w w' := by
  have hs' := hs
  obtain ⟨A, c, rfl, hlc, h⟩ := hs
  go_enter Tryz.func63, Tryz.ntmps63
  go_wp2_with fail
  refine (above_any l _ at_ w hl hr hs').mono ?_
  rintro e w1 ⟨rfl, hn⟩
  have hkl := cutN_le l at_
  generalize hk : cutN l at_ = k at *
  have HK := Lib.hid hk.symm
  clear hk
  by_cases h0 : k = 0
  · subst h0
    go_wp2_with fail
    go_ret2
    exact ⟨by rw [← HK.out]; rfl, hn⟩
  · obtain ⟨x, hx⟩ : ∃ x, l[k - 1]? = some x := ⟨_, List.getElem?_eq_getElem (by omega)⟩
    rcases h with rfl | ⟨b, off, rfl, hb, hc⟩
    · simp at hx
    · have e1 : w1.cell? ⟨b, off + (k - 1) * 3 + 1, none⟩ = some (.string x.val) := (hn.cells.1 _ _ hb).trans (hc _ x hx 1 _ rfl)
      have e2 : w1.cell? ⟨b, off + (k - 1) * 3 + 2, none⟩ = some (.bool x.gone) := (hn.cells.1 _ _ hb).trans (hc _ x hx 2 _ rfl)
      have hk0 : ((k : Int) == 0) = false := by simpa using h0
      have hk1 : (1 : Int) ≤ (k : Int) := by omega
      have hk2 : (k : Int) - 1 < (l.length : Int) := by omega
      have hk3 : (0 : Int) ≤ (k : Int) - 1 := by omega
      obtain ⟨xa, xv, xg⟩ := x
      have hat : atV l k = if xg then (⟨#[]⟩, 161) else (xv, 0) := by simp [atV, h0, hx]
      have HAT := Lib.hid hat
      clear hat hx hc hs'
      cases xg
      all_goals
        go_wp2_with fail
        go_ret2
        exact ⟨by rw [← HK.out, HAT.out]; rfl, hn⟩

def firstN (l : List Ver) (from_ : Int) : Nat := if cutN l from_ = 0 then 0 else match l[cutN l from_ - 1]? with | some x => if x.gone then cutN l from_ else cutN l from_ - 1 | none => cutN l from_
theorem firstN_le (l : List Ver) (from_ : Int) : firstN l from_ ≤ l.length := by
  have := cutN_le l from_
  unfold firstN
  split
  · omega
  · split
    · split <;> omega
    · omega

end Go.Proofs.YtecniafnihpjmaaGreatDoor

/- Chapter 24 (replica): the versions of all keys; Get. Printed by genRpL.py. -/
namespace Go.Proofs.YtecniafnihpjmaaGreatDoor
open Go.RowKit Go.Lap C
set_option linter.unusedVariables false
set_option linter.unusedSimpArgs false
/-- The versions of a key among writes. -/
def vsOf (P : List (Nat × Wri)) (k : ByteArray) : List Ver := (P.filter fun p => decide (p.2.key = k)).map fun p => ⟨p.1, p.2.val, p.2.gone⟩
theorem vsOf_snoc (P : List (Nat × Wri)) (t : Nat) (x : Wri) (k : ByteArray) : vsOf (P ++ [(t, x)]) k = if x.key = k then vsOf P k ++ [⟨t, x.val, x.gone⟩] else vsOf P k := by
  unfold vsOf
  rw [List.filter_append, List.map_append]
  by_cases h : x.key = k
  · rw [if_pos h]; simp [h]
  · rw [if_neg h]; simp [h]
theorem vsOf_len (P : List (Nat × Wri)) (k : ByteArray) : (vsOf P k).length ≤ P.length := by unfold vsOf; rw [List.length_map]; exact List.length_filter_le _ _
theorem zeroVs (w : World) : (zeroValue 120).run Tryz.prog w = .ok (.slice none 0 0) w := by kernel_rfl
/-- The map of all keys' versions; each row is its own. -/
def VsAt (w : World) (base mb : Nat) (P : List (Nat × Wri)) : Prop :=
  ∃ (m : Nat) (V : ByteArray → Value), m ≤ P.length ∧ MpAt Tryz.prog 9 litS okS w mb m (fun k => if vsOf P k = [] then none else some (V k)) ∧ (∀ k, Row w base 131 3 Ver.enc (V k) (vsOf P k)) ∧
    (∀ k, vsOf P k = [] → V k = .slice none 0 0) ∧ ∀ k k' b, k ≠ k' → (V k).ownBlock = some b → (V k').ownBlock ≠ some b
section
variable {w w' W wa : World} {S : Nat → Prop} {rp B D base mb : Nat} {L : RpL} {x x' : Rpl} {P : List (Nat × Wri)}
theorem VsAt.new (h : VsAt w base mb P) (hn : New w w') : VsAt w' base mb P := by
  obtain ⟨m, V, h1, h2, h3, h4, h5⟩ := h
  exact ⟨m, V, h1, h2.new hn, fun k => (h3 k).new hn, h4, h5⟩
theorem VsAt.put (h : VsAt w base mb P) (t : Nat) (x : Wri) (hk : okS x.key) (hP : P.length < maxLen) :
    ∃ v, (∀ w', New w w' → (Instr.lookup 121 (.map (some mb)) (.string x.key) false).run Tryz.prog w' = .ok v w') ∧ Row w base 131 3 Ver.enc v (vsOf P x.key) ∧
      ∀ w6 w7 v7, New w w6 → Row w7 base 131 3 Ver.enc v7 (vsOf P x.key ++ [⟨t, x.val, x.gone⟩]) → w6.grownBy w7 v.ownBlock → (v7.ownBlock = v.ownBlock ∨ v7.ownBlock = some w6.heap.size) →
        ∃ w8, (Instr.mapUpdate 121 (.map (some mb)) (.string x.key) v7).run Tryz.prog w7 = .ok () w8 ∧ VsAt w8 base mb (P ++ [(t, x)]) ∧ Upd (· = mb) w7 w8 := by
  obtain ⟨m, V, h1, h2, h3, h4, h5⟩ := h
  have hget : (if vsOf P x.key = [] then none else some (V x.key)).getD (.slice none 0 0) = V x.key := by
    split
    · rename_i h0; exact (h4 _ h0).symm
    · rfl
  refine ⟨V x.key, fun w' hn => ?_, h3 _, fun w6 w7 v7 hn h7 hg hv => ?_⟩
  · have := mpGetR keyS.toKeyB (h2.new hn) Tryz.underlying121 (zeroVs _) x.key hk
    rw [hget] at this
    exact this
  · have hou : Upd (fun i => (V x.key).ownBlock = some i) w6 w7 := (Upd.refl _ w6).grown hg (fun i _ e => e)
    have hm6 := h2.new hn
    have hm7 := hm6.upd hou (fun e => Row.ne_map ((h3 x.key).new hn) hm6 e)
    obtain ⟨w8, hrun, hm8, hu8⟩ := mpPutR keyS.toKeyB hm7 Tryz.underlying121 (by omega) x.key hk v7
    refine ⟨w8, hrun, ⟨_, setD V x.key v7, ?_, hm8.congr fun k _ => ?_, fun k => ?_, fun k h0 => ?_, fun k k' b hkk hb hb' => ?_⟩, hu8⟩
    · rw [List.length_append]
      split <;> simp <;> omega
    · rw [vsOf_snoc]
      by_cases hkx : k = x.key
      · subst hkx
        rw [if_pos rfl, if_pos rfl, setD_same, if_neg (by simp)]
      · rw [if_neg hkx, if_neg (show ¬ x.key = k from fun e => hkx e.symm), setD_ne _ _ hkx]
    · rw [vsOf_snoc]
      by_cases hkx : k = x.key
      · subst hkx
        rw [if_pos rfl, setD_same]
        exact h7.upd hu8 (fun b hb e => Row.ne_map h7 hm7 (e ▸ hb))
      · rw [if_neg (show ¬ x.key = k from fun e => hkx e.symm), setD_ne _ _ hkx]
        have hr6 := (h3 k).new hn
        have hr7 := hr6.upd hou (fun b hb e => h5 k x.key b hkx hb e)
        exact hr7.upd hu8 (fun b hb e => Row.ne_map hr7 hm7 (e ▸ hb))
    · rw [vsOf_snoc] at h0
      by_cases hkx : k = x.key
      · subst hkx
        rw [if_pos rfl] at h0
        simp at h0
      · rw [if_neg (show ¬ x.key = k from fun e => hkx e.symm)] at h0
        rw [setD_ne _ _ hkx]; exact h4 k h0
    · have hfr : ∀ j b, (V j).ownBlock = some b → b < w6.heap.size := fun j b hb => ((h3 j).new hn).lt b hb |>.2
      by_cases hk1 : k = x.key
      · subst hk1
        rw [setD_same] at hb
        rw [setD_ne _ _ (fun e => hkk e.symm)] at hb'
        rcases hv with hv | hv
        · rw [hv] at hb; exact h5 x.key k' b hkk hb hb'
        · rw [hv] at hb; cases hb; exact absurd (hfr k' _ hb') (Nat.lt_irrefl _)
      · rw [setD_ne _ _ hk1] at hb
        by_cases hk2 : k' = x.key
        · subst hk2
          rw [setD_same] at hb'
          rcases hv with hv | hv
          · rw [hv] at hb'; exact h5 k x.key b hkk hb hb'
          · rw [hv] at hb'; cases hb'; exact absurd (hfr k _ hb) (Nat.lt_irrefl _)
        · rw [setD_ne _ _ hk2] at hb'
          exact h5 k k' b hkk hb hb'
/-- The writes of the first batches, with their timestamps. -/
def wsUp (l : List Btc) (i : Nat) : List (Nat × Wri) := (List.range i).flatMap fun i => (((l[i]?).getD Btc.none).l).map fun x => (i + 1, x)
theorem wsUp_next {l : List Btc} {i : Nat} {b : Btc} (h : l[i]? = some b) : wsUp l (i + 1) = wsUp l i ++ b.l.map fun x => (i + 1, x) := by
  unfold wsUp
  rw [List.range_succ, List.flatMap_append]
  simp [h]
theorem wsUp_len {l : List Btc} {M : Nat} (h : ∀ b ∈ l, b.l.length ≤ M) : ∀ i, (wsUp l i).length ≤ i * M
  | 0 => by simp [wsUp]
  | i + 1 => by
    have h1 := wsUp_len h i
    cases hb : l[i]? with
    | none =>
      have : wsUp l (i + 1) = wsUp l i := by
        unfold wsUp
        rw [List.range_succ, List.flatMap_append]
        simp [hb, Btc.none]
      rw [this, Nat.add_mul]; omega
    | some b =>
      rw [wsUp_next hb, List.length_append, List.length_map, Nat.add_mul]
      have := h b (List.mem_of_getElem? hb)
      omega
theorem VsAt.lt (h : VsAt w base mb P) : mb < w.heap.size := let ⟨_, _, _, h, _⟩ := h; h.lt
def VPost (w : World) (P : List (Nat × Wri)) (e : Ending) (w' : World) : Prop := ∃ mb, e = .returned (.map (some mb)) ∧ VsAt w' w.heap.size mb P ∧ New w w'
theorem take_snocW {l : List Wri} {k : Nat} {y : Wri} (h : l[k]? = some y) : l.take (k + 1) = l.take k ++ [y] := by rw [List.take_add_one, h]; rfl
set_option maxRecDepth 100000 in
set_option maxHeartbeats 8000000 in
theorem versions_any (h : RpAt w rp B L x) (a : Nat) (ha : a ≤ x.l.length) (hB : B ≤ 1000) (hok : ∀ b ∈ x.l, b.l.length ≤ 1000 ∧ ∀ y ∈ b.l, okS y.key) :
    Calls Tryz.prog 64 #[.pointer (some ⟨rp, 0, none⟩), .int .u64 (a : Int)] w (VPost w (wsUp x.l a)) := by
  have hmk := @run_makeMap Tryz.prog
  have hN := (New.refl w).alloc (.map #[] 0)
  have hR := h.new hN
  have HR := Lib.hid h
  have HVS : Hid (VsAt (w.alloc (.map #[] 0)) w.heap.size w.heap.size (wsUp x.l 0)) := Lib.hid ⟨0, fun _ => .slice none 0 0, Nat.le_refl _, (MpAt.made Tryz.prog 9 litS okS w).congr (fun k _ => (if_pos (show vsOf (wsUp x.l 0) k = [] from rfl)).symm), fun k => Row.nil _ _ _ _ _, fun _ _ => rfl, fun k k' b _ e => by cases e⟩
  have HN := Lib.hid hN
  have hll := h.ll
  obtain ⟨A0, n0, hv0⟩ := h.l.shape
  have HV0 := Lib.hid hv0
  have hcap := (show BtRow w 0 (.slice A0 x.l.length n0) x.l by rw [← hv0]; exact h.l)
  have hcap2 : x.l.length ≤ n0 := by obtain ⟨ps, hps, h2, _⟩ := hcap; have := (h2.slIn BtV.encOk).cap_le; rw [← hps, List.length_map]; exact this.1
  obtain ⟨g0, c0, c1, c2, c3, c4, c5, c6, cz⟩ := hR.facts
  rw [hv0] at c4
  have HOK := Lib.hid hok
  have ha1 : (a : Int) ≤ (n0 : Int) := by omega
  have ha2 : (0 : Int) ≤ (a : Int) := by omega
  clear h hN hR hok hv0 hcap
  go_enter Tryz.func64, Tryz.ntmps64
  go_upto_region 3 with fail
  generalize w.alloc (.map #[] 0) = W at *
  go_wp2_with fail
  go_loopw [6, 7, 9, 18, 26] (fun _ _ _ i _ wr => ∃ k : Nat, k ≤ a ∧ i = .int .i64 (k : Int) ∧ VsAt wr w.heap.size w.heap.size (wsUp x.l k) ∧ New w wr) (fun _ _ _ i _ _ => a - (intOf i).toNat)
  case atStart => exact ⟨0, by omega, rfl, HVS.out, HN.out⟩
  case round =>
    obtain ⟨k, hk, rfl, hvs, hn⟩ := hrel
    have HVR := Lib.hid hvs
    have HNR := Lib.hid hn
    by_cases hlt : k < a
    · obtain ⟨b, hb⟩ : ∃ b, x.l[k]? = some b := ⟨_, List.getElem?_eq_getElem (by omega)⟩
      obtain ⟨g, off, cap, A, cp, hv, hcap, hba, e0', e1', e2', e3', hg'⟩ := HR.out.l.at_ hb
      rw [HV0.out] at hv
      cases hv
      have e0 := (hn.cells.1 g _ hg').trans e0'
      have e1 := (hn.cells.1 g _ hg').trans e1'
      have e2 := (hn.cells.1 g _ hg').trans e2'
      have e3 := (hn.cells.1 g _ hg').trans e3'
      have hg := Nat.lt_of_lt_of_le hg' hn.size
      clear e0' e1' e2' e3' hg'
      have hlt2 : (k : Int) < (a : Int) := by omega
      have hk0 : (0 : Int) ≤ (k : Int) := by omega
      have HBK := Lib.hid (HOK.out b (List.mem_of_getElem? hb))
      have HUP := Lib.hid (wsUp_next hb)
      have HKL : Hid (k < x.l.length ∧ x.l.length ≤ 1000 ∧ (wsUp x.l k).length ≤ k * 1000) := Lib.hid ⟨by omega, by omega, wsUp_len (fun b hb => (HOK.out b hb).1) k⟩
      obtain ⟨bc, br, bs, bl⟩ := b
      dsimp only at e0 e1 e2 e3 hba
      have hnx := (New.refl wr).alloc (.cells #[.int .u64 (bc : Int), .int .u64 (br : Int), .int .u64 (bs : Int), .slice A bl.length cp] 40)
      have hbx := Blk.mk_new wr 40 #[.int .u64 (bc : Int), .int .u64 (br : Int), .int .u64 (bs : Int), .slice A bl.length cp]
      have HBX := Lib.hid hbx
      have HBA := Lib.hid hba
      have HNX := Lib.hid hnx
      have HVX := Lib.hid (hvs.new hnx)
      clear hb hba hnx hvs hn hbx
      go_upto_region 5 with fail
      generalize wr.alloc (.cells #[.int .u64 (bc : Int), .int .u64 (br : Int), .int .u64 (bs : Int), .slice A bl.length cp] 40) = wx at *
      clear e0 e1 e2 e3
      have hbx := HBX.out
      obtain ⟨d0, d1, d2, d3, d4, dz⟩ := Blk4K hbx
      clear hbx
      go_wp2_with fail
      obtain ⟨wo, rfl⟩ : ∃ wo, wo = wr := ⟨_, rfl⟩
      go_loopw [9, 26] (fun _ i wr => ∃ j : Nat, j ≤ bl.length ∧ i = .int .i64 (j : Int) ∧ VsAt wr w.heap.size w.heap.size (wsUp x.l k ++ (bl.take j).map fun x => (k + 1, x)) ∧ New w wr) (fun _ i _ => bl.length - (intOf i).toNat)
      case atStart => exact ⟨0, by omega, rfl, by rw [List.take_zero, List.map_nil, List.append_nil]; exact HVX.out, HNR.out.trans HNX.out⟩
      case round =>
        obtain ⟨j, hj, rfl, hvs, hn⟩ := hrel
        by_cases hjl : j < bl.length
        · obtain ⟨y, hy⟩ : ∃ y, bl[j]? = some y := ⟨_, List.getElem?_eq_getElem hjl⟩
          obtain ⟨A', cp', hv', _, hh⟩ := (HBA.out.new hn).sl
          cases hv'
          rcases hh with h0 | ⟨gb, ob, cs, rfl, hbb, hc⟩
          · dsimp only at h0; rw [h0] at hjl; simp at hjl
          have hj2 : (j : Int) < (bl.length : Int) := by omega
          have hj0 : (0 : Int) ≤ (j : Int) := by omega
          obtain ⟨e0, e1, e2⟩ := SlIn.three (fun k x h j u hu => (hbb.cell _).trans (hc k x h j u hu)) hy
          have hgb := hbb.lt
          have hnw := (New.refl wr).alloc (.cells #[.string y.key, .string y.val, .bool y.gone] 97)
          have hby := Blk.mk_new wr 97 #[.string y.key, .string y.val, .bool y.gone]
          have HBY := Lib.hid hby
          have HNY := Lib.hid hnw
          have HNW := Lib.hid (hn.trans hnw)
          have HKY := Lib.hid (HBK.out.2 y (List.mem_of_getElem? hy))
          have HPL : Hid ((wsUp x.l k ++ (bl.take j).map fun x => (k + 1, x)).length ≤ 1001000) := Lib.hid (by
            have h1 := HKL.out
            have h2 := HBK.out.1
            (try dsimp only at h2)
            rw [List.length_append, List.length_map, List.length_take]
            omega)
          have HVY := Lib.hid ((hvs.new hnw).put (k + 1) y HKY.out (by have := HPL.out; unfold maxLen; omega))
          have HTK : Hid ((wsUp x.l k ++ (bl.take j).map fun x => (k + 1, x)) ++ [(k + 1, y)] = wsUp x.l k ++ (bl.take (j + 1)).map fun x => (k + 1, x)) := Lib.hid (by rw [take_snocW hy, List.map_append, List.append_assoc]; rfl)
          have hlbase : Hid (w.heap.size ≤ wr.heap.size) := Lib.hid hn.size
          have hw1 : IntKind.i64.wrap ((k : Int) + 1) = (k : Int) + 1 := IntWalk.i64_in _ (by have := HKL.out; omega)
          have hw2 : IntKind.u64.wrap ((k : Int) + 1) = (k : Int) + 1 := IntWalk.u64_in _ (by have := HKL.out; omega)
          clear hy hbb hc hnw hby hvs
          go_upto_region 8 with fail
          generalize wr.alloc (.cells #[.string y.key, .string y.val, .bool y.gone] 97) = wy at *
          clear e0 e1 e2 hgb
          obtain ⟨f0, f1, f2, f3, fz⟩ := Blk3J HBY.out
          obtain ⟨v5, hlk, hrow5, hput⟩ := HVY.out
          have HROW5 := Lib.hid hrow5
          rw [show ((k + 1 : Nat) : Int) = (k : Int) + 1 by omega] at hput
          have HPUT := Lib.hid hput
          have HLK := Lib.hid hlk
          have hlk0 := hlk _ (New.refl wy).drew
          have hvb : ¬ v5.ownBlock = some wr.heap.size := fun e => hrow5.ne_blk HBY.out (by decide) e
          have HVB := Lib.hid hvb
          clear hlk hrow5 hput hvb
          refine wp_region_z [17] (fun w' => ∀ o, w'.cell? ⟨wr.heap.size, o, none⟩ = wy.cell? ⟨wr.heap.size, o, none⟩) (by kernel_rfl) (fun _ => rfl) (fun hHeld => ?_)
          refine tkZN (i := 0) rfl ?_
          try simp only [Act.put, sA, sZ, sS]
          refine tkZN (i := 1) rfl ?_
          try simp only [Act.put, sA, sZ, sS]
          refine tkZN (i := 2) rfl ?_
          try simp only [Act.put, sA, sZ, sS]
          refine tkZN (i := 3) rfl ?_
          try simp only [Act.put, sA, sZ, sS]
          refine tkZN (i := 4) rfl ?_
          try simp only [Act.put, sA, sZ, sS]
          refine tkZN (i := 5) rfl ?_
          try simp only [Act.put, sA, sZ, sS]
          refine tkZN (i := 7) rfl ?_
          try simp only [Act.put, sA, sZ, sS]
          refine tkZN (i := 8) rfl ?_
          try simp only [Act.put, sA, sZ, sS]
          refine tkZN (i := 9) rfl ?_
          try simp only [Act.put, sA, sZ, sS]
          refine tkZN (i := 10) rfl ?_
          try simp only [Act.put, sA, sZ, sS]
          refine tkZN (i := 11) rfl ?_
          try simp only [Act.put, sA, sZ, sS]
          refine tkZN (i := 12) rfl ?_
          try simp only [Act.put, sA, sZ, sS]
          refine tkZN (i := 13) rfl ?_
          try simp only [Act.put, sA, sZ, sS]
          refine tkZN (i := 14) rfl ?_
          try simp only [Act.put, sA, sZ, sS]
          refine wpZ_ready (rs := [6, 15]) (by kernel_rfl) (by simp) ?_
          refine rdZN rfl (fun K hK => ?_) (rdZN rfl (fun K hK => ?_) AllZ.nil)
          · go_simp
            refine hK.out _ _ ?_ (fun hHeld => ?_)
            · exact hHeld
            clear hK K
            try simp only [Act.put, sA, sZ, sS]
            refine stZN (i := 15) rfl (fun K hK => ?_)
            go_simp
            have hn6 := ((New.refl wy).alloc (.cells #[.int .u64 ((k : Int) + 1), .string y.val, .bool y.gone] 131)).drew
            have HP6 := Lib.hid (Blk.mk_new wy 131 #[.int .u64 ((k : Int) + 1), .string y.val, .bool y.gone]).drew
            have HN6 := Lib.hid hn6
            have k6 := fun o => keepR (S := fun _ => False) (Upd.new hn6) f0 (fun h => h) o
            clear hn6
            generalize (wy.alloc (.cells #[.int .u64 ((k : Int) + 1), .string y.val, .bool y.gone] 131)).drew = w6 at *
            have hlk0 := HLK.out _ HN6.out
            refine hK.out _ _ ?_ (fun hHeld => ?_)
            · exact k6
            clear hK K
            try simp only [Act.put, sA, sZ, sS]
            refine stZN (i := 16) rfl (fun K hK => ?_)
            refine step_appR (m := [(⟨(k : Int) + 1, y.val, y.gone⟩ : Ver)]) verTy Ver.encOk rfl (.tmp 36) (.tmp 45) rfl rfl rfl (HROW5.out.new HN6.out) (SlIn.one HP6.out Ver.encOk rfl) (by have := HPL.out; have := vsOf_len (wsUp x.l k ++ (bl.take j).map fun x => (k + 1, x)) y.key; rw [List.length_singleton]; unfold maxLen; omega) (by have := HPL.out; have := vsOf_len (wsUp x.l k ++ (bl.take j).map fun x => (k + 1, x)) y.key; rw [List.length_singleton]; omega) (by have := hlbase.out; have := HNY.out.size; have := HN6.out.size; omega) ?_
            intro v7 w7 h7 hg7 hv7
            have hou : Upd (fun i => v5.ownBlock = some i) w6 w7 := (Upd.refl _ w6).grown hg7 (fun i _ e => e)
            have k7 := fun o => (keepR hou (Nat.lt_of_lt_of_le f0 HN6.out.size) HVB.out o).trans (k6 o)
            obtain ⟨w8, hrun, hv8, hu8⟩ := HPUT.out w6 w7 v7 HN6.out h7 hg7 hv7
            have HV8 := Lib.hid hv8
            have HN8 : Hid (New w w8) := Lib.hid (((HNW.out.trans HN6.out).grown hg7 (fun i hi => (HROW5.out.lt i hi).1)).upd hu8 (fun i hi => by omega))
            clear h7 hg7 hv7 hou hv8 hu8 hlk0
            refine hK.out _ _ ?_ (fun hHeld => ?_)
            · exact k7
            clear hK K
            try simp only [Act.put, sA, sZ, sS]
            refine stZZ (i := 17) rfl (fun K hK => ?_)
            go_simp
            refine hK.out _ _ ?_
            clear hK K
            try simp only [Act.put, sA, sZ, sS]
            refine wpZ_done (by kernel_rfl) ?_ _
            clear hHeld hrun k6 k7
            have hbl : bl.length ≤ 1000 := HBK.out.1
            go_wp2_with fail
            go_roundw
            case rel => exact ⟨j + 1, by omega, by go_num, by rw [← HTK.out]; exact HV8.out, HN8.out⟩
            case measure => simp [intOf]; omega
          · go_simp
            have hn6 := ((New.refl wy).alloc (.cells #[.int .u64 ((k : Int) + 1), .string y.val, .bool y.gone] 131)).drew
            have HP6 := Lib.hid (Blk.mk_new wy 131 #[.int .u64 ((k : Int) + 1), .string y.val, .bool y.gone]).drew
            have HN6 := Lib.hid hn6
            have k6 := fun o => keepR (S := fun _ => False) (Upd.new hn6) f0 (fun h => h) o
            clear hn6
            generalize (wy.alloc (.cells #[.int .u64 ((k : Int) + 1), .string y.val, .bool y.gone] 131)).drew = w6 at *
            have hlk0 := HLK.out _ HN6.out
            refine hK.out _ _ ?_ (fun hHeld => ?_)
            · exact k6
            clear hK K
            try simp only [Act.put, sA, sZ, sS]
            refine stZN (i := 6) rfl (fun K hK => ?_)
            go_simp
            refine hK.out _ _ ?_ (fun hHeld => ?_)
            · exact hHeld
            clear hK K
            try simp only [Act.put, sA, sZ, sS]
            refine stZN (i := 16) rfl (fun K hK => ?_)
            refine step_appR (m := [(⟨(k : Int) + 1, y.val, y.gone⟩ : Ver)]) verTy Ver.encOk rfl (.tmp 36) (.tmp 45) rfl rfl rfl (HROW5.out.new HN6.out) (SlIn.one HP6.out Ver.encOk rfl) (by have := HPL.out; have := vsOf_len (wsUp x.l k ++ (bl.take j).map fun x => (k + 1, x)) y.key; rw [List.length_singleton]; unfold maxLen; omega) (by have := HPL.out; have := vsOf_len (wsUp x.l k ++ (bl.take j).map fun x => (k + 1, x)) y.key; rw [List.length_singleton]; omega) (by have := hlbase.out; have := HNY.out.size; have := HN6.out.size; omega) ?_
            intro v7 w7 h7 hg7 hv7
            have hou : Upd (fun i => v5.ownBlock = some i) w6 w7 := (Upd.refl _ w6).grown hg7 (fun i _ e => e)
            have k7 := fun o => (keepR hou (Nat.lt_of_lt_of_le f0 HN6.out.size) HVB.out o).trans (k6 o)
            obtain ⟨w8, hrun, hv8, hu8⟩ := HPUT.out w6 w7 v7 HN6.out h7 hg7 hv7
            have HV8 := Lib.hid hv8
            have HN8 : Hid (New w w8) := Lib.hid (((HNW.out.trans HN6.out).grown hg7 (fun i hi => (HROW5.out.lt i hi).1)).upd hu8 (fun i hi => by omega))
            clear h7 hg7 hv7 hou hv8 hu8 hlk0
            refine hK.out _ _ ?_ (fun hHeld => ?_)
            · exact k7
            clear hK K
            try simp only [Act.put, sA, sZ, sS]
            refine stZZ (i := 17) rfl (fun K hK => ?_)
            go_simp
            refine hK.out _ _ ?_
            clear hK K
            try simp only [Act.put, sA, sZ, sS]
            refine wpZ_done (by kernel_rfl) ?_ _
            clear hHeld hrun k6 k7
            have hbl : bl.length ≤ 1000 := HBK.out.1
            go_wp2_with fail
            go_roundw
            case rel => exact ⟨j + 1, by omega, by go_num, by rw [← HTK.out]; exact HV8.out, HN8.out⟩
            case measure => simp [intOf]; omega
        · have hj2 : ¬ (j : Int) < (bl.length : Int) := by omega
          have HF : Hid (VsAt wr w.heap.size w.heap.size (wsUp x.l (k + 1))) := Lib.hid (by rw [HUP.out]; (try dsimp only); rw [List.take_of_length_le (by omega)] at hvs; exact hvs)
          have HNF := Lib.hid hn
          clear hvs hn
          go_wp2_with fail
          go_roundw
          case rel => exact ⟨k + 1, by omega, by go_num, HF.out, HNF.out⟩
          case measure => simp [intOf]; omega
    · obtain rfl : k = a := by omega
      have hlt2 : ¬ (k : Int) < (k : Int) := by omega
      clear hvs hn
      go_wp2_with fail
      go_ret
      exact ⟨w.heap.size, rfl, HVR.out, HNR.out⟩
theorem VsAt.look (h : VsAt w base mb P) (k : ByteArray) : ∃ (m : Nat) (V : ByteArray → Value), MpAt Tryz.prog 9 litS okS w mb m (fun k => if vsOf P k = [] then none else some (V k)) ∧ Row w base 131 3 Ver.enc (V k) (vsOf P k) ∧ (if vsOf P k = [] then none else some (V k)).getD (.slice none 0 0) = V k := by
  obtain ⟨m, V, h1, h2, h3, h4, h5⟩ := h
  refine ⟨m, V, h2, h3 k, ?_⟩
  split
  · rename_i h0; exact (h4 _ h0).symm
  · rfl
/-- What Get answers. -/
def Rpl.get (x : Rpl) (key : ByteArray) (a : Nat) : ByteArray × Int :=
  if x.cl < a then (⟨#[]⟩, 242)
  else if (atV (vsOf (wsUp x.l a) key) (cutN (vsOf (wsUp x.l a) key) a)).2 = 0 then ((atV (vsOf (wsUp x.l a) key) (cutN (vsOf (wsUp x.l a) key) a)).1, 0) else (⟨#[]⟩, 243)
set_option maxRecDepth 100000 in
set_option maxHeartbeats 4000000 in
theorem rget (h : RpAt w rp B L x) (key : ByteArray) (a : Nat) (hk : okS key) (hcl : x.cl ≤ x.l.length) (hB : B ≤ 1000) (hok : ∀ b ∈ x.l, b.l.length ≤ 1000 ∧ ∀ y ∈ b.l, okS y.key) (hr : Rise (vsOf (wsUp x.l a) key)) :
    Calls Tryz.prog 31 #[.pointer (some ⟨rp, 0, none⟩), .string key, .int .u64 (a : Int)] w fun e w' => e = .returned (.tuple #[.string (x.get key a).1, .int .i64 (x.get key a).2]) ∧ New w w' := by
  obtain ⟨g0, c0, c1, c2, c3, c4, c5, c6, cz⟩ := h.facts
  have HR := Lib.hid h
  have HOK := Lib.hid hok
  have HRI := Lib.hid hr
  have hll := h.ll
  have HK := Lib.hid hk
  clear h hok hr hk
  by_cases ha : x.cl < a
  · have HF : Hid (x.get key a = (⟨#[]⟩, 242)) := Lib.hid (by unfold Rpl.get; rw [if_pos ha])
    have ha2 : (x.cl : Int) < (a : Int) := by omega
    clear ha
    go_enter Tryz.func31, Tryz.ntmps31
    go_wp2_with fail
    go_ret2
    rw [HF.out]
    exact ⟨rfl, New.refl _⟩
  · have HF : Hid (x.get key a = if (atV (vsOf (wsUp x.l a) key) (cutN (vsOf (wsUp x.l a) key) a)).2 = 0 then ((atV (vsOf (wsUp x.l a) key) (cutN (vsOf (wsUp x.l a) key) a)).1, 0) else (⟨#[]⟩, 243)) := Lib.hid (by unfold Rpl.get; rw [if_neg ha])
    have ha2 : ¬ (x.cl : Int) < (a : Int) := by omega
    have hal : a ≤ x.l.length := by omega
    have HPL : Hid ((wsUp x.l a).length ≤ 1000000) := Lib.hid (by
      have h1 := wsUp_len (l := x.l) (M := 1000) (fun b hb => (HOK.out b hb).1) a
      have h2 : a * 1000 ≤ 1000 * 1000 := Nat.mul_le_mul_right _ (by omega)
      omega)
    go_enter Tryz.func31, Tryz.ntmps31
    go_wp2_with fail
    refine (versions_any HR.out a hal hB HOK.out).mono ?_
    rintro e w5 ⟨mb, rfl, hvs, hn5⟩
    obtain ⟨m, V, hmp, hrow, hget⟩ := hvs.look key
    have HMP := Lib.hid hmp
    have HG := Lib.hid hget
    have HROW := Lib.hid hrow
    have HN5 := Lib.hid hn5
    clear hvs hmp hrow hget hn5 c0 c1 c2 c3 c4 c5 c6 cz g0
    go_wp2_with (at_lookup; refine wpList_mp_at keyS.toKeyB rfl _ _ 121 120 rfl Tryz.underlying121 (zeroVs _) rfl HMP.out key HK.out rfl ?_; rw [HG.out])
    refine (at_any (vsOf (wsUp x.l a) key) (V key) (a : Int) w5 (by have := vsOf_len (wsUp x.l a) key; have := HPL.out; omega) HRI.out (HROW.out.slIn Ver.encOk)).mono ?_
    rintro e w6 ⟨rfl, hn6⟩
    have HN6 := Lib.hid (HN5.out.trans hn6)
    clear hn6
    generalize atV (vsOf (wsUp x.l a) key) (cutN (vsOf (wsUp x.l a) key) (a : Int)) = r at *
    obtain ⟨r1, r2⟩ := r
    by_cases h0 : r2 = 0
    · subst h0
      have HF2 : Hid (x.get key a = (r1, 0)) := Lib.hid (by rw [HF.out, if_pos rfl])
      go_wp2_with fail
      go_ret2
      rw [HF2.out]
      exact ⟨rfl, HN6.out⟩
    · have h0b : (r2 != 0) = true := bne_iff_ne.2 h0
      have HF2 : Hid (x.get key a = (⟨#[]⟩, 243)) := Lib.hid (by rw [HF.out, if_neg h0])
      go_wp2_with fail
      go_ret2
      rw [HF2.out]
      exact ⟨rfl, HN6.out⟩
end
end Go.Proofs.YtecniafnihpjmaaGreatDoor

/- Chapter 24 (replica): the law's own example answers true, and changes nothing that was there. Printed by genRpE.py. -/
namespace Go.Proofs.YtecniafnihpjmaaGreatDoor
open Go.RowKit Go.Lap C
set_option linter.unusedVariables false
set_option linter.unusedSimpArgs false
section
variable {w w' w0 W wa : World} {S : Nat → Prop} {rp ra rb B D : Nat} {L La Lb : RpL} {xa xb x : Rpl}
/-- Two replicas side by side; nothing that was there has changed. -/
structure Two (w0 w : World) (B ra rb : Nat) (La Lb : RpL) (xa xb : Rpl) : Prop where
  a : RpAt w ra B La xa
  b : RpAt w rb B Lb xb
  dj : ∀ k, RpF ra La k → ¬ RpF rb Lb k
  ga : ∀ k, RpF ra La k → w0.heap.size ≤ k
  gb : ∀ k, RpF rb Lb k → w0.heap.size ≤ k
  nw : New w0 w
theorem Two.new (h : Two w0 w B ra rb La Lb xa xb) (hn : New w w') : Two w0 w' B ra rb La Lb xa xb := ⟨h.a.new hn, h.b.new hn, h.dj, h.ga, h.gb, h.nw.trans hn⟩
theorem Two.setA (h : Two w0 w B ra rb La Lb xa xb) {C : Nat} (hp : RpPost w ra C La x w') (hC : B ≤ C) : ∃ L', Two w0 w' C ra rb L' Lb x xb := by
  obtain ⟨L', h1, h2, h3⟩ := hp
  refine ⟨L', ⟨h1, (h.b.upd h3 (fun k hk hk2 => h.dj k hk2 hk) h.a.offW h.a.offI).mono hC, fun k hk hk2 => ?_, fun k hk => ?_, h.gb, h.nw.upd h3 h.ga⟩⟩
  · rcases h2 k hk with h4 | h4
    · exact h.dj k h4 hk2
    · have := h.b.lt k hk2; omega
  · rcases h2 k hk with h4 | h4
    · exact h.ga k h4
    · exact Nat.le_trans h.nw.size h4
theorem Two.swap (h : Two w0 w B ra rb La Lb xa xb) : Two w0 w B rb ra Lb La xb xa := ⟨h.b, h.a, fun k hk hk2 => h.dj k hk2 hk, h.gb, h.ga, h.nw⟩
theorem blkTwoE (w : World) (o1 : Obj) (t : TypeId) (cs : Array Value) : Blk ((w.alloc o1).alloc (.cells cs t)) (w.heap.size + 1) t cs := by
  have := Blk.mk_new (w.alloc o1) t cs
  rw [World.size_alloc] at this
  exact this
set_option maxHeartbeats 2000000 in
theorem one_any (c : Nat) (hc : c < big) (k v : ByteArray) (w : World) : Calls Tryz.prog 36 #[.int .u64 (c : Int), .string k, .string v] w fun e w' => ∃ y : BtV, e = .returned y.val ∧ y.b = ⟨c, 1, 0, [⟨k, v, false⟩]⟩ ∧ BtAt w' y ∧ New w w' := by
  go_enter Tryz.func36, Tryz.ntmps36
  go_wp2_with fail
  have hb := blkTwoE w (.cells #[.int .u64 (c : Int), .int .u64 1, .int .u64 0, .slice (some ⟨w.heap.size + 1, 0, none⟩) 1 1] 40) 97 #[.string k, .string v, .bool false]
  exact bodyPost_ret (v := .agg #[.int .u64 (c : Int), .int .u64 1, .int .u64 0, .slice (some ⟨w.heap.size + 1, 0, none⟩) 1 1]) (by simp [results, Tryz.results36, go_sem]) rfl
    ⟨⟨⟨c, 1, 0, [⟨k, v, false⟩]⟩, some ⟨w.heap.size + 1, 0, none⟩, 1⟩, rfl, rfl, ⟨tslOf hb (SlIn.one (x := (⟨k, v, false⟩ : Wri)) hb Wri.encOk rfl), ⟨hc, (by decide : (1 : Nat) < big), (by decide : (0 : Nat) < big), by simp⟩⟩, ((New.refl w).alloc _).alloc _⟩
/-- The example's batch, notes and states. -/
def awC : Cfg := ⟨1, [0, 1]⟩
def awB : Btc := ⟨1, 1, 0, [⟨⟨#[107]⟩, ⟨#[120]⟩, false⟩]⟩
def awN : Nt := ⟨0, 0, 1, 1, 1, awB⟩
def awM : Nt := ⟨1, 1, 0, 1, 1, Btc.none⟩
def awA1 : Rpl := ((Rpl.new_ 0 awC).submit awB).1
def awA2 : Rpl := { awA1 with out := [] }
def awB1 : Rpl := (Rpl.new_ 1 awC).receive awN
def awB2 : Rpl := { awB1 with out := [] }
def awA3 : Rpl := awA2.receive awM
theorem aw_v : ((Rpl.new_ 0 awC).submit awB).2 = (⟨1, 0⟩, 0) := by kernel_rfl
theorem aw_o : awA1.out = [awN] := by kernel_rfl
theorem aw_p : awB1.out = [awM] := by kernel_rfl
theorem aw_c1 : awB2.cl = 1 := by kernel_rfl
theorem aw_c2 : awA2.cl = 0 := by kernel_rfl
theorem aw_c3 : awA3.cl = 1 := by kernel_rfl
theorem aw_l : awA3.l = [awB] := by kernel_rfl
theorem aw_e : awA3.cf = awC := by kernel_rfl
theorem aw_vs : vsOf (wsUp [awB] 1) ⟨#[107]⟩ = [⟨1, ⟨#[120]⟩, false⟩] := by kernel_rfl
theorem aw_g : awA3.get ⟨#[107]⟩ 1 = (⟨#[120]⟩, 0) := by
  unfold Rpl.get
  rw [aw_l, aw_vs, aw_c3]
  kernel_rfl
theorem rcleanV (h : RpAt w rp B L x) {c : Nat} (hc : x.cl = c) : Calls Tryz.prog 19 #[.pointer (some ⟨rp, 0, none⟩)] w fun e w' => e = .returned (.int .u64 (c : Int)) ∧ w' = w := by subst hc; exact rclean h
theorem fldA (v u : Value) (w : World) : (Instr.field 25 (.agg #[v, u]) 0).run Tryz.prog w = .ok v w := by kernel_rfl
/-- A row of one note. -/
theorem ntOne {v : Value} {nt : Nt} (h : NtRow w 0 v [nt]) : ∃ g off cap, ∃ p : NtV, v = .slice (some ⟨g, off, none⟩) 1 cap ∧ p.nt = nt ∧ BtAt w p.v ∧ g < w.heap.size ∧
    w.cell? ⟨g, off, none⟩ = some (.int .i64 p.k) ∧ w.cell? ⟨g, off + 1, none⟩ = some (.int .i64 p.fr) ∧ w.cell? ⟨g, off + 2, none⟩ = some (.int .i64 p.ds) ∧ w.cell? ⟨g, off + 3, none⟩ = some (.int .u64 (p.ep : Int)) ∧ w.cell? ⟨g, off + 4, none⟩ = some (.int .u64 (p.t : Int)) ∧
    w.cell? ⟨g, off + 5, none⟩ = some (.int .u64 (p.v.b.c : Int)) ∧ w.cell? ⟨g, off + 6, none⟩ = some (.int .u64 (p.v.b.r : Int)) ∧ w.cell? ⟨g, off + 7, none⟩ = some (.int .u64 (p.v.b.s : Int)) ∧ w.cell? ⟨g, off + 8, none⟩ = some (.slice p.v.A p.v.b.l.length p.v.c) := by
  obtain ⟨ps, hps, hrow, hall⟩ := h
  match ps, hps with
  | [p], hps =>
    obtain ⟨g, off, cap, hv, _, hr⟩ := hrow.at_ (by simp)
    have hc := fun (j : Nat) (u : Value) hu => hr.cell NtV.encOk (k := 0) (x := p) rfl (j := j) (u := u) hu
    simp only [Nat.zero_mul, Nat.add_zero] at hc
    exact ⟨g, off, cap, p, hv, (List.cons.inj hps).1, hall p (List.mem_singleton.2 rfl), hr.lt, hc 0 _ rfl, hc 1 _ rfl, hc 2 _ rfl, hc 3 _ rfl, hc 4 _ rfl, hc 5 _ rfl, hc 6 _ rfl, hc 7 _ rfl, hc 8 _ rfl⟩
set_option maxRecDepth 100000 in
set_option maxHeartbeats 8000000 in
theorem awake24 (w : World) : Calls Tryz.prog 8 #[] w fun e w' => e = .returned (.bool true) ∧ New w w' := by
  have hN := ((New.refl w).alloc (.cells #[.int .i64 0, .int .i64 1] 3)).alloc (.cells #[.int .u64 1, .slice (some ⟨w.heap.size, 0, none⟩) 2 2] 25)
  have hb := blkTwoE w (.cells #[.int .i64 0, .int .i64 1] 3) 25 #[.int .u64 1, .slice (some ⟨w.heap.size, 0, none⟩) 2 2]
  have hi := (Blk.mk_new w 3 #[.int .i64 0, .int .i64 1]).alloc (.cells #[.int .u64 1, .slice (some ⟨w.heap.size, 0, none⟩) 2 2] 25)
  have hs : SlIn ((w.alloc (.cells #[.int .i64 0, .int .i64 1] 3)).alloc (.cells #[.int .u64 1, .slice (some ⟨w.heap.size, 0, none⟩) 2 2] 25)) 1 iEnc (.slice (some ⟨w.heap.size, 0, none⟩) 2 2) [0, 1] := SlIn.lit (l := [0, 1]) hi iEncOk (by rfl) (by decide)
  have HS := Lib.hid hs
  have HN := Lib.hid hN
  have HB := Lib.hid hb
  clear hs hN hi hb
  go_enter Tryz.func8, Tryz.ntmps8
  go_upto_region 2 with fail
  generalize (w.alloc (.cells #[.int .i64 0, .int .i64 1] 3)).alloc (.cells #[.int .u64 1, .slice (some ⟨w.heap.size, 0, none⟩) 2 2] 25) = W at *
  obtain ⟨q0, q1, q2, qz⟩ := Blk2F HB.out
  refine wp_region_held_drew (S := fun w' => ∀ o, w'.cell? ⟨w.heap.size + 1, o, none⟩ = W.cell? ⟨w.heap.size + 1, o, none⟩) (by kernel_rfl) (fun _ => rfl) (fun hHeld => ?_)
  refine tkN (i := 0) rfl ?_
  try simp only [Act.put, sA, sZ, sS]
  refine tkN (i := 2) rfl ?_
  try simp only [Act.put, sA, sZ, sS]
  refine stN (i := 1) rfl (fun K hK => ?_)
  go_simp
  refine (rnew 0 awC (HS.out.new (New.refl W).drew) (by decide) (by decide)).mono ?_
  rintro e w1 h1
  unfold NewPost at h1
  rw [if_pos (by decide)] at h1
  obtain ⟨ra, La, rfl, ha, hga, hn1⟩ := h1
  have hn1W := (New.refl W).drew.trans hn1
  have k1 := fun o => keepR (S := fun _ => False) (Upd.new hn1W) q0 (fun h => h) o
  refine hK.out _ _ ?_ (fun hHeld => ?_)
  · exact k1
  clear hK K
  try simp only [Act.put, sA, sZ, sS]
  refine stN (i := 3) rfl (fun K hK => ?_)
  go_simp
  refine (rnew 1 awC (HS.out.new hn1W) (by decide) (by decide)).mono ?_
  rintro e w2 h2
  unfold NewPost at h2
  rw [if_pos (by decide)] at h2
  obtain ⟨rb, Lb, rfl, hb, hgb, hn2⟩ := h2
  have hn2W := hn1W.trans hn2
  have k2 := fun o => keepR (S := fun _ => False) (Upd.new hn2W) q0 (fun h => h) o
  refine hK.out _ _ ?_ (fun hHeld => ?_)
  · exact k2
  clear hK K
  try simp only [Act.put, sA, sZ, sS]
  refine tkN (i := 4) rfl ?_
  try simp only [Act.put, sA, sZ, sS]
  refine tkN (i := 5) rfl ?_
  try simp only [Act.put, sA, sZ, sS]
  refine wpAnyH_done (by kernel_rfl) ?_ _
  clear hHeld
  have HT : Hid (Two w w2 0 ra rb La Lb (Rpl.new_ 0 awC) (Rpl.new_ 1 awC)) := Lib.hid ⟨ha.new hn2, hb, fun k hk hk2 => by have := ha.lt k hk; have := hgb k hk2; omega, fun k hk => Nat.le_trans HN.out.size (hga k hk), fun k hk => Nat.le_trans HN.out.size (Nat.le_trans hn1W.size (hgb k hk)), HN.out.trans hn2W⟩
  clear ha hb hga hgb hn1 hn2 hn1W hn2W k1 k2 q0 q1 q2 qz
  go_wp2_with (go_at_call 30; refine (rnew 0 ⟨0, []⟩ (SlIn.empty _ _ _ none 0) (by decide) (by decide)).mono ?_; rintro e w3 h3; unfold NewPost at h3; rw [if_neg (by decide)] at h3; obtain ⟨rfl, hn3⟩ := h3)
  have HT3 := Lib.hid (HT.out.new hn3)
  clear hn3
  refine (one_any 1 (by decide) ⟨#[107]⟩ ⟨#[120]⟩ w3).mono ?_
  rintro e w4 ⟨y, rfl, hyb, hy, hn4⟩
  have HT4 := Lib.hid (HT3.out.new hn4)
  have HY := Lib.hid hy
  have HYB := Lib.hid hyb
  clear hyb hy hn4
  go_wp2_with fail
  refine (rsubmit HT4.out.a HY.out (by decide)).mono ?_
  have hyv : (Rpl.new_ 0 awC).submit y.b = (awA1, (⟨1, 0⟩ : Vd), 0) := by rw [HYB.out]; exact Prod.ext rfl aw_v
  rw [hyv]
  clear hyv
  rintro e w5 ⟨rfl, hp⟩
  dsimp only
  obtain ⟨La5, ht5⟩ := HT4.out.setA hp (Nat.zero_le _)
  have hn6 := (New.refl w5).alloc (.cells #[.int .u64 1, .int .i64 0] 49)
  have HV6 := Lib.hid (Blk.mk_new w5 49 #[.int .u64 1, .int .i64 0])
  have HT6 := Lib.hid (ht5.new hn6)
  clear hp ht5 hn6
  go_upto_region 6 with fail
  generalize w5.alloc (.cells #[.int .u64 1, .int .i64 0] 49) = w6 at *
  go_wp2_with fail
  refine (rout HT6.out.a).mono ?_
  rintro e w7 ⟨rfl, ha7, hu7, hr7⟩
  obtain ⟨L7, ht7⟩ := HT6.out.setA (x := awA2) ⟨_, ha7, fun k hk => .inl (hk.imp id (fun h => h.imp id (fun h => h.imp id (fun h => by cases h)))), hu7.mono (fun _ _ e => .inl e)⟩ (Nat.le_refl _)
  have hv7 := HV6.out.upd hu7 (fun e => by have h := HT6.out.a.blk; rw [← e] at h; have := HV6.out; unfold Blk at h this; rw [this] at h; cases h)
  rw [aw_o] at hr7
  obtain ⟨g7, o7, cp7, p7, hov, hpn, hpv, hg7, u0, u1, u2, u3, u4, u5, u6, u7, u8⟩ := ntOne hr7
  rw [hov]
  obtain ⟨pk, pfr, pds, pep, pt, pv⟩ := p7
  simp only [NtV.nt, awN, Nt.mk.injEq] at hpn
  obtain ⟨rfl, rfl, rfl, rfl, rfl, hpb⟩ := hpn
  have HT7 := Lib.hid ht7
  have HPV := Lib.hid hpv
  have HPB := Lib.hid hpb
  have HV7 := Lib.hid hv7
  dsimp only at u0 u1 u2 u3 u4 u5 u6 u7 u8
  obtain ⟨d0, d1, d2, dz⟩ := Blk2F hv7
  clear ha7 hu7 hr7 ht7 hov hpv hpb hv7
  go_wp2_with fail
  have hnt : NtV.nt ⟨0, 0, 1, 1, 1, pv⟩ = awN := by unfold NtV.nt awN; dsimp only; rw [HPB.out]
  refine (rreceive HT7.out.b ⟨0, 0, 1, 1, 1, pv⟩ HPV.out (show (1 : Nat) < big by decide) (by decide)).mono ?_
  rw [hnt]
  rintro e w8 ⟨rfl, hp⟩
  obtain ⟨L8, ht8⟩ := HT7.out.swap.setA (x := awB1) hp (Nat.le_add_right _ _)
  have HT8 := Lib.hid ht8
  clear hnt hp ht8 u0 u1 u2 u3 u4 u5 u6 u7 u8 d0 d1 d2 dz hg7
  go_wp2_with fail
  refine (rout HT8.out.a).mono ?_
  rintro e w9 ⟨rfl, ha9, hu9, hr9⟩
  obtain ⟨L9, ht9⟩ := HT8.out.setA (x := awB2) ⟨_, ha9, fun k hk => .inl (hk.imp id (fun h => h.imp id (fun h => h.imp id (fun h => by cases h)))), hu9.mono (fun _ _ e => .inl e)⟩ (Nat.le_refl _)
  rw [aw_p] at hr9
  obtain ⟨g9, o9, cp9, p9, hov, hpn, hpv, hg9, u0, u1, u2, u3, u4, u5, u6, u7, u8⟩ := ntOne hr9
  rw [hov]
  obtain ⟨pk, pfr, pds, pep, pt, pv⟩ := p9
  simp only [NtV.nt, awM, Nt.mk.injEq] at hpn
  obtain ⟨rfl, rfl, rfl, rfl, rfl, hpb⟩ := hpn
  have HT9 := Lib.hid ht9
  have HPV9 := Lib.hid hpv
  have HPB9 := Lib.hid hpb
  dsimp only at u0 u1 u2 u3 u4 u5 u6 u7 u8
  clear ha9 hu9 hr9 ht9 hov hpv hpb
  go_wp2_with (go_at_call 19; (first | (refine (rcleanV HT9.out.a aw_c1).mono ?_) | (refine (rcleanV HT9.out.b aw_c2).mono ?_)); rintro e wq ⟨rfl, rfl⟩)
  have hnt : NtV.nt ⟨1, 1, 0, 1, 1, pv⟩ = awM := by unfold NtV.nt awM; dsimp only; rw [HPB9.out]
  refine (rreceive HT9.out.b ⟨1, 1, 0, 1, 1, pv⟩ HPV9.out (show (1 : Nat) < big by decide) (by decide)).mono ?_
  rw [hnt]
  rintro e w10 ⟨rfl, hp⟩
  obtain ⟨L10, ht10⟩ := HT9.out.swap.setA (x := awA3) hp (Nat.le_add_right _ _)
  have HT10 := Lib.hid ht10
  clear hnt hp ht10 u0 u1 u2 u3 u4 u5 u6 u7 u8 hg9
  go_wp2_with fail
  refine (rget HT10.out.a ⟨#[107]⟩ 1 (by unfold okS maxLen; decide) (by rw [aw_c3, aw_l]; decide) (by decide) (fun b hb => by
    rw [aw_l] at hb
    obtain rfl := List.mem_singleton.1 hb
    refine ⟨by decide, fun y hy => ?_⟩
    obtain rfl := List.mem_singleton.1 hy
    unfold okS maxLen
    decide) (by
    rw [aw_l, aw_vs]
    intro i x y h1 h2
    simp at h2)).mono ?_
  rw [aw_g]
  rintro e w11 ⟨rfl, hn11⟩
  dsimp only
  have HT11 := Lib.hid (HT10.out.new hn11)
  clear hn11
  go_wp2_with (first | (go_at_call 19; refine (rcleanV HT11.out.a aw_c3).mono ?_; intro e wq hq; obtain ⟨rfl, rfl⟩ := hq) | (go_at_call 18; refine (rlist HT11.out.a (by decide)).mono ?_; intro e w12 hq; obtain ⟨v12, rfl, hrow12, hn12⟩ := hq; obtain ⟨A12, c12, rfl⟩ := hrow12.shape; rw [aw_l]; clear hrow12) | (go_at_call 38; refine (rconfig (HT11.out.a.new hn12)).mono ?_; intro e w13 hq; obtain ⟨A13, n13, rfl, ht13, hn13⟩ := hq; rw [aw_e]; dsimp only [awC]; have hfld := fun v u => fldA v u w13; clear ht13))
  go_ret
  exact ⟨rfl, (HT11.out.nw.trans hn12).trans hn13⟩
end
end Go.Proofs.YtecniafnihpjmaaGreatDoor
