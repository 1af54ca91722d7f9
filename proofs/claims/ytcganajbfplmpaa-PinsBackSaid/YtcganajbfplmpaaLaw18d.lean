/- The walk of the law PinsBack (chapter 18): for every input it answers true. -/
import Derived.Test.YtcganajbfplmpaaLaw18b
import Derived.Test.YtcganajbfplmpaaPnOb
import Derived.Test.YtcganajbfplmpaaPnS
namespace Go.Proofs.Ytcganajbfplmpaa
open Go.RowKit Go.Lap
set_option linter.unusedVariables false

set_option maxRecDepth 100000 in
set_option maxHeartbeats 16000000 in
theorem pinsBack_walk (acts : List PAct) (last : Nat) (v : Value) (w : World) (hl : acts.length ≤ maxLen) (hs : SlIn w 5 paE v acts) (hg : ∀ x ∈ acts, x.good) (hlast : okU last) :
    Calls Try.prog 9 #[v, .int .u64 (last : Int)] w fun e w' => e = .returned (.bool true) ∧ New w w' := by
  unfold maxLen at hl
  obtain ⟨A, cp, hv, hcp, hor⟩ := _root_.id hs
  subst hv
  go_enter Try.func9, Try.ntmps9
  go_wp2_with fail
  refine (newS _).mono ?_
  rintro e w1 ⟨p, nm, lm, rfl, h1, hF, hn1⟩
  have HF := Lib.hid hF
  go_wp2_with fail
  refine (awake18 _).mono ?_
  rintro e w2 ⟨rfl, hn2⟩
  have h2 := h1.new hn2
  have hN2 := hn1.trans hn2
  have HG := Lib.hid hg
  clear hn1 hn2 h1 hg hs hF
  go_wp2_with fail
  go_loopw [6] (fun i wr => ∃ k : Nat, k ≤ acts.length ∧ k ≤ 60 ∧ i = .int .i64 k ∧ ∃ (E : List Pnm) (K : List Lse), PSt wr p nm lm E K ∧ New w wr) (fun i _ => acts.length - (intOf i).toNat)
  case atStart => exact ⟨0, by omega, by omega, rfl, [], [], h2, hN2⟩
  case round =>
    obtain ⟨k, hk, hk60, rfl, E, K, hC, hnw⟩ := hrel
    by_cases hend : k < acts.length ∧ k < 60
    · obtain ⟨hlt, hlt8⟩ := hend
      have hlt' : (k : Int) < (acts.length : Int) := by omega
      have hlt8' : (k : Int) < 60 := by omega
      rcases hor with hor | ⟨b, off, rfl, hb, hc⟩
      · rw [hor] at hlt; simp at hlt
      obtain ⟨x, hx⟩ : ∃ x, acts[k]? = some x := ⟨_, List.getElem?_eq_getElem hlt⟩
      have hgx := HG.out x (List.mem_of_getElem? hx)
      have hcells := hnw.cells.1
      have e0 : wr.cell? ⟨b, off + k * 5, none⟩ = some (.int .i64 x.kind) := (hcells _ _ hb).trans (by have := hc _ x hx 0 _ rfl; simpa using this)
      have e1 : wr.cell? ⟨b, off + k * 5 + 1, none⟩ = some (.string x.name) := (hcells _ _ hb).trans (by have := hc _ x hx 1 _ rfl; simpa using this)
      have e2 : wr.cell? ⟨b, off + k * 5 + 2, none⟩ = some (.int .u64 (x.r : Int)) := (hcells _ _ hb).trans (by have := hc _ x hx 2 _ rfl; simpa using this)
      have e3 : wr.cell? ⟨b, off + k * 5 + 3, none⟩ = some (.int .u64 (x.a : Int)) := (hcells _ _ hb).trans (by have := hc _ x hx 3 _ rfl; simpa using this)
      have e4 : wr.cell? ⟨b, off + k * 5 + 4, none⟩ = some (.int .u64 (x.u : Int)) := (hcells _ _ hb).trans (by have := hc _ x hx 4 _ rfl; simpa using this)
      have HGX := Lib.hid hgx
      have HNW := Lib.hid hnw
      clear hc hx hcells hgx hnw
      by_cases h100 : 100 < x.name.size
      · have h100' : (100 : Int) < (x.name.size : Int) := by omega
        go_wp2_with fail
        go_ret
        exact ⟨rfl, HNW.out⟩
      · have h100' : ¬ (100 : Int) < (x.name.size : Int) := by omega
        go_wp2_with fail
        refine (do18 _ hC x HGX.out).mono ?_
        rintro e w4 ⟨rfl, hC4, hu4⟩
        have hN4 := HNW.out.upd hu4 HF.out
        clear hC hu4
        go_wp2_with fail
        go_roundw
        case rel => exact ⟨k + 1, by omega, by omega, by first | rfl | go_num, _, _, hC4, hN4⟩
        case measure => simp [intOf]; omega
    · have hcase : ¬ (k : Int) < (acts.length : Int) ∨ ((k : Int) < (acts.length : Int) ∧ ¬ (k : Int) < 60) := by omega
      clear hend
      have hgE := hC.e
      have hgK := hC.k
      have HGE := Lib.hid hgE
      have HGK := Lib.hid hgK
      clear hgE hgK
      rcases hcase with hlt' | ⟨hlt', hlt8'⟩
      all_goals
        go_wp2_with fail
        refine (bytesS _ hC).mono ?_
        rintro e w4 ⟨u, rfl, ho, hn4⟩
        have hC4 := hC.new hn4
        have hN4 := hnw.trans hn4
        clear hC hn4 hnw
        have hlen : (encE E).length ≤ 100000000 := by
          unfold encE
          have h1 := varB_len10 (n := E.length) (by have := HGE.out.len; omega)
          have h2 : ∀ l : List Pnm, (∀ x ∈ l, (encN x).length ≤ 60) → (l.flatMap encN).length ≤ 60 * l.length := by
            intro l
            induction l with
            | nil => intro _; simp
            | cons y l ih =>
              intro hy
              have := hy y List.mem_cons_self
              have := ih fun x hx => hy x (List.mem_cons_of_mem _ hx)
              rw [List.flatMap_cons, List.length_append, List.length_cons]
              omega
          have h3 := h2 E fun x hx => encN_len (HGE.out.nm x hx).2.1 (HGE.out.nm x hx).2.2
          have := HGE.out.len
          rw [List.length_append]
          omega
        go_wp2_with fail
        refine (pof_any (encE E) u _ hlen (Owns.slIn bEncOk ho)).mono ?_
        rintro e w5 ⟨hn5, hq⟩
        rw [ofP_enc HGE.out] at hq
        obtain ⟨p2, nm2, lm2, rfl, hD5, hF5⟩ := hq
        have hC5 := hC4.new hn5
        have hN5 := hN4.trans hn5
        have HDJ := Lib.hid (show ∀ k, PnF p nm lm k → ¬ PnF p2 nm2 lm2 k from fun k h1 h2 => by have := hC4.lt k h1; have := hF5 k h2; omega)
        clear hC4 hN4 hn5 hF5 ho hlen
        go_wp2_with fail
        refine (listS _ hC5).mono ?_
        rintro e w6 ⟨v6, rfl, hs6, -, hn6⟩
        have hC6 := hC5.new hn6
        have hD6 := hD5.new hn6
        have hN6 := hN5.trans hn6
        clear hC5 hD5 hN5 hn6
        go_wp2_with fail
        refine (listS _ hD6).mono ?_
        rintro e w7 ⟨v7, rfl, hs7, -, hn7⟩
        have hC7 := hC6.new hn7
        have hD7 := hD6.new hn7
        have hN7 := hN6.trans hn7
        have hs6' := hs6.new hn7
        clear hC6 hD6 hN6 hn7 hs6
        go_wp2_with fail
        refine (psame_eq _ hs6' hs7 (by have := HGE.out.len; omega)).mono ?_
        rintro e w8 ⟨rfl, hn8⟩
        have hC8 := hC7.new hn8
        have hD8 := hD7.new hn8
        have hN8 := hN7.trans hn8
        clear hC7 hD7 hN7 hn8 hs6' hs7
        go_wp2_with fail
        refine (expS _ hC8 18446744073709551615).mono ?_
        rintro e w9 ⟨rfl, hC9, hu9⟩
        have hD9 := hD8.upd hu9 (fun k hk h => HDJ.out k h hk)
        have hN9 := hN8.upd hu9 HF.out
        clear hC8 hD8 hN8 hu9
        go_wp2_with fail
        refine (floorS _ hC9 last).mono ?_
        rintro e w10 ⟨rfl, hn10⟩
        have hD10 := hD9.new hn10
        have hN10 := hN9.trans hn10
        rw [floor_noK (E := E) (K := K) (last := last) (t := 18446744073709551615) (fun x hx => by have := okU_lt (HGK.out.nm x hx).2.2; omega)]
        clear hC9 hD9 hN9 hn10
        go_wp2_with fail
        refine (floorS _ hD10 last).mono ?_
        rintro e w11 ⟨rfl, hn11⟩
        have hN11 := hN10.trans hn11
        clear hD10 hN10 hn11
        go_wp2_with fail
        go_ret
        exact ⟨by simp, hN11⟩
end Go.Proofs.Ytcganajbfplmpaa
