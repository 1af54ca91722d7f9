/- The walk of the law PinsFloor (chapter 18): for every input it answers true. -/
import Derived.Test.YtcganajbfplmpaaLaw18b
namespace Go.Proofs.Ytcganajbfplmpaa
open Go.RowKit Go.Lap
set_option linter.unusedVariables false

set_option maxRecDepth 100000 in
set_option maxHeartbeats 16000000 in
theorem pinsFloor_walk (acts : List PAct) (last : Nat) (v : Value) (w : World) (hl : acts.length ≤ maxLen) (hs : SlIn w 5 paE v acts) (hg : ∀ x ∈ acts, x.good) (hlast : okU last) :
    Calls Try.prog 6 #[v, .int .u64 (last : Int)] w fun e w' => e = .returned (.bool true) ∧ New w w' := by
  unfold maxLen at hl
  obtain ⟨A, cp, hv, hcp, hor⟩ := _root_.id hs
  subst hv
  go_enter Try.func6, Try.ntmps6
  go_wp2_with fail
  refine (newS _).mono ?_
  rintro e w1 ⟨p, nm, lm, rfl, h1, hF, hn1⟩
  have HF := Lib.hid hF
  go_wp2_with fail
  refine (awake18 _).mono ?_
  rintro e w2 ⟨rfl, hn2⟩
  have h2 := h1.new hn2
  have hN2 := hn1.trans hn2
  have HG := Lib.hid hg
  clear hn1 hn2 h1 hg hs hF
  go_wp2_with fail
  go_loopw [6, 7, 8, 9, 10, 11, 12] (fun i _ _ _ _ _ _ wr => ∃ k : Nat, k ≤ acts.length ∧ k ≤ 60 ∧ i = .int .i64 k ∧ ∃ (E : List Pnm) (K : List Lse), PSt wr p nm lm E K ∧ New w wr) (fun i _ _ _ _ _ _ _ => acts.length - (intOf i).toNat)
  case atStart => exact ⟨0, by omega, by omega, rfl, [], [], h2, hN2⟩
  case round =>
    obtain ⟨k, hk, hk60, rfl, E, K, hC, hnw⟩ := hrel
    by_cases hlt : k < acts.length
    · have hlt' : (k : Int) < (acts.length : Int) := by omega
      by_cases hlt8 : k < 60
      · have hlt8' : (k : Int) < 60 := by omega
        rcases hor with hor | ⟨b, off, rfl, hb, hc⟩
        · rw [hor] at hlt; simp at hlt
        obtain ⟨x, hx⟩ : ∃ x, acts[k]? = some x := ⟨_, List.getElem?_eq_getElem hlt⟩
        have hgx := HG.out x (List.mem_of_getElem? hx)
        have hcell : ∀ wx, New w wx → wx.cell? ⟨b, off + k * 5, none⟩ = some (.int .i64 x.kind) ∧ wx.cell? ⟨b, off + k * 5 + 1, none⟩ = some (.string x.name) ∧ wx.cell? ⟨b, off + k * 5 + 2, none⟩ = some (.int .u64 (x.r : Int)) ∧ wx.cell? ⟨b, off + k * 5 + 3, none⟩ = some (.int .u64 (x.a : Int)) ∧ wx.cell? ⟨b, off + k * 5 + 4, none⟩ = some (.int .u64 (x.u : Int)) := fun wx hn => by
          have hcells := hn.cells.1
          refine ⟨(hcells _ _ hb).trans (by have := hc _ x hx 0 _ rfl; simpa using this), (hcells _ _ hb).trans (by have := hc _ x hx 1 _ rfl; simpa using this), (hcells _ _ hb).trans (by have := hc _ x hx 2 _ rfl; simpa using this), (hcells _ _ hb).trans (by have := hc _ x hx 3 _ rfl; simpa using this), (hcells _ _ hb).trans (by have := hc _ x hx 4 _ rfl; simpa using this)⟩
        have HCE := Lib.hid hcell
        have HGX := Lib.hid hgx
        have HNW := Lib.hid hnw
        clear hc hx hcell hgx hnw
        go_wp2_with fail
        refine (floorS _ hC last).mono ?_
        rintro e w3 ⟨rfl, hn3⟩
        have hC3 := hC.new hn3
        have hN3 := HNW.out.trans hn3
        obtain ⟨e0, e1, e2, e3, e4⟩ := HCE.out _ hN3
        go_wp2_with fail
        refine (do18 _ hC3 x HGX.out).mono ?_
        rintro e w4 ⟨rfl, hC4, hu4⟩
        have hN4 := hN3.upd hu4 HF.out
        clear e0 e1 e2 e3 e4 hC3 hn3 hN3 hC
        go_wp2_with fail
        refine (floorS _ hC4 last).mono ?_
        rintro e w5 ⟨rfl, hn5⟩
        have hC5 := hC4.new hn5
        have hN5 := hN4.trans hn5
        obtain ⟨e0, e1, e2, e3, e4⟩ := HCE.out _ hN5
        clear hC4 hn5 hN4
        obtain ⟨f1, f2, -, -⟩ := floorP_le (doE E x) (doK K x) last
        have hge := hC5.e
        have hcase : ∃ now was : Nat, ∃ r : Int, floorP (doE E x) (doK K x) last = now ∧ floorP E K last = was ∧ doR E K x = r ∧
            ((x.kind ≠ 0 ∧ x.kind ≠ 2 ∧ r ≠ 0 ∧ ¬ now < was) ∨ (x.kind ≠ 0 ∧ x.kind ≠ 2 ∧ r = 0 ∧ ¬ now < was) ∨ (x.kind = 0 ∧ r ≠ 0 ∧ ¬ now < was) ∨ (x.kind = 2 ∧ r ≠ 0 ∧ ¬ now < was) ∨
              (x.kind = 0 ∧ r = 0 ∧ now = x.a ∧ now < was) ∨ (x.kind = 0 ∧ r = 0 ∧ now ≤ x.a ∧ ¬ now < was) ∨ (x.kind = 2 ∧ r = 0 ∧ now = x.a ∧ now < was) ∨ (x.kind = 2 ∧ r = 0 ∧ now ≤ x.a ∧ ¬ now < was)) := by
          refine ⟨_, _, _, rfl, rfl, rfl, ?_⟩
          have q1 := floor_else (E := E) (K := K) (x := x) (last := last)
          have q2 := floor_bad (E := E) (K := K) (x := x) (last := last)
          have q3 := floor_ok (E := E) (K := K) (x := x) (last := last)
          by_cases c0 : x.kind = 0 <;> by_cases c2 : x.kind = 2 <;> by_cases cr : doR E K x = 0 <;> simp [c0, c2, cr] at q1 q2 q3 ⊢ <;> omega
        obtain ⟨now, was, r, hn, hw, hr, hcase⟩ := hcase
        rw [hn] at f1 f2 ⊢
        rw [hw, hr]
        generalize doE E x = E' at hC5 f2 hge
        generalize doK K x = K' at hC5
        generalize doN K x = en
        have HF1 := Lib.hid f1
        have HF2 := Lib.hid f2
        have HGE := Lib.hid hge
        have HC5 := Lib.hid hC5
        have HN5 := Lib.hid hN5
        clear hn hw hr f1 f2 hge hN5 HCE HGX HNW hu4
        obtain ⟨xk, xn, xr, xa, xu⟩ := x
        dsimp only at hcase e0 e1 e2 e3 e4 ⊢
        have fin : ∀ {a b : Nat}, ¬ a < b → ¬ (a : Int) < (b : Int) := fun h => by omega
        have fip : ∀ {a b : Nat}, a < b → (a : Int) < (b : Int) := fun h => by omega
        have fil : ∀ {a b : Nat}, a ≤ b → ¬ (b : Int) < (a : Int) := fun h => by omega
        rcases hcase with ⟨c0, c2, cr, cl⟩ | ⟨c0, c2, rfl, cl⟩ | ⟨rfl, cr, cl⟩ | ⟨rfl, cr, cl⟩ | ⟨rfl, rfl, rfl, cl⟩ | ⟨rfl, rfl, cl2, cl⟩ | ⟨rfl, rfl, rfl, cl⟩ | ⟨rfl, rfl, cl2, cl⟩
        · have i1 := fin cl
          have i2 : (r == 0) = false := by simpa using cr
          clear fin fip fil
          go_wp2_with fail
          have hC6 : ∀ wx, New w5 wx → PSt wx p nm lm E' K' := fun wx hx => HC5.out.new hx
          have HC6 := Lib.hid hC6
          clear hC6 e0 e1 e2 e3 e4 i1
          refine (listS _ HC5.out).mono ?_
          rintro e w6 ⟨lv, rfl, hs6, hv6, hn6⟩
          obtain ⟨A6, cp6, hlv, hcp6, hor6⟩ := _root_.id hs6
          subst hlv
          have HN6 := Lib.hid hn6
          obtain ⟨wo, hwo⟩ : ∃ wo, wo = wr := ⟨_, rfl⟩
          clear hwo
          have hl16 := HGE.out.len
          have hl16' : ¬ (16 : Int) < (E'.length : Int) := by omega
          have f1 := HF1.out
          have f1' : ¬ (last : Int) < (now : Int) := by omega
          clear hs6 hv6 hn6 f1
          go_wp2_with fail
          go_loopw [12] (fun i wr => ∃ j : Nat, j ≤ E'.length ∧ i = .int .i64 j ∧ New w6 wr) (fun i _ => E'.length - (intOf i).toNat)
          case atStart => exact ⟨0, by omega, rfl, New.refl _⟩
          case round =>
            obtain ⟨j, hj, rfl, hnq⟩ := hrel
            by_cases hjl : j < E'.length
            · have hjl' : (j : Int) < (E'.length : Int) := by omega
              have hj0 : (0 : Int) ≤ (j : Int) := by omega
              rcases hor6 with hor6 | ⟨b6, off6, rfl, hb6, hc6⟩
              · rw [hor6] at hjl; simp at hjl
              obtain ⟨y, hy⟩ : ∃ y, E'[j]? = some y := ⟨_, List.getElem?_eq_getElem hjl⟩
              have hcell := hnq.cells.1
              have g0 : wr.cell? ⟨b6, off6 + j * 2, none⟩ = some (.string y.s) := (hcell _ _ hb6).trans (by have := hc6 _ y hy 0 _ rfl; simpa using this)
              have g1 : wr.cell? ⟨b6, off6 + j * 2 + 1, none⟩ = some (.int .u64 (y.n : Int)) := (hcell _ _ hb6).trans (by have := hc6 _ y hy 1 _ rfl; simpa using this)
              have hyn := HF2.out y (List.mem_of_getElem? hy)
              have hyn' : decide ((y.n : Int) < (now : Int)) = false := decide_eq_false (by omega)
              have hyn2 : decide (y.n < now) = false := decide_eq_false (by omega)
              have HY := Lib.hid hy
              have HNQ := Lib.hid hnq
              by_cases hjz : 0 < j
              · have hpos' : decide ((0 : Int) < (j : Int)) = true := decide_eq_true (by omega)
                have hpos2 : decide (0 < j) = true := decide_eq_true (by omega)
                obtain ⟨q, hq⟩ : ∃ q, j = q + 1 := ⟨j - 1, by omega⟩
                have hqm : (j : Int) - 1 = (q : Int) := by omega
                obtain ⟨z, hz⟩ : ∃ z, E'[q]? = some z := ⟨_, List.getElem?_eq_getElem (by omega)⟩
                have f3 : wr.cell? ⟨b6, off6 + q * 2, none⟩ = some (.string z.s) := (hcell _ _ hb6).trans (by have := hc6 _ z hz 0 _ rfl; simpa using this)
                have hlt3 : Op.bytesLess z.s.toList y.s.toList = true := srt_at HGE.out.srt hz (by rw [← hq]; exact hy)
                have hq0 : (0 : Int) ≤ (q : Int) := by omega
                have hql : (q : Int) < (E'.length : Int) := by omega
                clear hc6 hcell hz hq hy hyn hnq hlt hlt8 hjz
                go_wp2_with fail
                go_quiet (fail)
                go_wp2_with fail
                go_roundw
                case rel => exact ⟨j + 1, by omega, by go_num, HNQ.out.drewN _⟩
                case measure => simp [intOf]; omega
              · have hpos' : decide ((0 : Int) < (j : Int)) = false := decide_eq_false (by omega)
                have hpos2 : decide (0 < j) = false := decide_eq_false (by omega)
                clear hc6 hcell hy hyn hnq hlt hlt8 hjz
                go_wp2_with fail
                go_quiet (fail)
                go_wp2_with fail
                go_roundw
                case rel => exact ⟨j + 1, by omega, by go_num, HNQ.out.drewN _⟩
                case measure => simp [intOf]; omega
            · obtain rfl : j = E'.length := by omega
              have HNQ := Lib.hid hnq
              clear hnq
              go_wp2_with fail
              go_roundw
              case rel => exact ⟨k + 1, by omega, by omega, rfl, E', K', HC6.out _ (HN6.out.trans HNQ.out), HN5.out.trans (HN6.out.trans HNQ.out)⟩
              case measure => simp only [intOf]; omega
        · have i1 := fin cl
          have i2 : (xk == 0) = false := by simpa using c0
          have i3 : (xk == 2) = false := by simpa using c2
          clear fin fip fil
          go_wp2_with fail
          have hC6 : ∀ wx, New w5 wx → PSt wx p nm lm E' K' := fun wx hx => HC5.out.new hx
          have HC6 := Lib.hid hC6
          clear hC6 e0 e1 e2 e3 e4 i1
          refine (listS _ HC5.out).mono ?_
          rintro e w6 ⟨lv, rfl, hs6, hv6, hn6⟩
          obtain ⟨A6, cp6, hlv, hcp6, hor6⟩ := _root_.id hs6
          subst hlv
          have HN6 := Lib.hid hn6
          obtain ⟨wo, hwo⟩ : ∃ wo, wo = wr := ⟨_, rfl⟩
          clear hwo
          have hl16 := HGE.out.len
          have hl16' : ¬ (16 : Int) < (E'.length : Int) := by omega
          have f1 := HF1.out
          have f1' : ¬ (last : Int) < (now : Int) := by omega
          clear hs6 hv6 hn6 f1
          go_wp2_with fail
          go_loopw [12] (fun i wr => ∃ j : Nat, j ≤ E'.length ∧ i = .int .i64 j ∧ New w6 wr) (fun i _ => E'.length - (intOf i).toNat)
          case atStart => exact ⟨0, by omega, rfl, New.refl _⟩
          case round =>
            obtain ⟨j, hj, rfl, hnq⟩ := hrel
            by_cases hjl : j < E'.length
            · have hjl' : (j : Int) < (E'.length : Int) := by omega
              have hj0 : (0 : Int) ≤ (j : Int) := by omega
              rcases hor6 with hor6 | ⟨b6, off6, rfl, hb6, hc6⟩
              · rw [hor6] at hjl; simp at hjl
              obtain ⟨y, hy⟩ : ∃ y, E'[j]? = some y := ⟨_, List.getElem?_eq_getElem hjl⟩
              have hcell := hnq.cells.1
              have g0 : wr.cell? ⟨b6, off6 + j * 2, none⟩ = some (.string y.s) := (hcell _ _ hb6).trans (by have := hc6 _ y hy 0 _ rfl; simpa using this)
              have g1 : wr.cell? ⟨b6, off6 + j * 2 + 1, none⟩ = some (.int .u64 (y.n : Int)) := (hcell _ _ hb6).trans (by have := hc6 _ y hy 1 _ rfl; simpa using this)
              have hyn := HF2.out y (List.mem_of_getElem? hy)
              have hyn' : decide ((y.n : Int) < (now : Int)) = false := decide_eq_false (by omega)
              have hyn2 : decide (y.n < now) = false := decide_eq_false (by omega)
              have HY := Lib.hid hy
              have HNQ := Lib.hid hnq
              by_cases hjz : 0 < j
              · have hpos' : decide ((0 : Int) < (j : Int)) = true := decide_eq_true (by omega)
                have hpos2 : decide (0 < j) = true := decide_eq_true (by omega)
                obtain ⟨q, hq⟩ : ∃ q, j = q + 1 := ⟨j - 1, by omega⟩
                have hqm : (j : Int) - 1 = (q : Int) := by omega
                obtain ⟨z, hz⟩ : ∃ z, E'[q]? = some z := ⟨_, List.getElem?_eq_getElem (by omega)⟩
                have f3 : wr.cell? ⟨b6, off6 + q * 2, none⟩ = some (.string z.s) := (hcell _ _ hb6).trans (by have := hc6 _ z hz 0 _ rfl; simpa using this)
                have hlt3 : Op.bytesLess z.s.toList y.s.toList = true := srt_at HGE.out.srt hz (by rw [← hq]; exact hy)
                have hq0 : (0 : Int) ≤ (q : Int) := by omega
                have hql : (q : Int) < (E'.length : Int) := by omega
                clear hc6 hcell hz hq hy hyn hnq hlt hlt8 hjz
                go_wp2_with fail
                go_quiet (fail)
                go_wp2_with fail
                go_roundw
                case rel => exact ⟨j + 1, by omega, by go_num, HNQ.out.drewN _⟩
                case measure => simp [intOf]; omega
              · have hpos' : decide ((0 : Int) < (j : Int)) = false := decide_eq_false (by omega)
                have hpos2 : decide (0 < j) = false := decide_eq_false (by omega)
                clear hc6 hcell hy hyn hnq hlt hlt8 hjz
                go_wp2_with fail
                go_quiet (fail)
                go_wp2_with fail
                go_roundw
                case rel => exact ⟨j + 1, by omega, by go_num, HNQ.out.drewN _⟩
                case measure => simp [intOf]; omega
            · obtain rfl : j = E'.length := by omega
              have HNQ := Lib.hid hnq
              clear hnq
              go_wp2_with fail
              go_roundw
              case rel => exact ⟨k + 1, by omega, by omega, rfl, E', K', HC6.out _ (HN6.out.trans HNQ.out), HN5.out.trans (HN6.out.trans HNQ.out)⟩
              case measure => simp only [intOf]; omega
        · have i1 := fin cl
          have i2 : (r == 0) = false := by simpa using cr
          clear fin fip fil
          go_wp2_with fail
          have hC6 : ∀ wx, New w5 wx → PSt wx p nm lm E' K' := fun wx hx => HC5.out.new hx
          have HC6 := Lib.hid hC6
          clear hC6 e0 e1 e2 e3 e4 i1
          refine (listS _ HC5.out).mono ?_
          rintro e w6 ⟨lv, rfl, hs6, hv6, hn6⟩
          obtain ⟨A6, cp6, hlv, hcp6, hor6⟩ := _root_.id hs6
          subst hlv
          have HN6 := Lib.hid hn6
          obtain ⟨wo, hwo⟩ : ∃ wo, wo = wr := ⟨_, rfl⟩
          clear hwo
          have hl16 := HGE.out.len
          have hl16' : ¬ (16 : Int) < (E'.length : Int) := by omega
          have f1 := HF1.out
          have f1' : ¬ (last : Int) < (now : Int) := by omega
          clear hs6 hv6 hn6 f1
          go_wp2_with fail
          go_loopw [12] (fun i wr => ∃ j : Nat, j ≤ E'.length ∧ i = .int .i64 j ∧ New w6 wr) (fun i _ => E'.length - (intOf i).toNat)
          case atStart => exact ⟨0, by omega, rfl, New.refl _⟩
          case round =>
            obtain ⟨j, hj, rfl, hnq⟩ := hrel
            by_cases hjl : j < E'.length
            · have hjl' : (j : Int) < (E'.length : Int) := by omega
              have hj0 : (0 : Int) ≤ (j : Int) := by omega
              rcases hor6 with hor6 | ⟨b6, off6, rfl, hb6, hc6⟩
              · rw [hor6] at hjl; simp at hjl
              obtain ⟨y, hy⟩ : ∃ y, E'[j]? = some y := ⟨_, List.getElem?_eq_getElem hjl⟩
              have hcell := hnq.cells.1
              have g0 : wr.cell? ⟨b6, off6 + j * 2, none⟩ = some (.string y.s) := (hcell _ _ hb6).trans (by have := hc6 _ y hy 0 _ rfl; simpa using this)
              have g1 : wr.cell? ⟨b6, off6 + j * 2 + 1, none⟩ = some (.int .u64 (y.n : Int)) := (hcell _ _ hb6).trans (by have := hc6 _ y hy 1 _ rfl; simpa using this)
              have hyn := HF2.out y (List.mem_of_getElem? hy)
              have hyn' : decide ((y.n : Int) < (now : Int)) = false := decide_eq_false (by omega)
              have hyn2 : decide (y.n < now) = false := decide_eq_false (by omega)
              have HY := Lib.hid hy
              have HNQ := Lib.hid hnq
              by_cases hjz : 0 < j
              · have hpos' : decide ((0 : Int) < (j : Int)) = true := decide_eq_true (by omega)
                have hpos2 : decide (0 < j) = true := decide_eq_true (by omega)
                obtain ⟨q, hq⟩ : ∃ q, j = q + 1 := ⟨j - 1, by omega⟩
                have hqm : (j : Int) - 1 = (q : Int) := by omega
                obtain ⟨z, hz⟩ : ∃ z, E'[q]? = some z := ⟨_, List.getElem?_eq_getElem (by omega)⟩
                have f3 : wr.cell? ⟨b6, off6 + q * 2, none⟩ = some (.string z.s) := (hcell _ _ hb6).trans (by have := hc6 _ z hz 0 _ rfl; simpa using this)
                have hlt3 : Op.bytesLess z.s.toList y.s.toList = true := srt_at HGE.out.srt hz (by rw [← hq]; exact hy)
                have hq0 : (0 : Int) ≤ (q : Int) := by omega
                have hql : (q : Int) < (E'.length : Int) := by omega
                clear hc6 hcell hz hq hy hyn hnq hlt hlt8 hjz
                go_wp2_with fail
                go_quiet (fail)
                go_wp2_with fail
                go_roundw
                case rel => exact ⟨j + 1, by omega, by go_num, HNQ.out.drewN _⟩
                case measure => simp [intOf]; omega
              · have hpos' : decide ((0 : Int) < (j : Int)) = false := decide_eq_false (by omega)
                have hpos2 : decide (0 < j) = false := decide_eq_false (by omega)
                clear hc6 hcell hy hyn hnq hlt hlt8 hjz
                go_wp2_with fail
                go_quiet (fail)
                go_wp2_with fail
                go_roundw
                case rel => exact ⟨j + 1, by omega, by go_num, HNQ.out.drewN _⟩
                case measure => simp [intOf]; omega
            · obtain rfl : j = E'.length := by omega
              have HNQ := Lib.hid hnq
              clear hnq
              go_wp2_with fail
              go_roundw
              case rel => exact ⟨k + 1, by omega, by omega, rfl, E', K', HC6.out _ (HN6.out.trans HNQ.out), HN5.out.trans (HN6.out.trans HNQ.out)⟩
              case measure => simp only [intOf]; omega
        · have i1 := fin cl
          have i2 : (r == 0) = false := by simpa using cr
          clear fin fip fil
          go_wp2_with fail
          have hC6 : ∀ wx, New w5 wx → PSt wx p nm lm E' K' := fun wx hx => HC5.out.new hx
          have HC6 := Lib.hid hC6
          clear hC6 e0 e1 e2 e3 e4 i1
          refine (listS _ HC5.out).mono ?_
          rintro e w6 ⟨lv, rfl, hs6, hv6, hn6⟩
          obtain ⟨A6, cp6, hlv, hcp6, hor6⟩ := _root_.id hs6
          subst hlv
          have HN6 := Lib.hid hn6
          obtain ⟨wo, hwo⟩ : ∃ wo, wo = wr := ⟨_, rfl⟩
          clear hwo
          have hl16 := HGE.out.len
          have hl16' : ¬ (16 : Int) < (E'.length : Int) := by omega
          have f1 := HF1.out
          have f1' : ¬ (last : Int) < (now : Int) := by omega
          clear hs6 hv6 hn6 f1
          go_wp2_with fail
          go_loopw [12] (fun i wr => ∃ j : Nat, j ≤ E'.length ∧ i = .int .i64 j ∧ New w6 wr) (fun i _ => E'.length - (intOf i).toNat)
          case atStart => exact ⟨0, by omega, rfl, New.refl _⟩
          case round =>
            obtain ⟨j, hj, rfl, hnq⟩ := hrel
            by_cases hjl : j < E'.length
            · have hjl' : (j : Int) < (E'.length : Int) := by omega
              have hj0 : (0 : Int) ≤ (j : Int) := by omega
              rcases hor6 with hor6 | ⟨b6, off6, rfl, hb6, hc6⟩
              · rw [hor6] at hjl; simp at hjl
              obtain ⟨y, hy⟩ : ∃ y, E'[j]? = some y := ⟨_, List.getElem?_eq_getElem hjl⟩
              have hcell := hnq.cells.1
              have g0 : wr.cell? ⟨b6, off6 + j * 2, none⟩ = some (.string y.s) := (hcell _ _ hb6).trans (by have := hc6 _ y hy 0 _ rfl; simpa using this)
              have g1 : wr.cell? ⟨b6, off6 + j * 2 + 1, none⟩ = some (.int .u64 (y.n : Int)) := (hcell _ _ hb6).trans (by have := hc6 _ y hy 1 _ rfl; simpa using this)
              have hyn := HF2.out y (List.mem_of_getElem? hy)
              have hyn' : decide ((y.n : Int) < (now : Int)) = false := decide_eq_false (by omega)
              have hyn2 : decide (y.n < now) = false := decide_eq_false (by omega)
              have HY := Lib.hid hy
              have HNQ := Lib.hid hnq
              by_cases hjz : 0 < j
              · have hpos' : decide ((0 : Int) < (j : Int)) = true := decide_eq_true (by omega)
                have hpos2 : decide (0 < j) = true := decide_eq_true (by omega)
                obtain ⟨q, hq⟩ : ∃ q, j = q + 1 := ⟨j - 1, by omega⟩
                have hqm : (j : Int) - 1 = (q : Int) := by omega
                obtain ⟨z, hz⟩ : ∃ z, E'[q]? = some z := ⟨_, List.getElem?_eq_getElem (by omega)⟩
                have f3 : wr.cell? ⟨b6, off6 + q * 2, none⟩ = some (.string z.s) := (hcell _ _ hb6).trans (by have := hc6 _ z hz 0 _ rfl; simpa using this)
                have hlt3 : Op.bytesLess z.s.toList y.s.toList = true := srt_at HGE.out.srt hz (by rw [← hq]; exact hy)
                have hq0 : (0 : Int) ≤ (q : Int) := by omega
                have hql : (q : Int) < (E'.length : Int) := by omega
                clear hc6 hcell hz hq hy hyn hnq hlt hlt8 hjz
                go_wp2_with fail
                go_quiet (fail)
                go_wp2_with fail
                go_roundw
                case rel => exact ⟨j + 1, by omega, by go_num, HNQ.out.drewN _⟩
                case measure => simp [intOf]; omega
              · have hpos' : decide ((0 : Int) < (j : Int)) = false := decide_eq_false (by omega)
                have hpos2 : decide (0 < j) = false := decide_eq_false (by omega)
                clear hc6 hcell hy hyn hnq hlt hlt8 hjz
                go_wp2_with fail
                go_quiet (fail)
                go_wp2_with fail
                go_roundw
                case rel => exact ⟨j + 1, by omega, by go_num, HNQ.out.drewN _⟩
                case measure => simp [intOf]; omega
            · obtain rfl : j = E'.length := by omega
              have HNQ := Lib.hid hnq
              clear hnq
              go_wp2_with fail
              go_roundw
              case rel => exact ⟨k + 1, by omega, by omega, rfl, E', K', HC6.out _ (HN6.out.trans HNQ.out), HN5.out.trans (HN6.out.trans HNQ.out)⟩
              case measure => simp only [intOf]; omega
        · have i1 := fip cl
          clear fin fip fil
          go_wp2_with fail
          have hC6 : ∀ wx, New w5 wx → PSt wx p nm lm E' K' := fun wx hx => HC5.out.new hx
          have HC6 := Lib.hid hC6
          clear hC6 e0 e1 e2 e3 e4 i1
          refine (listS _ HC5.out).mono ?_
          rintro e w6 ⟨lv, rfl, hs6, hv6, hn6⟩
          obtain ⟨A6, cp6, hlv, hcp6, hor6⟩ := _root_.id hs6
          subst hlv
          have HN6 := Lib.hid hn6
          obtain ⟨wo, hwo⟩ : ∃ wo, wo = wr := ⟨_, rfl⟩
          clear hwo
          have hl16 := HGE.out.len
          have hl16' : ¬ (16 : Int) < (E'.length : Int) := by omega
          have f1 := HF1.out
          have f1' : ¬ (last : Int) < (now : Int) := by omega
          clear hs6 hv6 hn6 f1
          go_wp2_with fail
          go_loopw [12] (fun i wr => ∃ j : Nat, j ≤ E'.length ∧ i = .int .i64 j ∧ New w6 wr) (fun i _ => E'.length - (intOf i).toNat)
          case atStart => exact ⟨0, by omega, rfl, New.refl _⟩
          case round =>
            obtain ⟨j, hj, rfl, hnq⟩ := hrel
            by_cases hjl : j < E'.length
            · have hjl' : (j : Int) < (E'.length : Int) := by omega
              have hj0 : (0 : Int) ≤ (j : Int) := by omega
              rcases hor6 with hor6 | ⟨b6, off6, rfl, hb6, hc6⟩
              · rw [hor6] at hjl; simp at hjl
              obtain ⟨y, hy⟩ : ∃ y, E'[j]? = some y := ⟨_, List.getElem?_eq_getElem hjl⟩
              have hcell := hnq.cells.1
              have g0 : wr.cell? ⟨b6, off6 + j * 2, none⟩ = some (.string y.s) := (hcell _ _ hb6).trans (by have := hc6 _ y hy 0 _ rfl; simpa using this)
              have g1 : wr.cell? ⟨b6, off6 + j * 2 + 1, none⟩ = some (.int .u64 (y.n : Int)) := (hcell _ _ hb6).trans (by have := hc6 _ y hy 1 _ rfl; simpa using this)
              have hyn := HF2.out y (List.mem_of_getElem? hy)
              have hyn' : decide ((y.n : Int) < (now : Int)) = false := decide_eq_false (by omega)
              have hyn2 : decide (y.n < now) = false := decide_eq_false (by omega)
              have HY := Lib.hid hy
              have HNQ := Lib.hid hnq
              by_cases hjz : 0 < j
              · have hpos' : decide ((0 : Int) < (j : Int)) = true := decide_eq_true (by omega)
                have hpos2 : decide (0 < j) = true := decide_eq_true (by omega)
                obtain ⟨q, hq⟩ : ∃ q, j = q + 1 := ⟨j - 1, by omega⟩
                have hqm : (j : Int) - 1 = (q : Int) := by omega
                obtain ⟨z, hz⟩ : ∃ z, E'[q]? = some z := ⟨_, List.getElem?_eq_getElem (by omega)⟩
                have f3 : wr.cell? ⟨b6, off6 + q * 2, none⟩ = some (.string z.s) := (hcell _ _ hb6).trans (by have := hc6 _ z hz 0 _ rfl; simpa using this)
                have hlt3 : Op.bytesLess z.s.toList y.s.toList = true := srt_at HGE.out.srt hz (by rw [← hq]; exact hy)
                have hq0 : (0 : Int) ≤ (q : Int) := by omega
                have hql : (q : Int) < (E'.length : Int) := by omega
                clear hc6 hcell hz hq hy hyn hnq hlt hlt8 hjz
                go_wp2_with fail
                go_quiet (fail)
                go_wp2_with fail
                go_roundw
                case rel => exact ⟨j + 1, by omega, by go_num, HNQ.out.drewN _⟩
                case measure => simp [intOf]; omega
              · have hpos' : decide ((0 : Int) < (j : Int)) = false := decide_eq_false (by omega)
                have hpos2 : decide (0 < j) = false := decide_eq_false (by omega)
                clear hc6 hcell hy hyn hnq hlt hlt8 hjz
                go_wp2_with fail
                go_quiet (fail)
                go_wp2_with fail
                go_roundw
                case rel => exact ⟨j + 1, by omega, by go_num, HNQ.out.drewN _⟩
                case measure => simp [intOf]; omega
            · obtain rfl : j = E'.length := by omega
              have HNQ := Lib.hid hnq
              clear hnq
              go_wp2_with fail
              go_roundw
              case rel => exact ⟨k + 1, by omega, by omega, rfl, E', K', HC6.out _ (HN6.out.trans HNQ.out), HN5.out.trans (HN6.out.trans HNQ.out)⟩
              case measure => simp only [intOf]; omega
        · have i1 := fin cl
          have i2 := fil cl2
          clear fin fip fil
          go_wp2_with fail
          have hC6 : ∀ wx, New w5 wx → PSt wx p nm lm E' K' := fun wx hx => HC5.out.new hx
          have HC6 := Lib.hid hC6
          clear hC6 e0 e1 e2 e3 e4 i1
          refine (listS _ HC5.out).mono ?_
          rintro e w6 ⟨lv, rfl, hs6, hv6, hn6⟩
          obtain ⟨A6, cp6, hlv, hcp6, hor6⟩ := _root_.id hs6
          subst hlv
          have HN6 := Lib.hid hn6
          obtain ⟨wo, hwo⟩ : ∃ wo, wo = wr := ⟨_, rfl⟩
          clear hwo
          have hl16 := HGE.out.len
          have hl16' : ¬ (16 : Int) < (E'.length : Int) := by omega
          have f1 := HF1.out
          have f1' : ¬ (last : Int) < (now : Int) := by omega
          clear hs6 hv6 hn6 f1
          go_wp2_with fail
          go_loopw [12] (fun i wr => ∃ j : Nat, j ≤ E'.length ∧ i = .int .i64 j ∧ New w6 wr) (fun i _ => E'.length - (intOf i).toNat)
          case atStart => exact ⟨0, by omega, rfl, New.refl _⟩
          case round =>
            obtain ⟨j, hj, rfl, hnq⟩ := hrel
            by_cases hjl : j < E'.length
            · have hjl' : (j : Int) < (E'.length : Int) := by omega
              have hj0 : (0 : Int) ≤ (j : Int) := by omega
              rcases hor6 with hor6 | ⟨b6, off6, rfl, hb6, hc6⟩
              · rw [hor6] at hjl; simp at hjl
              obtain ⟨y, hy⟩ : ∃ y, E'[j]? = some y := ⟨_, List.getElem?_eq_getElem hjl⟩
              have hcell := hnq.cells.1
              have g0 : wr.cell? ⟨b6, off6 + j * 2, none⟩ = some (.string y.s) := (hcell _ _ hb6).trans (by have := hc6 _ y hy 0 _ rfl; simpa using this)
              have g1 : wr.cell? ⟨b6, off6 + j * 2 + 1, none⟩ = some (.int .u64 (y.n : Int)) := (hcell _ _ hb6).trans (by have := hc6 _ y hy 1 _ rfl; simpa using this)
              have hyn := HF2.out y (List.mem_of_getElem? hy)
              have hyn' : decide ((y.n : Int) < (now : Int)) = false := decide_eq_false (by omega)
              have hyn2 : decide (y.n < now) = false := decide_eq_false (by omega)
              have HY := Lib.hid hy
              have HNQ := Lib.hid hnq
              by_cases hjz : 0 < j
              · have hpos' : decide ((0 : Int) < (j : Int)) = true := decide_eq_true (by omega)
                have hpos2 : decide (0 < j) = true := decide_eq_true (by omega)
                obtain ⟨q, hq⟩ : ∃ q, j = q + 1 := ⟨j - 1, by omega⟩
                have hqm : (j : Int) - 1 = (q : Int) := by omega
                obtain ⟨z, hz⟩ : ∃ z, E'[q]? = some z := ⟨_, List.getElem?_eq_getElem (by omega)⟩
                have f3 : wr.cell? ⟨b6, off6 + q * 2, none⟩ = some (.string z.s) := (hcell _ _ hb6).trans (by have := hc6 _ z hz 0 _ rfl; simpa using this)
                have hlt3 : Op.bytesLess z.s.toList y.s.toList = true := srt_at HGE.out.srt hz (by rw [← hq]; exact hy)
                have hq0 : (0 : Int) ≤ (q : Int) := by omega
                have hql : (q : Int) < (E'.length : Int) := by omega
                clear hc6 hcell hz hq hy hyn hnq hlt hlt8 hjz
                go_wp2_with fail
                go_quiet (fail)
                go_wp2_with fail
                go_roundw
                case rel => exact ⟨j + 1, by omega, by go_num, HNQ.out.drewN _⟩
                case measure => simp [intOf]; omega
              · have hpos' : decide ((0 : Int) < (j : Int)) = false := decide_eq_false (by omega)
                have hpos2 : decide (0 < j) = false := decide_eq_false (by omega)
                clear hc6 hcell hy hyn hnq hlt hlt8 hjz
                go_wp2_with fail
                go_quiet (fail)
                go_wp2_with fail
                go_roundw
                case rel => exact ⟨j + 1, by omega, by go_num, HNQ.out.drewN _⟩
                case measure => simp [intOf]; omega
            · obtain rfl : j = E'.length := by omega
              have HNQ := Lib.hid hnq
              clear hnq
              go_wp2_with fail
              go_roundw
              case rel => exact ⟨k + 1, by omega, by omega, rfl, E', K', HC6.out _ (HN6.out.trans HNQ.out), HN5.out.trans (HN6.out.trans HNQ.out)⟩
              case measure => simp only [intOf]; omega
        · have i1 := fip cl
          clear fin fip fil
          go_wp2_with fail
          have hC6 : ∀ wx, New w5 wx → PSt wx p nm lm E' K' := fun wx hx => HC5.out.new hx
          have HC6 := Lib.hid hC6
          clear hC6 e0 e1 e2 e3 e4 i1
          refine (listS _ HC5.out).mono ?_
          rintro e w6 ⟨lv, rfl, hs6, hv6, hn6⟩
          obtain ⟨A6, cp6, hlv, hcp6, hor6⟩ := _root_.id hs6
          subst hlv
          have HN6 := Lib.hid hn6
          obtain ⟨wo, hwo⟩ : ∃ wo, wo = wr := ⟨_, rfl⟩
          clear hwo
          have hl16 := HGE.out.len
          have hl16' : ¬ (16 : Int) < (E'.length : Int) := by omega
          have f1 := HF1.out
          have f1' : ¬ (last : Int) < (now : Int) := by omega
          clear hs6 hv6 hn6 f1
          go_wp2_with fail
          go_loopw [12] (fun i wr => ∃ j : Nat, j ≤ E'.length ∧ i = .int .i64 j ∧ New w6 wr) (fun i _ => E'.length - (intOf i).toNat)
          case atStart => exact ⟨0, by omega, rfl, New.refl _⟩
          case round =>
            obtain ⟨j, hj, rfl, hnq⟩ := hrel
            by_cases hjl : j < E'.length
            · have hjl' : (j : Int) < (E'.length : Int) := by omega
              have hj0 : (0 : Int) ≤ (j : Int) := by omega
              rcases hor6 with hor6 | ⟨b6, off6, rfl, hb6, hc6⟩
              · rw [hor6] at hjl; simp at hjl
              obtain ⟨y, hy⟩ : ∃ y, E'[j]? = some y := ⟨_, List.getElem?_eq_getElem hjl⟩
              have hcell := hnq.cells.1
              have g0 : wr.cell? ⟨b6, off6 + j * 2, none⟩ = some (.string y.s) := (hcell _ _ hb6).trans (by have := hc6 _ y hy 0 _ rfl; simpa using this)
              have g1 : wr.cell? ⟨b6, off6 + j * 2 + 1, none⟩ = some (.int .u64 (y.n : Int)) := (hcell _ _ hb6).trans (by have := hc6 _ y hy 1 _ rfl; simpa using this)
              have hyn := HF2.out y (List.mem_of_getElem? hy)
              have hyn' : decide ((y.n : Int) < (now : Int)) = false := decide_eq_false (by omega)
              have hyn2 : decide (y.n < now) = false := decide_eq_false (by omega)
              have HY := Lib.hid hy
              have HNQ := Lib.hid hnq
              by_cases hjz : 0 < j
              · have hpos' : decide ((0 : Int) < (j : Int)) = true := decide_eq_true (by omega)
                have hpos2 : decide (0 < j) = true := decide_eq_true (by omega)
                obtain ⟨q, hq⟩ : ∃ q, j = q + 1 := ⟨j - 1, by omega⟩
                have hqm : (j : Int) - 1 = (q : Int) := by omega
                obtain ⟨z, hz⟩ : ∃ z, E'[q]? = some z := ⟨_, List.getElem?_eq_getElem (by omega)⟩
                have f3 : wr.cell? ⟨b6, off6 + q * 2, none⟩ = some (.string z.s) := (hcell _ _ hb6).trans (by have := hc6 _ z hz 0 _ rfl; simpa using this)
                have hlt3 : Op.bytesLess z.s.toList y.s.toList = true := srt_at HGE.out.srt hz (by rw [← hq]; exact hy)
                have hq0 : (0 : Int) ≤ (q : Int) := by omega
                have hql : (q : Int) < (E'.length : Int) := by omega
                clear hc6 hcell hz hq hy hyn hnq hlt hlt8 hjz
                go_wp2_with fail
                go_quiet (fail)
                go_wp2_with fail
                go_roundw
                case rel => exact ⟨j + 1, by omega, by go_num, HNQ.out.drewN _⟩
                case measure => simp [intOf]; omega
              · have hpos' : decide ((0 : Int) < (j : Int)) = false := decide_eq_false (by omega)
                have hpos2 : decide (0 < j) = false := decide_eq_false (by omega)
                clear hc6 hcell hy hyn hnq hlt hlt8 hjz
                go_wp2_with fail
                go_quiet (fail)
                go_wp2_with fail
                go_roundw
                case rel => exact ⟨j + 1, by omega, by go_num, HNQ.out.drewN _⟩
                case measure => simp [intOf]; omega
            · obtain rfl : j = E'.length := by omega
              have HNQ := Lib.hid hnq
              clear hnq
              go_wp2_with fail
              go_roundw
              case rel => exact ⟨k + 1, by omega, by omega, rfl, E', K', HC6.out _ (HN6.out.trans HNQ.out), HN5.out.trans (HN6.out.trans HNQ.out)⟩
              case measure => simp only [intOf]; omega
        · have i1 := fin cl
          have i2 := fil cl2
          clear fin fip fil
          go_wp2_with fail
          have hC6 : ∀ wx, New w5 wx → PSt wx p nm lm E' K' := fun wx hx => HC5.out.new hx
          have HC6 := Lib.hid hC6
          clear hC6 e0 e1 e2 e3 e4 i1
          refine (listS _ HC5.out).mono ?_
          rintro e w6 ⟨lv, rfl, hs6, hv6, hn6⟩
          obtain ⟨A6, cp6, hlv, hcp6, hor6⟩ := _root_.id hs6
          subst hlv
          have HN6 := Lib.hid hn6
          obtain ⟨wo, hwo⟩ : ∃ wo, wo = wr := ⟨_, rfl⟩
          clear hwo
          have hl16 := HGE.out.len
          have hl16' : ¬ (16 : Int) < (E'.length : Int) := by omega
          have f1 := HF1.out
          have f1' : ¬ (last : Int) < (now : Int) := by omega
          clear hs6 hv6 hn6 f1
          go_wp2_with fail
          go_loopw [12] (fun i wr => ∃ j : Nat, j ≤ E'.length ∧ i = .int .i64 j ∧ New w6 wr) (fun i _ => E'.length - (intOf i).toNat)
          case atStart => exact ⟨0, by omega, rfl, New.refl _⟩
          case round =>
            obtain ⟨j, hj, rfl, hnq⟩ := hrel
            by_cases hjl : j < E'.length
            · have hjl' : (j : Int) < (E'.length : Int) := by omega
              have hj0 : (0 : Int) ≤ (j : Int) := by omega
              rcases hor6 with hor6 | ⟨b6, off6, rfl, hb6, hc6⟩
              · rw [hor6] at hjl; simp at hjl
              obtain ⟨y, hy⟩ : ∃ y, E'[j]? = some y := ⟨_, List.getElem?_eq_getElem hjl⟩
              have hcell := hnq.cells.1
              have g0 : wr.cell? ⟨b6, off6 + j * 2, none⟩ = some (.string y.s) := (hcell _ _ hb6).trans (by have := hc6 _ y hy 0 _ rfl; simpa using this)
              have g1 : wr.cell? ⟨b6, off6 + j * 2 + 1, none⟩ = some (.int .u64 (y.n : Int)) := (hcell _ _ hb6).trans (by have := hc6 _ y hy 1 _ rfl; simpa using this)
              have hyn := HF2.out y (List.mem_of_getElem? hy)
              have hyn' : decide ((y.n : Int) < (now : Int)) = false := decide_eq_false (by omega)
              have hyn2 : decide (y.n < now) = false := decide_eq_false (by omega)
              have HY := Lib.hid hy
              have HNQ := Lib.hid hnq
              by_cases hjz : 0 < j
              · have hpos' : decide ((0 : Int) < (j : Int)) = true := decide_eq_true (by omega)
                have hpos2 : decide (0 < j) = true := decide_eq_true (by omega)
                obtain ⟨q, hq⟩ : ∃ q, j = q + 1 := ⟨j - 1, by omega⟩
                have hqm : (j : Int) - 1 = (q : Int) := by omega
                obtain ⟨z, hz⟩ : ∃ z, E'[q]? = some z := ⟨_, List.getElem?_eq_getElem (by omega)⟩
                have f3 : wr.cell? ⟨b6, off6 + q * 2, none⟩ = some (.string z.s) := (hcell _ _ hb6).trans (by have := hc6 _ z hz 0 _ rfl; simpa using this)
                have hlt3 : Op.bytesLess z.s.toList y.s.toList = true := srt_at HGE.out.srt hz (by rw [← hq]; exact hy)
                have hq0 : (0 : Int) ≤ (q : Int) := by omega
                have hql : (q : Int) < (E'.length : Int) := by omega
                clear hc6 hcell hz hq hy hyn hnq hlt hlt8 hjz
                go_wp2_with fail
                go_quiet (fail)
                go_wp2_with fail
                go_roundw
                case rel => exact ⟨j + 1, by omega, by go_num, HNQ.out.drewN _⟩
                case measure => simp [intOf]; omega
              · have hpos' : decide ((0 : Int) < (j : Int)) = false := decide_eq_false (by omega)
                have hpos2 : decide (0 < j) = false := decide_eq_false (by omega)
                clear hc6 hcell hy hyn hnq hlt hlt8 hjz
                go_wp2_with fail
                go_quiet (fail)
                go_wp2_with fail
                go_roundw
                case rel => exact ⟨j + 1, by omega, by go_num, HNQ.out.drewN _⟩
                case measure => simp [intOf]; omega
            · obtain rfl : j = E'.length := by omega
              have HNQ := Lib.hid hnq
              clear hnq
              go_wp2_with fail
              go_roundw
              case rel => exact ⟨k + 1, by omega, by omega, rfl, E', K', HC6.out _ (HN6.out.trans HNQ.out), HN5.out.trans (HN6.out.trans HNQ.out)⟩
              case measure => simp only [intOf]; omega
      · have hlt8' : ¬ (k : Int) < 60 := by omega
        go_wp2_with fail
        go_ret
        exact ⟨rfl, hnw⟩
    · have hlt' : ¬ (k : Int) < (acts.length : Int) := by omega
      go_wp2_with fail
      go_ret
      exact ⟨rfl, hnw⟩
end Go.Proofs.Ytcganajbfplmpaa
