/- The walk of the law AcceptPlays (chapter 20): for every input it answers true. -/
import Derived.Test.YtnjifcgomkdhdaaAccC
import Derived.Test.YtnjifcgomkdhdaaAwake20
namespace Go.Proofs.Ytnjifcgomkdhdaa
open Go.RowKit Go.Lap
set_option linter.unusedVariables false

theorem Blk4 {w : World} {g t : Nat} {a b c d : Value} (h : Blk w g t #[a, b, c, d]) : g < w.heap.size ∧ w.cell? ⟨g, 0, none⟩ = some a ∧ w.cell? ⟨g, 1, none⟩ = some b ∧ w.cell? ⟨g, 2, none⟩ = some c ∧ w.cell? ⟨g, 3, none⟩ = some d ∧ (∀ i, w.frozen? ⟨g, i, none⟩ = false) :=
  ⟨h.lt, h.cell 0, h.cell 1, h.cell 2, h.cell 3, h.frozen⟩
theorem Blk6 {w : World} {g t : Nat} {a b c d e f : Value} (h : Blk w g t #[a, b, c, d, e, f]) : g < w.heap.size ∧ w.cell? ⟨g, 0, none⟩ = some a ∧ w.cell? ⟨g, 1, none⟩ = some b ∧ w.cell? ⟨g, 2, none⟩ = some c ∧ w.cell? ⟨g, 3, none⟩ = some d ∧ w.cell? ⟨g, 4, none⟩ = some e ∧ w.cell? ⟨g, 5, none⟩ = some f ∧ (∀ i, w.frozen? ⟨g, i, none⟩ = false) :=
  ⟨h.lt, h.cell 0, h.cell 1, h.cell 2, h.cell 3, h.cell 4, h.cell 5, h.frozen⟩

structure Act where
  acc : Bool
  r : Nat
  n : Nat
  v : ByteArray
def Act.enc (a : Act) : List Value := [.bool a.acc, .int .u64 (a.r : Int), .int .u64 (a.n : Int), .string a.v]
def Act.good (a : Act) : Prop := a.r < 18446744073709551616 ∧ a.n < 18446744073709551616 ∧ a.v.size ≤ maxLen

/-- The acceptor at g and the reference's at gm are in one state. -/
def PlayAt (w wr : World) (g gm : Nat) : Prop := ∃ (pr pn : Nat) (h : Bool) (ar an : Nat) (v : ByteArray), pr < 18446744073709551616 ∧ pn < 18446744073709551616 ∧ ar < 18446744073709551616 ∧ an < 18446744073709551616 ∧ v.size ≤ maxLen ∧
  AccAt wr g pr pn h ar an v ∧ Blk wr gm 39 #[.int .u64 pr, .int .u64 pn, .bool h, .int .u64 ar, .int .u64 an, .string v] ∧ New w wr

/-- What stands behind a round's moves: both have come to one state; the two are compared. -/
def Tail : Prop := True

set_option maxRecDepth 100000 in
set_option maxHeartbeats 4000000 in
theorem acceptPlays_walk (l : List Act) (v : Value) (w : World) (hl : l.length ≤ maxLen) (hs : SlIn w 4 Act.enc v l) (hgood : ∀ a ∈ l, a.good) :
    Calls Try.prog 5 #[v] w fun e w' => e = .returned (.bool true) ∧ New w w' := by
  unfold maxLen at hl
  have hs' := hs
  obtain ⟨A, c, rfl, hlc, hh⟩ := hs
  go_enter Try.func5, Try.ntmps5
  go_wp2_with fail
  refine (new_any _).mono ?_
  rintro e w0 ⟨rfl, hw0⟩
  have ha0 : AccAt w0 w.heap.size 0 0 false 0 0 ⟨#[]⟩ := by rw [hw0]; exact Blk.mk_new _ _ _
  have hn0 : New w w0 := by rw [hw0]; exact (New.refl _).alloc _
  clear hw0
  go_wp2_with fail
  refine (awake20 _).mono ?_
  rintro e w1 ⟨rfl, hn1⟩
  have ha1 := ha0.new hn1
  have hN1 := hn0.trans hn1
  have hg1 := Blk.lt ha1
  clear ha0 hn0 hn1
  go_wp2_with fail
  have hne : w1.heap.size ≠ w.heap.size := by omega
  go_loopw [5, 6, 7, 8, 9, 10] (fun i _ _ _ _ _ wr => ∃ k : Nat, k ≤ l.length ∧ i = .int .i64 k ∧ PlayAt w wr w.heap.size w1.heap.size) (fun i _ _ _ _ _ _ => l.length - (intOf i).toNat)
  case atStart =>
    exact ⟨0, by omega, rfl, 0, 0, false, 0, 0, ⟨#[]⟩, by decide, by decide, by decide, by decide, Nat.zero_le _, Blk.alloc ha1 _, Blk.mk_new _ _ _, hN1.alloc _⟩
  case round =>
    obtain ⟨k, hk, rfl, pr, pn, h, ar, an, u, q1, q2, q3, q4, qu, ha, hm, hn⟩ := hrel
    have Q1 := Lib.hid q1
    have Q2 := Lib.hid q2
    have Q3 := Lib.hid q3
    have Q4 := Lib.hid q4
    have QU := Lib.hid qu
    clear q1 q2 q3 q4 qu ha1
    obtain ⟨mg, m0, m1, m2, m3, m4, m5, mz⟩ := Blk6 hm
    by_cases hlt : k < l.length ∧ k < 60
    · obtain ⟨hlt, h60⟩ := hlt
      have hlt' : (k : Int) < (l.length : Int) := by omega
      have h60' : (k : Int) < 60 := by omega
      have hk0 : (0 : Int) ≤ (k : Int) := by omega
      rcases hh with rfl | ⟨b, off, rfl, hb, hc⟩
      · simp at hlt
      obtain ⟨x, hx⟩ : ∃ x, l[k]? = some x := ⟨_, List.getElem?_eq_getElem hlt⟩
      obtain ⟨x1, x2, x3⟩ := hgood x (List.mem_of_getElem? hx)
      have hC := hn.cells.1
      have e0 : wr.cell? ⟨b, off + k * 4, none⟩ = some (.bool x.acc) := (hC _ _ hb).trans (hc k x hx 0 _ rfl)
      have e1 : wr.cell? ⟨b, off + k * 4 + 1, none⟩ = some (.int .u64 x.r) := (hC _ _ hb).trans (hc k x hx 1 _ rfl)
      have e2 : wr.cell? ⟨b, off + k * 4 + 2, none⟩ = some (.int .u64 x.n) := (hC _ _ hb).trans (hc k x hx 2 _ rfl)
      have e3 : wr.cell? ⟨b, off + k * 4 + 3, none⟩ = some (.string x.v) := (hC _ _ hb).trans (hc k x hx 3 _ rfl)
      obtain ⟨xa, xr, xn, xv⟩ := x
      simp only at e0 e1 e2 e3 x1 x2 x3
      have X1 := Lib.hid x1
      have X2 := Lib.hid x2
      have XV := Lib.hid x3
      clear hC hc hx x1 x2 x3
      go_wp2_with fail
      refine (refLess_any _ _ _ _ _).mono ?_
      rintro e w2 ⟨rfl, hn2⟩
      have bx2 := Blk.new (Blk.mk_new wr 41 #[.bool xa, .int .u64 (xr : Int), .int .u64 (xn : Int), .string xv]) hn2
      have hm2 := Blk.new (Blk.alloc hm _) hn2
      have ha2 : AccAt w2 w.heap.size pr pn h ar an u := Blk.new (Blk.alloc ha _) hn2
      have hN2 := (hn.alloc _).trans hn2
      have hgx : wr.heap.size ≠ w.heap.size := by have := Blk.lt ha; omega
      have hgx2 : w1.heap.size ≠ wr.heap.size := by omega
      clear hn2 hn ha hm e0 e1 e2 e3 mg m0 m1 m2 m3 m4 m5 mz
      obtain ⟨xg, x0, x1, x2, x3, xz⟩ := Blk4 bx2
      obtain ⟨mg, m0, m1, m2, m3, m4, m5, mz⟩ := Blk6 hm2
      cases hless : lessB xr xn pr pn with
      | true =>
        cases xa with
        | true =>
          go_wp2_with fail
          refine (accept_no w.heap.size pr pn h ar an u xr xn xv _ (Blk.alloc ha2 _) hless).mono ?_
          rintro e w3 ⟨rfl, hn3⟩
          have haE : AccAt w3 w.heap.size pr pn h ar an u := Blk.new (Blk.alloc ha2 _) hn3
          have hmE := Blk.new (Blk.alloc hm2 _) hn3
          have hN3 := (hN2.alloc _).trans hn3
          clear hn3 ha2 hm2 hN2 bx2 xg x0 x1 x2 x3 xz mg m0 m1 m2 m3 m4 m5 mz
          obtain ⟨mg, m0, m1, m2, m3, m4, m5, mz⟩ := Blk6 hmE
          go_wp2_with fail
          go_region_held3 (fun w' => Held w3 w') (first | exact Held.of (New.refl _).drew | assumption | exact Held.step (by assumption) (by assumption))
            (first
              | (go_at_call 22; refine (promised_any w.heap.size pr pn h ar an u _ (haE.new (show Held w3 _ by assumption).1)).mono ?_; rintro e wp ⟨rfl, hnp⟩)
              | (go_at_call 23; refine (accepted_any w.heap.size pr pn h ar an u _ (haE.new (show Held w3 _ by assumption).1)).mono ?_; rintro e wq ⟨rfl, hnq⟩))
          have hfin := (show Held w3 _ by assumption).1
          go_wp2_with fail
          go_roundw
          case rel => exact ⟨k + 1, by omega, by go_num, pr, pn, h, ar, an, u, Q1.out, Q2.out, Q3.out, Q4.out, QU.out, haE.new hfin, hmE.new hfin, hN3.trans hfin⟩
          case measure => simp [intOf]; omega
        | false =>
          go_wp2_with fail
          refine (prepare_no w.heap.size pr pn h ar an u xr xn _ (Blk.alloc ha2 _) hless).mono ?_
          rintro e w3 ⟨rfl, hn3⟩
          have haE0 : AccAt w3 w.heap.size pr pn h ar an u := Blk.new (Blk.alloc ha2 _) hn3
          have hmE0 := Blk.new (Blk.alloc hm2 _) hn3
          have hN3' := (hN2.alloc _).trans hn3
          clear hn3 ha2 hm2 hN2 bx2 xg x0 x1 x2 x3 xz mg m0 m1 m2 m3 m4 m5 mz
          go_wp2_with fail
          generalize hW : w3.alloc (Obj.cells #[Value.bool false, Value.int IntKind.u64 0, Value.int IntKind.u64 0, Value.string { data := #[] }] 37) = W
          have hnW : New w3 W := by rw [← hW]; exact (New.refl _).alloc _
          have haE := haE0.new hnW
          have hmE := hmE0.new hnW
          have hN3 := hN3'.trans hnW
          clear hW haE0 hmE0 hN3' hnW
          obtain ⟨mg, m0, m1, m2, m3, m4, m5, mz⟩ := Blk6 hmE
          go_wp2_with fail
          go_region_held3 (fun w' => Held W w') (first | exact Held.of (New.refl _).drew | assumption | exact Held.step (by assumption) (by assumption))
            (first
              | (go_at_call 22; refine (promised_any w.heap.size pr pn h ar an u _ (haE.new (show Held W _ by assumption).1)).mono ?_; rintro e wp ⟨rfl, hnp⟩)
              | (go_at_call 23; refine (accepted_any w.heap.size pr pn h ar an u _ (haE.new (show Held W _ by assumption).1)).mono ?_; rintro e wq ⟨rfl, hnq⟩))
          have hfin := (show Held W _ by assumption).1
          go_wp2_with fail
          go_roundw
          case rel => exact ⟨k + 1, by omega, by go_num, pr, pn, h, ar, an, u, Q1.out, Q2.out, Q3.out, Q4.out, QU.out, haE.new hfin, hmE.new hfin, hN3.trans hfin⟩
          case measure => simp [intOf]; omega
      | false =>
        cases xa with
        | true =>
          go_wp2_with fail
          refine (accept_yes w.heap.size pr pn h ar an u xr xn xv _ ?_ hless).mono ?_
          · refine Blk.alloc ?_ _
            repeat (refine Blk.far ?_ hne.symm _)
            exact ha2
          rintro e w3 ⟨rfl, hu3, haE⟩
          have hmE := Blk.upd (Blk.alloc (((((((Blk.set_ hm2 0 (.int .u64 (xr : Int))).set_ 1 (.int .u64 (xn : Int))).set_ 2 (.bool true)).set_ 3 (.int .u64 (xr : Int))).set_ 4 (.int .u64 (xn : Int))).set_ 5 (.string xv))) (Obj.cells #[Value.bool h, Value.int IntKind.u64 ↑ar, Value.int IntKind.u64 ↑an, Value.string u] 37)) hu3 hne
          have hN3 : New w w3 := by
            refine New.upd (New.alloc ?_ _) hu3 (fun i hi => by omega)
            repeat (refine New.setCell ?_ (show w.heap.size ≤ w1.heap.size by omega) _)
            exact hN2
          clear hu3 ha2 hm2 hN2 bx2 xg x0 x1 x2 x3 xz mg m0 m1 m2 m3 m4 m5 mz
          simp only [List.setIfInBounds_toArray, List.set_cons_zero, List.set_cons_succ] at hmE
          obtain ⟨mg, m0, m1, m2, m3, m4, m5, mz⟩ := Blk6 hmE
          go_wp2_with fail
          go_region_held3 (fun w' => Held w3 w') (first | exact Held.of (New.refl _).drew | assumption | exact Held.step (by assumption) (by assumption))
            (first
              | (go_at_call 22; refine (promised_any w.heap.size xr xn true xr xn xv _ (haE.new (show Held w3 _ by assumption).1)).mono ?_; rintro e wp ⟨rfl, hnp⟩)
              | (go_at_call 23; refine (accepted_any w.heap.size xr xn true xr xn xv _ (haE.new (show Held w3 _ by assumption).1)).mono ?_; rintro e wq ⟨rfl, hnq⟩))
          have hfin := (show Held w3 _ by assumption).1
          go_wp2_with fail
          go_roundw
          case rel => exact ⟨k + 1, by omega, by go_num, xr, xn, true, xr, xn, xv, X1.out, X2.out, X1.out, X2.out, XV.out, haE.new hfin, hmE.new hfin, hN3.trans hfin⟩
          case measure => simp [intOf]; omega
        | false =>
          have hgw : w2.heap.size ≠ w.heap.size := by have := Blk.lt ha2; omega
          go_wp2_with fail
          refine (prepare_yes w.heap.size pr pn h ar an u xr xn _ ?_ hless).mono ?_
          · refine Blk.alloc ?_ _
            repeat (refine Blk.far ?_ hne.symm _)
            exact ha2
          rintro e w3 ⟨rfl, hu3, haE0⟩
          have bw0 := Blk.mk_new ((w2.setCell ⟨w1.heap.size, 0, none⟩ (.int .u64 (xr : Int))).setCell ⟨w1.heap.size, 1, none⟩ (.int .u64 (xn : Int))) 37 #[.bool h, .int .u64 (ar : Int), .int .u64 (an : Int), .string u]
          rw [World.size_setCell, World.size_setCell] at bw0
          have bw := Blk.upd bw0 hu3 hgw
          obtain ⟨wg, f0, f1, f2, f3, fz⟩ := Blk4 bw
          have hmE0 := Blk.upd (Blk.alloc ((Blk.set_ hm2 0 (.int .u64 (xr : Int))).set_ 1 (.int .u64 (xn : Int))) (Obj.cells #[Value.bool h, Value.int IntKind.u64 ↑ar, Value.int IntKind.u64 ↑an, Value.string u] 37)) hu3 hne
          have hN3' : New w w3 := by
            refine New.upd (New.alloc ?_ _) hu3 (fun i hi => by omega)
            repeat (refine New.setCell ?_ (show w.heap.size ≤ w1.heap.size by omega) _)
            exact hN2
          clear hu3 ha2 hm2 hN2 bx2 xg x0 x1 x2 x3 xz mg m0 m1 m2 m3 m4 m5 mz bw bw0
          simp only [List.setIfInBounds_toArray, List.set_cons_zero, List.set_cons_succ] at hmE0
          go_wp2_with fail
          generalize hW : w3.alloc (Obj.cells #[Value.bool h, Value.int IntKind.u64 ↑ar, Value.int IntKind.u64 ↑an, Value.string u] 37) = W
          have hnW : New w3 W := by rw [← hW]; exact (New.refl _).alloc _
          have haE := haE0.new hnW
          have hmE := hmE0.new hnW
          have hN3 := hN3'.trans hnW
          clear hW haE0 hmE0 hN3' hnW f0 f1 f2 f3 fz wg
          obtain ⟨mg, m0, m1, m2, m3, m4, m5, mz⟩ := Blk6 hmE
          go_wp2_with fail
          go_region_held3 (fun w' => Held W w') (first | exact Held.of (New.refl _).drew | assumption | exact Held.step (by assumption) (by assumption))
            (first
              | (go_at_call 22; refine (promised_any w.heap.size xr xn h ar an u _ (haE.new (show Held W _ by assumption).1)).mono ?_; rintro e wp ⟨rfl, hnp⟩)
              | (go_at_call 23; refine (accepted_any w.heap.size xr xn h ar an u _ (haE.new (show Held W _ by assumption).1)).mono ?_; rintro e wq ⟨rfl, hnq⟩))
          have hfin := (show Held W _ by assumption).1
          go_wp2_with fail
          go_roundw
          case rel => exact ⟨k + 1, by omega, by go_num, xr, xn, h, ar, an, u, X1.out, X2.out, Q3.out, Q4.out, QU.out, haE.new hfin, hmE.new hfin, hN3.trans hfin⟩
          case measure => simp [intOf]; omega
    · have hstop : ∀ (P : Prop), (¬ (k : Int) < (l.length : Int) → P) → ((k : Int) < (l.length : Int) → ¬ (k : Int) < 60 → P) → P := fun P h1 h2 => by
        by_cases hkl : k < l.length
        · exact h2 (by omega) (by have : ¬ k < 60 := fun h => hlt ⟨hkl, h⟩; omega)
        · exact h1 (by omega)
      have qu := QU.out
      unfold maxLen at qu
      apply hstop
      all_goals
        intros
        clear hstop
        by_cases hbig : 60000 < u.size
        · have hbig' : (60000 : Int) < (u.size : Int) := by omega
          go_wp2_with fail
          go_ret
          exact ⟨rfl, hn⟩
        · have hbig' : ¬ (60000 : Int) < (u.size : Int) := by omega
          go_wp2_with fail
          go_region_with (first | (go_at_call 24; refine (accBytes_any w.heap.size pr pn h ar an u _ (Blk.drew ha) Q1.out Q2.out Q3.out Q4.out (by omega)).mono ?_; rintro e wb ⟨ub, rfl, hob, hnb⟩; have hself := New.refl wb; obtain ⟨ng, n0, n1, n2, n3, n4, n5, nz⟩ := Blk6 (Blk.new (Blk.drew hm) hnb); have hcv : ∀ w', New wb w' → (convert 47 9 ub).run Try.prog w' = .ok (.string (str (accB pr pn h ar an u))) w' := fun w' hw' => run_str w' ((Owns.slIn bEncOk hob).new hw')) | (go_at_call 25; refine (refBytes_any pr pn h ar an u _ Q1.out Q2.out Q3.out Q4.out (by omega)).mono ?_; rintro e wc ⟨rfl, hnc⟩))
          all_goals
            go_wp2_with fail
            go_ret
            exact ⟨rfl, hn.trans ((New.refl wr).drew.trans (hnb.trans hnc))⟩
end Go.Proofs.Ytnjifcgomkdhdaa
