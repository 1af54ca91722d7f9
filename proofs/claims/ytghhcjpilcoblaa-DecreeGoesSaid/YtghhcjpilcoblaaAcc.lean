/- Contracts of the package accept: each says what the call answers and which memory it may have changed. -/
import Derived.Test.YtghhcjpilcoblaaRows
import Derived.Test.YtghhcjpilcoblaaBase
import Derived.Deep.QuietTactic
import Derived.BigQuiet
import Derived.Deep.RegionHeld3
namespace Go.Proofs.Ytghhcjpilcoblaa
open Go.RowKit Go.Lap

def lessB (a b c d : Int) : Bool := decide (a < c ∨ a = c ∧ b < d)

abbrev balV (r n : Int) : Value := .agg #[.int .u64 r, .int .u64 n]
abbrev proV (h : Bool) (r n : Int) (s : ByteArray) : Value := .agg #[.bool h, .int .u64 r, .int .u64 n, .string s]

set_option maxHeartbeats 400000 in
theorem less_any (a b c d : Int) (w : World) :
    Calls Try.prog 37 #[.agg #[.int .u64 a, .int .u64 b], .agg #[.int .u64 c, .int .u64 d]] w fun e w' => e = .returned (.bool (lessB a b c d)) ∧ New w w' := by
  go_enter Try.func37, Try.ntmps37
  go_wp2
  all_goals go_ret
  all_goals refine ⟨?_, ((New.refl _).alloc _).alloc _⟩
  all_goals refine ret_bool ?_
  all_goals (rw [Bool.eq_iff_iff]; simp [lessB]; try omega)

set_option maxHeartbeats 400000 in
theorem new_any (w : World) :
    Calls Try.prog 8 #[] w fun e w' => e = .returned (.pointer (some ⟨w.heap.size, 0, none⟩)) ∧ w' = w.alloc (.cells #[.int .u64 0, .int .u64 0, .bool false, .int .u64 0, .int .u64 0, .string ⟨#[]⟩] 73) := by
  go_enter Try.func8, Try.ntmps8
  go_wp2
  go_ret
  exact ⟨rfl, rfl⟩

set_option maxHeartbeats 400000 in
theorem bal_any (a b : Int) (w : World) :
    Calls Try.prog 10 #[.int .u64 a, .int .u64 b] w fun e w' => e = .returned (.agg #[.int .u64 a, .int .u64 b]) ∧ New w w' := by
  go_enter Try.func10, Try.ntmps10
  go_wp2
  exact bodyPost_ret (v := .agg #[.int .u64 a, .int .u64 b]) (by simp [results, Try.results10, go_sem]) rfl ⟨rfl, (New.refl _).alloc _⟩

set_option maxHeartbeats 400000 in
theorem quorum_any (n : Int) (w : World) (h0 : -9223372036854775808 ≤ n) (h1 : n ≤ 9223372036854775807) :
    Calls Try.prog 15 #[.int .i64 n] w fun e w' => e = .returned (.int .i64 (max n 0 / 2 + 1)) ∧ w' = w := by
  go_enter Try.func15, Try.ntmps15
  go_wp2
  all_goals go_ret
  · exact ⟨ret_int (by omega), rfl⟩
  · exact ⟨ret_int (by omega), rfl⟩

/-- An acceptor in memory. -/
def AccAt (w : World) (g : Nat) (pr pn : Int) (h : Bool) (ar an : Int) (v : ByteArray) : Prop :=
  Blk w g 73 #[.int .u64 pr, .int .u64 pn, .bool h, .int .u64 ar, .int .u64 an, .string v]

theorem AccAt.facts {w : World} {g : Nat} {pr pn : Int} {h : Bool} {ar an : Int} {v : ByteArray} (hb : AccAt w g pr pn h ar an v) :
    g < w.heap.size ∧ w.cell? ⟨g, 0, none⟩ = some (.int .u64 pr) ∧ w.cell? ⟨g, 1, none⟩ = some (.int .u64 pn) ∧ w.cell? ⟨g, 2, none⟩ = some (.bool h) ∧ w.cell? ⟨g, 3, none⟩ = some (.int .u64 ar) ∧
      w.cell? ⟨g, 4, none⟩ = some (.int .u64 an) ∧ w.cell? ⟨g, 5, none⟩ = some (.string v) ∧ (∀ i, w.frozen? ⟨g, i, none⟩ = false) :=
  ⟨Blk.lt hb, Blk.cell hb 0, Blk.cell hb 1, Blk.cell hb 2, Blk.cell hb 3, Blk.cell hb 4, Blk.cell hb 5, Blk.frozen hb⟩

set_option maxHeartbeats 400000 in
theorem promise_no (g : Nat) (pr pn : Int) (h : Bool) (ar an : Int) (v : ByteArray) (r n : Int) (w : World) (hb : AccAt w g pr pn h ar an v) (hl : lessB r n pr pn = true) :
    Calls Try.prog 43 #[.pointer (some ⟨g, 0, none⟩), .agg #[.int .u64 r, .int .u64 n]] w fun e w' => e = .returned (.bool false) ∧ New w w' := by
  obtain ⟨hg, c0, c1, _, _, _, _, hz⟩ := hb.facts
  clear hb
  have hg1 : g < w.heap.size + 1 := by omega
  go_enter Try.func43, Try.ntmps43
  go_wp2
  go_region_held3 (fun w' => w'.cell? ⟨w.heap.size, 0, none⟩ = some (.int .u64 r) ∧ w'.cell? ⟨w.heap.size, 1, none⟩ = some (.int .u64 n) ∧ w'.cell? ⟨g, 0, none⟩ = some (.int .u64 pr) ∧ w'.cell? ⟨g, 1, none⟩ = some (.int .u64 pn))
    (go_keep) (first | (go_at_call 37; refine (less_any _ _ _ _ _).mono ?_; rintro e w1 ⟨rfl, hb1⟩; obtain ⟨hc1, hf1⟩ := hb1.cells))
  go_wp2
  go_ret
  exact ⟨rfl, ((New.refl w).alloc _).drew.trans hb1⟩

set_option maxHeartbeats 400000 in
theorem promise_yes (g : Nat) (pr pn : Int) (h : Bool) (ar an : Int) (v : ByteArray) (r n : Int) (w : World) (hb : AccAt w g pr pn h ar an v) (hl : lessB r n pr pn = false) :
    Calls Try.prog 43 #[.pointer (some ⟨g, 0, none⟩), .agg #[.int .u64 r, .int .u64 n]] w fun e w' => e = .returned (.bool true) ∧ Upd (· = g) w w' ∧ AccAt w' g r n h ar an v := by
  obtain ⟨hg, c0, c1, _, _, _, _, hz⟩ := hb.facts
  have hg1 : g < w.heap.size + 1 := by omega
  go_enter Try.func43, Try.ntmps43
  go_wp2
  go_region_held3 (fun w' => w'.cell? ⟨w.heap.size, 0, none⟩ = some (.int .u64 r) ∧ w'.cell? ⟨w.heap.size, 1, none⟩ = some (.int .u64 n) ∧ w'.cell? ⟨g, 0, none⟩ = some (.int .u64 pr) ∧ w'.cell? ⟨g, 1, none⟩ = some (.int .u64 pn))
    (go_keep) (first | (go_at_call 37; refine (less_any _ _ _ _ _).mono ?_; rintro e w1 ⟨rfl, hb1⟩; obtain ⟨hc1, hf1⟩ := hb1.cells))
  go_wp2
  go_ret
  have hu : Upd (· = g) w w1 := Upd.new (((New.refl w).alloc _).drew.trans hb1)
  have hb2 := Blk.new (w' := w1) (Blk.drew (Blk.alloc hb _)) hb1
  exact ⟨rfl, (hu.setCell (fun _ => rfl) _).setCell (fun _ => rfl) _, (hb2.set_ 0 _).set_ 1 _⟩

theorem promise_any (g : Nat) (pr pn : Int) (h : Bool) (ar an : Int) (v : ByteArray) (r n : Int) (w : World) (hb : AccAt w g pr pn h ar an v) :
    Calls Try.prog 43 #[.pointer (some ⟨g, 0, none⟩), .agg #[.int .u64 r, .int .u64 n]] w fun e w' => e = .returned (.bool (!lessB r n pr pn)) ∧ Upd (· = g) w w' ∧
      AccAt w' g (if lessB r n pr pn then pr else r) (if lessB r n pr pn then pn else n) h ar an v := by
  cases hl : lessB r n pr pn with
  | true => exact (promise_no g pr pn h ar an v r n w hb hl).mono fun e w' ⟨he, hn⟩ => ⟨he, Upd.new hn, Blk.new hb hn⟩
  | false => exact (promise_yes g pr pn h ar an v r n w hb hl).mono fun e w' hh => hh

set_option maxHeartbeats 400000 in
theorem prepare_no (g : Nat) (pr pn : Int) (h : Bool) (ar an : Int) (v : ByteArray) (r n : Int) (w : World) (hb : AccAt w g pr pn h ar an v) (hl : lessB r n pr pn = true) :
    Calls Try.prog 13 #[.pointer (some ⟨g, 0, none⟩), .agg #[.int .u64 r, .int .u64 n]] w fun e w' => e = .returned (.tuple #[.agg #[.bool false, .int .u64 0, .int .u64 0, .string ⟨#[]⟩], .bool false]) ∧ New w w' := by
  go_enter Try.func13, Try.ntmps13
  go_wp2_with fail
  refine (promise_no g pr pn h ar an v r n _ ?_ hl).mono ?_
  · exact Blk.alloc (Blk.alloc hb _) _
  rintro e w1 ⟨rfl, hb1⟩
  obtain ⟨hc1, hf1⟩ := hb1.cells
  have hs := hb1.size
  simp at hs
  have hs' : w.heap.size + 1 < w1.heap.size := by omega
  go_wp2
  exact bodyPost_ret (v := .tuple #[.agg #[.bool false, .int .u64 0, .int .u64 0, .string ⟨#[]⟩], .bool false]) (by simp [results, Try.results13, go_sem, hc1]) rfl ⟨rfl, by
    repeat (refine New.setCell ?_ (by simp) _)
    exact (((New.refl w).alloc _).alloc _).trans hb1⟩

set_option maxHeartbeats 400000 in
theorem prepare_yes (g : Nat) (pr pn : Int) (h : Bool) (ar an : Int) (v : ByteArray) (r n : Int) (w : World) (hb : AccAt w g pr pn h ar an v) (hl : lessB r n pr pn = false) :
    Calls Try.prog 13 #[.pointer (some ⟨g, 0, none⟩), .agg #[.int .u64 r, .int .u64 n]] w fun e w' => e = .returned (.tuple #[.agg #[.bool h, .int .u64 ar, .int .u64 an, .string v], .bool true]) ∧ Upd (· = g) w w' ∧ AccAt w' g r n h ar an v := by
  have hg : g < w.heap.size := Blk.lt hb
  go_enter Try.func13, Try.ntmps13
  go_wp2_with fail
  refine (promise_yes g pr pn h ar an v r n _ ?_ hl).mono ?_
  · exact Blk.alloc (Blk.alloc hb _) _
  rintro e w1 ⟨rfl, hu1, hb1⟩
  obtain ⟨hg1, c0, c1, c2, c3, c4, c5, hz⟩ := hb1.facts
  have hr := Blk.upd (Blk.mk_new (w.alloc _) _ _) hu1 (by first | omega | (simp; omega))
  have r0 := hr.cell 0
  have r1 := hr.cell 1
  have r2 := hr.cell 2
  have r3 := hr.cell 3
  have rz := hr.frozen
  simp at r0 r1 r2 r3 rz
  go_wp2
  exact bodyPost_ret (v := .tuple #[.agg #[.bool h, .int .u64 ar, .int .u64 an, .string v], .bool true]) (by simp [results, Try.results13, go_sem, r0, r1, r2, r3]) rfl ⟨rfl, by
    repeat (refine Upd.setNew ?_ (by simp) _)
    exact (((Upd.refl _ w).alloc _).alloc _).trans hu1 (fun _ _ h => h), by
    repeat (refine Blk.far ?_ (by simp; omega) _)
    exact hb1⟩

set_option maxHeartbeats 400000 in
theorem accept_no (g : Nat) (pr pn : Int) (h : Bool) (ar an : Int) (v : ByteArray) (r n : Int) (u : ByteArray) (w : World) (hb : AccAt w g pr pn h ar an v) (hl : lessB r n pr pn = true) :
    Calls Try.prog 17 #[.pointer (some ⟨g, 0, none⟩), .agg #[.int .u64 r, .int .u64 n], .string u] w fun e w' => e = .returned (.bool false) ∧ New w w' := by
  go_enter Try.func17, Try.ntmps17
  go_wp2_with fail
  refine (promise_no g pr pn h ar an v r n _ ?_ hl).mono ?_
  · exact Blk.alloc hb _
  rintro e w1 ⟨rfl, hb1⟩
  go_wp2
  go_ret
  exact ⟨rfl, ((New.refl w).alloc _).trans hb1⟩

set_option maxHeartbeats 400000 in
theorem accept_yes (g : Nat) (pr pn : Int) (h : Bool) (ar an : Int) (v : ByteArray) (r n : Int) (u : ByteArray) (w : World) (hb : AccAt w g pr pn h ar an v) (hl : lessB r n pr pn = false) :
    Calls Try.prog 17 #[.pointer (some ⟨g, 0, none⟩), .agg #[.int .u64 r, .int .u64 n], .string u] w fun e w' => e = .returned (.bool true) ∧ Upd (· = g) w w' ∧ AccAt w' g r n true r n u := by
  have hg : g < w.heap.size := Blk.lt hb
  go_enter Try.func17, Try.ntmps17
  go_wp2_with fail
  refine (promise_yes g pr pn h ar an v r n _ ?_ hl).mono ?_
  · exact Blk.alloc hb _
  rintro e w1 ⟨rfl, hu1, hb1⟩
  obtain ⟨hg1, c0, c1, c2, c3, c4, c5, hz⟩ := hb1.facts
  have hr := Blk.upd (Blk.mk_new w _ _) hu1 (by first | omega | (simp; omega))
  have r0 := hr.cell 0
  have r1 := hr.cell 1
  simp at r0 r1
  go_wp2
  go_ret
  refine ⟨rfl, ?_, (((Blk.set_ hb1 2 _).set_ 3 _).set_ 4 _).set_ 5 _⟩
  repeat (refine Upd.setIn ?_ _ _)
  exact ((Upd.refl _ w).alloc _).trans hu1 (fun _ _ h => h)

theorem accept_any (g : Nat) (pr pn : Int) (h : Bool) (ar an : Int) (v : ByteArray) (r n : Int) (u : ByteArray) (w : World) (hb : AccAt w g pr pn h ar an v) :
    Calls Try.prog 17 #[.pointer (some ⟨g, 0, none⟩), .agg #[.int .u64 r, .int .u64 n], .string u] w fun e w' => e = .returned (.bool (!lessB r n pr pn)) ∧ Upd (· = g) w w' ∧
      AccAt w' g (if lessB r n pr pn then pr else r) (if lessB r n pr pn then pn else n) (if lessB r n pr pn then h else true) (if lessB r n pr pn then ar else r) (if lessB r n pr pn then an else n) (if lessB r n pr pn then v else u) := by
  cases hl : lessB r n pr pn with
  | true => exact (accept_no g pr pn h ar an v r n u w hb hl).mono fun e w' ⟨he, hn⟩ => ⟨he, Upd.new hn, Blk.new hb hn⟩
  | false => exact (accept_yes g pr pn h ar an v r n u w hb hl).mono fun e w' hh => hh

set_option maxHeartbeats 400000 in
theorem promised_any (g : Nat) (pr pn : Int) (h : Bool) (ar an : Int) (v : ByteArray) (w : World) (hb : AccAt w g pr pn h ar an v) :
    Calls Try.prog 79 #[.pointer (some ⟨g, 0, none⟩)] w fun e w' => e = .returned (.agg #[.int .u64 pr, .int .u64 pn]) ∧ New w w' := by
  obtain ⟨hg, c0, c1, c2, c3, c4, c5, hz⟩ := hb.facts
  go_enter Try.func79, Try.ntmps79
  go_wp2
  exact bodyPost_ret (v := .agg #[.int .u64 pr, .int .u64 pn]) (by simp [results, Try.results79, go_sem]) rfl ⟨rfl, (New.refl _).alloc _⟩

/-- A promise in memory. -/
def ProAt (w : World) (g : Nat) (h : Bool) (ar an : Int) (v : ByteArray) : Prop :=
  Blk w g 45 #[.bool h, .int .u64 ar, .int .u64 an, .string v]

theorem ProAt.facts {w : World} {g : Nat} {h : Bool} {ar an : Int} {v : ByteArray} (hb : ProAt w g h ar an v) :
    g < w.heap.size ∧ w.cell? ⟨g, 0, none⟩ = some (.bool h) ∧ w.cell? ⟨g, 1, none⟩ = some (.int .u64 ar) ∧
      w.cell? ⟨g, 2, none⟩ = some (.int .u64 an) ∧ w.cell? ⟨g, 3, none⟩ = some (.string v) ∧ (∀ i, w.frozen? ⟨g, i, none⟩ = false) :=
  ⟨Blk.lt hb, Blk.cell hb 0, Blk.cell hb 1, Blk.cell hb 2, Blk.cell hb 3, Blk.frozen hb⟩

theorem ProAt.new {w w' : World} {g : Nat} {h : Bool} {ar an : Int} {v : ByteArray} (hb : ProAt w g h ar an v) (hn : New w w') : ProAt w' g h ar an v := Blk.new hb hn
def betterB (bh : Bool) (br bn : Int) (ph : Bool) (pr pn : Int) : Bool := ph && (!bh || lessB br bn pr pn)

set_option maxHeartbeats 400000 in
theorem take_no (g : Nat) (pr pn : Int) (pv : ByteArray) (w : World) :
    Calls Try.prog 44 #[.agg #[.bool false, .int .u64 pr, .int .u64 pn, .string pv], .pointer (some ⟨g, 0, none⟩)] w fun e w' => e = .returned (.tuple #[]) ∧ New w w' := by
  go_enter Try.func44, Try.ntmps44
  go_wp2_with fail
  go_end0
  exact ⟨rfl, (New.refl _).alloc _⟩

set_option maxHeartbeats 400000 in
theorem take_first (g : Nat) (br bn : Int) (bv : ByteArray) (pr pn : Int) (pv : ByteArray) (w : World) (hb : ProAt w g false br bn bv) :
    Calls Try.prog 44 #[.agg #[.bool true, .int .u64 pr, .int .u64 pn, .string pv], .pointer (some ⟨g, 0, none⟩)] w fun e w' => e = .returned (.tuple #[]) ∧ Upd (· = g) w w' ∧ ProAt w' g true pr pn pv := by
  obtain ⟨hg, c0, c1, c2, c3, hz⟩ := hb.facts
  have hg1 : g < w.heap.size + 1 := by omega
  go_enter Try.func44, Try.ntmps44
  go_wp2_with fail
  go_end0
  refine ⟨rfl, ?_, Blk.alloc ((((Blk.set_ hb 0 _).set_ 1 _).set_ 2 _).set_ 3 _) _⟩
  refine Upd.alloc ?_ _
  repeat (refine Upd.setIn ?_ _ _)
  exact Upd.refl _ _

set_option maxHeartbeats 400000 in
theorem take_less (g : Nat) (br bn : Int) (bv : ByteArray) (pr pn : Int) (pv : ByteArray) (w : World) (hb : ProAt w g true br bn bv) (hl : lessB br bn pr pn = true) :
    Calls Try.prog 44 #[.agg #[.bool true, .int .u64 pr, .int .u64 pn, .string pv], .pointer (some ⟨g, 0, none⟩)] w fun e w' => e = .returned (.tuple #[]) ∧ Upd (· = g) w w' ∧ ProAt w' g true pr pn pv := by
  obtain ⟨hg, c0, c1, c2, c3, hz⟩ := hb.facts
  have hg1 : g < w.heap.size + 1 := by omega
  go_enter Try.func44, Try.ntmps44
  go_wp2_with fail
  refine (less_any _ _ _ _ _).mono ?_
  rintro e w1 ⟨rfl, hb1⟩
  obtain ⟨hc1, hf1⟩ := hb1.cells
  go_wp2
  go_end0
  refine ⟨rfl, ?_, (((Blk.set_ (Blk.new (Blk.alloc hb _) hb1) 0 _).set_ 1 _).set_ 2 _).set_ 3 _⟩
  repeat (refine Upd.setIn ?_ _ _)
  exact Upd.new (((New.refl _).alloc _).trans hb1)

set_option maxHeartbeats 400000 in
theorem take_not (g : Nat) (br bn : Int) (bv : ByteArray) (pr pn : Int) (pv : ByteArray) (w : World) (hb : ProAt w g true br bn bv) (hl : lessB br bn pr pn = false) :
    Calls Try.prog 44 #[.agg #[.bool true, .int .u64 pr, .int .u64 pn, .string pv], .pointer (some ⟨g, 0, none⟩)] w fun e w' => e = .returned (.tuple #[]) ∧ New w w' := by
  obtain ⟨hg, c0, c1, c2, c3, hz⟩ := hb.facts
  have hg1 : g < w.heap.size + 1 := by omega
  go_enter Try.func44, Try.ntmps44
  go_wp2_with fail
  refine (less_any _ _ _ _ _).mono ?_
  rintro e w1 ⟨rfl, hb1⟩
  go_wp2
  go_end0
  exact ⟨rfl, ((New.refl _).alloc _).trans hb1⟩

/-- The better one of two promises. -/
structure Pro where
  has : Bool
  r : Int
  n : Int
  v : ByteArray

def Pro.take (b p : Pro) : Pro := if betterB b.has b.r b.n p.has p.r p.n then p else b

theorem choose1_any (g : Nat) (b p : Pro) (w : World) (hb : ProAt w g b.has b.r b.n b.v) :
    Calls Try.prog 44 #[.agg #[.bool p.has, .int .u64 p.r, .int .u64 p.n, .string p.v], .pointer (some ⟨g, 0, none⟩)] w fun e w' => e = .returned (.tuple #[]) ∧ Upd (· = g) w w' ∧
      ProAt w' g (b.take p).has (b.take p).r (b.take p).n (b.take p).v := by
  obtain ⟨bh, br, bn, bv⟩ := b
  obtain ⟨ph, pr, pn, pv⟩ := p
  cases ph with
  | false => exact (take_no g pr pn pv w).mono fun e w' ⟨he, hn⟩ => ⟨he, Upd.new hn, by simpa [Pro.take, betterB] using ProAt.new hb hn⟩
  | true =>
    cases bh with
    | false => exact (take_first g br bn bv pr pn pv w hb).mono fun e w' ⟨he, hn, hp⟩ => ⟨he, hn, by simpa [Pro.take, betterB] using hp⟩
    | true =>
      cases hl : lessB br bn pr pn with
      | true => exact (take_less g br bn bv pr pn pv w hb hl).mono fun e w' ⟨he, hn, hp⟩ => ⟨he, hn, by simpa [Pro.take, betterB, hl] using hp⟩
      | false => exact (take_not g br bn bv pr pn pv w hb hl).mono fun e w' ⟨he, hn⟩ => ⟨he, Upd.new hn, by simpa [Pro.take, betterB, hl] using ProAt.new hb hn⟩

def Pro.enc (p : Pro) : List Value := [.bool p.has, .int .u64 p.r, .int .u64 p.n, .string p.v]
def Pro.best (own : ByteArray) (l : List Pro) : Pro := l.foldl Pro.take ⟨false, 0, 0, own⟩

theorem Pro.best_snoc (own : ByteArray) (l : List Pro) (k : Nat) (x : Pro) (h : l[k]? = some x) : Pro.best own (l.take (k + 1)) = (Pro.best own (l.take k)).take x := by
  obtain ⟨hk, rfl⟩ := List.getElem?_eq_some_iff.1 h
  unfold Pro.best
  rw [List.take_succ_eq_append_getElem hk, List.foldl_append]
  rfl

set_option maxHeartbeats 1000000 in
theorem choose_some (own : ByteArray) (l : List Pro) (b off c : Nat) (w : World) (hl : l.length ≤ 1000000) (hb : b < w.heap.size)
    (hc : ∀ k x, l[k]? = some x → ∀ j u, (Pro.enc x)[j]? = some u → w.cell? ⟨b, off + k * 4 + j, none⟩ = some u) :
    Calls Try.prog 16 #[.string own, .slice (some ⟨b, off, none⟩) l.length c] w fun e w' => e = .returned (.string (Pro.best own l).v) ∧ New w w' := by
  go_enter Try.func16, Try.ntmps16
  go_wp2_with fail
  go_loopw [8, 14] (fun _ i wr => ∃ k : Nat, k ≤ l.length ∧ i = .int .i64 k ∧ New w wr ∧ ProAt wr w.heap.size (Pro.best own (l.take k)).has (Pro.best own (l.take k)).r (Pro.best own (l.take k)).n (Pro.best own (l.take k)).v) (fun _ i _ => l.length - (intOf i).toNat)
  case atStart => exact ⟨0, Nat.zero_le _, rfl, (New.refl _).alloc _, Blk.mk_new _ _ _⟩
  case round =>
    obtain ⟨k, hk, rfl, hn, hp⟩ := hrel
    by_cases hlt : k < l.length
    · obtain ⟨x, hx⟩ : ∃ x, l[k]? = some x := ⟨_, List.getElem?_eq_getElem hlt⟩
      have e0 : wr.cell? ⟨b, off + k * 4, none⟩ = some (.bool x.has) := (hn.cells.1 _ _ hb).trans (hc k x hx 0 _ rfl)
      have e1 : wr.cell? ⟨b, off + k * 4 + 1, none⟩ = some (.int .u64 x.r) := (hn.cells.1 _ _ hb).trans (hc k x hx 1 _ rfl)
      have e2 : wr.cell? ⟨b, off + k * 4 + 2, none⟩ = some (.int .u64 x.n) := (hn.cells.1 _ _ hb).trans (hc k x hx 2 _ rfl)
      have e3 : wr.cell? ⟨b, off + k * 4 + 3, none⟩ = some (.string x.v) := (hn.cells.1 _ _ hb).trans (hc k x hx 3 _ rfl)
      have hbs := Pro.best_snoc own l k x hx
      have HX := Lib.hid hx
      have HB := Lib.hid hbs
      have hlk : (k : Int) < (l.length : Int) := by omega
      clear hx hbs hc
      go_wp2_with fail
      refine (choose1_any w.heap.size (Pro.best own (l.take k)) x _ ?_).mono ?_
      · exact Blk.alloc hp _
      rintro e w1 ⟨rfl, hu1, hp1⟩
      go_wp2_with fail
      go_roundw
      case rel => exact ⟨k + 1, by omega, by go_num, (hn.alloc _).upd hu1 (fun i hi => by omega), by rw [HB.out]; exact hp1⟩
      case measure => simp [intOf]; omega
    · have hke : k = l.length := by omega
      have hkn : ¬ (k : Int) < (l.length : Int) := by omega
      obtain ⟨hg, c0, c1, c2, c3, hz⟩ := hp.facts
      go_wp2_with fail
      go_ret
      exact ⟨rfl, hn⟩

theorem choose_any (own : ByteArray) (l : List Pro) (v : Value) (w : World) (hl : l.length ≤ 1000000) (hs : SlIn w 4 Pro.enc v l) :
    Calls Try.prog 16 #[.string own, v] w fun e w' => e = .returned (.string (Pro.best own l).v) ∧ New w w' := by
  obtain ⟨A, c, rfl, _, h⟩ := hs
  rcases h with rfl | ⟨b, off, rfl, hb, hc⟩
  · go_enter Try.func16, Try.ntmps16
    go_wp2_with fail
    refine wp_loop_rounds 1 ?_
    rw [rounds_succ]
    go_wp2_with fail
    go_ret
    exact ⟨rfl, (New.refl _).alloc _⟩
  · exact choose_some own l b off c w hl hb hc

end Go.Proofs.Ytghhcjpilcoblaa
