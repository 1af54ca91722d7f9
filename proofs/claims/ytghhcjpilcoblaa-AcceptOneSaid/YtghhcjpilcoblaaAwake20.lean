/- The law's own example (chapter 20): it answers true, and changes nothing that was there. -/
import Derived.Test.YtghhcjpilcoblaaAcc2
namespace Go.Proofs.Ytghhcjpilcoblaa
open Go.RowKit Go.Lap

theorem quorum5 (w : World) : Calls Try.prog 15 #[.int .i64 5] w fun e w' => e = .returned (.int .i64 3) ∧ w = w' :=
  (quorum_any 5 w (by decide) (by decide)).mono fun _ _ h => ⟨h.1, h.2.symm⟩

theorem slOne {w : World} {b t : Nat} (h : Blk w b t (#[.bool true, .int .u64 1, .int .u64 1, .string ⟨#[120]⟩])) : SlIn w 4 Pro.enc (.slice (some ⟨b, 0, none⟩) 1 1) [⟨true, 1, 1, ⟨#[120]⟩⟩] := by
  refine ⟨_, _, rfl, by decide, .inr ⟨_, _, rfl, h.lt, fun k x hx j u hu => ?_⟩⟩
  match k, hx with
  | 0, hx =>
    simp at hx
    subst hx
    have := h.cell j
    simp only [Nat.zero_mul, Nat.add_zero, Nat.zero_add]
    rw [this, ← hu]
    simp [Pro.enc]

theorem choose1 (own : ByteArray) (v : Value) (w : World) (h : SlIn w 4 Pro.enc v [⟨true, 1, 1, ⟨#[120]⟩⟩]) : Calls Try.prog 16 #[.string own, v] w fun e w' => e = .returned (.string ⟨#[120]⟩) ∧ New w w' :=
  (choose_any own _ v w (by decide) h).mono fun _ _ h => h

set_option maxHeartbeats 2000000 in
theorem awake20 (w : World) : Calls Try.prog 9 #[] w fun e w' => e = .returned (.bool true) ∧ New w w' := by
  go_enter Try.func9, Try.ntmps9
  go_wp2_with fail
  refine (new_any _).mono ?_
  rintro e w0 ⟨rfl, hw0⟩
  have ha0 : AccAt w0 w.heap.size 0 0 false 0 0 ⟨#[]⟩ := by rw [hw0]; exact Blk.mk_new _ _ _
  have hn0 : New w w0 := by rw [hw0]; exact (New.refl _).alloc _
  clear hw0
  go_wp2_with fail
  refine (bal_any _ _ _).mono ?_
  rintro e w1 ⟨rfl, hn1⟩
  go_wp2_with fail
  refine (prepare_yes w.heap.size 0 0 false 0 0 ⟨#[]⟩ 1 1 _ (Blk.new ha0 hn1) (by decide)).mono ?_
  rintro e w2 ⟨rfl, hu2, ha2⟩
  have hn2 : New w w2 := (hn0.trans hn1).upd hu2 (fun i hi => by omega)
  have hg2 : w.heap.size < w2.heap.size := Blk.lt ha2
  clear hu2 hn1 hn0 ha0
  go_wp2_with fail
  have hp3 := Blk.mk_new w2 45 #[.bool false, .int .u64 0, .int .u64 0, .string ⟨#[]⟩]
  refine (bal_any _ _ _).mono ?_
  rintro e w4 ⟨rfl, hn4⟩
  go_wp2_with fail
  refine (accept_yes w.heap.size 1 1 false 0 0 ⟨#[]⟩ 1 1 _ _ (Blk.new (Blk.alloc ha2 _) hn4) (by decide)).mono ?_
  rintro e w5 ⟨rfl, hu5, ha5⟩
  have hp5 := Blk.upd (Blk.new hp3 hn4) hu5 (by omega)
  have hn5 : New w w5 := ((hn2.alloc _).trans hn4).upd hu5 (fun i hi => by omega)
  clear hu5 hn4 hp3 ha2
  go_wp2_with fail
  refine (bal_any _ _ _).mono ?_
  rintro e w6 ⟨rfl, hn6⟩
  go_wp2_with fail
  refine (prepare_yes w.heap.size 1 1 true 1 1 _ 2 0 _ (Blk.new ha5 hn6) (by decide)).mono ?_
  rintro e w7 ⟨rfl, hu7, ha7⟩
  have hp7 := Blk.upd (Blk.new hp5 hn6) hu7 (by omega)
  have hn7 : New w w7 := (hn5.trans hn6).upd hu7 (fun i hi => by omega)
  clear hu7 hn6 hp5 ha5
  go_wp2_with fail
  have hq8 := Blk.mk_new w7 45 #[.bool true, .int .u64 1, .int .u64 1, .string ⟨#[120]⟩]
  refine (bal_any _ _ _).mono ?_
  rintro e w8 ⟨rfl, hn8⟩
  go_wp2_with fail
  refine (accept_no w.heap.size 2 0 true 1 1 _ 1 1 _ _ (Blk.new (Blk.alloc ha7 _) hn8) (by decide)).mono ?_
  rintro e w9 ⟨rfl, hn9⟩
  have hp9 := Blk.new (Blk.new (Blk.alloc hp7 _) hn8) hn9
  have hq9 := Blk.new (Blk.new hq8 hn8) hn9
  have hnn9 : New w w9 := ((hn7.alloc _).trans hn8).trans hn9
  clear hn9 hn8 hq8 hp7 ha7
  have p0 := hp9.cell 0
  have p1 := hp9.cell 1
  have p2 := hp9.cell 2
  have p3 := hp9.cell 3
  have q0 := hq9.cell 0
  have q1 := hq9.cell 1
  have q2 := hq9.cell 2
  have q3 := hq9.cell 3
  simp at p0 p1 p2 p3 q0 q1 q2 q3
  have hpl := hp9.lt
  have hql := hq9.lt
  go_wp2_with fail
  go_region_held3 (fun w' => Held w9 w') (first | exact Held.of (New.refl _).drew | exact Held.step (by assumption) (by assumption) | exact Held.step (by assumption) ((New.refl _).alloc _) | assumption)
    (first
      | (go_at_call 10; refine (bal_any _ _ _).mono ?_; rintro e wb ⟨rfl, hnb⟩)
      | (go_at_call 16; refine (choose1 _ _ _ ?_).mono ?_; (exact slOne (Blk.mk_new _ _ _)); rintro e wb ⟨rfl, hnb⟩)
      | (go_at_call 15; refine (quorum5 _).mono ?_; rintro e wb ⟨rfl, rfl⟩))
  go_wp2_with fail
  go_ret
  refine ⟨rfl, hnn9.trans ?_⟩
  exact (show Held w9 _ by assumption).1
end Go.Proofs.Ytghhcjpilcoblaa
