/- Chapter 22 (decree): a group beside a row of texts that is the law's own. -/
import Derived.Test.YtghhcjpilcoblaaDg18
namespace Go.Proofs.Ytghhcjpilcoblaa
open Go.RowKit Go.Lap
set_option linter.unusedVariables false
section
variable {F S : Nat → Prop} {w wr w1 w2 w' W : World} {n m B C gp : Nat} {g g' : Gm} {pv : Value} {P : List ByteArray}
/-- A change elsewhere: what is new since then is no block of the group. -/
theorem GSt.keep (h : GSt F W n B gp g) (hu : Upd S W w') (hS : ∀ j, F j → ¬ S j) : GSt (fun j => F j ∧ (j < W.heap.size ∨ w'.heap.size ≤ j)) w' n B gp g := by
  obtain ⟨L, h1, h2, h3, h4⟩ := h
  exact ⟨L, h1.upd hu (fun k hk => hS k (h2 k hk)), fun j hj => ⟨h2 j hj, .inl (h1.f_lt j hj)⟩, fun j hj => ⟨h3 j (Nat.le_trans hu.size hj), .inr hj⟩, h4⟩
abbrev SRow (w : World) (b : Nat) (v : Value) (l : List ByteArray) : Prop := Row w b 9 1 sEnc v l
/-- What lies in memory: the group; a row. -/
structure QM (w wr : World) (m B gp : Nat) (pv : Value) (P : List ByteArray) (g : Gm) : Prop where
  st : ∃ F, GSt F wr m B gp g ∧ ∀ j, F j → w.heap.size ≤ j ∧ pv.ownBlock ≠ some j
  prow : SRow wr w.heap.size pv P
  nw : New w wr
theorem QM.ok (h : QM w wr m B gp pv P g) : GmOk m B g := by obtain ⟨F, hF, _⟩ := h.st; exact hF.ok
theorem QM.new (h : QM w wr m B gp pv P g) (hn : New wr w') : QM w w' m B gp pv P g := by
  obtain ⟨F, hF, hj⟩ := h.st
  exact ⟨⟨F, hF.new hn, hj⟩, h.prow.new hn, h.nw.trans hn⟩
theorem QM.act (h : QM w wr m B gp pv P g) {f : Nat} {args : Array Value} {r : Int} (k : ∀ F, GSt F wr m B gp g → Calls Try.prog f args wr (StPost F wr m C gp r g')) :
    Calls Try.prog f args wr (fun e w' => e = .returned (.int .i64 r) ∧ QM w w' m C gp pv P g') := by
  obtain ⟨F, hF, hj⟩ := h.st
  refine (k F hF).mono ?_
  rintro e w' ⟨rfl, h2, hu⟩
  exact ⟨rfl, ⟨F, h2, hj⟩, h.prow.upd hu (fun b hb hF => (hj b hF).2 hb), h.nw.upd hu (fun j hF => (hj j hF).1)⟩
theorem QM.run (h : QM w wr m B gp pv P g) (hn7 : m ≤ 7) (most : Nat) (hB : B + most ≤ 100000000) :
    Calls Try.prog 25 #[.pointer (some ⟨gp, 0, none⟩), .int .i64 (most : Int)] wr (fun e w' => e = .returned (.tuple #[]) ∧ QM w w' m (B + most) gp pv P (runG m most g)) := by
  obtain ⟨F, hF, hj⟩ := h.st
  refine (st_run hF hn7 most hB).mono ?_
  rintro e w' ⟨rfl, h2, hu⟩
  exact ⟨rfl, ⟨F, h2, hj⟩, h.prow.upd hu (fun b hb hF => (hj b hF).2 hb), h.nw.upd hu (fun j hF => (hj j hF).1)⟩
theorem QM.mono (h : QM w wr m B gp pv P g) (hC : B ≤ C) : QM w wr m C gp pv P g := by
  obtain ⟨F, hF, hj⟩ := h.st
  exact { h with st := ⟨F, hF.mono hC, hj⟩ }
theorem QM.log (h : QM w wr m B gp pv P g) (hB : B ≤ 100000000) (i : Int) : Calls Try.prog 23 #[.pointer (some ⟨gp, 0, none⟩), .int .i64 i] wr (LogPost wr (logR m g i)) := by
  obtain ⟨F, hF, _⟩ := h.st
  exact st_log hF hB i
theorem QM.pending (h : QM w wr m B gp pv P g) (i : Int) : Calls Try.prog 24 #[.pointer (some ⟨gp, 0, none⟩), .int .i64 i] wr fun e w' => e = .returned (.int .i64 (pendR m g i)) ∧ w' = wr := by
  obtain ⟨F, hF, _⟩ := h.st
  exact st_pending hF i
theorem QM.under (h : QM w wr m B gp pv P g) : Calls Try.prog 27 #[.pointer (some ⟨gp, 0, none⟩)] wr fun e w' => e = .returned (.int .i64 (g.bg.length : Int)) ∧ w' = wr := by
  obtain ⟨F, hF, _⟩ := h.st
  exact st_under hF
/-- The row has grown. -/
theorem QM.append (h : QM w w1 m B gp pv P g) {v2 : Value} {Q : List ByteArray} (hr : SRow w2 w.heap.size v2 Q) (hg : w1.grownBy w2 pv.ownBlock) (hb : v2.ownBlock = pv.ownBlock ∨ v2.ownBlock = some w1.heap.size) : QM w w2 m B gp v2 Q g := by
  obtain ⟨F, hF, hj⟩ := h.st
  have hu : Upd (fun k => pv.ownBlock = some k) w1 w2 := (Upd.refl _ _).grown hg (fun k _ hk => hk)
  refine ⟨⟨_, hF.keep hu (fun j hf hp => (hj j hf).2 hp), fun j hf => ⟨(hj j hf.1).1, fun hv => ?_⟩⟩, hr, h.nw.grown hg (fun k hk => (h.prow.lt k hk).1)⟩
  rcases hb with e | e
  · exact (hj j hf.1).2 (e ▸ hv)
  · have hlt := (hr.lt j hv).2
    rw [e] at hv
    injection hv with hv
    have := hf.2
    omega
theorem QM.start (h : GSt (fun j => w.heap.size ≤ j) w2 m B gp g) (hn : New w w2) (t : TypeId) (ht : t = 9) : QM w (w2.alloc (.cells #[] t)) m B gp (.slice (some ⟨w2.heap.size, 0, none⟩) 0 0) [] g := by
  subst ht
  refine ⟨⟨_, h.hide (.cells #[] 9), fun j hj => ⟨hj.1, fun hvb => ?_⟩⟩, ?_, hn.alloc _⟩
  · cases hvb; exact hj.2 rfl
  · exact .inr ⟨w2.heap.size, 0, 0, #[], rfl, hn.size, Blk.mk_new w2 9 #[], Nat.le_refl _, Nat.zero_le _, Nat.le_refl _, rfl⟩
/-- Another row takes its place. -/
theorem QM.take (h : QM w W m B gp pv P g) (hn : New W w') {v : Value} {l : List ByteArray} (hr : SRow w' W.heap.size v l) : QM w w' m B gp v l g := by
  obtain ⟨F, hF, hj⟩ := h.st
  have hF1 := hF.keep (Upd.new (S := fun _ => False) hn) (fun _ _ x => x)
  refine ⟨⟨_, hF1, fun j hf => ⟨(hj j hf.1).1, fun hv => ?_⟩⟩, hr.lower h.nw.size, h.nw.trans hn⟩
  have := hr.lt j hv
  have := hf.2
  omega
end
end Go.Proofs.Ytghhcjpilcoblaa
