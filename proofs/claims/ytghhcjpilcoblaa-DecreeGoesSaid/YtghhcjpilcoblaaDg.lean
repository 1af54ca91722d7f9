/- Chapter 22 (decree): a group in memory; at, send. -/
import Derived.Test.YtghhcjpilcoblaaDn5
import Derived.Test.YtghhcjpilcoblaaBg4
namespace Go.Proofs.Ytghhcjpilcoblaa
open Go.RowKit Go.Lap
set_option linter.unusedVariables false

def Pkt.pk (p : Pkt) : Pk := ⟨(p.fr : Int), (p.ds : Int), str p.m.enc⟩
def ptrE (g : Nat) : List Value := [.pointer (some ⟨g, 0, none⟩)]
theorem ptrOk : Enc ptrE 1 := fun x => ⟨rfl, by simp [ptrE, Value.oneCell']⟩
theorem ptrTy : SlTy Try.prog 92 95 (.pointer none) 1 8 := ⟨Try.underlying92, by kernel_rfl, rfl, by decide⟩
/-- A group's blocks. -/
structure GpL where
  nv : Value
  bb : Nat
  lv : Value
  nb : Nat → Nat
  Fn : Nat → Nat → Prop
  nl : Nat → NdL
def GpO (gp : Nat) (L : GpL) (k : Nat) : Prop := k = gp ∨ L.nv.ownBlock = some k ∨ BgF L.bb L.lv k
structure GpAt (w : World) (gp n B : Nat) (L : GpL) (g : Gm) : Prop where
  blk : Blk w gp 94 #[L.nv, .pointer (some ⟨L.bb, 0, none⟩)]
  nds : Row w 0 95 1 ptrE L.nv ((List.range n).map L.nb)
  bag : BgAt w L.bb L.lv (g.bg.map Pkt.pk)
  nd : ∀ i, i < n → NdAt w (L.Fn i) (L.nb i) (i : Int) B (L.nl i) (g.nd i)
  lt : ∀ i, i < n → ∀ k, L.Fn i k → k < w.heap.size
  dj : ∀ i j, i < n → j < n → i ≠ j → ∀ k, L.Fn i k → ¬ L.Fn j k
  out : ∀ i, i < n → ∀ k, L.Fn i k → ¬ GpO gp L k
def GpF (gp n : Nat) (L : GpL) (k : Nat) : Prop := GpO gp L k ∨ ∃ i, i < n ∧ L.Fn i k
theorem Row.ne_row {α β : Type} {e1 : α → List Value} {e2 : β → List Value} {w : World} {b1 b2 s1 s2 : Nat} {t1 t2 : TypeId} {v1 v2 : Value} {l1 : List α} {l2 : List β} (h1 : Row w b1 t1 s1 e1 v1 l1) (h2 : Row w b2 t2 s2 e2 v2 l2) (hne : t1 ≠ t2) {k : Nat} (hk : v1.ownBlock = some k) : v2.ownBlock ≠ some k := by
  intro hk2
  rcases h2 with ⟨rfl, _⟩ | ⟨g, off, cap, cur, rfl, _, hh, _⟩
  · cases hk2
  · cases hk2; exact h1.ne_blk hh hne hk
section
variable {w w' w'' : World} {S : Nat → Prop} {gp n B : Nat} {L : GpL} {g : Gm}
theorem GpAt.o_lt (h : GpAt w gp n B L g) : ∀ k, GpO gp L k → k < w.heap.size := by
  rintro k (rfl | hk | hk)
  · exact h.blk.lt
  · exact (h.nds.lt k hk).2
  · exact h.bag.lt k hk
theorem GpAt.f_lt (h : GpAt w gp n B L g) : ∀ k, GpF gp n L k → k < w.heap.size := by
  rintro k (hk | ⟨i, hi, hk⟩)
  · exact h.o_lt k hk
  · exact h.lt i hi k hk
theorem GpAt.upd (h : GpAt w gp n B L g) (hu : Upd S w w') (hS : ∀ k, GpF gp n L k → ¬ S k) : GpAt w' gp n B L g :=
  ⟨h.blk.upd hu (hS _ (.inl (.inl rfl))), h.nds.upd hu (fun k hk => hS k (.inl (.inr (.inl hk)))), h.bag.upd hu (fun k hk => hS k (.inl (.inr (.inr hk)))),
    fun i hi => (h.nd i hi).upd hu (fun k hk => hS k (.inr ⟨i, hi, hk⟩)), fun i hi k hk => Nat.lt_of_lt_of_le (h.lt i hi k hk) hu.size, h.dj, h.out⟩
theorem GpAt.new (h : GpAt w gp n B L g) (hn : New w w') : GpAt w' gp n B L g := h.upd (S := fun _ => False) (Upd.new hn) (fun _ _ x => x)
theorem GpAt.mono {C : Nat} (h : GpAt w gp n B L g) (hB : B ≤ C) : GpAt w gp n C L g := { h with nd := fun i hi => (h.nd i hi).mono (fun _ h => h) hB }
/-- A node turns. -/
theorem GpAt.setNd (h : GpAt w gp n B L g) {i C : Nat} (hi : i < n) {F' : Nat → Prop} {l' : NdL} {x' : Nod} (hu : Upd (L.Fn i) w w') (hx : NdAt w' F' (L.nb i) (i : Int) C l' x') (hG : Gro (L.Fn i) F' w w') (hB : B ≤ C) :
    GpAt w' gp n C { L with Fn := set L.Fn i F', nl := set L.nl i l' } { g with nd := set g.nd i x' } := by
  have hs := hu.size
  refine ⟨h.blk.upd hu (fun hk => h.out i hi _ hk (.inl rfl)), h.nds.upd hu (fun k hk hk2 => h.out i hi k hk2 (.inr (.inl hk))), h.bag.upd hu (fun k hk hk2 => h.out i hi k hk2 (.inr (.inr hk))), fun j hj => ?_, fun j hj k hk => ?_, fun j r hj hr hjr k hk hk2 => ?_, fun j hj k hk => ?_⟩
  · by_cases hji : j = i
    · subst hji
      dsimp only
      rw [set_same, set_same, set_same]
      exact hx
    · dsimp only
      rw [set_ne _ _ hji, set_ne _ _ hji, set_ne _ _ hji]
      exact ((h.nd j hj).upd hu (fun k hk hk2 => h.dj j i hj hi hji k hk hk2)).mono (fun _ h => h) hB
  · by_cases hji : j = i
    · subst hji
      dsimp only at hk
      rw [set_same] at hk
      rcases hG k hk with h1 | h1
      · exact Nat.lt_of_lt_of_le (h.lt j hj k h1) hs
      · exact h1.2
    · dsimp only at hk
      rw [set_ne _ _ hji] at hk
      exact Nat.lt_of_lt_of_le (h.lt j hj k hk) hs
  · dsimp only at hk hk2
    by_cases hji : j = i <;> by_cases hri : r = i
    · exact hjr (hji.trans hri.symm)
    · rw [hji, set_same] at hk
      rw [set_ne _ _ hri] at hk2
      rcases hG k hk with h1 | h1
      · exact h.dj i r hi hr (fun e => hri e.symm) k h1 hk2
      · have := h.lt r hr k hk2; omega
    · rw [hri, set_same] at hk2
      rw [set_ne _ _ hji] at hk
      rcases hG k hk2 with h1 | h1
      · exact h.dj j i hj hi hji k hk h1
      · have := h.lt j hj k hk; omega
    · rw [set_ne _ _ hji] at hk
      rw [set_ne _ _ hri] at hk2
      exact h.dj j r hj hr hjr k hk hk2
  · intro ho
    have ho : GpO gp L k := ho
    dsimp only at hk
    by_cases hji : j = i
    · rw [hji, set_same] at hk
      rcases hG k hk with h1 | h1
      · exact h.out i hi k h1 ho
      · have := h.o_lt k ho; omega
    · rw [set_ne _ _ hji] at hk
      exact h.out j hj k hk ho
/-- The bag turns. -/
theorem GpAt.setBag (h : GpAt w gp n B L g) {v' : Value} {b' : List Pkt} (hb : BgAt w' L.bb v' (b'.map Pkt.pk)) (hu : Upd (BgF L.bb L.lv) w w') (hv : ∀ k, v'.ownBlock = some k → L.lv.ownBlock = some k ∨ w.heap.size ≤ k) : GpAt w' gp n B { L with lv := v' } { g with bg := b' } := by
  have hO : ∀ i, i < n → ∀ k, L.Fn i k → ¬ BgF L.bb L.lv k := fun i hi k hk hb => h.out i hi k hk (.inr (.inr hb))
  refine ⟨h.blk.upd hu ?_, h.nds.upd hu (fun k hk hk2 => ?_), hb, fun i hi => (h.nd i hi).upd hu (hO i hi), fun i hi k hk => Nat.lt_of_lt_of_le (h.lt i hi k hk) hu.size, h.dj, fun i hi k hk hk2 => ?_⟩
  · rintro (e | e)
    · exact Blk.ne_ h.blk h.bag.blk (by decide) e
    · exact h.bag.row.ne_blk h.blk (by decide) e
  · rcases hk2 with e | e
    · exact h.nds.ne_blk h.bag.blk (by decide) (e ▸ hk)
    · exact Row.ne_row h.nds h.bag.row (by decide) hk e
  · rcases hk2 with e | e | e | e
    · exact h.out i hi k hk (.inl e)
    · exact h.out i hi k hk (.inr (.inl e))
    · exact h.out i hi k hk (.inr (.inr (.inl e)))
    · rcases hv k e with e | e
      · exact h.out i hi k hk (.inr (.inr (.inr e)))
      · have := h.lt i hi k hk; omega
theorem Blk2G {w : World} {g t : Nat} {a b : Value} (h : Blk w g t #[a, b]) : g < w.heap.size ∧ w.cell? ⟨g, 0, none⟩ = some a ∧ w.cell? ⟨g, 1, none⟩ = some b ∧ (∀ i, w.frozen? ⟨g, i, none⟩ = false) := ⟨h.lt, h.cell 0, h.cell 1, h.frozen⟩
theorem GpAt.facts (h : GpAt w gp n B L g) : gp < w.heap.size ∧ w.cell? ⟨gp, 0, none⟩ = some L.nv ∧ w.cell? ⟨gp, 1, none⟩ = some (.pointer (some ⟨L.bb, 0, none⟩)) ∧ (∀ i, w.frozen? ⟨gp, i, none⟩ = false) := Blk2G h.blk
theorem GpAt.node (h : GpAt w gp n B L g) {i : Nat} (hi : i < n) : ∃ b off c, L.nv = .slice (some ⟨b, off, none⟩) n c ∧ n ≤ c ∧ w.cell? ⟨b, off + i, none⟩ = some (.pointer (some ⟨L.nb i, 0, none⟩)) := by
  have hne : (List.range n).map L.nb ≠ [] := fun e => by have := congrArg List.length e; simp at this; omega
  obtain ⟨b, off, c, hv, _, hr⟩ := h.nds.at_ hne
  have hl := hr.len.1
  have := hr.cell ptrOk (k := i) (x := L.nb i) (by simp [hi]) (j := 0) rfl
  simp at hv hl this
  exact ⟨b, off, c, hv, hl, this⟩
theorem GpAt.nvs (h : GpAt w gp n B L g) : ∃ A c, L.nv = .slice A n c := by
  obtain ⟨A, c, hv⟩ := h.nds.shape
  simp at hv
  exact ⟨A, c, hv⟩
set_option maxHeartbeats 1000000 in
theorem gat_no (h : GpAt w gp n B L g) (i : Int) (hi : ¬ (0 ≤ i ∧ i < n)) :
    Calls Try.prog 46 #[.pointer (some ⟨gp, 0, none⟩), .int .i64 i] w fun e w' => e = .returned (.pointer none) ∧ w' = w := by
  obtain ⟨g0, c0, c1, cz⟩ := h.facts
  obtain ⟨A, c, hv⟩ := h.nvs
  rw [hv] at c0
  clear h hv
  by_cases h0 : i < 0
  · clear hi
    go_enter Try.func46, Try.ntmps46
    go_wp2_with fail
    go_ret
    exact ⟨rfl, rfl⟩
  · have h1 : (n : Int) ≤ i := by omega
    clear hi
    go_enter Try.func46, Try.ntmps46
    go_wp2_with fail
    go_ret
    exact ⟨rfl, rfl⟩
set_option maxHeartbeats 1000000 in
theorem gat (h : GpAt w gp n B L g) {i : Nat} (hi : i < n) :
    Calls Try.prog 46 #[.pointer (some ⟨gp, 0, none⟩), .int .i64 (i : Int)] w fun e w' => e = .returned (.pointer (some ⟨L.nb i, 0, none⟩)) ∧ w' = w := by
  obtain ⟨g0, c0, c1, cz⟩ := h.facts
  obtain ⟨b, off, c, hv, hc, hcell⟩ := h.node hi
  rw [hv] at c0
  have h0 : ¬ (i : Int) < 0 := by omega
  have h1 : ¬ (n : Int) ≤ (i : Int) := by omega
  have h2 : (i : Int) < (n : Int) := by omega
  have h3 : (0 : Int) ≤ (i : Int) := by omega
  clear h hv
  go_enter Try.func46, Try.ntmps46
  go_wp2_with fail
  go_ret
  exact ⟨rfl, rfl⟩
end
end Go.Proofs.Ytghhcjpilcoblaa
