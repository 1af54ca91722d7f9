/- The words for memory that the other texts of this seat use: one block known whole, and what a call may have changed. -/
import Derived.WalkKit
import Derived.WalkSpells
import Derived.WalkLawsBesides
import Derived.Deep.Draws
import Derived.Lib.Hide
namespace Go.Lap
open Go.RowKit

theorem ret_eq {v v' : Value} (h : v = v') : Ending.returned v = .returned v' := by rw [h]
theorem ret_bool {a b : Bool} (h : a = b) : Ending.returned (.bool a) = .returned (.bool b) := by rw [h]
theorem ret_int {k : IntKind} {a b : Int} (h : a = b) : Ending.returned (.int k a) = .returned (.int k b) := by rw [h]

/-- Block g is just these cells, none frozen. -/
def Blk (w : World) (g : Nat) (t : TypeId) (cs : Array Value) : Prop := w.heap[g]? = some (.cells cs t (0, 0))

/-- From w to w': of the old blocks those of S alone may have changed. -/
structure Upd (S : Nat → Prop) (w w' : World) : Prop where
  os : w'.os = w.os
  tape : w'.tape = w.tape
  output : w'.output = w.output
  size : w.heap.size ≤ w'.heap.size
  block : ∀ k, k < w.heap.size → ¬ S k → w'.heap[k]? = w.heap[k]?

/-- Nothing old has changed. -/
abbrev New (w w' : World) : Prop := Below w.heap.size w w'

section
variable {S T : Nat → Prop} {w w' a b c : World} {g : Nat} {t : TypeId} {cs : Array Value}

theorem Upd.refl (S : Nat → Prop) (w : World) : Upd S w w := ⟨rfl, rfl, rfl, Nat.le_refl _, fun _ _ _ => rfl⟩
theorem Upd.trans (h : Upd S a b) (k : Upd T b c) (hT : ∀ i, i < a.heap.size → T i → S i) : Upd S a c :=
  ⟨k.os.trans h.os, k.tape.trans h.tape, k.output.trans h.output, Nat.le_trans h.size k.size,
    fun i hi hn => (k.block i (Nat.lt_of_lt_of_le hi h.size) (fun ht => hn (hT i hi ht))).trans (h.block i hi hn)⟩
theorem Upd.mono (h : Upd S a b) (hS : ∀ i, i < a.heap.size → S i → T i) : Upd T a b :=
  ⟨h.os, h.tape, h.output, h.size, fun i hi hn => h.block i hi (fun hs => hn (hS i hi hs))⟩
theorem Upd.drew (h : Upd S a w) : Upd S a w.drew := ⟨h.os, h.tape, h.output, h.size, h.block⟩
theorem Upd.drewN (h : Upd S a w) (n : Nat) : Upd S a (w.drewN n) := ⟨h.os, h.tape, h.output, h.size, h.block⟩
theorem Upd.alloc (h : Upd S a w) (o : Obj) : Upd S a (w.alloc o) :=
  ⟨h.os, h.tape, h.output, Nat.le_trans h.size (by simp), fun i hi hn => (Below.heap_alloc w o i (Nat.lt_of_lt_of_le hi h.size)).trans (h.block i hi hn)⟩
theorem Upd.setCell (h : Upd S a w) {p : Addr} (hp : p.block < a.heap.size → S p.block) (u : Value) : Upd S a (w.setCell p u) :=
  ⟨h.os, h.tape, h.output, by simpa [World.setCell] using h.size, fun i hi hn => (Below.heap_setCell w p u i (by
    rintro rfl
    exact hn (hp hi))).trans (h.block i hi hn)⟩
theorem Upd.setNew (h : Upd S a w) {p : Addr} (hp : a.heap.size ≤ p.block) (u : Value) : Upd S a (w.setCell p u) := h.setCell (fun hlt => absurd hlt (by omega)) u
theorem Upd.setIn (h : Upd (· = g) a w) (i : Nat) (u : Value) : Upd (· = g) a (w.setCell ⟨g, i, none⟩ u) := h.setCell (fun _ => rfl) u
theorem Upd.new (h : New a b) : Upd S a b := ⟨h.os, h.tape, h.output, h.size, fun i hi _ => h.block i hi⟩
theorem Upd.toNew (h : Upd S a b) (hS : ∀ i, i < a.heap.size → ¬ S i) : New a b := ⟨h.os, h.tape, h.output, h.size, fun i hi => h.block i hi (hS i hi)⟩
theorem Upd.transNew (h : Upd S a b) (k : New b c) : Upd S a c := h.trans (Upd.new (S := fun _ => False) k) (fun _ _ h => h.elim)
theorem Upd.grown (h : Upd S a w) {row : Option Nat} (hg : w.grownBy w' row) (hr : ∀ k, k < a.heap.size → row = some k → S k) : Upd S a w' :=
  ⟨hg.os.trans h.os, hg.tape.trans h.tape, hg.output.trans h.output, Nat.le_trans h.size hg.size,
    fun i hi hn => (hg.block i (Nat.lt_of_lt_of_le hi h.size) (fun e => hn (hr i hi e.symm))).trans (h.block i hi hn)⟩

theorem New.refl (w : World) : New w w := Below.refl _ _
theorem New.trans (h : New a b) (k : New b c) : New a c := Below.trans h (k.mono h.size)
theorem New.drew (h : New a w) : New a w.drew := Below.drew h
theorem New.drewN (h : New a w) (n : Nat) : New a (w.drewN n) := ⟨h.os, h.tape, h.output, h.size, h.block⟩
theorem New.alloc (h : New a w) (o : Obj) : New a (w.alloc o) := Below.alloc h h.size o
theorem New.setCell (h : New a w) {p : Addr} (hp : a.heap.size ≤ p.block) (u : Value) : New a (w.setCell p u) := Below.setCell h hp u
theorem New.upd (h : New a b) (k : Upd T b c) (hT : ∀ i, T i → a.heap.size ≤ i) : New a c :=
  (Upd.trans (S := fun _ => False) (Upd.new h) k (fun i hi ht => absurd (hT i ht) (by omega))).toNew (fun _ _ h => h)
theorem New.grown (h : New a w) {row : Option Nat} (hg : w.grownBy w' row) (hr : ∀ k, row = some k → a.heap.size ≤ k) : New a w' :=
  Below.grown h hg h.size hr

theorem Blk.lt (h : Blk w g t cs) : g < w.heap.size := by
  rcases Nat.lt_or_ge g w.heap.size with hlt | hge
  · exact hlt
  · unfold Blk at h; rw [Array.getElem?_eq_none hge] at h; cases h
theorem Blk.cell (h : Blk w g t cs) (i : Nat) : w.cell? ⟨g, i, none⟩ = cs[i]? := by
  unfold Blk at h; simp [World.cell?, h]
theorem Blk.frozen (h : Blk w g t cs) (i : Nat) : w.frozen? ⟨g, i, none⟩ = false := by
  unfold Blk at h
  simp [World.frozen?, h]
theorem Blk.mk_new (w : World) (t : TypeId) (cs : Array Value) : Blk (w.alloc (.cells cs t)) w.heap.size t cs := by
  show (w.heap.push _)[w.heap.size]? = _
  simp
theorem Blk.drew (h : Blk w g t cs) : Blk w.drew g t cs := h
theorem Blk.drewN (h : Blk w g t cs) (n : Nat) : Blk (w.drewN n) g t cs := h
theorem Blk.alloc (h : Blk w g t cs) (o : Obj) : Blk (w.alloc o) g t cs := (Below.heap_alloc w o g h.lt).trans h
theorem Blk.set_ (h : Blk w g t cs) (i : Nat) (u : Value) : Blk (w.setCell ⟨g, i, none⟩ u) g t (cs.setIfInBounds i u) := by
  unfold Blk at h ⊢
  simp [World.setCell, Array.getElem?_modify, h]
theorem Blk.far (h : Blk w g t cs) {p : Addr} (hp : g ≠ p.block) (u : Value) : Blk (w.setCell p u) g t cs := (Below.heap_setCell w p u g hp).trans h
theorem Blk.new (h : Blk w g t cs) (hb : New w w') : Blk w' g t cs := (hb.block g h.lt).trans h
theorem Blk.upd (h : Blk w g t cs) (hb : Upd S w w') (hS : ¬ S g) : Blk w' g t cs := (hb.block g h.lt hS).trans h
theorem Blk.grown {row : Option Nat} (h : Blk w g t cs) (hb : w.grownBy w' row) (hg : some g ≠ row) : Blk w' g t cs := (hb.block g h.lt hg).trans h
theorem Blk.ne_ {g' : Nat} {t' : TypeId} {cs' : Array Value} (h : Blk w g t cs) (h' : Blk w g' t' cs') (hne : t ≠ t') : g ≠ g' := by
  rintro rfl
  unfold Blk at h h'
  rw [h] at h'
  injection h' with h'
  injection h' with _ ht
  exact hne ht

/-- The cells of old blocks read as before. -/
theorem New.cells (h : New w w') : (∀ b o, b < w.heap.size → w'.cell? ⟨b, o, none⟩ = w.cell? ⟨b, o, none⟩) ∧ (∀ b o, b < w.heap.size → w'.frozen? ⟨b, o, none⟩ = w.frozen? ⟨b, o, none⟩) :=
  ⟨fun b o hb => h.cell (p := ⟨b, o, none⟩) hb, fun b o hb => h.frozen (p := ⟨b, o, none⟩) hb⟩
end

/-- For a region that draws its order: nothing old has changed, in a form that the walk rewrites by. -/
abbrev Held (w w' : World) : Prop := New w w' ∧ ∀ b o, b < w.heap.size → w'.cell? ⟨b, o, none⟩ = w.cell? ⟨b, o, none⟩
theorem Held.of {w w' : World} (h : New w w') : Held w w' := ⟨h, h.cells.1⟩
theorem Held.step {a b c : World} (h : Held a b) (k : New b c) : Held a c := Held.of (h.1.trans k)

/-- The slice value v reads as the list l, each element as the cells that enc gives, size cells each. -/
def SlIn {α : Type} (w : World) (size : Nat) (enc : α → List Value) (v : Value) (l : List α) : Prop :=
  ∃ A c, v = .slice A l.length c ∧ l.length ≤ c ∧ (l = [] ∨ ∃ b off, A = some ⟨b, off, none⟩ ∧ b < w.heap.size ∧
    ∀ k x, l[k]? = some x → ∀ j u, (enc x)[j]? = some u → w.cell? ⟨b, off + k * size + j, none⟩ = some u)

section
variable {α : Type} {w w' : World} {size : Nat} {enc : α → List Value} {v : Value} {l : List α}
theorem SlIn.keep (h : SlIn w size enc v l) (hs : w.heap.size ≤ w'.heap.size) (hk : ∀ b o, b < w.heap.size → w'.cell? ⟨b, o, none⟩ = w.cell? ⟨b, o, none⟩) : SlIn w' size enc v l := by
  obtain ⟨A, c, hv, hc, h⟩ := h
  refine ⟨A, c, hv, hc, ?_⟩
  rcases h with h | ⟨b, off, hA, hb, h⟩
  · exact .inl h
  · exact .inr ⟨b, off, hA, by omega, fun k x hx j u hu => (hk _ _ hb).trans (h k x hx j u hu)⟩
theorem SlIn.new (h : SlIn w size enc v l) (hn : New w w') : SlIn w' size enc v l := h.keep hn.size hn.cells.1
theorem SlIn.alloc (h : SlIn w size enc v l) (o : Obj) : SlIn (w.alloc o) size enc v l := h.new ((New.refl w).alloc o)
theorem SlIn.drewN (h : SlIn w size enc v l) (n : Nat) : SlIn (w.drewN n) size enc v l := h
theorem SlIn.drew (h : SlIn w size enc v l) : SlIn w.drew size enc v l := h
end
end Go.Lap
