/- The words for memory that the other texts of this seat use: one block known whole, and what a call may have changed. -/
import Derived.WalkKit
import Derived.WalkSpells
import Derived.WalkLawsBesides
import Derived.Deep.Draws
import Derived.Lib.Hide
import Derived.Deep.RegionHeld3
import Derived.Maps.AppendAt
import Derived.Laws.CopyOwn
import Derived.OwnWalk
import Derived.Test.YtlhlcdjkacglnaaGreatDoorRows
import Derived.Deep.QuietTactic
import Derived.BigQuiet
import Derived.Deep.DeepCutAuto
import Derived.IntWalk
import Derived.Laws.Bits64b
import Derived.Lib.AppendStr
namespace Go.Lap
open Go.RowKit

theorem ret_eq {v v' : Value} (h : v = v') : Ending.returned v = .returned v' := by rw [h]
theorem ret_bool {a b : Bool} (h : a = b) : Ending.returned (.bool a) = .returned (.bool b) := by rw [h]
theorem ret_int {k : IntKind} {a b : Int} (h : a = b) : Ending.returned (.int k a) = .returned (.int k b) := by rw [h]

/-- Block g is just these cells, none frozen. -/
def Blk (w : World) (g : Nat) (t : TypeId) (cs : Array Value) : Prop := w.heap[g]? = some (.cells cs t (0, 0))

/-- From w to w': of the old blocks those of S alone may have changed. -/
structure Upd (S : Nat → Prop) (w w' : World) : Prop where
  os : w'.os = w.os
  tape : w'.tape = w.tape
  output : w'.output = w.output
  size : w.heap.size ≤ w'.heap.size
  block : ∀ k, k < w.heap.size → ¬ S k → w'.heap[k]? = w.heap[k]?

/-- Nothing old has changed. -/
abbrev New (w w' : World) : Prop := Below w.heap.size w w'

section
variable {S T : Nat → Prop} {w w' a b c : World} {g : Nat} {t : TypeId} {cs : Array Value}

theorem Upd.refl (S : Nat → Prop) (w : World) : Upd S w w := ⟨rfl, rfl, rfl, Nat.le_refl _, fun _ _ _ => rfl⟩
theorem Upd.trans (h : Upd S a b) (k : Upd T b c) (hT : ∀ i, i < a.heap.size → T i → S i) : Upd S a c :=
  ⟨k.os.trans h.os, k.tape.trans h.tape, k.output.trans h.output, Nat.le_trans h.size k.size,
    fun i hi hn => (k.block i (Nat.lt_of_lt_of_le hi h.size) (fun ht => hn (hT i hi ht))).trans (h.block i hi hn)⟩
theorem Upd.mono (h : Upd S a b) (hS : ∀ i, i < a.heap.size → S i → T i) : Upd T a b :=
  ⟨h.os, h.tape, h.output, h.size, fun i hi hn => h.block i hi (fun hs => hn (hS i hi hs))⟩
theorem Upd.drew (h : Upd S a w) : Upd S a w.drew := ⟨h.os, h.tape, h.output, h.size, h.block⟩
theorem Upd.alloc (h : Upd S a w) (o : Obj) : Upd S a (w.alloc o) :=
  ⟨h.os, h.tape, h.output, Nat.le_trans h.size (by simp), fun i hi hn => (Below.heap_alloc w o i (Nat.lt_of_lt_of_le hi h.size)).trans (h.block i hi hn)⟩
theorem Upd.setCell (h : Upd S a w) {p : Addr} (hp : p.block < a.heap.size → S p.block) (u : Value) : Upd S a (w.setCell p u) :=
  ⟨h.os, h.tape, h.output, by simpa [World.setCell] using h.size, fun i hi hn => (Below.heap_setCell w p u i (by
    rintro rfl
    exact hn (hp hi))).trans (h.block i hi hn)⟩
theorem Upd.setNew (h : Upd S a w) {p : Addr} (hp : a.heap.size ≤ p.block) (u : Value) : Upd S a (w.setCell p u) := h.setCell (fun hlt => absurd hlt (by omega)) u
theorem Upd.setIn (h : Upd (· = g) a w) (i : Nat) (u : Value) : Upd (· = g) a (w.setCell ⟨g, i, none⟩ u) := h.setCell (fun _ => rfl) u
theorem Upd.new (h : New a b) : Upd S a b := ⟨h.os, h.tape, h.output, h.size, fun i hi _ => h.block i hi⟩
theorem Upd.toNew (h : Upd S a b) (hS : ∀ i, i < a.heap.size → ¬ S i) : New a b := ⟨h.os, h.tape, h.output, h.size, fun i hi => h.block i hi (hS i hi)⟩
theorem Upd.transNew (h : Upd S a b) (k : New b c) : Upd S a c := h.trans (Upd.new (S := fun _ => False) k) (fun _ _ h => h.elim)
theorem Upd.grown (h : Upd S a w) {row : Option Nat} (hg : w.grownBy w' row) (hr : ∀ k, k < a.heap.size → row = some k → S k) : Upd S a w' :=
  ⟨hg.os.trans h.os, hg.tape.trans h.tape, hg.output.trans h.output, Nat.le_trans h.size hg.size,
    fun i hi hn => (hg.block i (Nat.lt_of_lt_of_le hi h.size) (fun e => hn (hr i hi e.symm))).trans (h.block i hi hn)⟩

theorem New.refl (w : World) : New w w := Below.refl _ _
theorem New.trans (h : New a b) (k : New b c) : New a c := Below.trans h (k.mono h.size)
theorem New.drew (h : New a w) : New a w.drew := Below.drew h
theorem New.drewN (h : New a w) (n : Nat) : New a (w.drewN n) := ⟨h.os, h.tape, h.output, h.size, h.block⟩
theorem New.alloc (h : New a w) (o : Obj) : New a (w.alloc o) := Below.alloc h h.size o
theorem New.setCell (h : New a w) {p : Addr} (hp : a.heap.size ≤ p.block) (u : Value) : New a (w.setCell p u) := Below.setCell h hp u
theorem New.upd (h : New a b) (k : Upd T b c) (hT : ∀ i, T i → a.heap.size ≤ i) : New a c :=
  (Upd.trans (S := fun _ => False) (Upd.new h) k (fun i hi ht => absurd (hT i ht) (by omega))).toNew (fun _ _ h => h)
theorem New.grown (h : New a w) {row : Option Nat} (hg : w.grownBy w' row) (hr : ∀ k, row = some k → a.heap.size ≤ k) : New a w' :=
  Below.grown h hg h.size hr

theorem Blk.lt (h : Blk w g t cs) : g < w.heap.size := by
  rcases Nat.lt_or_ge g w.heap.size with hlt | hge
  · exact hlt
  · unfold Blk at h; rw [Array.getElem?_eq_none hge] at h; cases h
theorem Blk.cell (h : Blk w g t cs) (i : Nat) : w.cell? ⟨g, i, none⟩ = cs[i]? := by
  unfold Blk at h; simp [World.cell?, h]
theorem Blk.frozen (h : Blk w g t cs) (i : Nat) : w.frozen? ⟨g, i, none⟩ = false := by
  unfold Blk at h
  simp [World.frozen?, h]
theorem Blk.mk_new (w : World) (t : TypeId) (cs : Array Value) : Blk (w.alloc (.cells cs t)) w.heap.size t cs := by
  show (w.heap.push _)[w.heap.size]? = _
  simp
theorem Blk.drew (h : Blk w g t cs) : Blk w.drew g t cs := h
theorem Blk.alloc (h : Blk w g t cs) (o : Obj) : Blk (w.alloc o) g t cs := (Below.heap_alloc w o g h.lt).trans h
theorem Blk.set_ (h : Blk w g t cs) (i : Nat) (u : Value) : Blk (w.setCell ⟨g, i, none⟩ u) g t (cs.setIfInBounds i u) := by
  unfold Blk at h ⊢
  simp [World.setCell, Array.getElem?_modify, h]
theorem Blk.far (h : Blk w g t cs) {p : Addr} (hp : g ≠ p.block) (u : Value) : Blk (w.setCell p u) g t cs := (Below.heap_setCell w p u g hp).trans h
theorem Blk.new (h : Blk w g t cs) (hb : New w w') : Blk w' g t cs := (hb.block g h.lt).trans h
theorem Blk.upd (h : Blk w g t cs) (hb : Upd S w w') (hS : ¬ S g) : Blk w' g t cs := (hb.block g h.lt hS).trans h
theorem Blk.grown {row : Option Nat} (h : Blk w g t cs) (hb : w.grownBy w' row) (hg : some g ≠ row) : Blk w' g t cs := (hb.block g h.lt hg).trans h
theorem Blk.ne_ {g' : Nat} {t' : TypeId} {cs' : Array Value} (h : Blk w g t cs) (h' : Blk w g' t' cs') (hne : t ≠ t') : g ≠ g' := by
  rintro rfl
  unfold Blk at h h'
  rw [h] at h'
  injection h' with h'
  injection h' with _ ht
  exact hne ht

/-- The cells of old blocks read as before. -/
theorem New.cells (h : New w w') : (∀ b o, b < w.heap.size → w'.cell? ⟨b, o, none⟩ = w.cell? ⟨b, o, none⟩) ∧ (∀ b o, b < w.heap.size → w'.frozen? ⟨b, o, none⟩ = w.frozen? ⟨b, o, none⟩) :=
  ⟨fun b o hb => h.cell (p := ⟨b, o, none⟩) hb, fun b o hb => h.frozen (p := ⟨b, o, none⟩) hb⟩
end

/-- For a region that draws its order: nothing old has changed, in a form that the walk rewrites by. -/
abbrev Held (w w' : World) : Prop := New w w' ∧ ∀ b o, b < w.heap.size → w'.cell? ⟨b, o, none⟩ = w.cell? ⟨b, o, none⟩
theorem Held.of {w w' : World} (h : New w w') : Held w w' := ⟨h, h.cells.1⟩
/-- The slice value v reads as the list l, each element as the cells that enc gives, size cells each. -/
def SlIn {α : Type} (w : World) (size : Nat) (enc : α → List Value) (v : Value) (l : List α) : Prop :=
  ∃ A c, v = .slice A l.length c ∧ l.length ≤ c ∧ (l = [] ∨ ∃ b off, A = some ⟨b, off, none⟩ ∧ b < w.heap.size ∧
    ∀ k x, l[k]? = some x → ∀ j u, (enc x)[j]? = some u → w.cell? ⟨b, off + k * size + j, none⟩ = some u)

section
variable {α : Type} {w w' : World} {size : Nat} {enc : α → List Value} {v : Value} {l : List α}
theorem SlIn.keep (h : SlIn w size enc v l) (hs : w.heap.size ≤ w'.heap.size) (hk : ∀ b o, b < w.heap.size → w'.cell? ⟨b, o, none⟩ = w.cell? ⟨b, o, none⟩) : SlIn w' size enc v l := by
  obtain ⟨A, c, hv, hc, h⟩ := h
  refine ⟨A, c, hv, hc, ?_⟩
  rcases h with h | ⟨b, off, hA, hb, h⟩
  · exact .inl h
  · exact .inr ⟨b, off, hA, by omega, fun k x hx j u hu => (hk _ _ hb).trans (h k x hx j u hu)⟩
theorem SlIn.new (h : SlIn w size enc v l) (hn : New w w') : SlIn w' size enc v l := h.keep hn.size hn.cells.1
theorem SlIn.alloc (h : SlIn w size enc v l) (o : Obj) : SlIn (w.alloc o) size enc v l := h.new ((New.refl w).alloc o)
end
end Go.Lap
/- Short forms of the steps by which a region that draws its order is walked. -/
namespace Go.Proofs.YtlhlcdjkacglnaaGreatDoor
open Go.RowKit Go.Lap
section
variable {P : Program} {ops : Array Oper} {Q : Exit → Act → World → Prop} {md : Region.Mode} {S : World → Prop}
/-- The same, the operation found at its place. -/
theorem tkN {i : Nat} {oi : Oper} {v : Value} {fuel : Nat} {listed : Array Bool} {a : Act} {w : World} (hi : ops.toList[i]? = some oi) (h : wpAnyH P md ops Q S fuel (listed.setIfInBounds i true) (a.put oi.dst v) w)
    (hy : ∀ w', S w' → (execOp a.eval oi).run P w' = .ok (.value v) w' := by (intro wq hSw; (try dsimp only at hSw); go_simp; first | done | with_reducible rfl))
    (hw : Region.wanted oi (yielded ops a.tmps) = true := by rfl)
    (hs : Region.noSelect ops = true := by kernel_rfl) (hf : Region.free md ops listed i = true := by kernel_rfl) (hr : (Region.ready md ops listed).contains i = true := by kernel_rfl)
    (hQ : ∀ c a w, Q (.panic c) (a.put oi.dst v) w → Q (.panic c) a w := by exact fun _ _ _ h => h) (hS : S w := by assumption) : wpAnyH P md ops Q S (fuel + 1) listed a w :=
  wpAnyH_take (by rw [← Array.getElem?_toList]; exact hi) hs hf hr hQ (.inl ⟨hw, hy⟩) hS h
/-- An operation that its guard leaves out. -/
theorem tkU {i : Nat} {oi : Oper} {fuel : Nat} {listed : Array Bool} {a : Act} {w : World} (hi : ops.toList[i]? = some oi) (h : wpAnyH P md ops Q S fuel (listed.setIfInBounds i true) (a.put oi.dst undef) w)
    (hw : Region.wanted oi (yielded ops a.tmps) = false := by rfl)
    (hs : Region.noSelect ops = true := by kernel_rfl) (hf : Region.free md ops listed i = true := by kernel_rfl) (hr : (Region.ready md ops listed).contains i = true := by kernel_rfl)
    (hQ : ∀ c a w, Q (.panic c) (a.put oi.dst undef) w → Q (.panic c) a w := by exact fun _ _ _ h => h) (hS : S w := by assumption) : wpAnyH P md ops Q S (fuel + 1) listed a w :=
  wpAnyH_take (by rw [← Array.getElem?_toList]; exact hi) hs hf hr hQ (.inr ⟨hw, rfl⟩) hS h
theorem rdN {i : Nat} {o : Oper} {fuel : Nat} {listed : Array Bool} {a : Act} {w : World} {rs : List Nat} (hi : ops.toList[i]? = some o)
    (h : ∀ K' : Act → World → Prop, Shut (∀ a w, S w → (S w → wpAnyH P md ops Q S fuel (listed.setIfInBounds i true) a w) → K' a w) → if Region.wanted o (yielded ops a.tmps) = true then Oper.wp P o a w K' Q else K' (a.put o.dst undef) w)
    (hs : AllReadyH P md ops Q S fuel listed a w rs) : AllReadyH P md ops Q S fuel listed a w (i :: rs) := AllReadyH.cons (by rw [← Array.getElem?_toList]; exact hi) h hs
/-- One operation is ready. -/
theorem stN {i : Nat} {o : Oper} {fuel : Nat} {listed : Array Bool} {a : Act} {w : World} (hi : ops.toList[i]? = some o)
    (h : ∀ K' : Act → World → Prop, Shut (∀ a w, S w → (S w → wpAnyH P md ops Q S fuel (listed.setIfInBounds i true) a w) → K' a w) → if Region.wanted o (yielded ops a.tmps) = true then Oper.wp P o a w K' Q else K' (a.put o.dst undef) w)
    (hr : Region.ready md ops listed = [i] := by kernel_rfl) : wpAnyH P md ops Q S (fuel + 1) listed a w := wpAnyH_ready hr (by simp) (rdN hi h AllReadyH.nil)
end
theorem sA {α : Type} (l : List α) (i : Nat) (a : α) : l.toArray.setIfInBounds i a = (l.set i a).toArray := List.setIfInBounds_toArray l i a
theorem sZ {α : Type} (x a : α) (l : List α) : (x :: l).set 0 a = a :: l := List.set_cons_zero
theorem sS {α : Type} (x a : α) (l : List α) (n : Nat) : (x :: l).set (n + 1) a = x :: l.set n a := List.set_cons_succ
end Go.Proofs.YtlhlcdjkacglnaaGreatDoor
/- Slices as lists: what append, copy, make and a cut make of them. -/
namespace Go.Lap
open Go.RowKit

/-- Each element has size cells, plain values all. -/
def Enc {α : Type} (enc : α → List Value) (size : Nat) : Prop := ∀ x, (enc x).length = size ∧ ∀ u ∈ enc x, u.oneCell' = true

/-- t is the slice type of e; a zero element; its cells and its bytes. -/
def SlTy (P : Program) (t e : TypeId) (z : Value) (size bytes : Nat) : Prop :=
  P.underlying t = some (.slice e) ∧ (P.info? e).map (fun i => (i.zero, i.size, i.bytes)) = some (some z, size, bytes) ∧ z.cells.size = size ∧ 0 < size

/-- The slice value v is the call's own (a block from base on), and holds l. -/
abbrev Owns {α : Type} (w : World) (base : Nat) (e : TypeId) (size : Nat) (enc : α → List Value) (v : Value) (l : List α) : Prop := w.ownsRow base e size v l.length (l.flatMap enc)

section
variable {α : Type} {enc : α → List Value} {size : Nat} {l m : List α} {w w' : World} {v vx : Value} {base : Nat} {e : TypeId}

theorem flat_length (hE : Enc enc size) : ∀ l : List α, (l.flatMap enc).length = l.length * size
  | [] => by simp
  | x :: l => by simp only [List.flatMap_cons, List.length_append, (hE x).1, flat_length hE l, List.length_cons, Nat.add_mul]; omega

theorem flat_get (hE : Enc enc size) : ∀ (l : List α) (k : Nat) (x : α) (j : Nat), l[k]? = some x → j < size → (l.flatMap enc)[k * size + j]? = (enc x)[j]?
  | [], k, x, j, h, _ => by simp at h
  | y :: l, 0, x, j, h, hj => by
    simp at h
    subst h
    simp only [List.flatMap_cons, Nat.zero_mul, Nat.zero_add]
    rw [List.getElem?_append_left (by rw [(hE y).1]; exact hj)]
  | y :: l, k + 1, x, j, h, hj => by
    simp only [List.flatMap_cons]
    rw [List.getElem?_append_right (by rw [(hE y).1, Nat.add_mul]; omega), (hE y).1]
    have := flat_get hE l k x j (by simpa using h) hj
    rw [← this]
    congr 1
    rw [Nat.add_mul]; omega

theorem flat_one (hE : Enc enc size) (l : List α) : ∀ u ∈ l.flatMap enc, u.oneCell' = true := by
  intro u hu
  obtain ⟨x, _, hx⟩ := List.mem_flatMap.1 hu
  exact (hE x).2 u hx

theorem flat_split (hE : Enc enc size) (hs : 0 < size) (l : List α) (j : Nat) (u : Value) (h : (l.flatMap enc)[j]? = some u) : ∃ x, l[j / size]? = some x ∧ (enc x)[j % size]? = some u := by
  have hj : j < l.length * size := by rw [← flat_length hE]; exact (List.getElem?_eq_some_iff.1 h).1
  have hk : j / size < l.length := (Nat.div_lt_iff_lt_mul hs).2 hj
  refine ⟨l[j / size], List.getElem?_eq_getElem hk, ?_⟩
  have := flat_get hE l (j / size) _ (j % size) (List.getElem?_eq_getElem hk) (Nat.mod_lt _ hs)
  rw [← this, ← h]
  congr 1
  have := Nat.div_add_mod j size
  rw [Nat.mul_comm] at this
  omega

/-- The source of an append or a copy, cell by cell. -/
theorem SlIn.cells (hE : Enc enc size) (hs : 0 < size) {b off : Nat} (h : ∀ k x, l[k]? = some x → ∀ j u, (enc x)[j]? = some u → w.cell? ⟨b, off + k * size + j, none⟩ = some u) :
    ∀ j u, (l.flatMap enc)[j]? = some u → w.cell? ((⟨b, off, none⟩ : Addr).add j) = some u := by
  intro j u hu
  obtain ⟨x, hx, hxu⟩ := flat_split hE hs l j u hu
  have h1 := h _ _ hx _ _ hxu
  have e1 : off + j / size * size + j % size = off + j := by
    have := Nat.div_add_mod j size
    rw [Nat.mul_comm] at this
    omega
  rw [e1] at h1
  unfold Addr.add
  split
  · rename_i hz; subst hz; simpa using h1
  · exact h1

theorem Owns.slIn (hE : Enc enc size) (h : Owns w base e size enc v l) : SlIn w size enc v l := by
  obtain ⟨hlen, h⟩ := h
  rcases h with ⟨rfl, hn⟩ | ⟨g, cap, cur, rfl, hg, hh, hnc, _, hcur, htake⟩
  · have : l = [] := List.eq_nil_of_length_eq_zero hn
    subst this
    exact ⟨none, 0, rfl, Nat.le_refl _, .inl rfl⟩
  · refine ⟨_, cap, rfl, hnc, .inr ⟨g, 0, rfl, Blk.lt hh, fun k x hx j u hu => ?_⟩⟩
    have hj : j < size := by rw [← (hE x).1]; exact (List.getElem?_eq_some_iff.1 hu).1
    have h1 := flat_get hE l k x j hx hj
    rw [hu, ← htake, List.getElem?_take] at h1
    split at h1
    · rw [Blk.cell hh, Nat.zero_add]; simpa using h1
    · cases h1

theorem Owns.nil (w : World) (base : Nat) (e : TypeId) (size : Nat) (enc : α → List Value) : Owns w base e size enc (.slice none 0 0) ([] : List α) := World.ownsRow_nil w base e size

/-- 'T{a, b}' | the array that an append of single elements lays first. -/
theorem SlIn.lit {b t c : Nat} {cs : Array Value} (h : Blk w b t cs) (hE : Enc enc size) (hcs : cs.toList = l.flatMap enc) (hc : l.length ≤ c) : SlIn w size enc (.slice (some ⟨b, 0, none⟩) l.length c) l := by
  refine ⟨_, c, rfl, hc, .inr ⟨b, 0, rfl, h.lt, fun k x hx j u hu => ?_⟩⟩
  have hj : j < size := by rw [← (hE x).1]; exact (List.getElem?_eq_some_iff.1 hu).1
  have h1 := flat_get hE l k x j hx hj
  rw [hu, ← hcs] at h1
  rw [h.cell, Nat.zero_add]
  simpa using h1

theorem SlIn.one {b t : Nat} {cs : Array Value} {x : α} (h : Blk w b t cs) (hE : Enc enc size) (hcs : cs.toList = enc x) : SlIn w size enc (.slice (some ⟨b, 0, none⟩) 1 1) [x] :=
  SlIn.lit (l := [x]) h hE (by simpa using hcs) (Nat.le_refl _)

/-- x[k:] -/
theorem SlIn.drop {A : Option Addr} {n c k : Nat} (h : SlIn w size enc (.slice A n c) l) (hk : k ≤ l.length) :
    SlIn w size enc (.slice (if c = k then A else A.map (·.add (k * size))) (n - k) (c - k)) (l.drop k) := by
  obtain ⟨A', c', hv, hc, h⟩ := h
  injection hv with hA hn hcc
  subst hA hcc hn
  refine ⟨_, _, by rw [List.length_drop], by rw [List.length_drop]; omega, ?_⟩
  rcases h with rfl | ⟨b, off, rfl, hb, h⟩
  · exact .inl (by simp)
  · by_cases hlk : l.length = k
    · exact .inl (List.drop_eq_nil_of_le (by omega))
    · right
      rw [if_neg (by omega)]
      refine ⟨b, off + k * size, ?_, hb, fun i x hx j u hu => ?_⟩
      · simp only [Option.map, Addr.add]
        split
        · rename_i hz; rw [hz]; rfl
        · rfl
      · have := h (k + i) x (by rw [← hx, List.getElem?_drop]) j u hu
        rw [← this, Nat.add_mul]
        congr 2
        omega

theorem SlIn.form (h : SlIn w size enc v l) : ∃ A c, v = .slice A l.length c := by obtain ⟨A, c, hv, _⟩ := h; exact ⟨A, c, hv⟩
theorem SlIn.cap_le {A : Option Addr} {n c : Nat} (h : SlIn w size enc (.slice A n c) l) : l.length ≤ c ∧ n = l.length := by
  obtain ⟨A', c', hv, hc, _⟩ := h
  injection hv with _ h1 h2
  subst h2
  exact ⟨hc, h1⟩
theorem SlIn.empty (w : World) (size : Nat) (enc : α → List Value) (A : Option Addr) (c : Nat) : SlIn w size enc (.slice A 0 c) ([] : List α) := ⟨A, c, rfl, Nat.zero_le _, .inl rfl⟩
theorem SlIn.drop_end {A : Option Addr} {n c : Nat} (h : SlIn w size enc (.slice A n c) l) (hk : c ≤ l.length) : SlIn w size enc (.slice A (n - c) 0) (l.drop c) := by
  have := h.drop (k := c) hk
  rwa [if_pos rfl, Nat.sub_self] at this
theorem SlIn.drop_far {A : Option Addr} {n c k : Nat} (h : SlIn w size enc (.slice A n c) l) (hk : k ≤ l.length) (hc : ¬ c = k) : SlIn w size enc (.slice (Option.map (fun x => x.add (k * size)) A) (n - k) (c - k)) (l.drop k) := by
  have := h.drop (k := k) hk
  rwa [if_neg hc] at this

theorem SlIn.drop_at {b off n c k : Nat} (h : SlIn w size enc (.slice (some ⟨b, off, none⟩) n c) l) (hk : k ≤ l.length) (hc : ¬ c = k) : SlIn w size enc (.slice (some ⟨b, off + k * size, none⟩) (n - k) (c - k)) (l.drop k) := by
  have := h.drop_far hk hc
  simp only [Option.map, Addr.add] at this
  split at this
  · rename_i hz; rw [hz, Nat.add_zero]; exact this
  · exact this

/-- x[:k], x[:k:m] -/
theorem SlIn.take {A : Option Addr} {n c k c' : Nat} (h : SlIn w size enc (.slice A n c) l) (hk : k ≤ l.length) (hc : k ≤ c') : SlIn w size enc (.slice A k c') (l.take k) := by
  obtain ⟨A', c2, hv, _, h⟩ := h
  injection hv with hA hn hcc
  subst hA
  refine ⟨_, _, by rw [List.length_take, Nat.min_eq_left hk], by rw [List.length_take]; omega, ?_⟩
  rcases h with rfl | ⟨b, off, rfl, hb, h⟩
  · exact .inl (by simp)
  · refine .inr ⟨b, off, rfl, hb, fun i x hx j u hu => h i x ?_ j u hu⟩
    rw [List.getElem?_take] at hx
    split at hx
    · exact hx
    · cases hx

variable {P : Program} {t : TypeId} {z : Value} {bytes : Nat} (w)

theorem run_app (hT : SlTy P t e z size bytes) (hE : Enc enc size) (ty : TypeId) (hown : Owns w base e size enc v l) (hsrc : SlIn w size enc vx m)
    (h63 : l.length + m.length ≤ maxLen) (hbytes : (l.length + m.length) * bytes ≤ 140737488355328) (hbase : base ≤ w.heap.size) :
    ∃ v' w', (Builtin.append_ #[t, t] ty #[v, vx]).run P w = .ok v' w' ∧ Owns w' base e size enc v' (l ++ m) ∧ w.grownBy w' v.ownBlock ∧ (v'.ownBlock = v.ownBlock ∨ v'.ownBlock = some w.heap.size) := by
  obtain ⟨ht, hinfo, hzs, hsz⟩ := hT
  obtain ⟨i, hi, hii⟩ := Option.map_eq_some_iff.1 hinfo
  simp only [Prod.mk.injEq] at hii
  obtain ⟨hz, hsize, hby⟩ := hii
  obtain ⟨A, c, rfl, _, h⟩ := hsrc
  have nilCase : ∀ A c, m = [] → (A = none ∨ True) → ∃ v' w', (Builtin.append_ #[t, t] ty #[v, .slice A m.length c]).run P w = .ok v' w' ∧ Owns w' base e size enc v' (l ++ m) ∧ w.grownBy w' v.ownBlock ∧ (v'.ownBlock = v.ownBlock ∨ v'.ownBlock = some w.heap.size) := by
    intro A c hm _
    subst hm
    cases A with
    | none =>
      refine ⟨v, w, ?_, by simpa using hown, World.grownBy.refl w _, .inl rfl⟩
      rcases hown.2 with ⟨rfl, _⟩ | ⟨g, cap, cur, rfl, _, _, hnc, _⟩
      · simp [Builtin.append_, run_underlying ht, sizeOf, typeInfo, hi, Builtin.lenOf, Builtin.firstCells]
      · simp [Builtin.append_, run_underlying ht, sizeOf, typeInfo, hi, Builtin.lenOf, Builtin.firstCells, hnc, storeCells]
    | some ad =>
      obtain ⟨v', w', hrun, h2, h3, _, h5⟩ := run_append_own_at (P := P) w base t ty e i z size bytes ht hi hz hsize hby hzs hsz v l.length _ hown ad 0 c [] (by simp) (by simp) (by simp) (by simpa using h63) (by simpa using hbytes) hbase
      exact ⟨v', w', by simpa using hrun, by simpa using h2, h3, h5⟩
  rcases h with hm | ⟨b, off, rfl, hb, h⟩
  · exact nilCase A c hm (.inr trivial)
  · obtain ⟨v', w', hrun, h2, h3, _, h5⟩ := run_append_own_at (P := P) w base t ty e i z size bytes ht hi hz hsize hby hzs hsz v l.length _ hown ⟨b, off, none⟩ m.length c (m.flatMap enc) (flat_length hE m)
      (SlIn.cells hE hsz h) (flat_one hE m) h63 hbytes hbase
    exact ⟨v', w', hrun, by simpa [Owns, List.length_append, List.flatMap_append] using h2, h3, h5⟩

variable {w}
/-- append(s, x...) at an operation of a plain region. -/
theorem wpList_app {ops : Array Oper} {rest : List Oper} {o : Oper} {a : Act} {Q : Exit → Act → World → Prop} (hT : SlTy P t e z size bytes) (hE : Enc enc size) (hgd : o.guard = none) (s x : Operand)
    (ho : o.op = .call { callee := .builtin .append, args := #[s, x], argTypes := #[t, t] }) (hs : a.eval s = v) (hx : a.eval x = vx) (hown : Owns w base e size enc v l) (hsrc : SlIn w size enc vx m)
    (h63 : l.length + m.length ≤ maxLen) (hbytes : (l.length + m.length) * bytes ≤ 140737488355328) (hbase : base ≤ w.heap.size)
    (h : ∀ v' w', Owns w' base e size enc v' (l ++ m) → w.grownBy w' v.ownBlock → (v'.ownBlock = v.ownBlock ∨ v'.ownBlock = some w.heap.size) → wpList P ops Q rest (a.put o.dst v') w') : wpList P ops Q (o :: rest) a w := by
  refine wpList_plain hgd fun K hK => ?_
  obtain ⟨v', w', hrun, h2, h3, h4⟩ := run_app (P := P) w hT hE o.type hown hsrc h63 hbytes hbase
  unfold Oper.wp execOp
  simp only [ho, resolve, invoke, builtin, Sem.run_bind, Sem.run_pure, Result.andThen_ok, List.map_toArray, List.map_cons, List.map_nil, hs, hx, hrun]
  exact hK _ _ (h v' w' h2 h3 h4)

/-- append(s, x...) as one step of a region that draws its order. -/
theorem step_app {ops : Array Oper} {o : Oper} {a : Act} {K : Act → World → Prop} {Q : Exit → Act → World → Prop} {E : Prop} (hT : SlTy P t e z size bytes) (hE : Enc enc size) (hgd : o.guard = none) (s x : Operand)
    (ho : o.op = .call { callee := .builtin .append, args := #[s, x], argTypes := #[t, t] }) (hs : a.eval s = v) (hx : a.eval x = vx) (hown : Owns w base e size enc v l) (hsrc : SlIn w size enc vx m)
    (h63 : l.length + m.length ≤ maxLen) (hbytes : (l.length + m.length) * bytes ≤ 140737488355328) (hbase : base ≤ w.heap.size)
    (h : ∀ v' w', Owns w' base e size enc v' (l ++ m) → w.grownBy w' v.ownBlock → (v'.ownBlock = v.ownBlock ∨ v'.ownBlock = some w.heap.size) → K (a.put o.dst v') w') :
    if Region.wanted o (yielded ops a.tmps) = true then Oper.wp P o a w K Q else E := by
  have hw : Region.wanted o (yielded ops a.tmps) = true := by simp [Region.wanted, hgd]
  rw [if_pos hw]
  obtain ⟨v', w', hrun, h2, h3, h4⟩ := run_app (P := P) w hT hE o.type hown hsrc h63 hbytes hbase
  unfold Oper.wp execOp
  simp only [ho, resolve, invoke, builtin, Sem.run_bind, Sem.run_pure, Result.andThen_ok, List.map_toArray, List.map_cons, List.map_nil, hs, hx, hrun]
  exact h v' w' h2 h3 h4

theorem Owns.alloc (h : Owns w base e size enc v l) (o : Obj) : Owns (w.alloc o) base e size enc v l := World.ownsRow.alloc h o
theorem Owns.lower {b' : Nat} (h : Owns w base e size enc v l) (hb : b' ≤ base) : Owns w b' e size enc v l := by
  refine ⟨h.1, ?_⟩
  rcases h.2 with h2 | ⟨g, cap, cur, hv, hg, r⟩
  · exact .inl h2
  · exact .inr ⟨g, cap, cur, hv, by omega, r⟩
theorem Owns.new (h : Owns w base e size enc v l) (hn : New w w') : Owns w' base e size enc v l := by
  refine ⟨h.1, ?_⟩
  rcases h.2 with h2 | ⟨g, cap, cur, hv, hg, hh, r⟩
  · exact .inl h2
  · exact .inr ⟨g, cap, cur, hv, hg, Blk.new hh hn, r⟩
theorem Owns.lt (h : Owns w base e size enc v l) : ∀ k, v.ownBlock = some k → base ≤ k ∧ k < w.heap.size := World.ownsRow.lt h
theorem Owns.blockGe (h : Owns w base e size enc v l) : ∀ k, v.ownBlock = some k → base ≤ k := fun k hk => (World.ownsRow.lt h k hk).1
end
end Go.Lap
/- Chapter 5 (batch): what a batch is; why one may not be. Printed by genBat.py. -/
namespace Go.Proofs.YtlhlcdjkacglnaaGreatDoor
open Go.RowKit Go.Lap
set_option linter.unusedVariables false

/-- A write. -/
structure Wri where
  key : ByteArray
  val : ByteArray
  gone : Bool
  deriving DecidableEq

def Wri.enc (x : Wri) : List Value := [.string x.key, .string x.val, .bool x.gone]
theorem Wri.encOk : Enc Wri.enc 3 := fun _ => ⟨rfl, by simp [Wri.enc, Value.oneCell']⟩

/-- Why a write may not be, by itself. -/
def chk1 (x : Wri) : Int := if x.key.size = 0 ∨ 64 < x.key.size then 52 else if 256 < x.val.size ∨ (x.gone = true ∧ x.val.size ≠ 0) then 53 else 0

theorem toList_data (s : ByteArray) : s.toList = s.data.toList := by
  obtain ⟨⟨l⟩⟩ := s
  exact ByteArray.toList_mk l
theorem size_toList (s : ByteArray) : s.toList.length = s.size := by rw [toList_data, Array.length_toList]; rfl
theorem toList_nil {s : ByteArray} (h : s.size = 0) : s.toList = [] := List.eq_nil_of_length_eq_zero (by rw [size_toList, h])
theorem toList_ne {s : ByteArray} (h : s.size ≠ 0) : s.toList.isEmpty = false := by
  cases hl : s.toList with
  | nil => exact absurd (by rw [← size_toList, hl]; rfl) h
  | cons _ _ => rfl

set_option maxHeartbeats 1000000 in
theorem write1_any (x : Wri) (w : World) :
    Calls Tryz.prog 143 #[.agg #[.string x.key, .string x.val, .bool x.gone]] w fun e w' => e = .returned (.int .i64 (chk1 x)) ∧ New w w' := by
  obtain ⟨key, val, gone⟩ := x
  by_cases h1 : key.size = 0
  · have t1 := toList_nil h1
    have hF : chk1 ⟨key, val, gone⟩ = 52 := by simp [chk1, h1]
    have HF := Lib.hid hF
    clear hF
    go_enter Tryz.func143, Tryz.ntmps143
    go_wp2_with fail
    go_ret
    exact ⟨ret_int (a := 52) HF.out.symm, (New.refl w).alloc _⟩
  · have t1 := toList_ne h1
    by_cases h2 : 64 < key.size
    · have h2' : (64 : Int) < (key.size : Int) := by omega
      have hF : chk1 ⟨key, val, gone⟩ = 52 := by simp [chk1, h2]
      have HF := Lib.hid hF
      clear hF
      go_enter Tryz.func143, Tryz.ntmps143
      go_wp2_with fail
      go_ret
      exact ⟨ret_int (a := 52) HF.out.symm, (New.refl w).alloc _⟩
    · have h2' : ¬ (64 : Int) < (key.size : Int) := by omega
      by_cases h3 : 256 < val.size
      · have h3' : (256 : Int) < (val.size : Int) := by omega
        have hF : chk1 ⟨key, val, gone⟩ = 53 := by simp [chk1, h1, h2, h3]
        have HF := Lib.hid hF
        clear hF
        go_enter Tryz.func143, Tryz.ntmps143
        go_wp2_with fail
        go_ret
        exact ⟨ret_int (a := 53) HF.out.symm, (New.refl w).alloc _⟩
      · have h3' : ¬ (256 : Int) < (val.size : Int) := by omega
        cases gone with
        | false =>
          have hF : chk1 ⟨key, val, false⟩ = 0 := by simp [chk1, h1, h2, h3]
          have HF := Lib.hid hF
          clear hF
          go_enter Tryz.func143, Tryz.ntmps143
          go_wp2_with fail
          go_ret
          exact ⟨ret_int (a := 0) HF.out.symm, (New.refl w).alloc _⟩
        | true =>
          by_cases h4 : val.size = 0
          · have t4 := toList_nil h4
            have hF : chk1 ⟨key, val, true⟩ = 0 := by simp [chk1, h1, h2, h4]
            have HF := Lib.hid hF
            clear hF
            go_enter Tryz.func143, Tryz.ntmps143
            go_wp2_with fail
            go_ret
            exact ⟨ret_int (a := 0) HF.out.symm, (New.refl w).alloc _⟩
          · have t4 := toList_ne h4
            have hF : chk1 ⟨key, val, true⟩ = 53 := by simp [chk1, h1, h2, h3, h4]
            have HF := Lib.hid hF
            clear hF
            go_enter Tryz.func143, Tryz.ntmps143
            go_wp2_with fail
            go_ret
            exact ⟨ret_int (a := 53) HF.out.symm, (New.refl w).alloc _⟩

/-- Does a key not rise behind another one (none: it is the first)? -/
def prevBad (p : Option ByteArray) (key : ByteArray) : Bool := match p with | none => false | some k => !Op.bytesLess k.toList key.toList
/-- Why writes may not be, behind a key (none: they are the first). -/
def chkFrom : Option ByteArray → List Wri → Int
  | _, [] => 0
  | p, x :: l => if chk1 x ≠ 0 then chk1 x else if prevBad p x.key = true then 54 else chkFrom (some x.key) l

def prevAt (l : List Wri) (k : Nat) : Option ByteArray := match k with | 0 => none | k + 1 => (l[k]?).map (·.key)

/-- Why a batch may not be. -/
def chk (l : List Wri) : Int := if l.length = 0 then 50 else if 8 < l.length then 51 else chkFrom none l

theorem chkFrom_at {l : List Wri} {k : Nat} {x : Wri} (h : l[k]? = some x) (p : Option ByteArray) :
    chkFrom p (l.drop k) = if chk1 x ≠ 0 then chk1 x else if prevBad p x.key = true then 54 else chkFrom (some x.key) (l.drop (k + 1)) := by
  obtain ⟨hk, hx⟩ := List.getElem?_eq_some_iff.1 h
  rw [List.drop_eq_getElem_cons hk, hx]
  rfl
theorem prevAt_succ {l : List Wri} {k : Nat} {x : Wri} (h : l[k]? = some x) : prevAt l (k + 1) = some x.key := by simp [prevAt, h]

/-- From the k-th write on it is as from the first on. -/
def ChkRel (w : World) (l : List Wri) (k : Nat) (w0 wr : World) : Prop := chkFrom none l = chkFrom (prevAt l k) (l.drop k) ∧ New w0 wr

/-- The value of a batch. -/
abbrev batV (c r s : Nat) (v : Value) : Value := .agg #[.int .u64 (c : Int), .int .u64 (r : Int), .int .u64 (s : Int), v]

/-- A batch that was boxed. -/
theorem Blk4F {w : World} {g t : Nat} {a b c d : Value} (h : Blk w g t #[a, b, c, d]) : g < w.heap.size ∧ w.cell? ⟨g, 0, none⟩ = some a ∧ w.cell? ⟨g, 1, none⟩ = some b ∧ w.cell? ⟨g, 2, none⟩ = some c ∧ w.cell? ⟨g, 3, none⟩ = some d ∧ (∀ i, w.frozen? ⟨g, i, none⟩ = false) :=
  ⟨h.lt, h.cell 0, h.cell 1, h.cell 2, h.cell 3, h.frozen⟩
theorem Blk3F {w : World} {g t : Nat} {a b c : Value} (h : Blk w g t #[a, b, c]) : g < w.heap.size ∧ w.cell? ⟨g, 0, none⟩ = some a ∧ w.cell? ⟨g, 1, none⟩ = some b ∧ w.cell? ⟨g, 2, none⟩ = some c ∧ (∀ i, w.frozen? ⟨g, i, none⟩ = false) :=
  ⟨h.lt, h.cell 0, h.cell 1, h.cell 2, h.frozen⟩
theorem SlIn.three {w : World} {b off : Nat} {l : List Wri} {k : Nat} {x : Wri} (hc : ∀ k x, l[k]? = some x → ∀ j u, (Wri.enc x)[j]? = some u → w.cell? ⟨b, off + k * 3 + j, none⟩ = some u) (h : l[k]? = some x) :
    w.cell? ⟨b, off + k * 3, none⟩ = some (.string x.key) ∧ w.cell? ⟨b, off + k * 3 + 1, none⟩ = some (.string x.val) ∧ w.cell? ⟨b, off + k * 3 + 2, none⟩ = some (.bool x.gone) :=
  ⟨hc k x h 0 _ rfl, hc k x h 1 _ rfl, hc k x h 2 _ rfl⟩

set_option maxRecDepth 100000 in
set_option maxHeartbeats 4000000 in
theorem check_any (c r s : Nat) (v : Value) (l : List Wri) (w : World) (hl : l.length ≤ 1000000000) (hs : SlIn w 3 Wri.enc v l) :
    Calls Tryz.prog 86 #[.agg #[.int .u64 (c : Int), .int .u64 (r : Int), .int .u64 (s : Int), v]] w fun e w' => e = .returned (.int .i64 (chk l)) ∧ New w w' := by
  obtain ⟨A, cap, rfl, hlc, hh⟩ := hs
  by_cases h0 : l.length = 0
  · have hF : chk l = 50 := by simp [chk, h0]
    have HF := Lib.hid hF
    have hz : ((l.length : Int) == 0) = true := by simp [h0]
    clear hF
    go_enter Tryz.func86, Tryz.ntmps86
    go_wp2_with fail
    go_ret
    exact ⟨ret_int (a := 50) HF.out.symm, (New.refl w).alloc _⟩
  have hz : ((l.length : Int) == 0) = false := by simpa using h0
  by_cases h8 : 8 < l.length
  · have hF : chk l = 51 := by simp [chk, h0, h8]
    have HF := Lib.hid hF
    have h8' : (8 : Int) < (l.length : Int) := by omega
    clear hF
    go_enter Tryz.func86, Tryz.ntmps86
    go_wp2_with fail
    go_ret
    exact ⟨ret_int (a := 51) HF.out.symm, (New.refl w).alloc _⟩
  have h8' : ¬ (8 : Int) < (l.length : Int) := by omega
  have hF : chk l = chkFrom none l := by simp [chk, h0, h8]
  have HF := Lib.hid hF
  clear hF h0 h8
  rcases hh with rfl | ⟨b, off, rfl, hbb, hc⟩
  · simp at hz
  go_enter Tryz.func86, Tryz.ntmps86
  go_wp2_with fail
  have hB0 := Blk.mk_new w 82 #[.int .u64 (c : Int), .int .u64 (r : Int), .int .u64 (s : Int), .slice (some ⟨b, off, none⟩) l.length cap]
  have hN0 := (New.refl w).alloc (.cells #[.int .u64 (c : Int), .int .u64 (r : Int), .int .u64 (s : Int), .slice (some ⟨b, off, none⟩) l.length cap] 82)
  have HB0 := Lib.hid hB0
  have HN0 := Lib.hid hN0
  clear hB0 hN0
  go_loopw [3, 4, 5, 19] (fun _ _ _ i wr => ∃ k : Nat, k ≤ l.length ∧ i = .int .i64 k ∧ ChkRel w l k (w.alloc (.cells #[.int .u64 (c : Int), .int .u64 (r : Int), .int .u64 (s : Int), .slice (some ⟨b, off, none⟩) l.length cap] 82)) wr) (fun _ _ _ i _ => l.length - (intOf i).toNat)
  case atStart => exact ⟨0, by omega, rfl, rfl, New.refl _⟩
  case round =>
    obtain ⟨k, hk, rfl, hfr, hn⟩ := hrel
    have HFR := Lib.hid hfr
    clear hfr
    by_cases hlt : k < l.length
    · have hlt2 : (k : Int) < (l.length : Int) := by omega
      have hk0 : (0 : Int) ≤ (k : Int) := by omega
      obtain ⟨x, hx⟩ : ∃ x, l[k]? = some x := ⟨_, List.getElem?_eq_getElem hlt⟩
      have hCo := HN0.out.trans hn
      obtain ⟨e0, e1, e2⟩ := SlIn.three (fun k x h j u hu => (hCo.cells.1 _ _ hbb).trans (hc k x h j u hu)) hx
      have hFx := chkFrom_at hx (prevAt l k)
      have hFx := HFR.out.trans (chkFrom_at hx (prevAt l k))
      have HFX := Lib.hid hFx
      have HX := Lib.hid hx
      have HC := Lib.hid hc
      clear hFx hx hc
      go_wp2_with fail
      refine (write1_any x _).mono ?_
      rintro e w2 ⟨rfl, hn2⟩
      have hBx := (Blk.mk_new wr 34 #[.string x.key, .string x.val, .bool x.gone]).new hn2
      have hn3 := ((New.refl wr).alloc (.cells #[.string x.key, .string x.val, .bool x.gone] 34)).trans hn2
      have hBb := (HB0.out.new hn).new hn3
      have hN3 := hCo.trans hn3
      obtain ⟨p0, p1, p2, p3, p4, pz⟩ := Blk4F hBb
      obtain ⟨q0, q1, q2, q3, qz⟩ := Blk3F hBx
      have hn3q := hn.trans hn3
      clear e0 e1 e2 hn2 hn hBx hBb
      by_cases h1 : chk1 x = 0
      rotate_left
      · have hF2 : chk l = chk1 x := by rw [HF.out, HFX.out, if_pos h1]
        have HF2 := Lib.hid hF2
        generalize chk1 x = cx at *
        have hne : ((cx : Int) != 0) = true := by simpa using h1
        clear h1 hF2
        go_wp2_with fail
        go_ret
        exact ⟨ret_int HF2.out.symm, hN3⟩
      rw [h1]
      go_upto_region 11 with fail
      cases k with
      | zero =>
        have hF2 : chkFrom none l = chkFrom (prevAt l 1) (l.drop 1) := by rw [HFX.out, if_neg (by simpa using h1), prevAt_succ HX.out]; rfl
        have HF2 := Lib.hid hF2
        clear hF2 h1
        have hd : decide ((0 : Int) < ((0 : Nat) : Int)) = false := by decide
        go_quiet (fail)
        go_wp2_with fail
        go_roundw
        case rel => exact ⟨1, by omega, by go_num, HF2.out, hn3q.drewN _⟩
        case measure => simp [intOf]; omega
      | succ j =>
        obtain ⟨y, hy⟩ : ∃ y, l[j]? = some y := ⟨_, List.getElem?_eq_getElem (by omega)⟩
        have f0 : w2.cell? ⟨b, off + j * 3, none⟩ = some (.string y.key) := (hN3.cells.1 _ _ hbb).trans (HC.out j y hy 0 _ rfl)
        have hd : decide ((0 : Int) < ((j + 1 : Nat) : Int)) = true := by rw [decide_eq_true_eq]; omega
        have hpv : prevAt l (j + 1) = some y.key := prevAt_succ hy
        have hfx2 := HFX.out
        rw [hpv, if_neg (by simpa using h1)] at hfx2
        change chkFrom none l = if (!Op.bytesLess y.key.toList x.key.toList) = true then 54 else _ at hfx2
        have hj1 : (0 : Int) ≤ (j : Int) := by omega
        have hj2 : (j : Int) < (l.length : Int) := by omega
        have hj3 : IntKind.i64.wrap (((j + 1 : Nat) : Int) - 1) = (j : Int) := by rw [IntWalk.i64_in _ (by omega)]; omega
        cases hbl : Op.bytesLess y.key.toList x.key.toList with
        | false =>
          rw [hbl, if_pos (by decide)] at hfx2
          have hF2 : chk l = 54 := by rw [HF.out, hfx2]
          have HF2 := Lib.hid hF2
          clear hF2 hfx2 hpv h1
          go_quiet (fail)
          go_wp2_with fail
          go_ret
          exact ⟨ret_int (a := 54) HF2.out.symm, hN3.drewN _⟩
        | true =>
          rw [hbl, if_neg (by decide)] at hfx2
          have hF2 : chkFrom none l = chkFrom (prevAt l (j + 1 + 1)) (l.drop (j + 1 + 1)) := by rw [hfx2, prevAt_succ HX.out]
          have HF2 := Lib.hid hF2
          clear hF2 hfx2 hpv h1
          go_quiet (fail)
          go_wp2_with fail
          go_roundw
          case rel => exact ⟨j + 1 + 1, by omega, by go_num, HF2.out, hn3q.drewN _⟩
          case measure => simp [intOf]; omega
    · have hlt2 : ¬ (k : Int) < (l.length : Int) := by omega
      have hF2 : chk l = 0 := by rw [HF.out, HFR.out, List.drop_eq_nil_of_le (by omega)]; rfl
      have HF2 := Lib.hid hF2
      clear hF2
      go_wp2_with fail
      go_ret
      exact ⟨ret_int (a := 0) HF2.out.symm, HN0.out.trans hn⟩

end Go.Proofs.YtlhlcdjkacglnaaGreatDoor
/- Chapter 5 (batch): few, Same, Find, Meets, and the document's. Printed by genBat2.py. -/
namespace Go.Proofs.YtlhlcdjkacglnaaGreatDoor
open Go.RowKit Go.Lap
set_option linter.unusedVariables false

theorem take_snoc {l : List Wri} {k : Nat} {x : Wri} (h : l[k]? = some x) : l.take (k + 1) = l.take k ++ [x] := by rw [List.take_add_one, h]; rfl
end Go.Proofs.YtlhlcdjkacglnaaGreatDoor
/- Numbers in as few bytes as they need: the plain functions, and the contracts of the package num. -/
namespace Go.Proofs.YtlhlcdjkacglnaaGreatDoor
open Go.RowKit Go.Lap
set_option linter.unusedVariables false

/-- A byte as a cell. -/
def bEnc (b : UInt8) : List Value := [.int .u8 (b.toNat : Int)]
theorem bEncOk : Enc bEnc 1 := fun _ => ⟨rfl, by simp [bEnc, Value.oneCell']⟩
theorem bTy : SlTy Tryz.prog 86 5 (.int .u8 0) 1 1 := ⟨Tryz.underlying86, by kernel_rfl, rfl, by decide⟩

def varB (n : Nat) : List UInt8 := if n < 128 then [UInt8.ofNat n] else UInt8.ofNat (n % 128 + 128) :: varB (n / 128)
termination_by n
decreasing_by omega
theorem varB_small {n : Nat} (h : n < 128) : varB n = [UInt8.ofNat n] := by rw [varB, if_pos h]
theorem varB_big {n : Nat} (h : 128 ≤ n) : varB n = UInt8.ofNat (n % 128 + 128) :: varB (n / 128) := by rw [varB, if_neg (by omega)]
theorem varB_len : ∀ (k n : Nat), n < 128 ^ (k + 1) → (varB n).length ≤ k + 1
  | 0, n, h => by rw [varB_small (by simpa using h)]; simp
  | k + 1, n, h => by
    by_cases hn : n < 128
    · rw [varB_small hn]; simp
    · rw [varB_big (by omega)]
      have := varB_len k (n / 128) (by rw [Nat.div_lt_iff_lt_mul (by omega)]; rw [Nat.pow_succ] at h; exact h)
      simp only [List.length_cons]
      omega
theorem varB_len10 {n : Nat} (h : n < 18446744073709551616) : (varB n).length ≤ 10 := varB_len 9 n (by omega)
theorem varB_pos (n : Nat) : 0 < (varB n).length := by rw [varB]; split <;> simp

theorem byte_lo {n : Nat} (h : n < 128) : ((UInt8.ofNat n).toNat : Int) = (n : Int) := by simp [UInt8.toNat_ofNat']; omega
theorem byte_hi (n : Nat) : ((UInt8.ofNat (n % 128 + 128)).toNat : Int) = ((n % 128 + 128 : Nat) : Int) := by simp [UInt8.toNat_ofNat']; omega

theorem or128_fin : ∀ x : Fin 256, bits BinOp.or IntKind.u8 (x.val : Int) 128 = ((x.val % 128 + 128 : Nat) : Int) := by decide +kernel
theorem or128 (m : Nat) : bits BinOp.or IntKind.u8 ((m : Int) % 256) 128 = ((UInt8.ofNat (m % 128 + 128)).toNat : Int) := by
  rw [byte_hi]
  have h := or128_fin ⟨m % 256, Nat.mod_lt _ (by decide)⟩
  simp only [Int.natCast_emod] at h
  rw [show ((256 : Nat) : Int) = 256 from rfl] at h
  rw [h]
  congr 1
  omega
set_option maxRecDepth 100000 in
set_option maxHeartbeats 2000000 in
theorem putVar_any (bs : List UInt8) (v : Value) (n : Nat) (w : World) (hbs : bs.length ≤ 1000000000) (hn : n < 18446744073709551616) (hs : SlIn w 1 bEnc v bs) :
    Calls Tryz.prog 144 #[v, .int .u64 n] w fun e w' => ∃ u, e = .returned u ∧ Owns w' w.heap.size 5 1 bEnc u (bs ++ varB n) ∧ New w w' := by
  have hm1 : ([] : List UInt8).length + bs.length ≤ maxLen := by simp [maxLen]; omega
  have hm2 : (([] : List UInt8).length + bs.length) * 1 ≤ 140737488355328 := by simp; omega
  have HM1 := Lib.hid hm1
  have HM2 := Lib.hid hm2
  have HN := Lib.hid hn
  clear hm1 hm2 hn
  go_enter Tryz.func144, Tryz.ntmps144
  go_wp2_with (at_builtin; have ho0 : Owns _ w.heap.size 5 1 bEnc _ ([] : List UInt8) := World.ownsRow_made (base := w.heap.size) (e := 5) (size := 1) w #[] 0 (Nat.le_refl _) (by simp) (by simp); refine wpList_app bTy bEncOk rfl (.tmp 6) (.tmp 7) rfl rfl rfl ho0 (hs.alloc _) HM1.out HM2.out (by simp) ?_; intro v1 w1 ho1 hg1 _)
  have hN1 : New w w1 := ((New.refl w).alloc _).grown hg1 (fun k hk => ho0.blockGe k hk)
  simp only [List.nil_append] at ho1
  clear hg1 HM1 HM2
  go_loopw [1, 5] (fun x o wr => ∃ (m : Nat) (pre : List UInt8), x = .int .u64 m ∧ m < 18446744073709551616 ∧ New w wr ∧ Owns wr w.heap.size 5 1 bEnc o (bs ++ pre) ∧ pre ++ varB m = varB n) (fun x _ _ => (intOf x).toNat)
  case atStart => exact ⟨n, [], rfl, HN.out, hN1, by simpa using ho1, rfl⟩
  case round =>
    obtain ⟨m, pre, rfl, hm, hn, ho, hp⟩ := hrel
    have hl := congrArg List.length hp
    have h10 := varB_len10 HN.out
    have hl0 := varB_pos m
    simp only [List.length_append] at hl
    have hm1 : (bs ++ pre).length + [(0 : UInt8)].length ≤ maxLen := by simp [maxLen]; omega
    have hm2 : ((bs ++ pre).length + [(0 : UInt8)].length) * 1 ≤ 140737488355328 := by simp; omega
    have HM1 := Lib.hid hm1
    have HM2 := Lib.hid hm2
    have HP := Lib.hid hp
    have HMm := Lib.hid hm
    have hsz := hn.size
    clear hm1 hm2 hp hl h10 hl0
    by_cases h128 : 128 ≤ m
    · have h' : (128 : Int) ≤ (m : Int) := by omega
      have hb := or128 m
      have HB := Lib.hid hb
      have hv := varB_big h128
      have HV := Lib.hid hv
      clear hb hv
      go_wp2_with (at_builtin; refine wpList_app (m := [UInt8.ofNat (m % 128 + 128)]) bTy bEncOk rfl (.tmp 13) (.tmp 17) rfl rfl rfl (ho.alloc _) (SlIn.one (Blk.mk_new _ _ _) bEncOk (by simp only [bEnc]; rw [HB.out])) HM1.out HM2.out (by simp; omega) ?_; intro v2 w2 ho2 hg2 _)
      go_roundw
      case rel => exact ⟨m / 128, pre ++ [UInt8.ofNat (m % 128 + 128)], by go_num, by omega, (hn.alloc _).grown hg2 (fun k hk => ho.blockGe k hk), by simpa using ho2, by rw [← HP.out, HV.out]; simp⟩
      case measure => simp [intOf]; omega
    · have h' : ¬ (128 : Int) ≤ (m : Int) := by omega
      have hb := byte_lo (n := m) (by omega)
      have HB := Lib.hid hb
      have hv := varB_small (n := m) (by omega)
      have HV := Lib.hid hv
      clear hb hv
      go_wp2_with (at_builtin; refine wpList_app (m := [UInt8.ofNat m]) bTy bEncOk rfl (.tmp 19) (.tmp 22) rfl rfl rfl (ho.alloc _) (SlIn.one (Blk.mk_new _ _ _) bEncOk (by simp only [bEnc]; rw [HB.out])) HM1.out HM2.out (by simp; omega) ?_; intro v2 w2 ho2 hg2 _)
      go_ret
      exact ⟨v2, rfl, by rw [← HP.out, HV.out]; simpa using ho2, (hn.alloc _).grown hg2 (fun k hk => ho.blockGe k hk)⟩
theorem and127_fin : ∀ x : Fin 256, bits BinOp.and IntKind.u8 (x.val : Int) 127 = ((x.val % 128 : Nat) : Int) := by decide +kernel
theorem and127 {X : Nat} (h : X < 256) : bits BinOp.and IntKind.u8 (X : Int) 127 = ((X % 128 : Nat) : Int) := and127_fin ⟨X, h⟩
theorem pow_le8 {i : Nat} (h : i ≤ 8) : 128 ^ i ≤ 72057594037927936 := Nat.le_trans (Nat.pow_le_pow_right (by decide) h) (by decide)
theorem put_fits {i acc y : Nat} (hi : i ≤ 9) (hacc : acc < 128 ^ i) (hy : y < 128) (h9 : i = 9 → y ≤ 1) : y * 128 ^ i < 18446744073709551616 ∧ acc + y * 128 ^ i < 18446744073709551616 := by
  by_cases he : i = 9
  · subst he
    have := h9 rfl
    have hp : (128 : Nat) ^ 9 = 9223372036854775808 := by decide
    rw [hp] at *
    omega
  · have := pow_le8 (i := i) (by omega)
    generalize 128 ^ i = p at *
    have h1 : y * p ≤ 127 * p := Nat.mul_le_mul_right _ (by omega)
    omega
theorem or_shift (i acc y : Nat) (hi : i ≤ 9) (hacc : acc < 128 ^ i) (hy : y < 128) (h9 : i = 9 → y ≤ 1) : bits BinOp.or IntKind.u64 (acc : Int) (IntKind.u64.wrap ((y : Int) * 2 ^ (7 * i))) = ((acc + y * 128 ^ i : Nat) : Int) := by
  obtain ⟨h1, h2⟩ := put_fits hi hacc hy h9
  have hp : (2 : Int) ^ (7 * i) = ((128 ^ i : Nat) : Int) := by rw [Int.pow_mul]; simp
  have hlt : acc < 18446744073709551616 := by omega
  rw [hp, ← Int.natCast_mul, IntKind.wrap_u64, show ((y * 128 ^ i : Nat) : Int) % 18446744073709551616 = ((y * 128 ^ i : Nat) : Int) from by omega, bits_or_u64_nat _ _ hlt h1]
  congr 1
  have h3 : (128 : Nat) ^ i = 2 ^ (7 * i) := by rw [Nat.pow_mul]
  rw [h3] at hacc ⊢
  have := Nat.shiftLeft_add_eq_or_of_lt (i := 7 * i) hacc y
  rw [Nat.shiftLeft_eq] at this
  rw [Nat.or_comm, ← this, Nat.add_comm]

theorem or_shift2 (i acc X : Nat) (hi : i ≤ 9) (hacc : acc < 128 ^ i) (hX : X < 256) (h9 : i ≠ 9) : bits BinOp.or IntKind.u64 (acc : Int) (IntKind.u64.wrap (IntKind.u64.wrap (bits BinOp.and IntKind.u8 (X : Int) 127) * 2 ^ (7 * i))) = ((acc + X % 128 * 128 ^ i : Nat) : Int) := by
  rw [and127 hX, ← or_shift i acc (X % 128) hi hacc (by omega) (fun h => absurd h h9)]
  have : IntKind.u64.wrap ((X % 128 : Nat) : Int) = ((X % 128 : Nat) : Int) := by rw [IntKind.wrap_u64]; omega
  rw [this]

/-- The number that stands first: what went wrong (0: nothing), the number, the rest. -/
def getV : Nat → Nat → List UInt8 → Int × Nat × List UInt8
  | _, _, [] => (10, 0, [])
  | i, acc, x :: xs => if (i = 9 ∧ 1 < x.toNat) ∨ (0 < i ∧ x.toNat = 0) then (12, 0, []) else if x.toNat < 128 then (0, acc + x.toNat * 128 ^ i, xs) else getV (i + 1) (acc + (x.toNat - 128) * 128 ^ i) xs

/-- What GetVar answers. -/
def GetPost (w : World) (r : Int × Nat × List UInt8) (e : Ending) (w' : World) : Prop :=
  ∃ u, e = .returned (.tuple #[.int .u64 (r.2.1 : Int), u, .int .i64 r.1]) ∧ (if r.1 = 0 then Owns w' w.heap.size 5 1 bEnc u r.2.2 else u = .slice none 0 0) ∧ New w w'

set_option maxRecDepth 100000 in
set_option maxHeartbeats 2000000 in
theorem getVar_some (bs : List UInt8) (b off c : Nat) (w : World) (hbs : bs.length ≤ 1000000000) (hlc : bs.length ≤ c) (hs : SlIn w 1 bEnc (.slice (some ⟨b, off, none⟩) bs.length c) bs)
    (hc : ∀ k x, bs[k]? = some x → w.cell? ⟨b, off + k, none⟩ = some (.int .u8 (x.toNat : Int))) :
    Calls Tryz.prog 158 #[.slice (some ⟨b, off, none⟩) bs.length c] w (GetPost w (getV 0 0 bs)) := by
  go_enter Tryz.func158, Tryz.ntmps158
  go_wp2_with fail
  go_loopw [5, 6, 7, 10, 26, 39] (fun v _ _ k _ _ wr => ∃ (i acc : Nat), i ≤ 9 ∧ i ≤ bs.length ∧ acc < 128 ^ i ∧ k = .int .i64 i ∧ v = .int .u64 acc ∧ w = wr ∧ getV i acc (bs.drop i) = getV 0 0 bs) (fun _ _ _ k _ _ _ => bs.length - (intOf k).toNat)
  case atStart => exact ⟨0, 0, by omega, by omega, by simp, rfl, rfl, rfl, rfl⟩
  case round =>
    obtain ⟨i, acc, hi, hil, hacc, rfl, rfl, rfl, hg⟩ := hrel
    by_cases hlt : i < bs.length
    · obtain ⟨x, hx⟩ : ∃ x, bs[i]? = some x := ⟨_, List.getElem?_eq_getElem hlt⟩
      have e1 := hc i x hx
      have hd : bs.drop i = x :: bs.drop (i + 1) := by
        obtain ⟨h1, rfl⟩ := List.getElem?_eq_some_iff.1 hx
        exact List.drop_eq_getElem_cons h1
      rw [hd, getV] at hg
      have hlt' : (i : Int) < (bs.length : Int) := by omega
      have hi0 : (0 : Int) ≤ (i : Int) := by omega
      have hx1 := x.toNat_lt
      have HG := Lib.hid hg
      have HD := Lib.hid hd
      have HA := Lib.hid hacc
      clear hg hd hx hc hacc
      generalize x.toNat = X at *
      by_cases hbad : (i = 9 ∧ 1 < X) ∨ (0 < i ∧ X = 0)
      · have hgb : getV 0 0 bs = (12, 0, []) := by rw [← HG.out, if_pos hbad]
        have HB := Lib.hid hgb
        clear hgb
        have h9 : ((i : Int) == 9) = decide (i = 9) := by rw [Bool.eq_iff_iff]; simp; omega
        rcases hbad with ⟨hi9, hX⟩ | ⟨hi1, hX⟩
        · have b1 : ((i : Int) == 9) = true := by simp; omega
          have b2 : (1 : Int) < (X : Int) := by omega
          clear h9 hi9
          go_wp2_with fail
          go_ret3
          exact ⟨_, by rw [HB.out]; rfl, by rw [HB.out]; rfl, New.refl _⟩
        · subst hX
          clear h9
          by_cases hi9 : i = 9
          · subst hi9
            go_wp2_with fail
            go_ret3
            exact ⟨_, by rw [HB.out]; rfl, by rw [HB.out]; rfl, New.refl _⟩
          · have b1 : ((i : Int) == 9) = false := by simp; omega
            have b2 : (0 : Int) < (i : Int) := by omega
            go_wp2_with fail
            go_ret3
            exact ⟨_, by rw [HB.out]; rfl, by rw [HB.out]; rfl, New.refl _⟩
      · have hn9 : i = 9 → X ≤ 1 := fun h => by
          rcases Nat.lt_or_ge 1 X with h1 | h1
          · exact absurd (.inl ⟨h, h1⟩) hbad
          · exact h1
        have hn0 : 0 < i → X ≠ 0 := fun h h1 => hbad (.inr ⟨h, h1⟩)
        by_cases h128 : X < 128
        · have hor := or_shift i acc X hi HA.out h128 hn9
          have hgn : getV 0 0 bs = (0, acc + X * 128 ^ i, bs.drop (i + 1)) := by rw [← HG.out, if_neg hbad, if_pos h128]
          have HOR := Lib.hid hor
          have HGN := Lib.hid hgn
          have b4 : (X : Int) < 128 := by omega
          have c1 : (i : Int) + 1 ≤ (c : Int) := by omega
          have c2 : (i : Int) + 1 ≤ (bs.length : Int) := by omega
          have c3 : (0 : Int) ≤ (i : Int) + 1 := by omega
          have hm1 : ([] : List UInt8).length + (bs.drop (i + 1)).length ≤ maxLen := by simp [maxLen]; omega
          have hm2 : (([] : List UInt8).length + (bs.drop (i + 1)).length) * 1 ≤ 140737488355328 := by simp; omega
          have HM1 := Lib.hid hm1
          have HM2 := Lib.hid hm2
          have hX0 : i = 0 ∨ X ≠ 0 := by rcases Nat.eq_zero_or_pos i with h | h; exact .inl h; exact .inr (hn0 h)
          clear hor hgn hm1 hm2 hbad hn0
          have hkey : ∀ (P : Prop), (((i : Int) == 9) = true → ¬ (1 : Int) < (X : Int) → (0 : Int) < (i : Int) → ((X : Int) == 0) = false → P) → (((i : Int) == 9) = false → (0 : Int) < (i : Int) → ((X : Int) == 0) = false → P) → (((i : Int) == 9) = false → ¬ (0 : Int) < (i : Int) → ¬ 0 < i → P) → P := fun P h1 h2 h3 => by
            by_cases h9 : i = 9
            · exact h1 (by simp; omega) (by have := hn9 h9; omega) (by omega) (by rcases hX0 with h | h; omega; simp; omega)
            · by_cases h0 : i = 0
              · exact h3 (by simp; omega) (by omega) (by omega)
              · exact h2 (by simp; omega) (by omega) (by rcases hX0 with h | h; omega; simp; omega)
          clear hX0 hn9
          by_cases hci : c = i + 1
          · have hdn : bs.drop (i + 1) = [] := List.drop_eq_nil_of_le (by omega)
            have HDN := Lib.hid hdn
            have hm3 : ([] : List UInt8).length + ([] : List UInt8).length ≤ maxLen := by simp
            have hm4 : (([] : List UInt8).length + ([] : List UInt8).length) * 1 ≤ 140737488355328 := by simp
            have HM3 := Lib.hid hm3
            have HM4 := Lib.hid hm4
            clear hdn hm3 hm4 HM1 HM2
            subst hci
            apply hkey
            all_goals
              intros
              clear hkey
              go_wp2_with (at_builtin; have ho0 : Owns _ w.heap.size 5 1 bEnc _ ([] : List UInt8) := World.ownsRow_made (base := w.heap.size) (e := 5) (size := 1) w #[] 0 (Nat.le_refl _) (by simp) (by simp); refine wpList_app bTy bEncOk rfl (.tmp 50) (.tmp 54) rfl rfl rfl ho0 (SlIn.empty _ _ _ _ _) HM3.out HM4.out (by simp) ?_; intro v1 w1 ho1 hg1 _)
              go_ret3
              exact ⟨v1, by rw [HGN.out, ← HOR.out]; rfl, by rw [HGN.out, if_pos rfl, HDN.out]; exact ho1, ((New.refl w).alloc _).grown hg1 (fun k hk => ho0.blockGe k hk)⟩
          · have hsd := SlIn.drop_at hs (k := i + 1) (by omega) hci
            rw [Nat.mul_one] at hsd
            have HSD := Lib.hid hsd
            clear hsd
            apply hkey
            all_goals
              intros
              clear hkey
              go_wp2_with (at_builtin; have ho0 : Owns _ w.heap.size 5 1 bEnc _ ([] : List UInt8) := World.ownsRow_made (base := w.heap.size) (e := 5) (size := 1) w #[] 0 (Nat.le_refl _) (by simp) (by simp); refine wpList_app bTy bEncOk rfl (.tmp 50) (.tmp 54) rfl rfl rfl ho0 (SlIn.alloc HSD.out _) HM1.out HM2.out (by simp) ?_; intro v1 w1 ho1 hg1 _)
              go_ret3
              exact ⟨v1, by rw [HGN.out, ← HOR.out]; rfl, by rw [HGN.out, if_pos rfl]; exact ho1, ((New.refl w).alloc _).grown hg1 (fun k hk => ho0.blockGe k hk)⟩
        · have hi9 : i ≠ 9 := fun h => by have := hn9 h; omega
          have hor := or_shift2 i acc X hi HA.out hx1 hi9
          have hgn : getV (i + 1) (acc + (X % 128) * 128 ^ i) (bs.drop (i + 1)) = getV 0 0 bs := by
            rw [← HG.out, if_neg hbad, if_neg h128, show X - 128 = X % 128 from by omega]
          have hacc' : acc + (X % 128) * 128 ^ i < 128 ^ (i + 1) := by
            have := HA.out
            rw [Nat.pow_succ]
            have h1 : (X % 128) * 128 ^ i ≤ 127 * 128 ^ i := Nat.mul_le_mul_right _ (by omega)
            omega
          have HOR := Lib.hid hor
          have HGN := Lib.hid hgn
          have HAC := Lib.hid hacc'
          have b1 : ((i : Int) == 9) = false := by simp; omega
          have b3 : ((X : Int) == 0) = false := by simp; omega
          have b4 : ¬ (X : Int) < 128 := by omega
          clear hor hgn hacc' hn9 hn0
          by_cases hi1 : i = 0
          · have b2 : ¬ (0 : Int) < (i : Int) := by omega
            have b2n : ¬ 0 < i := by omega
            clear hi1
            go_wp2_with fail
            go_roundw
            case rel => exact ⟨i + 1, _, by omega, by omega, HAC.out, by go_num, by rw [HOR.out], by trivial, HGN.out⟩
            case measure => simp [intOf]; omega
          · have b2 : (0 : Int) < (i : Int) := by omega
            go_wp2_with fail
            go_roundw
            case rel => exact ⟨i + 1, _, by omega, by omega, HAC.out, by go_num, by rw [HOR.out], by trivial, HGN.out⟩
            case measure => simp [intOf]; omega
    · have hge : bs.drop i = [] := List.drop_eq_nil_of_le (by omega)
      rw [hge] at hg
      have hgb : getV 0 0 bs = (10, 0, []) := by rw [← hg]; rfl
      have HB := Lib.hid hgb
      have hlt' : ¬ (i : Int) < (bs.length : Int) := by omega
      clear hgb hg hge hc
      go_wp2_with fail
      go_ret3
      exact ⟨_, by rw [HB.out]; rfl, by rw [HB.out]; rfl, New.refl _⟩
theorem getVar_any (bs : List UInt8) (v : Value) (w : World) (hbs : bs.length ≤ 1000000000) (hs : SlIn w 1 bEnc v bs) :
    Calls Tryz.prog 158 #[v] w (GetPost w (getV 0 0 bs)) := by
  have hs' := hs
  obtain ⟨A, c, rfl, hlc, h⟩ := hs
  rcases h with rfl | ⟨b, off, rfl, hb, hc⟩
  · go_enter Tryz.func158, Tryz.ntmps158
    go_wp2_with fail
    refine wp_loop_rounds 1 ?_
    rw [rounds_succ]
    go_wp2_with fail
    go_ret3
    exact ⟨_, rfl, rfl, New.refl _⟩
  · exact getVar_some bs b off c w hbs hlc hs' (fun k x hx => by simpa [bEnc] using hc k x hx 0 _ rfl)
end Go.Proofs.YtlhlcdjkacglnaaGreatDoor
/- Bytes: append of a string to bytes of the call's own; strings and bytes made of each other. -/
namespace Go.Proofs.YtlhlcdjkacglnaaGreatDoor
open Go.RowKit Go.Lap
set_option linter.unusedVariables false

theorem strCells_flat (s : ByteArray) : Lib.strCells s = s.data.toList.flatMap bEnc := by
  unfold Lib.strCells
  generalize s.data.toList = l
  induction l with
  | nil => rfl
  | cons x l ih => simp only [List.map_cons, List.flatMap_cons, ih, bEnc, List.singleton_append]

theorem strLen (s : ByteArray) : s.data.toList.length = s.size := by rw [Array.length_toList]; rfl

theorem okBlock {v v' : Value} {w w' : World} {b : Option Nat} (h : Result.ok v w = Result.ok v' w') (hv : v.ownBlock = b) : v'.ownBlock = b := by
  injection h with h1 _
  rw [← h1]; exact hv

theorem run_app_str (w : World) (ty : TypeId) {base : Nat} {v : Value} {l : List UInt8} (hown : Owns w base 5 1 bEnc v l) (s : ByteArray) (h63 : l.length + s.size ≤ 1000000000000) (hbase : base ≤ w.heap.size) :
    ∃ v' w', (Builtin.append_ #[86, 9] ty #[v, .string s]).run Tryz.prog w = .ok v' w' ∧ Owns w' base 5 1 bEnc v' (l ++ s.data.toList) ∧ w.grownBy w' v.ownBlock ∧ (v'.ownBlock = v.ownBlock ∨ v'.ownBlock = some w.heap.size) := by
  obtain ⟨ht, hinfo, _, _⟩ := bTy
  obtain ⟨i, hi, hii⟩ := Option.map_eq_some_iff.1 hinfo
  simp only [Prod.mk.injEq] at hii
  obtain ⟨hz, hsize, hby⟩ := hii
  have hu := Tryz.underlying9
  obtain ⟨v', w', hrun, h1, h2, h3⟩ := Lib.run_append_own_string (P := Tryz.prog) w base 86 9 ty 5 i ht hu hi hz hsize hby v l.length _ hown s (by unfold maxLen; omega) (by omega) hbase
  have hO : Owns w' base 5 1 bEnc v' (l ++ s.data.toList) := by
    rw [strCells_flat] at h1
    show w'.ownsRow _ _ _ _ _ _
    rw [List.length_append, strLen, List.flatMap_append]
    exact h1
  refine ⟨v', w', hrun, hO, h2, ?_⟩
  rcases hown.2 with ⟨rfl, hl0⟩ | ⟨g, cap, cur, rfl, hbg, hg, hnc, hcm, hcs, htake⟩
  · by_cases hm : s.size = 0
    · left
      have := h3.2 ⟨rfl, hm⟩
      rw [this]
    · right
      have hr := run_append_nil_string (P := Tryz.prog) w 86 9 ty 5 i (.int .u8 0) ht hu hi hz s (by omega) (by omega) (by rw [hby]; omega)
      exact okBlock (hr.symm.trans hrun) rfl
  · by_cases hroom : l.length + s.size ≤ cap
    · left
      have hcs' : cur.size = cap := by simpa using hcs
      have hr := Lib.run_append_room_string (P := Tryz.prog) w 86 9 ty 5 i ht hu hi hsize g l.length cap cur hg s hroom (by omega)
      exact okBlock (hr.symm.trans hrun) rfl
    · right
      have holds : ∀ j u, (l.flatMap bEnc)[j]? = some u → w.cell? ((⟨g, 0, none⟩ : Addr).add j) = some u := hown.cells (g := g) rfl
      have hr := Lib.run_append_grow_string (P := Tryz.prog) w 86 9 ty 5 i (.int .u8 0) ht hu hi hz ⟨g, 0, none⟩ l.length cap _ (by rw [hsize]; exact flat_length bEncOk l) holds s (by omega) (by omega) (by rw [hby]; exact growslice_fits (by omega) (by omega))
      exact okBlock (hr.symm.trans hrun) rfl

theorem wpList_app_str {w : World} {ops : Array Oper} {rest : List Oper} {o : Oper} {a : Act} {Q : Exit → Act → World → Prop} (hgd : o.guard = none) (s x : Operand)
    (ho : o.op = .call { callee := .builtin .append, args := #[s, x], argTypes := #[86, 9] }) {base : Nat} {v : Value} {l : List UInt8} {b : ByteArray} (hs : a.eval s = v) (hx : a.eval x = .string b) (hown : Owns w base 5 1 bEnc v l)
    (h63 : l.length + b.size ≤ 1000000000000) (hbase : base ≤ w.heap.size)
    (h : ∀ v' w', Owns w' base 5 1 bEnc v' (l ++ b.data.toList) → w.grownBy w' v.ownBlock → (v'.ownBlock = v.ownBlock ∨ v'.ownBlock = some w.heap.size) → wpList Tryz.prog ops Q rest (a.put o.dst v') w') : wpList Tryz.prog ops Q (o :: rest) a w := by
  refine wpList_plain hgd fun K hK => ?_
  obtain ⟨v', w', hrun, h2, h3, h4⟩ := run_app_str w o.type hown b h63 hbase
  unfold Oper.wp execOp
  simp only [ho, resolve, invoke, builtin, Sem.run_bind, Sem.run_pure, Result.andThen_ok, List.map_toArray, List.map_cons, List.map_nil, hs, hx, hrun]
  exact hK _ _ (h v' w' h2 h3 h4)
end Go.Proofs.YtlhlcdjkacglnaaGreatDoor
