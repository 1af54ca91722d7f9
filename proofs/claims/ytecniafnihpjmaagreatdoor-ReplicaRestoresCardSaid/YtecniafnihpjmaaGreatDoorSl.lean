/- Slices as lists: what append, copy, make and a cut make of them. -/
import Derived.Test.YtecniafnihpjmaaGreatDoorBase
import Derived.Maps.AppendAt
import Derived.Laws.CopyOwn
import Derived.OwnWalk
namespace Go.Lap
open Go.RowKit

/-- Each element has size cells, plain values all. -/
def Enc {α : Type} (enc : α → List Value) (size : Nat) : Prop := ∀ x, (enc x).length = size ∧ ∀ u ∈ enc x, u.oneCell' = true

/-- t is the slice type of e; a zero element; its cells and its bytes. -/
def SlTy (P : Program) (t e : TypeId) (z : Value) (size bytes : Nat) : Prop :=
  P.underlying t = some (.slice e) ∧ (P.info? e).map (fun i => (i.zero, i.size, i.bytes)) = some (some z, size, bytes) ∧ z.cells.size = size ∧ 0 < size

/-- The slice value v is the call's own (a block from base on), and holds l. -/
abbrev Owns {α : Type} (w : World) (base : Nat) (e : TypeId) (size : Nat) (enc : α → List Value) (v : Value) (l : List α) : Prop := w.ownsRow base e size v l.length (l.flatMap enc)

section
variable {α : Type} {enc : α → List Value} {size : Nat} {l m : List α} {w w' : World} {v vx : Value} {base : Nat} {e : TypeId}

theorem flat_length (hE : Enc enc size) : ∀ l : List α, (l.flatMap enc).length = l.length * size
  | [] => by simp
  | x :: l => by simp only [List.flatMap_cons, List.length_append, (hE x).1, flat_length hE l, List.length_cons, Nat.add_mul]; omega

theorem flat_get (hE : Enc enc size) : ∀ (l : List α) (k : Nat) (x : α) (j : Nat), l[k]? = some x → j < size → (l.flatMap enc)[k * size + j]? = (enc x)[j]?
  | [], k, x, j, h, _ => by simp at h
  | y :: l, 0, x, j, h, hj => by
    simp at h
    subst h
    simp only [List.flatMap_cons, Nat.zero_mul, Nat.zero_add]
    rw [List.getElem?_append_left (by rw [(hE y).1]; exact hj)]
  | y :: l, k + 1, x, j, h, hj => by
    simp only [List.flatMap_cons]
    rw [List.getElem?_append_right (by rw [(hE y).1, Nat.add_mul]; omega), (hE y).1]
    have := flat_get hE l k x j (by simpa using h) hj
    rw [← this]
    congr 1
    rw [Nat.add_mul]; omega

theorem flat_one (hE : Enc enc size) (l : List α) : ∀ u ∈ l.flatMap enc, u.oneCell' = true := by
  intro u hu
  obtain ⟨x, _, hx⟩ := List.mem_flatMap.1 hu
  exact (hE x).2 u hx

theorem flat_split (hE : Enc enc size) (hs : 0 < size) (l : List α) (j : Nat) (u : Value) (h : (l.flatMap enc)[j]? = some u) : ∃ x, l[j / size]? = some x ∧ (enc x)[j % size]? = some u := by
  have hj : j < l.length * size := by rw [← flat_length hE]; exact (List.getElem?_eq_some_iff.1 h).1
  have hk : j / size < l.length := (Nat.div_lt_iff_lt_mul hs).2 hj
  refine ⟨l[j / size], List.getElem?_eq_getElem hk, ?_⟩
  have := flat_get hE l (j / size) _ (j % size) (List.getElem?_eq_getElem hk) (Nat.mod_lt _ hs)
  rw [← this, ← h]
  congr 1
  have := Nat.div_add_mod j size
  rw [Nat.mul_comm] at this
  omega

/-- The source of an append or a copy, cell by cell. -/
theorem SlIn.cells (hE : Enc enc size) (hs : 0 < size) {b off : Nat} (h : ∀ k x, l[k]? = some x → ∀ j u, (enc x)[j]? = some u → w.cell? ⟨b, off + k * size + j, none⟩ = some u) :
    ∀ j u, (l.flatMap enc)[j]? = some u → w.cell? ((⟨b, off, none⟩ : Addr).add j) = some u := by
  intro j u hu
  obtain ⟨x, hx, hxu⟩ := flat_split hE hs l j u hu
  have h1 := h _ _ hx _ _ hxu
  have e1 : off + j / size * size + j % size = off + j := by
    have := Nat.div_add_mod j size
    rw [Nat.mul_comm] at this
    omega
  rw [e1] at h1
  unfold Addr.add
  split
  · rename_i hz; subst hz; simpa using h1
  · exact h1

theorem Owns.nil (w : World) (base : Nat) (e : TypeId) (size : Nat) (enc : α → List Value) : Owns w base e size enc (.slice none 0 0) ([] : List α) := World.ownsRow_nil w base e size

/-- 'T{a, b}' | the array that an append of single elements lays first. -/
theorem SlIn.lit {b t c : Nat} {cs : Array Value} (h : Blk w b t cs) (hE : Enc enc size) (hcs : cs.toList = l.flatMap enc) (hc : l.length ≤ c) : SlIn w size enc (.slice (some ⟨b, 0, none⟩) l.length c) l := by
  refine ⟨_, c, rfl, hc, .inr ⟨b, 0, rfl, h.lt, fun k x hx j u hu => ?_⟩⟩
  have hj : j < size := by rw [← (hE x).1]; exact (List.getElem?_eq_some_iff.1 hu).1
  have h1 := flat_get hE l k x j hx hj
  rw [hu, ← hcs] at h1
  rw [h.cell, Nat.zero_add]
  simpa using h1

theorem SlIn.one {b t : Nat} {cs : Array Value} {x : α} (h : Blk w b t cs) (hE : Enc enc size) (hcs : cs.toList = enc x) : SlIn w size enc (.slice (some ⟨b, 0, none⟩) 1 1) [x] :=
  SlIn.lit (l := [x]) h hE (by simpa using hcs) (Nat.le_refl _)

theorem SlIn.form (h : SlIn w size enc v l) : ∃ A c, v = .slice A l.length c := by obtain ⟨A, c, hv, _⟩ := h; exact ⟨A, c, hv⟩
theorem SlIn.cap_le {A : Option Addr} {n c : Nat} (h : SlIn w size enc (.slice A n c) l) : l.length ≤ c ∧ n = l.length := by
  obtain ⟨A', c', hv, hc, _⟩ := h
  injection hv with _ h1 h2
  subst h2
  exact ⟨hc, h1⟩
theorem SlIn.empty (w : World) (size : Nat) (enc : α → List Value) (A : Option Addr) (c : Nat) : SlIn w size enc (.slice A 0 c) ([] : List α) := ⟨A, c, rfl, Nat.zero_le _, .inl rfl⟩
/-- x[:k], x[:k:m] -/
theorem SlIn.take {A : Option Addr} {n c k c' : Nat} (h : SlIn w size enc (.slice A n c) l) (hk : k ≤ l.length) (hc : k ≤ c') : SlIn w size enc (.slice A k c') (l.take k) := by
  obtain ⟨A', c2, hv, _, h⟩ := h
  injection hv with hA hn hcc
  subst hA
  refine ⟨_, _, by rw [List.length_take, Nat.min_eq_left hk], by rw [List.length_take]; omega, ?_⟩
  rcases h with rfl | ⟨b, off, rfl, hb, h⟩
  · exact .inl (by simp)
  · refine .inr ⟨b, off, rfl, hb, fun i x hx j u hu => h i x ?_ j u hu⟩
    rw [List.getElem?_take] at hx
    split at hx
    · exact hx
    · cases hx

variable {P : Program} {t : TypeId} {z : Value} {bytes : Nat} (w)

variable {w}
end
end Go.Lap
