/- Rows at a place: append where there is room, clear of what stands behind, a store of an element. -/
import Derived.Test.YtghhcjpilcoblaaRow
namespace Go.Lap
open Go.RowKit
set_option linter.unusedVariables false

/-- Block g holds, from off on, the elements l, and room for cap. -/
def RowAt {α : Type} (w : World) (e : TypeId) (size : Nat) (enc : α → List Value) (g off cap : Nat) (l : List α) : Prop :=
  ∃ cur, Blk w g e cur ∧ l.length ≤ cap ∧ cap ≤ maxLen ∧ off + cap * size ≤ cur.size ∧ (cur.toList.drop off).take (l.length * size) = l.flatMap enc

section
variable {α : Type} {enc : α → List Value} {size : Nat} {l m : List α} {w w' : World} {v vx : Value} {base : Nat} {e : TypeId} {g off cap : Nat}
theorem RowAt.row (h : RowAt w e size enc g off cap l) (hg : base ≤ g) : Row w base e size enc (.slice (some ⟨g, off, none⟩) l.length cap) l := by
  obtain ⟨cur, h1, h2, h3, h4, h5⟩ := h
  exact .inr ⟨g, off, cap, cur, rfl, hg, h1, h2, h3, h4, h5⟩
theorem Row.at_ (h : Row w base e size enc v l) (hne : l ≠ []) : ∃ g off cap, v = .slice (some ⟨g, off, none⟩) l.length cap ∧ base ≤ g ∧ RowAt w e size enc g off cap l := by
  rcases h with ⟨_, h⟩ | ⟨g, off, cap, cur, hv, hg, h1, h2, h3, h4, h5⟩
  · exact absurd h hne
  · exact ⟨g, off, cap, hv, hg, cur, h1, h2, h3, h4, h5⟩
theorem RowAt.lt (h : RowAt w e size enc g off cap l) : g < w.heap.size := let ⟨_, h1, _⟩ := h; Blk.lt h1
theorem RowAt.len (h : RowAt w e size enc g off cap l) : l.length ≤ cap ∧ cap ≤ maxLen := let ⟨_, _, h1, h2, _⟩ := h; ⟨h1, h2⟩
theorem RowAt.new (h : RowAt w e size enc g off cap l) (hn : New w w') : RowAt w' e size enc g off cap l := by
  obtain ⟨cur, h1, h2⟩ := h
  exact ⟨cur, h1.new hn, h2⟩
theorem RowAt.upd {S : Nat → Prop} (h : RowAt w e size enc g off cap l) (hu : Upd S w w') (hS : ¬ S g) : RowAt w' e size enc g off cap l := by
  obtain ⟨cur, h1, h2⟩ := h
  exact ⟨cur, h1.upd hu hS, h2⟩
theorem RowAt.frozen (h : RowAt w e size enc g off cap l) (i : Nat) : w.frozen? ⟨g, i, none⟩ = false := let ⟨_, h1, _⟩ := h; Blk.frozen h1 i
theorem RowAt.cell (hE : Enc enc size) (h : RowAt w e size enc g off cap l) {k : Nat} {x : α} (hx : l[k]? = some x) {j : Nat} {u : Value} (hu : (enc x)[j]? = some u) : w.cell? ⟨g, off + k * size + j, none⟩ = some u := by
  obtain ⟨A, c, hv, _, hor⟩ := Row.slIn hE (h.row (Nat.zero_le _))
  rcases hor with hor | ⟨b, o, hA, hb, hc⟩
  · rw [hor] at hx; simp at hx
  · cases hv
    cases hA
    exact hc k x hx j u hu
theorem RowAt.take (hE : Enc enc size) (h : RowAt w e size enc g off cap l) {k : Nat} (hk : k ≤ l.length) : RowAt w e size enc g off cap (l.take k) := by
  obtain ⟨cur, h1, h2, h3, h4, h5⟩ := h
  refine ⟨cur, h1, by rw [List.length_take]; omega, h3, h4, ?_⟩
  have hs : l.flatMap enc = (l.take k).flatMap enc ++ (l.drop k).flatMap enc := by rw [← List.flatMap_append, List.take_append_drop]
  have hlt := flat_length hE (l.take k)
  have hlk : (l.take k).length = k := by rw [List.length_take, Nat.min_eq_left hk]
  rw [hlk] at hlt ⊢
  have hkk : k * size ≤ l.length * size := Nat.mul_le_mul_right _ hk
  have h2 := congrArg (List.take (k * size)) h5
  rw [hs, List.take_left' hlt, List.take_take, Nat.min_eq_left hkk] at h2
  exact h2

variable {P : Program} {t : TypeId} {z : Value} {bytes : Nat}
/-- append where there is room. -/
theorem run_appRoom (hT : SlTy P t e z size bytes) (hE : Enc enc size) (ty : TypeId) (h : RowAt w e size enc g off cap l) (hsrc : SlIn w size enc vx m) (hroom : l.length + m.length ≤ cap) :
    ∃ w', (Builtin.append_ #[t, t] ty #[.slice (some ⟨g, off, none⟩) l.length cap, vx]).run P w = .ok (.slice (some ⟨g, off, none⟩) (l.length + m.length) cap) w' ∧ RowAt w' e size enc g off cap (l ++ m) ∧ Upd (· = g) w w' ∧ w'.heap.size = w.heap.size := by
  have hs := SlIn.src w hT hE hsrc
  obtain ⟨ht, hinfo, hzs, hsz⟩ := hT
  obtain ⟨i, hi, hii⟩ := Option.map_eq_some_iff.1 hinfo
  simp only [Prod.mk.injEq] at hii
  obtain ⟨hz, hsize, hby⟩ := hii
  subst hsize
  subst hby
  have hlf := flat_length hE l
  have hmf := flat_length hE m
  obtain ⟨cur, hh, hnc, hm, hcur, htake⟩ := h
  have hmul : l.length * i.size + m.length * i.size ≤ cap * i.size := by rw [← Nat.add_mul]; exact Nat.mul_le_mul_right _ hroom
  have hst := run_storeCells_at P g (off + l.length * i.size) e (m.flatMap enc) 0 cur w hh (by rw [hmf]; omega) (flat_one hE m)
  simp only [Nat.add_zero] at hst
  have hrun : (Builtin.append_ #[t, t] ty #[.slice (some ⟨g, off, none⟩) l.length cap, vx]).run P w = .ok (.slice (some ⟨g, off, none⟩) (l.length + m.length) cap) (w.setRow g (cur.toList.take (off + l.length * i.size) ++ m.flatMap enc ++ cur.toList.drop (off + l.length * i.size + (m.flatMap enc).length)).toArray) := by
    rcases hs.kind with ⟨e', hk⟩ | hk <;> simp [Builtin.append_, run_underlying ht, sizeOf, typeInfo, hi, hs.len, hroom, hs.cells, Addr.add_lit, hst]
  have hcl : cur.toList.length = cur.size := Array.length_toList
  refine ⟨_, hrun, ⟨_, setRow_heap w g _ _ e _ hh, by rw [List.length_append]; exact hroom, hm, ?_, ?_⟩, ⟨rfl, rfl, rfl, by simp [World.setRow], fun k _ hk => setRow_other w g k _ hk⟩, by simp [World.setRow]⟩
  · rw [List.size_toArray, List.length_append, List.length_append, List.length_take, List.length_drop, hmf, hcl]
    omega
  · rw [List.length_append, Nat.add_mul, List.flatMap_append]
    have e1 : cur.toList.take (off + l.length * i.size) = cur.toList.take off ++ l.flatMap enc := by rw [List.take_add, htake]
    rw [e1]
    simp only [List.append_assoc]
    rw [List.drop_left' (by rw [List.length_take, hcl]; omega), ← List.append_assoc, List.take_left' (by rw [List.length_append, hlf, hmf])]
theorem step_appRoom {ops : Array Oper} {o : Oper} {a : Act} {K : Act → World → Prop} {Q : Exit → Act → World → Prop} {E : Prop} (hT : SlTy P t e z size bytes) (hE : Enc enc size) (hgd : o.guard = none) (s x : Operand)
    (ho : o.op = .call { callee := .builtin .append, args := #[s, x], argTypes := #[t, t] }) {n n' : Nat} (hs : a.eval s = .slice (some ⟨g, off, none⟩) n cap) (hn : n = l.length) (hn' : (l ++ m).length = n') (hx : a.eval x = vx) (hrow : RowAt w e size enc g off cap l) (hsrc : SlIn w size enc vx m) (hroom : l.length + m.length ≤ cap)
    (h : ∀ w', RowAt w' e size enc g off cap (l ++ m) → Upd (· = g) w w' → w'.heap.size = w.heap.size → K (a.put o.dst (.slice (some ⟨g, off, none⟩) n' cap)) w') :
    if Region.wanted o (yielded ops a.tmps) = true then Oper.wp P o a w K Q else E := by
  have hw : Region.wanted o (yielded ops a.tmps) = true := by simp [Region.wanted, hgd]
  rw [if_pos hw]
  subst hn hn'
  rw [List.length_append] at h
  obtain ⟨w', hrun, h2, h3, h4⟩ := run_appRoom (P := P) hT hE o.type hrow hsrc hroom
  unfold Oper.wp execOp
  simp only [ho, resolve, invoke, builtin, Sem.run_bind, Sem.run_pure, Result.andThen_ok, List.map_toArray, List.map_cons, List.map_nil, hs, hx, hrun]
  exact h w' h2 h3 h4

/-- clear(s[k:]) leaves the row that ends ahead of k as it is. -/
theorem run_clearR (ht : P.underlying t = some (.slice e)) (hv : ∀ w, (zeroValue e).run P w = .ok z w) (hzs : z.cells.size = size) (hz1 : ∀ u ∈ z.cells.toList, u.oneCell' = true) (ty : TypeId) (h : RowAt w e size enc g off cap l) (hE : Enc enc size) {k n c : Nat} (hk : l.length ≤ k) (hn : k + n ≤ cap) :
    ∃ w', (Builtin.clear_ #[t] ty #[.slice (some ⟨g, off + k * size, none⟩) n c]).run P w = .ok (.tuple #[]) w' ∧ RowAt w' e size enc g off cap l ∧ Upd (· = g) w w' ∧ w'.heap.size = w.heap.size := by
  obtain ⟨cur, hh, hnc, hm, hcur, htake⟩ := h
  cases n with
  | zero => exact ⟨w, by simp [Builtin.clear_, run_underlying ht], ⟨cur, hh, hnc, hm, hcur, htake⟩, Upd.refl _ _, rfl⟩
  | succ n =>
    have hzl : (Builtin.zeroCells z.cells (n + 1)).toList.length = (n + 1) * size := by rw [Array.length_toList, size_zeroCells, hzs]
    have hmul : k * size + (n + 1) * size ≤ cap * size := by rw [← Nat.add_mul]; exact Nat.mul_le_mul_right _ hn
    have hone : ∀ u ∈ (Builtin.zeroCells z.cells (n + 1)).toList, u.oneCell' = true := by
      intro u hu
      unfold Builtin.zeroCells at hu
      simp only [Array.toList_map, Array.toList_range, List.mem_map, List.mem_range] at hu
      obtain ⟨i, hi, rfl⟩ := hu
      have hpos : 0 < z.cells.size := by
        rcases Nat.eq_zero_or_pos z.cells.size with h0 | h0
        · rw [h0] at hi; simp at hi
        · exact h0
      have hlt : i % z.cells.size < z.cells.size := Nat.mod_lt _ hpos
      rw [getElem!_pos z.cells _ hlt]
      exact hz1 _ (by simp)
    have hst := run_storeCells_at P g (off + k * size) e (Builtin.zeroCells z.cells (n + 1)).toList 0 cur w hh (by rw [hzl]; omega) hone
    simp only [Nat.add_zero] at hst
    have hcl : cur.toList.length = cur.size := Array.length_toList
    have hlk : l.length * size ≤ k * size := Nat.mul_le_mul_right _ hk
    refine ⟨_, by simp [Builtin.clear_, run_underlying ht, hv, hst]; rfl, ⟨_, setRow_heap w g _ _ e _ hh, hnc, hm, ?_, ?_⟩, ⟨rfl, rfl, rfl, by simp [World.setRow], fun k _ hk => setRow_other w g k _ hk⟩, by simp [World.setRow]⟩
    · have hz2 : (Builtin.zeroCells z.cells (n + 1)).size = (n + 1) * size := by rw [size_zeroCells, hzs]
      simp only [List.size_toArray, List.length_append, List.length_take, List.length_drop, Array.length_toList, hz2]
      omega
    · rw [← htake]
      rw [List.drop_append_of_le_length (by rw [List.length_take, hcl]; omega), List.take_append_of_le_length (by rw [List.length_drop, List.length_take, hcl]; omega), List.drop_take, List.take_take]
      congr 1
      omega
theorem wpList_clearR {ops : Array Oper} {rest : List Oper} {o : Oper} {a : Act} {Q : Exit → Act → World → Prop} (ht : P.underlying t = some (.slice e)) (hv : ∀ w, (zeroValue e).run P w = .ok z w) (hzs : z.cells.size = size) (hz1 : ∀ u ∈ z.cells.toList, u.oneCell' = true) (hE : Enc enc size) (hgd : o.guard = none) (s : Operand)
    (ho : o.op = .call { callee := .builtin .clear, args := #[s], argTypes := #[t] }) {k n c : Nat} (hs : a.eval s = .slice (some ⟨g, off + k * size, none⟩) n c) (hrow : RowAt w e size enc g off cap l) (hk : l.length ≤ k) (hn : k + n ≤ cap)
    (h : ∀ w', RowAt w' e size enc g off cap l → Upd (· = g) w w' → w'.heap.size = w.heap.size → wpList P ops Q rest (a.put o.dst (.tuple #[])) w') : wpList P ops Q (o :: rest) a w := by
  refine wpList_plain hgd fun K hK => ?_
  obtain ⟨w', hrun, h2, h3, h4⟩ := run_clearR (P := P) ht hv hzs hz1 o.type hrow hE (c := c) hk hn
  unfold Oper.wp execOp
  simp only [ho, resolve, invoke, builtin, Sem.run_bind, Sem.run_pure, Result.andThen_ok, List.map_toArray, List.map_cons, List.map_nil, hs, hrun]
  exact hK _ _ (h w' h2 h3 h4)

theorem flat_setR {enc : α → List Value} {size : Nat} (hE : Enc enc size) {x' : α} {u : Value} {j : Nat} (hj : j < size) : ∀ (l : List α) (i : Nat) (x : α), l[i]? = some x → enc x' = (enc x).set j u → (l.flatMap enc).set (i * size + j) u = (l.set i x').flatMap enc
  | [], i, x, h, _ => by simp at h
  | y :: l, 0, x, h, hx => by
    simp at h
    subst h
    rw [List.set_cons_zero, List.flatMap_cons, List.flatMap_cons, Nat.zero_mul, Nat.zero_add, List.set_append_left _ _ (by rw [(hE y).1]; exact hj), hx]
  | y :: l, i + 1, x, h, hx => by
    rw [List.set_cons_succ, List.flatMap_cons, List.flatMap_cons, List.set_append_right _ _ (by rw [(hE y).1, Nat.add_mul]; omega), (hE y).1]
    rw [show (i + 1) * size + j - size = i * size + j by rw [Nat.add_mul]; omega]
    rw [flat_setR hE hj l i x (by simpa using h) hx]
/-- One cell of an element turns. -/
theorem RowAt.setF (hE : Enc enc size) (h : RowAt w e size enc g off cap l) {i j : Nat} {x x' : α} {u : Value} (hx : l[i]? = some x) (hj : j < size) (hx' : enc x' = (enc x).set j u) : RowAt (w.setCell ⟨g, off + i * size + j, none⟩ u) e size enc g off cap (l.set i x') := by
  obtain ⟨cur, hh, hnc, hm, hcur, htake⟩ := h
  have hil : i < l.length := (List.getElem?_eq_some_iff.1 hx).1
  have hmul : (i + 1) * size ≤ l.length * size := Nat.mul_le_mul_right _ hil
  rw [Nat.add_mul, Nat.one_mul] at hmul
  refine ⟨_, hh.set_ _ _, by rw [List.length_set]; exact hnc, hm, by rw [Array.size_setIfInBounds]; exact hcur, ?_⟩
  rw [List.length_set, ← flat_setR hE hj l i x hx hx', ← htake, Array.toList_setIfInBounds, List.drop_set]
  have hlt : ¬ off + i * size + j < off := by omega
  rw [if_neg hlt, List.take_set, show off + i * size + j - off = i * size + j by omega]
end
end Go.Lap
