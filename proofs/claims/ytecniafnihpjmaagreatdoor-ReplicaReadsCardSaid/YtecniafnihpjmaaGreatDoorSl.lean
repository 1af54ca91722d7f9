/- Slices as lists: what append, copy, make and a cut make of them. -/
import Derived.Test.YtecniafnihpjmaaGreatDoorBase
import Derived.Maps.AppendAt
import Derived.Laws.CopyOwn
import Derived.OwnWalk
namespace Go.Lap
open Go.RowKit

/-- Each element has size cells, plain values all. -/
def Enc {α : Type} (enc : α → List Value) (size : Nat) : Prop := ∀ x, (enc x).length = size ∧ ∀ u ∈ enc x, u.oneCell' = true

/-- t is the slice type of e; a zero element; its cells and its bytes. -/
def SlTy (P : Program) (t e : TypeId) (z : Value) (size bytes : Nat) : Prop :=
  P.underlying t = some (.slice e) ∧ (P.info? e).map (fun i => (i.zero, i.size, i.bytes)) = some (some z, size, bytes) ∧ z.cells.size = size ∧ 0 < size

/-- The slice value v is the call's own (a block from base on), and holds l. -/
abbrev Owns {α : Type} (w : World) (base : Nat) (e : TypeId) (size : Nat) (enc : α → List Value) (v : Value) (l : List α) : Prop := w.ownsRow base e size v l.length (l.flatMap enc)

section
variable {α : Type} {enc : α → List Value} {size : Nat} {l m : List α} {w w' : World} {v vx : Value} {base : Nat} {e : TypeId}

theorem flat_length (hE : Enc enc size) : ∀ l : List α, (l.flatMap enc).length = l.length * size
  | [] => by simp
  | x :: l => by simp only [List.flatMap_cons, List.length_append, (hE x).1, flat_length hE l, List.length_cons, Nat.add_mul]; omega

theorem flat_get (hE : Enc enc size) : ∀ (l : List α) (k : Nat) (x : α) (j : Nat), l[k]? = some x → j < size → (l.flatMap enc)[k * size + j]? = (enc x)[j]?
  | [], k, x, j, h, _ => by simp at h
  | y :: l, 0, x, j, h, hj => by
    simp at h
    subst h
    simp only [List.flatMap_cons, Nat.zero_mul, Nat.zero_add]
    rw [List.getElem?_append_left (by rw [(hE y).1]; exact hj)]
  | y :: l, k + 1, x, j, h, hj => by
    simp only [List.flatMap_cons]
    rw [List.getElem?_append_right (by rw [(hE y).1, Nat.add_mul]; omega), (hE y).1]
    have := flat_get hE l k x j (by simpa using h) hj
    rw [← this]
    congr 1
    rw [Nat.add_mul]; omega

theorem flat_one (hE : Enc enc size) (l : List α) : ∀ u ∈ l.flatMap enc, u.oneCell' = true := by
  intro u hu
  obtain ⟨x, _, hx⟩ := List.mem_flatMap.1 hu
  exact (hE x).2 u hx

theorem flat_split (hE : Enc enc size) (hs : 0 < size) (l : List α) (j : Nat) (u : Value) (h : (l.flatMap enc)[j]? = some u) : ∃ x, l[j / size]? = some x ∧ (enc x)[j % size]? = some u := by
  have hj : j < l.length * size := by rw [← flat_length hE]; exact (List.getElem?_eq_some_iff.1 h).1
  have hk : j / size < l.length := (Nat.div_lt_iff_lt_mul hs).2 hj
  refine ⟨l[j / size], List.getElem?_eq_getElem hk, ?_⟩
  have := flat_get hE l (j / size) _ (j % size) (List.getElem?_eq_getElem hk) (Nat.mod_lt _ hs)
  rw [← this, ← h]
  congr 1
  have := Nat.div_add_mod j size
  rw [Nat.mul_comm] at this
  omega

/-- The source of an append or a copy, cell by cell. -/
theorem SlIn.cells (hE : Enc enc size) (hs : 0 < size) {b off : Nat} (h : ∀ k x, l[k]? = some x → ∀ j u, (enc x)[j]? = some u → w.cell? ⟨b, off + k * size + j, none⟩ = some u) :
    ∀ j u, (l.flatMap enc)[j]? = some u → w.cell? ((⟨b, off, none⟩ : Addr).add j) = some u := by
  intro j u hu
  obtain ⟨x, hx, hxu⟩ := flat_split hE hs l j u hu
  have h1 := h _ _ hx _ _ hxu
  have e1 : off + j / size * size + j % size = off + j := by
    have := Nat.div_add_mod j size
    rw [Nat.mul_comm] at this
    omega
  rw [e1] at h1
  unfold Addr.add
  split
  · rename_i hz; subst hz; simpa using h1
  · exact h1

theorem Owns.slIn (hE : Enc enc size) (h : Owns w base e size enc v l) : SlIn w size enc v l := by
  obtain ⟨hlen, h⟩ := h
  rcases h with ⟨rfl, hn⟩ | ⟨g, cap, cur, rfl, hg, hh, hnc, _, hcur, htake⟩
  · have : l = [] := List.eq_nil_of_length_eq_zero hn
    subst this
    exact ⟨none, 0, rfl, Nat.le_refl _, .inl rfl⟩
  · refine ⟨_, cap, rfl, hnc, .inr ⟨g, 0, rfl, Blk.lt hh, fun k x hx j u hu => ?_⟩⟩
    have hj : j < size := by rw [← (hE x).1]; exact (List.getElem?_eq_some_iff.1 hu).1
    have h1 := flat_get hE l k x j hx hj
    rw [hu, ← htake, List.getElem?_take] at h1
    split at h1
    · rw [Blk.cell hh, Nat.zero_add]; simpa using h1
    · cases h1

theorem Owns.nil (w : World) (base : Nat) (e : TypeId) (size : Nat) (enc : α → List Value) : Owns w base e size enc (.slice none 0 0) ([] : List α) := World.ownsRow_nil w base e size

/-- 'T{a, b}' | the array that an append of single elements lays first. -/
theorem SlIn.lit {b t c : Nat} {cs : Array Value} (h : Blk w b t cs) (hE : Enc enc size) (hcs : cs.toList = l.flatMap enc) (hc : l.length ≤ c) : SlIn w size enc (.slice (some ⟨b, 0, none⟩) l.length c) l := by
  refine ⟨_, c, rfl, hc, .inr ⟨b, 0, rfl, h.lt, fun k x hx j u hu => ?_⟩⟩
  have hj : j < size := by rw [← (hE x).1]; exact (List.getElem?_eq_some_iff.1 hu).1
  have h1 := flat_get hE l k x j hx hj
  rw [hu, ← hcs] at h1
  rw [h.cell, Nat.zero_add]
  simpa using h1

theorem SlIn.one {b t : Nat} {cs : Array Value} {x : α} (h : Blk w b t cs) (hE : Enc enc size) (hcs : cs.toList = enc x) : SlIn w size enc (.slice (some ⟨b, 0, none⟩) 1 1) [x] :=
  SlIn.lit (l := [x]) h hE (by simpa using hcs) (Nat.le_refl _)

/-- x[k:] -/
theorem SlIn.drop {A : Option Addr} {n c k : Nat} (h : SlIn w size enc (.slice A n c) l) (hk : k ≤ l.length) :
    SlIn w size enc (.slice (if c = k then A else A.map (·.add (k * size))) (n - k) (c - k)) (l.drop k) := by
  obtain ⟨A', c', hv, hc, h⟩ := h
  injection hv with hA hn hcc
  subst hA hcc hn
  refine ⟨_, _, by rw [List.length_drop], by rw [List.length_drop]; omega, ?_⟩
  rcases h with rfl | ⟨b, off, rfl, hb, h⟩
  · exact .inl (by simp)
  · by_cases hlk : l.length = k
    · exact .inl (List.drop_eq_nil_of_le (by omega))
    · right
      rw [if_neg (by omega)]
      refine ⟨b, off + k * size, ?_, hb, fun i x hx j u hu => ?_⟩
      · simp only [Option.map, Addr.add]
        split
        · rename_i hz; rw [hz]; rfl
        · rfl
      · have := h (k + i) x (by rw [← hx, List.getElem?_drop]) j u hu
        rw [← this, Nat.add_mul]
        congr 2
        omega

theorem SlIn.form (h : SlIn w size enc v l) : ∃ A c, v = .slice A l.length c := by obtain ⟨A, c, hv, _⟩ := h; exact ⟨A, c, hv⟩
theorem SlIn.cap_le {A : Option Addr} {n c : Nat} (h : SlIn w size enc (.slice A n c) l) : l.length ≤ c ∧ n = l.length := by
  obtain ⟨A', c', hv, hc, _⟩ := h
  injection hv with _ h1 h2
  subst h2
  exact ⟨hc, h1⟩
theorem SlIn.empty (w : World) (size : Nat) (enc : α → List Value) (A : Option Addr) (c : Nat) : SlIn w size enc (.slice A 0 c) ([] : List α) := ⟨A, c, rfl, Nat.zero_le _, .inl rfl⟩
theorem SlIn.drop_end {A : Option Addr} {n c : Nat} (h : SlIn w size enc (.slice A n c) l) (hk : c ≤ l.length) : SlIn w size enc (.slice A (n - c) 0) (l.drop c) := by
  have := h.drop (k := c) hk
  rwa [if_pos rfl, Nat.sub_self] at this
theorem SlIn.drop_far {A : Option Addr} {n c k : Nat} (h : SlIn w size enc (.slice A n c) l) (hk : k ≤ l.length) (hc : ¬ c = k) : SlIn w size enc (.slice (Option.map (fun x => x.add (k * size)) A) (n - k) (c - k)) (l.drop k) := by
  have := h.drop (k := k) hk
  rwa [if_neg hc] at this

theorem SlIn.drop_at {b off n c k : Nat} (h : SlIn w size enc (.slice (some ⟨b, off, none⟩) n c) l) (hk : k ≤ l.length) (hc : ¬ c = k) : SlIn w size enc (.slice (some ⟨b, off + k * size, none⟩) (n - k) (c - k)) (l.drop k) := by
  have := h.drop_far hk hc
  simp only [Option.map, Addr.add] at this
  split at this
  · rename_i hz; rw [hz, Nat.add_zero]; exact this
  · exact this

/-- x[:k], x[:k:m] -/
theorem SlIn.take {A : Option Addr} {n c k c' : Nat} (h : SlIn w size enc (.slice A n c) l) (hk : k ≤ l.length) (hc : k ≤ c') : SlIn w size enc (.slice A k c') (l.take k) := by
  obtain ⟨A', c2, hv, _, h⟩ := h
  injection hv with hA hn hcc
  subst hA
  refine ⟨_, _, by rw [List.length_take, Nat.min_eq_left hk], by rw [List.length_take]; omega, ?_⟩
  rcases h with rfl | ⟨b, off, rfl, hb, h⟩
  · exact .inl (by simp)
  · refine .inr ⟨b, off, rfl, hb, fun i x hx j u hu => h i x ?_ j u hu⟩
    rw [List.getElem?_take] at hx
    split at hx
    · exact hx
    · cases hx

variable {P : Program} {t : TypeId} {z : Value} {bytes : Nat} (w)

theorem run_app (hT : SlTy P t e z size bytes) (hE : Enc enc size) (ty : TypeId) (hown : Owns w base e size enc v l) (hsrc : SlIn w size enc vx m)
    (h63 : l.length + m.length ≤ maxLen) (hbytes : (l.length + m.length) * bytes ≤ 140737488355328) (hbase : base ≤ w.heap.size) :
    ∃ v' w', (Builtin.append_ #[t, t] ty #[v, vx]).run P w = .ok v' w' ∧ Owns w' base e size enc v' (l ++ m) ∧ w.grownBy w' v.ownBlock ∧ (v'.ownBlock = v.ownBlock ∨ v'.ownBlock = some w.heap.size) := by
  obtain ⟨ht, hinfo, hzs, hsz⟩ := hT
  obtain ⟨i, hi, hii⟩ := Option.map_eq_some_iff.1 hinfo
  simp only [Prod.mk.injEq] at hii
  obtain ⟨hz, hsize, hby⟩ := hii
  obtain ⟨A, c, rfl, _, h⟩ := hsrc
  have nilCase : ∀ A c, m = [] → (A = none ∨ True) → ∃ v' w', (Builtin.append_ #[t, t] ty #[v, .slice A m.length c]).run P w = .ok v' w' ∧ Owns w' base e size enc v' (l ++ m) ∧ w.grownBy w' v.ownBlock ∧ (v'.ownBlock = v.ownBlock ∨ v'.ownBlock = some w.heap.size) := by
    intro A c hm _
    subst hm
    cases A with
    | none =>
      refine ⟨v, w, ?_, by simpa using hown, World.grownBy.refl w _, .inl rfl⟩
      rcases hown.2 with ⟨rfl, _⟩ | ⟨g, cap, cur, rfl, _, _, hnc, _⟩
      · simp [Builtin.append_, run_underlying ht, sizeOf, typeInfo, hi, Builtin.lenOf, Builtin.firstCells]
      · simp [Builtin.append_, run_underlying ht, sizeOf, typeInfo, hi, Builtin.lenOf, Builtin.firstCells, hnc, storeCells]
    | some ad =>
      obtain ⟨v', w', hrun, h2, h3, _, h5⟩ := run_append_own_at (P := P) w base t ty e i z size bytes ht hi hz hsize hby hzs hsz v l.length _ hown ad 0 c [] (by simp) (by simp) (by simp) (by simpa using h63) (by simpa using hbytes) hbase
      exact ⟨v', w', by simpa using hrun, by simpa using h2, h3, h5⟩
  rcases h with hm | ⟨b, off, rfl, hb, h⟩
  · exact nilCase A c hm (.inr trivial)
  · obtain ⟨v', w', hrun, h2, h3, _, h5⟩ := run_append_own_at (P := P) w base t ty e i z size bytes ht hi hz hsize hby hzs hsz v l.length _ hown ⟨b, off, none⟩ m.length c (m.flatMap enc) (flat_length hE m)
      (SlIn.cells hE hsz h) (flat_one hE m) h63 hbytes hbase
    exact ⟨v', w', hrun, by simpa [Owns, List.length_append, List.flatMap_append] using h2, h3, h5⟩

variable {w}
/-- append(s, x...) at an operation of a plain region. -/
theorem wpList_app {ops : Array Oper} {rest : List Oper} {o : Oper} {a : Act} {Q : Exit → Act → World → Prop} (hT : SlTy P t e z size bytes) (hE : Enc enc size) (hgd : o.guard = none) (s x : Operand)
    (ho : o.op = .call { callee := .builtin .append, args := #[s, x], argTypes := #[t, t] }) (hs : a.eval s = v) (hx : a.eval x = vx) (hown : Owns w base e size enc v l) (hsrc : SlIn w size enc vx m)
    (h63 : l.length + m.length ≤ maxLen) (hbytes : (l.length + m.length) * bytes ≤ 140737488355328) (hbase : base ≤ w.heap.size)
    (h : ∀ v' w', Owns w' base e size enc v' (l ++ m) → w.grownBy w' v.ownBlock → (v'.ownBlock = v.ownBlock ∨ v'.ownBlock = some w.heap.size) → wpList P ops Q rest (a.put o.dst v') w') : wpList P ops Q (o :: rest) a w := by
  refine wpList_plain hgd fun K hK => ?_
  obtain ⟨v', w', hrun, h2, h3, h4⟩ := run_app (P := P) w hT hE o.type hown hsrc h63 hbytes hbase
  unfold Oper.wp execOp
  simp only [ho, resolve, invoke, builtin, Sem.run_bind, Sem.run_pure, Result.andThen_ok, List.map_toArray, List.map_cons, List.map_nil, hs, hx, hrun]
  exact hK _ _ (h v' w' h2 h3 h4)

/-- append(s, x...) as one step of a region that draws its order. -/
theorem step_app {ops : Array Oper} {o : Oper} {a : Act} {K : Act → World → Prop} {Q : Exit → Act → World → Prop} {E : Prop} (hT : SlTy P t e z size bytes) (hE : Enc enc size) (hgd : o.guard = none) (s x : Operand)
    (ho : o.op = .call { callee := .builtin .append, args := #[s, x], argTypes := #[t, t] }) (hs : a.eval s = v) (hx : a.eval x = vx) (hown : Owns w base e size enc v l) (hsrc : SlIn w size enc vx m)
    (h63 : l.length + m.length ≤ maxLen) (hbytes : (l.length + m.length) * bytes ≤ 140737488355328) (hbase : base ≤ w.heap.size)
    (h : ∀ v' w', Owns w' base e size enc v' (l ++ m) → w.grownBy w' v.ownBlock → (v'.ownBlock = v.ownBlock ∨ v'.ownBlock = some w.heap.size) → K (a.put o.dst v') w') :
    if Region.wanted o (yielded ops a.tmps) = true then Oper.wp P o a w K Q else E := by
  have hw : Region.wanted o (yielded ops a.tmps) = true := by simp [Region.wanted, hgd]
  rw [if_pos hw]
  obtain ⟨v', w', hrun, h2, h3, h4⟩ := run_app (P := P) w hT hE o.type hown hsrc h63 hbytes hbase
  unfold Oper.wp execOp
  simp only [ho, resolve, invoke, builtin, Sem.run_bind, Sem.run_pure, Result.andThen_ok, List.map_toArray, List.map_cons, List.map_nil, hs, hx, hrun]
  exact h v' w' h2 h3 h4

/-- The same where the operation is guarded, and the guard holds. -/
theorem step_appg {ops : Array Oper} {o : Oper} {a : Act} {K : Act → World → Prop} {Q : Exit → Act → World → Prop} {E : Prop} (hT : SlTy P t e z size bytes) (hE : Enc enc size) (hw : Region.wanted o (yielded ops a.tmps) = true) (s x : Operand)
    (ho : o.op = .call { callee := .builtin .append, args := #[s, x], argTypes := #[t, t] }) (hs : a.eval s = v) (hx : a.eval x = vx) (hown : Owns w base e size enc v l) (hsrc : SlIn w size enc vx m)
    (h63 : l.length + m.length ≤ maxLen) (hbytes : (l.length + m.length) * bytes ≤ 140737488355328) (hbase : base ≤ w.heap.size)
    (h : ∀ v' w', Owns w' base e size enc v' (l ++ m) → w.grownBy w' v.ownBlock → (v'.ownBlock = v.ownBlock ∨ v'.ownBlock = some w.heap.size) → K (a.put o.dst v') w') :
    if Region.wanted o (yielded ops a.tmps) = true then Oper.wp P o a w K Q else E := by
  rw [if_pos hw]
  obtain ⟨v', w', hrun, h2, h3, h4⟩ := run_app (P := P) w hT hE o.type hown hsrc h63 hbytes hbase
  unfold Oper.wp execOp
  simp only [ho, resolve, invoke, builtin, Sem.run_bind, Sem.run_pure, Result.andThen_ok, List.map_toArray, List.map_cons, List.map_nil, hs, hx, hrun]
  exact h v' w' h2 h3 h4

/-- make([]T, n), then copy of n elements into it: the two operations of 'own', by their runs. -/
theorem run_copy_all (w : World) (hT : SlTy P t e z size bytes) (hE : Enc enc size) (ty sT : TypeId) {g n cap : Nat} {cur : Array Value} (hg : Blk w g e cur) (hcur : cur.size = n * size) (hbg : base ≤ g) (hn : n = l.length) (hm : n ≤ maxLen) (hcap : cap = n)
    (hsrc : SlIn w size enc vx l) :
    ∃ w', (Builtin.copy_ #[t, sT] ty #[.slice (some ⟨g, 0, none⟩) n cap, vx]).run P w = .ok (goInt l.length) w' ∧ Owns w' base e size enc (.slice (some ⟨g, 0, none⟩) n cap) l ∧ w.grownBy w' (some g) := by
  obtain ⟨ht, hinfo, hzs, hsz⟩ := hT
  obtain ⟨i, hi, hii⟩ := Option.map_eq_some_iff.1 hinfo
  simp only [Prod.mk.injEq] at hii
  obtain ⟨hz, hsize, hby⟩ := hii
  subst hcap
  obtain ⟨A, c, rfl, _, h⟩ := hsrc
  have hmin : Nat.min l.length cap = l.length := by rw [hn]; exact Nat.min_self _
  have hg' : w.heap[g]? = some (.cells cur e (0, 0)) := hg
  rcases h with hl | ⟨b, off, rfl, hb, h⟩
  · subst hl
    have hst := run_storeCells_at P g 0 e [] 0 cur w hg' (by simp) (by simp)
    refine ⟨w, ?_, ⟨by simp, .inr ⟨g, cap, cur, by simp [hn], hbg, hg', by simp, hm, hcur, by simp⟩⟩, World.grownBy.refl w _⟩
    have hl0 : ∀ ad : Addr, (loadCells ad 0).run P w = .ok #[] w := fun ad => by simpa using run_loadCells_list (P := P) w ad [] (by simp)
    cases A with
    | none => simp [Builtin.copy_, run_underlying ht, Builtin.lenOf, Builtin.firstCells, sizeOf, typeInfo, hi, storeCells]
    | some ad => simp [Builtin.copy_, run_underlying ht, Builtin.lenOf, Builtin.firstCells, sizeOf, typeInfo, hi, storeCells, hl0]
  · have hlen := flat_length hE l
    have hl := run_loadCells_list (P := P) w ⟨b, off, none⟩ (l.flatMap enc) (SlIn.cells hE hsz h)
    have hfit : (l.flatMap enc).length = cur.size := by rw [hlen, hcur, hn]
    have hst := run_storeCells_at P g 0 e (l.flatMap enc) 0 cur w hg' (by omega) (flat_one hE l)
    rw [hlen] at hl
    refine ⟨w.setRow g (l.flatMap enc).toArray, ?_, ⟨hlen, .inr ⟨g, cap, (l.flatMap enc).toArray, by rw [hn], hbg, ?_, by omega, hm, by simp only [List.size_toArray]; rw [hfit, hcur], by rw [← hlen]; exact List.take_length⟩⟩, ?_⟩
    · simp only [Nat.zero_add, List.take_zero, List.nil_append] at hst
      rw [List.drop_eq_nil_of_le (by rw [Array.length_toList]; omega), List.append_nil] at hst
      simp [Builtin.copy_, run_underlying ht, Builtin.lenOf, Builtin.firstCells, sizeOf, typeInfo, hi, hsize, hmin, hl, hst]
    · exact setRow_heap w g _ _ e _ hg'
    · exact ⟨rfl, rfl, rfl, by simp [World.setRow], fun k _ hk => setRow_other w g k _ (fun hkg => hk (by rw [hkg]))⟩

theorem wpList_copy_all {ops : Array Oper} {rest : List Oper} {o : Oper} {a : Act} {Q : Exit → Act → World → Prop} (hT : SlTy P t e z size bytes) (hE : Enc enc size) (hgd : o.guard = none) (d s : Operand) (sT : TypeId)
    (ho : o.op = .call { callee := .builtin .copy, args := #[d, s], argTypes := #[t, sT] }) {g n cap : Nat} {cur : Array Value} (hd : a.eval d = .slice (some ⟨g, 0, none⟩) n cap) (hs : a.eval s = vx)
    (hg : Blk w g e cur) (hcur : cur.size = n * size) (hbg : base ≤ g) (hn : n = l.length) (hm : n ≤ maxLen) (hcap : cap = n) (hsrc : SlIn w size enc vx l)
    (h : ∀ w', Owns w' base e size enc (.slice (some ⟨g, 0, none⟩) n cap) l → w.grownBy w' (some g) → wpList P ops Q rest (a.put o.dst (goInt l.length)) w') : wpList P ops Q (o :: rest) a w := by
  refine wpList_plain hgd fun K hK => ?_
  obtain ⟨w', hrun, h2, h3⟩ := run_copy_all (P := P) w hT hE o.type sT hg hcur hbg hn hm hcap hsrc
  unfold Oper.wp execOp
  simp only [ho, resolve, invoke, builtin, Sem.run_bind, Sem.run_pure, Result.andThen_ok, List.map_toArray, List.map_cons, List.map_nil, hd, hs, hrun]
  exact hK _ _ (h w' h2 h3)

/-- make([]T, n): the new block. -/
theorem wpList_mk {ops : Array Oper} {rest : List Oper} {o : Oper} {a : Act} {Q : Exit → Act → World → Prop} (hT : SlTy P t e z size bytes) (hgd : o.guard = none) (x y : Operand) (ho : o.op = Op.makeSlice t x y) {kl kc : IntKind} {n : Nat}
    (hx : a.eval x = .int kl (n : Int)) (hy : a.eval y = .int kc (n : Int)) (hb : bytes * n ≤ 281474976710656) (hm : n ≤ maxLen)
    (h : ∀ w', Blk w' w.heap.size e (madeCells z.cells (n * size)) → New w w' → w'.heap.size = w.heap.size + 1 → wpList P ops Q rest (a.put o.dst (.slice (some ⟨w.heap.size, 0, none⟩) n n)) w') : wpList P ops Q (o :: rest) a w := by
  obtain ⟨ht, hinfo, hzs, hsz⟩ := hT
  obtain ⟨i, hi, hii⟩ := Option.map_eq_some_iff.1 hinfo
  simp only [Prod.mk.injEq] at hii
  obtain ⟨hz, rfl, rfl⟩ := hii
  refine wpList_plain hgd fun K hK => ?_
  have h63 : (n : Int) ≤ 9223372036854775807 := by
    have h := hm
    simp [maxLen] at h
    omega
  have hb' : (i.bytes : Int) * (n : Int) ≤ 281474976710656 := by
    have h : ((i.bytes * n : Nat) : Int) ≤ 281474976710656 := by omega
    rwa [Int.natCast_mul] at h
  have hr := run_make (P := P) w t e i z ht hi hz kl kc n n (by omega) (Int.le_refl _) hb' h63
  simp only [Int.toNat_natCast] at hr
  unfold Oper.wp
  simp [execOp, ho, hx, hy, hr, Result.andThen]
  exact hK _ _ (h _ (Blk.mk_new _ _ _) ((New.refl _).alloc _) (by simp))

theorem Owns.alloc (h : Owns w base e size enc v l) (o : Obj) : Owns (w.alloc o) base e size enc v l := World.ownsRow.alloc h o
theorem Owns.lower {b' : Nat} (h : Owns w base e size enc v l) (hb : b' ≤ base) : Owns w b' e size enc v l := by
  refine ⟨h.1, ?_⟩
  rcases h.2 with h2 | ⟨g, cap, cur, hv, hg, r⟩
  · exact .inl h2
  · exact .inr ⟨g, cap, cur, hv, by omega, r⟩
theorem Owns.new (h : Owns w base e size enc v l) (hn : New w w') : Owns w' base e size enc v l := by
  refine ⟨h.1, ?_⟩
  rcases h.2 with h2 | ⟨g, cap, cur, hv, hg, hh, r⟩
  · exact .inl h2
  · exact .inr ⟨g, cap, cur, hv, hg, Blk.new hh hn, r⟩
theorem Owns.lt (h : Owns w base e size enc v l) : ∀ k, v.ownBlock = some k → base ≤ k ∧ k < w.heap.size := World.ownsRow.lt h
theorem Owns.blockGe (h : Owns w base e size enc v l) : ∀ k, v.ownBlock = some k → base ≤ k := fun k hk => (World.ownsRow.lt h k hk).1
end
end Go.Lap
