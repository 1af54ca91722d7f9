/- The parts Row, Row2, Mp, joined. -/
import Derived.Test.YtecniafnihpjmaaGreatDoorSl
import Derived.Deep.AppendSrc
import Derived.Maps.OwnSet
/- Rows: slices that are somebody's own, from any place in their block on (x[k:], x[:n:n]); what append and clear make of them. -/
namespace Go.Lap
open Go.RowKit
set_option linter.unusedVariables false

/-- The slice value v is a row of its own (a block from base on), and holds l. -/
def Row {α : Type} (w : World) (base : Nat) (e : TypeId) (size : Nat) (enc : α → List Value) (v : Value) (l : List α) : Prop :=
  (v = .slice none 0 0 ∧ l = []) ∨ ∃ g off cap cur, v = .slice (some ⟨g, off, none⟩) l.length cap ∧ base ≤ g ∧ Blk w g e cur ∧ l.length ≤ cap ∧ cap ≤ maxLen ∧ off + cap * size ≤ cur.size ∧ (cur.toList.drop off).take (l.length * size) = l.flatMap enc

section
variable {α : Type} {enc : α → List Value} {size : Nat} {l m : List α} {w w' : World} {v vx : Value} {base : Nat} {e : TypeId}

theorem Row.nil (w : World) (base : Nat) (e : TypeId) (size : Nat) (enc : α → List Value) : Row w base e size enc (.slice none 0 0) ([] : List α) := .inl ⟨rfl, rfl⟩
theorem Owns.row (h : Owns w base e size enc v l) : Row w base e size enc v l := by
  rcases h.2 with ⟨rfl, hn⟩ | ⟨g, cap, cur, rfl, hg, hh, hnc, hm, hcur, htake⟩
  · exact .inl ⟨rfl, List.eq_nil_of_length_eq_zero hn⟩
  · exact .inr ⟨g, 0, cap, cur, rfl, hg, hh, hnc, hm, by omega, by rw [List.drop_zero]; exact htake⟩
theorem Row.slIn (hE : Enc enc size) (h : Row w base e size enc v l) : SlIn w size enc v l := by
  rcases h with ⟨rfl, rfl⟩ | ⟨g, off, cap, cur, rfl, hg, hh, hnc, hm, hcur, htake⟩
  · exact ⟨none, 0, rfl, Nat.le_refl _, .inl rfl⟩
  · refine ⟨_, cap, rfl, hnc, .inr ⟨g, off, rfl, Blk.lt hh, fun k x hx j u hu => ?_⟩⟩
    have hj : j < size := by rw [← (hE x).1]; exact (List.getElem?_eq_some_iff.1 hu).1
    have h1 := flat_get hE l k x j hx hj
    rw [hu, ← htake, List.getElem?_take] at h1
    split at h1
    · rw [List.getElem?_drop, ← Nat.add_assoc] at h1
      rw [Blk.cell hh]
      simpa using h1
    · cases h1
theorem Row.shape (h : Row w base e size enc v l) : ∃ A c, v = .slice A l.length c := by
  rcases h with ⟨rfl, rfl⟩ | ⟨g, off, cap, cur, rfl, _⟩
  · exact ⟨_, _, rfl⟩
  · exact ⟨_, _, rfl⟩
theorem Row.shp (h : Row w base e size enc v l) : ∃ A n c, v = .slice A n c := by obtain ⟨A, c, h⟩ := h.shape; exact ⟨A, _, c, h⟩
theorem Row.new (h : Row w base e size enc v l) (hn : New w w') : Row w' base e size enc v l := by
  rcases h with h | ⟨g, off, cap, cur, hv, hg, hh, r⟩
  · exact .inl h
  · exact .inr ⟨g, off, cap, cur, hv, hg, hh.new hn, r⟩
theorem Row.upd {S : Nat → Prop} (h : Row w base e size enc v l) (hu : Upd S w w') (hS : ∀ k, v.ownBlock = some k → ¬ S k) : Row w' base e size enc v l := by
  rcases h with h | ⟨g, off, cap, cur, hv, hg, hh, r⟩
  · exact .inl h
  · exact .inr ⟨g, off, cap, cur, hv, hg, hh.upd hu (hS g (by rw [hv]; rfl)), r⟩
theorem Row.lower {b' : Nat} (h : Row w base e size enc v l) (hb : b' ≤ base) : Row w b' e size enc v l := by
  rcases h with h | ⟨g, off, cap, cur, hv, hg, r⟩
  · exact .inl h
  · exact .inr ⟨g, off, cap, cur, hv, by omega, r⟩
theorem Row.lt (h : Row w base e size enc v l) : ∀ k, v.ownBlock = some k → base ≤ k ∧ k < w.heap.size := by
  intro k hk
  rcases h with ⟨rfl, _⟩ | ⟨g, off, cap, cur, rfl, hg, hh, _⟩
  · cases hk
  · cases hk; exact ⟨hg, hh.lt⟩
/-- From its own block on. -/
theorem Row.own {b' : Nat} (h : Row w base e size enc v l) (hb : ∀ k, v.ownBlock = some k → b' ≤ k) : Row w b' e size enc v l := by
  rcases h with h | ⟨g, off, cap, cur, hv, hg, r⟩
  · exact .inl h
  · exact .inr ⟨g, off, cap, cur, hv, hb g (by rw [hv]; rfl), r⟩
theorem Row.ne_blk {g t : Nat} {cs : Array Value} (h : Row w base e size enc v l) (hb : Blk w g t cs) (hne : e ≠ t) : v.ownBlock ≠ some g := by
  intro hk
  rcases h with ⟨rfl, _⟩ | ⟨g', off, cap, cur, rfl, hg, hh, _⟩
  · cases hk
  · cases hk; exact Blk.ne_ hh hb hne rfl
/-- x[k:] -/
theorem Row.drop {A : Option Addr} {n c k : Nat} (hE : Enc enc size) (h : Row w base e size enc (.slice A n c) l) (hk : k ≤ l.length) :
    Row w base e size enc (.slice (if c = k then A else A.map (·.add (k * size))) (n - k) (c - k)) (l.drop k) := by
  rcases h with ⟨hv, rfl⟩ | ⟨g, off, cap, cur, hv, hg, hh, hnc, hm, hcur, htake⟩
  · injection hv with h1 h2 h3
    subst h1 h2 h3
    have hk0 : k = 0 := by simpa using hk
    subst hk0
    exact .inl ⟨rfl, rfl⟩
  · injection hv with h1 h2 h3
    subst h1 h2 h3
    have hmul : k * size + (c - k) * size = c * size := by rw [← Nat.add_mul]; congr 1; omega
    by_cases hck : c = k
    · rw [if_pos hck]
      have hlk : l.length = k := by omega
      refine .inr ⟨g, off, c - k, cur, by rw [List.length_drop], hg, hh, by rw [List.length_drop]; omega, by omega, by rw [hck, Nat.sub_self]; simp; omega, ?_⟩
      rw [List.drop_eq_nil_of_le (by omega)]
      simp
    · rw [if_neg hck]
      refine .inr ⟨g, off + k * size, c - k, cur, ?_, hg, hh, by rw [List.length_drop]; omega, by omega, by omega, ?_⟩
      · rw [List.length_drop]
        simp only [Option.map, Addr.add]
        split
        · rename_i hz; rw [hz]; rfl
        · rfl
      · have hs : l.flatMap enc = (l.take k).flatMap enc ++ (l.drop k).flatMap enc := by rw [← List.flatMap_append, List.take_append_drop]
        have hlt := flat_length hE (l.take k)
        rw [List.length_take, Nat.min_eq_left hk] at hlt
        have h2 := congrArg (List.drop (k * size)) htake
        rw [hs, List.drop_left' hlt, List.drop_take, List.drop_drop] at h2
        rw [List.length_drop, Nat.sub_mul]
        exact h2
/-- x[:k], x[:k:c'] -/
theorem Row.take {A : Option Addr} {n c k c' : Nat} (hE : Enc enc size) (h : Row w base e size enc (.slice A n c) l) (hk : k ≤ l.length) (hkc : k ≤ c') (hc : c' ≤ c) : Row w base e size enc (.slice A k c') (l.take k) := by
  rcases h with ⟨hv, rfl⟩ | ⟨g, off, cap, cur, hv, hg, hh, hnc, hm, hcur, htake⟩
  · injection hv with h1 h2 h3
    subst h1 h2 h3
    have hk0 : k = 0 := by simpa using hk
    subst hk0
    obtain rfl : c' = 0 := by omega
    exact .inl ⟨rfl, rfl⟩
  · injection hv with h1 h2 h3
    subst h1 h2 h3
    have hle : c' * size ≤ c * size := Nat.mul_le_mul_right _ hc
    refine .inr ⟨g, off, c', cur, by rw [List.length_take, Nat.min_eq_left hk], hg, hh, by rw [List.length_take]; omega, by omega, by omega, ?_⟩
    have hs : l.flatMap enc = (l.take k).flatMap enc ++ (l.drop k).flatMap enc := by rw [← List.flatMap_append, List.take_append_drop]
    have hlt := flat_length hE (l.take k)
    have hlk : (l.take k).length = k := by rw [List.length_take, Nat.min_eq_left hk]
    rw [hlk] at hlt ⊢
    have hkk : k * size ≤ l.length * size := Nat.mul_le_mul_right _ hk
    have h2 := congrArg (List.take (k * size)) htake
    rw [hs, List.take_left' hlt, List.take_take, Nat.min_eq_left hkk] at h2
    exact h2

/-- Stores behind a row's end, or ahead of it, in its block leave it as it is. -/
theorem Row.turned {g off cap : Nat} {cur cur' : Array Value} {k : Nat} (hv : v = .slice (some ⟨g, off, none⟩) l.length cap) (hg : base ≤ g) (hh : Blk w' g e cur') (hnc : l.length ≤ cap) (hm : cap ≤ maxLen) (hcur : off + cap * size ≤ cur'.size)
    (ht : (cur'.toList.drop off).take (l.length * size) = l.flatMap enc) : Row w' base e size enc v l := .inr ⟨g, off, cap, cur', hv, hg, hh, hnc, hm, hcur, ht⟩

variable {P : Program} {t : TypeId} {z : Value} {bytes : Nat} (w)

theorem SlIn.src (hT : SlTy P t e z size bytes) (hE : Enc enc size) (h : SlIn w size enc vx m) : Src P size t vx m.length (m.flatMap enc) w := by
  obtain ⟨A, c, rfl, _, h⟩ := h
  have hz : ∀ (w' : World), (Builtin.firstCells size 0 (.slice A 0 c)).run P w' = .ok #[] w' := fun w' => by
    cases A with
    | none => exact run_firstCells_none w' size 0 0 c
    | some a => exact run_firstCells_some w' size 0 a 0 c [] (by simp) (fun j u hu => by simp at hu)
  rcases h with rfl | ⟨b, off, rfl, hb, h⟩
  · exact ⟨.inl ⟨_, hT.1⟩, fun _ => rfl, hz w, hz w.drew, by simp, fun u hu => by simp at hu⟩
  · exact Src.ofSlice w hT.1 ⟨b, off, none⟩ m.length c (m.flatMap enc) (flat_length hE m) (SlIn.cells hE hT.2.2.2 h) (flat_one hE m)

/-- append(v, x...) at a row. -/
theorem run_appR (hT : SlTy P t e z size bytes) (hE : Enc enc size) (ty : TypeId) (hown : Row w base e size enc v l) (hsrc : SlIn w size enc vx m)
    (h63 : l.length + m.length ≤ maxLen) (hbytes : (l.length + m.length) * bytes ≤ 140737488355328) (hbase : base ≤ w.heap.size) :
    ∃ v' w', (Builtin.append_ #[t, t] ty #[v, vx]).run P w = .ok v' w' ∧ Row w' base e size enc v' (l ++ m) ∧ w.grownBy w' v.ownBlock ∧ (v'.ownBlock = v.ownBlock ∨ v'.ownBlock = some w.heap.size) := by
  have hs := SlIn.src w hT hE hsrc
  obtain ⟨ht, hinfo, hzs, hsz⟩ := hT
  obtain ⟨i, hi, hii⟩ := Option.map_eq_some_iff.1 hinfo
  simp only [Prod.mk.injEq] at hii
  obtain ⟨hz, hsize, hby⟩ := hii
  subst hsize
  subst hby
  have hsmall : l.length + m.length ≤ 9223372036854775807 := by simp only [maxLen] at h63; omega
  have hlf := flat_length hE l
  have hmf := flat_length hE m
  -- a new row
  have grow : ∀ (bs : Option Addr) (sc : Nat), v = .slice bs l.length sc → sc < l.length + m.length → (Builtin.firstCells i.size l.length (.slice bs l.length sc)).run P w.drew = .ok (l.flatMap enc).toArray w.drew →
      ∃ v' w', (Builtin.append_ #[t, t] ty #[v, vx]).run P w = .ok v' w' ∧ Row w' base e i.size enc v' (l ++ m) ∧ w.grownBy w' v.ownBlock ∧ (v'.ownBlock = v.ownBlock ∨ v'.ownBlock = some w.heap.size) := by
    rintro bs sc rfl hg hold
    have hrun := run_append_grow_src (P := P) w t t ty e i z ht hi hz bs l.length sc (l.flatMap enc) hold vx m.length (m.flatMap enc) hs hg (by omega) (growslice_fits hg hbytes)
    have hge := grownCap_ge w (l.length + m.length) sc e
    refine ⟨_, _, hrun, ?_, ?_, .inr rfl⟩
    · refine .inr ⟨w.heap.size, 0, grownCap w (l.length + m.length) sc e, _, by rw [List.length_append], hbase, Blk.mk_new w.drew _ _, by rw [List.length_append]; exact hge, grownCap_le_maxLen _ _ _ _ h63, ?_, ?_⟩
      · have e1 : (l.length + m.length) * i.size + (grownCap w (l.length + m.length) sc e - (l.length + m.length)) * i.size = grownCap w (l.length + m.length) sc e * i.size := by rw [← Nat.add_mul]; congr 1; omega
        rw [Array.size_append, List.size_toArray, List.length_append, hlf, hmf, size_zeroCells, hzs]
        rw [Nat.add_mul] at e1
        omega
      · rw [List.drop_zero, Array.toList_append, List.flatMap_append, List.take_left']
        rw [List.length_append, List.length_append, hlf, hmf, Nat.add_mul]
    · exact ⟨rfl, rfl, rfl, by simp, fun k hk _ => Below.heap_alloc w.drew _ k hk⟩
  rcases hown with ⟨rfl, rfl⟩ | ⟨g, off, cap, cur, rfl, hg, hh, hnc, hm, hcur, htake⟩
  · by_cases hm0 : m.length = 0
    · have hmn : m = [] := List.eq_nil_of_length_eq_zero hm0
      subst hmn
      refine ⟨.slice none 0 0, w, ?_, .inl ⟨rfl, rfl⟩, World.grownBy.refl w _, .inl rfl⟩
      have c0 : (Builtin.firstCells i.size 0 vx).run P w = .ok #[] w := hs.cells
      have c1 : ∀ w', (Builtin.lenOf vx).run P w' = .ok 0 w' := hs.len
      simp [Builtin.append_, run_underlying ht, sizeOf, typeInfo, hi, c1, c0]
    · exact grow none 0 rfl (by simp; omega) (by simpa using run_firstCells_none w.drew i.size 0 0 0)
  · have hcells : ∀ j u, (l.flatMap enc)[j]? = some u → w.cell? ((⟨g, off, none⟩ : Addr).add j) = some u := by
      intro j u hu
      rw [← htake, List.getElem?_take] at hu
      split at hu
      · rw [List.getElem?_drop] at hu
        have hadd : (⟨g, off, none⟩ : Addr).add j = ⟨g, off + j, none⟩ := by unfold Addr.add; split <;> simp_all
        rw [hadd, hh.cell]
        simpa using hu
      · cases hu
    by_cases hroom : l.length + m.length ≤ cap
    · have hmul : l.length * i.size + m.length * i.size ≤ cap * i.size := by rw [← Nat.add_mul]; exact Nat.mul_le_mul_right _ hroom
      have hst := run_storeCells_at P g (off + l.length * i.size) e (m.flatMap enc) 0 cur w hh (by rw [hmf]; omega) (flat_one hE m)
      simp only [Nat.add_zero] at hst
      have hrun : (Builtin.append_ #[t, t] ty #[.slice (some ⟨g, off, none⟩) l.length cap, vx]).run P w = .ok (.slice (some ⟨g, off, none⟩) (l.length + m.length) cap) (w.setRow g (cur.toList.take (off + l.length * i.size) ++ m.flatMap enc ++ cur.toList.drop (off + l.length * i.size + (m.flatMap enc).length)).toArray) := by
        rcases hs.kind with ⟨e', hk⟩ | hk <;> simp [Builtin.append_, run_underlying ht, sizeOf, typeInfo, hi, hs.len, hroom, hs.cells, Addr.add_lit, hst]
      refine ⟨_, _, hrun, ?_, ?_, .inl rfl⟩
      · have hcl : cur.toList.length = cur.size := Array.length_toList
        refine .inr ⟨g, off, cap, _, by rw [List.length_append], hg, setRow_heap w g _ _ e _ hh, by rw [List.length_append]; exact hroom, hm, ?_, ?_⟩
        · rw [List.size_toArray, List.length_append, List.length_append, List.length_take, List.length_drop, hmf, hcl]
          omega
        · rw [List.length_append, Nat.add_mul, List.flatMap_append]
          have e1 : cur.toList.take (off + l.length * i.size) = cur.toList.take off ++ l.flatMap enc := by rw [List.take_add, htake]
          rw [e1]
          simp only [List.append_assoc]
          rw [List.drop_left' (by rw [List.length_take, hcl]; omega), ← List.append_assoc, List.take_left' (by rw [List.length_append, hlf, hmf])]
      · exact ⟨rfl, rfl, rfl, by simp [World.setRow], fun k _ hk => setRow_other w g k _ (fun hkg => hk (by rw [hkg]; rfl))⟩
    · refine grow _ cap rfl (by omega) ?_
      exact run_firstCells_some w.drew i.size l.length ⟨g, off, none⟩ l.length cap (l.flatMap enc) hlf (by simpa using hcells)

variable {w}
theorem wpList_appR {ops : Array Oper} {rest : List Oper} {o : Oper} {a : Act} {Q : Exit → Act → World → Prop} (hT : SlTy P t e z size bytes) (hE : Enc enc size) (hgd : o.guard = none) (s x : Operand)
    (ho : o.op = .call { callee := .builtin .append, args := #[s, x], argTypes := #[t, t] }) (hs : a.eval s = v) (hx : a.eval x = vx) (hown : Row w base e size enc v l) (hsrc : SlIn w size enc vx m)
    (h63 : l.length + m.length ≤ maxLen) (hbytes : (l.length + m.length) * bytes ≤ 140737488355328) (hbase : base ≤ w.heap.size)
    (h : ∀ v' w', Row w' base e size enc v' (l ++ m) → w.grownBy w' v.ownBlock → (v'.ownBlock = v.ownBlock ∨ v'.ownBlock = some w.heap.size) → wpList P ops Q rest (a.put o.dst v') w') : wpList P ops Q (o :: rest) a w := by
  refine wpList_plain hgd fun K hK => ?_
  obtain ⟨v', w', hrun, h2, h3, h4⟩ := run_appR (P := P) w hT hE o.type hown hsrc h63 hbytes hbase
  unfold Oper.wp execOp
  simp only [ho, resolve, invoke, builtin, Sem.run_bind, Sem.run_pure, Result.andThen_ok, List.map_toArray, List.map_cons, List.map_nil, hs, hx, hrun]
  exact hK _ _ (h v' w' h2 h3 h4)
theorem step_appR {ops : Array Oper} {o : Oper} {a : Act} {K : Act → World → Prop} {Q : Exit → Act → World → Prop} {E : Prop} (hT : SlTy P t e z size bytes) (hE : Enc enc size) (hgd : o.guard = none) (s x : Operand)
    (ho : o.op = .call { callee := .builtin .append, args := #[s, x], argTypes := #[t, t] }) (hs : a.eval s = v) (hx : a.eval x = vx) (hown : Row w base e size enc v l) (hsrc : SlIn w size enc vx m)
    (h63 : l.length + m.length ≤ maxLen) (hbytes : (l.length + m.length) * bytes ≤ 140737488355328) (hbase : base ≤ w.heap.size)
    (h : ∀ v' w', Row w' base e size enc v' (l ++ m) → w.grownBy w' v.ownBlock → (v'.ownBlock = v.ownBlock ∨ v'.ownBlock = some w.heap.size) → K (a.put o.dst v') w') :
    if Region.wanted o (yielded ops a.tmps) = true then Oper.wp P o a w K Q else E := by
  have hw : Region.wanted o (yielded ops a.tmps) = true := by simp [Region.wanted, hgd]
  rw [if_pos hw]
  obtain ⟨v', w', hrun, h2, h3, h4⟩ := run_appR (P := P) w hT hE o.type hown hsrc h63 hbytes hbase
  unfold Oper.wp execOp
  simp only [ho, resolve, invoke, builtin, Sem.run_bind, Sem.run_pure, Result.andThen_ok, List.map_toArray, List.map_cons, List.map_nil, hs, hx, hrun]
  exact h v' w' h2 h3 h4
end
end Go.Lap

/- Rows at a place: append where there is room, clear of what stands behind, a store of an element. -/
namespace Go.Lap
open Go.RowKit
set_option linter.unusedVariables false

/-- Block g holds, from off on, the elements l, and room for cap. -/
def RowAt {α : Type} (w : World) (e : TypeId) (size : Nat) (enc : α → List Value) (g off cap : Nat) (l : List α) : Prop :=
  ∃ cur, Blk w g e cur ∧ l.length ≤ cap ∧ cap ≤ maxLen ∧ off + cap * size ≤ cur.size ∧ (cur.toList.drop off).take (l.length * size) = l.flatMap enc

section
variable {α : Type} {enc : α → List Value} {size : Nat} {l m : List α} {w w' : World} {v vx : Value} {base : Nat} {e : TypeId} {g off cap : Nat}
theorem RowAt.row (h : RowAt w e size enc g off cap l) (hg : base ≤ g) : Row w base e size enc (.slice (some ⟨g, off, none⟩) l.length cap) l := by
  obtain ⟨cur, h1, h2, h3, h4, h5⟩ := h
  exact .inr ⟨g, off, cap, cur, rfl, hg, h1, h2, h3, h4, h5⟩
theorem Row.at_ (h : Row w base e size enc v l) (hne : l ≠ []) : ∃ g off cap, v = .slice (some ⟨g, off, none⟩) l.length cap ∧ base ≤ g ∧ RowAt w e size enc g off cap l := by
  rcases h with ⟨_, h⟩ | ⟨g, off, cap, cur, hv, hg, h1, h2, h3, h4, h5⟩
  · exact absurd h hne
  · exact ⟨g, off, cap, hv, hg, cur, h1, h2, h3, h4, h5⟩
theorem RowAt.lt (h : RowAt w e size enc g off cap l) : g < w.heap.size := let ⟨_, h1, _⟩ := h; Blk.lt h1
theorem RowAt.len (h : RowAt w e size enc g off cap l) : l.length ≤ cap ∧ cap ≤ maxLen := let ⟨_, _, h1, h2, _⟩ := h; ⟨h1, h2⟩
theorem RowAt.new (h : RowAt w e size enc g off cap l) (hn : New w w') : RowAt w' e size enc g off cap l := by
  obtain ⟨cur, h1, h2⟩ := h
  exact ⟨cur, h1.new hn, h2⟩
theorem RowAt.upd {S : Nat → Prop} (h : RowAt w e size enc g off cap l) (hu : Upd S w w') (hS : ¬ S g) : RowAt w' e size enc g off cap l := by
  obtain ⟨cur, h1, h2⟩ := h
  exact ⟨cur, h1.upd hu hS, h2⟩
theorem RowAt.frozen (h : RowAt w e size enc g off cap l) (i : Nat) : w.frozen? ⟨g, i, none⟩ = false := let ⟨_, h1, _⟩ := h; Blk.frozen h1 i
theorem RowAt.cell (hE : Enc enc size) (h : RowAt w e size enc g off cap l) {k : Nat} {x : α} (hx : l[k]? = some x) {j : Nat} {u : Value} (hu : (enc x)[j]? = some u) : w.cell? ⟨g, off + k * size + j, none⟩ = some u := by
  obtain ⟨A, c, hv, _, hor⟩ := Row.slIn hE (h.row (Nat.zero_le _))
  rcases hor with hor | ⟨b, o, hA, hb, hc⟩
  · rw [hor] at hx; simp at hx
  · cases hv
    cases hA
    exact hc k x hx j u hu
theorem RowAt.take (hE : Enc enc size) (h : RowAt w e size enc g off cap l) {k : Nat} (hk : k ≤ l.length) : RowAt w e size enc g off cap (l.take k) := by
  obtain ⟨cur, h1, h2, h3, h4, h5⟩ := h
  refine ⟨cur, h1, by rw [List.length_take]; omega, h3, h4, ?_⟩
  have hs : l.flatMap enc = (l.take k).flatMap enc ++ (l.drop k).flatMap enc := by rw [← List.flatMap_append, List.take_append_drop]
  have hlt := flat_length hE (l.take k)
  have hlk : (l.take k).length = k := by rw [List.length_take, Nat.min_eq_left hk]
  rw [hlk] at hlt ⊢
  have hkk : k * size ≤ l.length * size := Nat.mul_le_mul_right _ hk
  have h2 := congrArg (List.take (k * size)) h5
  rw [hs, List.take_left' hlt, List.take_take, Nat.min_eq_left hkk] at h2
  exact h2

variable {P : Program} {t : TypeId} {z : Value} {bytes : Nat}
/-- append where there is room. -/
theorem run_appRoom (hT : SlTy P t e z size bytes) (hE : Enc enc size) (ty : TypeId) (h : RowAt w e size enc g off cap l) (hsrc : SlIn w size enc vx m) (hroom : l.length + m.length ≤ cap) :
    ∃ w', (Builtin.append_ #[t, t] ty #[.slice (some ⟨g, off, none⟩) l.length cap, vx]).run P w = .ok (.slice (some ⟨g, off, none⟩) (l.length + m.length) cap) w' ∧ RowAt w' e size enc g off cap (l ++ m) ∧ Upd (· = g) w w' ∧ w'.heap.size = w.heap.size := by
  have hs := SlIn.src w hT hE hsrc
  obtain ⟨ht, hinfo, hzs, hsz⟩ := hT
  obtain ⟨i, hi, hii⟩ := Option.map_eq_some_iff.1 hinfo
  simp only [Prod.mk.injEq] at hii
  obtain ⟨hz, hsize, hby⟩ := hii
  subst hsize
  subst hby
  have hlf := flat_length hE l
  have hmf := flat_length hE m
  obtain ⟨cur, hh, hnc, hm, hcur, htake⟩ := h
  have hmul : l.length * i.size + m.length * i.size ≤ cap * i.size := by rw [← Nat.add_mul]; exact Nat.mul_le_mul_right _ hroom
  have hst := run_storeCells_at P g (off + l.length * i.size) e (m.flatMap enc) 0 cur w hh (by rw [hmf]; omega) (flat_one hE m)
  simp only [Nat.add_zero] at hst
  have hrun : (Builtin.append_ #[t, t] ty #[.slice (some ⟨g, off, none⟩) l.length cap, vx]).run P w = .ok (.slice (some ⟨g, off, none⟩) (l.length + m.length) cap) (w.setRow g (cur.toList.take (off + l.length * i.size) ++ m.flatMap enc ++ cur.toList.drop (off + l.length * i.size + (m.flatMap enc).length)).toArray) := by
    rcases hs.kind with ⟨e', hk⟩ | hk <;> simp [Builtin.append_, run_underlying ht, sizeOf, typeInfo, hi, hs.len, hroom, hs.cells, Addr.add_lit, hst]
  have hcl : cur.toList.length = cur.size := Array.length_toList
  refine ⟨_, hrun, ⟨_, setRow_heap w g _ _ e _ hh, by rw [List.length_append]; exact hroom, hm, ?_, ?_⟩, ⟨rfl, rfl, rfl, by simp [World.setRow], fun k _ hk => setRow_other w g k _ hk⟩, by simp [World.setRow]⟩
  · rw [List.size_toArray, List.length_append, List.length_append, List.length_take, List.length_drop, hmf, hcl]
    omega
  · rw [List.length_append, Nat.add_mul, List.flatMap_append]
    have e1 : cur.toList.take (off + l.length * i.size) = cur.toList.take off ++ l.flatMap enc := by rw [List.take_add, htake]
    rw [e1]
    simp only [List.append_assoc]
    rw [List.drop_left' (by rw [List.length_take, hcl]; omega), ← List.append_assoc, List.take_left' (by rw [List.length_append, hlf, hmf])]
theorem step_appRoom {ops : Array Oper} {o : Oper} {a : Act} {K : Act → World → Prop} {Q : Exit → Act → World → Prop} {E : Prop} (hT : SlTy P t e z size bytes) (hE : Enc enc size) (hgd : o.guard = none) (s x : Operand)
    (ho : o.op = .call { callee := .builtin .append, args := #[s, x], argTypes := #[t, t] }) {n n' : Nat} (hs : a.eval s = .slice (some ⟨g, off, none⟩) n cap) (hn : n = l.length) (hn' : (l ++ m).length = n') (hx : a.eval x = vx) (hrow : RowAt w e size enc g off cap l) (hsrc : SlIn w size enc vx m) (hroom : l.length + m.length ≤ cap)
    (h : ∀ w', RowAt w' e size enc g off cap (l ++ m) → Upd (· = g) w w' → w'.heap.size = w.heap.size → K (a.put o.dst (.slice (some ⟨g, off, none⟩) n' cap)) w') :
    if Region.wanted o (yielded ops a.tmps) = true then Oper.wp P o a w K Q else E := by
  have hw : Region.wanted o (yielded ops a.tmps) = true := by simp [Region.wanted, hgd]
  rw [if_pos hw]
  subst hn hn'
  rw [List.length_append] at h
  obtain ⟨w', hrun, h2, h3, h4⟩ := run_appRoom (P := P) hT hE o.type hrow hsrc hroom
  unfold Oper.wp execOp
  simp only [ho, resolve, invoke, builtin, Sem.run_bind, Sem.run_pure, Result.andThen_ok, List.map_toArray, List.map_cons, List.map_nil, hs, hx, hrun]
  exact h w' h2 h3 h4

/-- clear(s[k:]) leaves the row that ends ahead of k as it is. -/
theorem run_clearR (ht : P.underlying t = some (.slice e)) (hv : ∀ w, (zeroValue e).run P w = .ok z w) (hzs : z.cells.size = size) (hz1 : ∀ u ∈ z.cells.toList, u.oneCell' = true) (ty : TypeId) (h : RowAt w e size enc g off cap l) (hE : Enc enc size) {k n c : Nat} (hk : l.length ≤ k) (hn : k + n ≤ cap) :
    ∃ w', (Builtin.clear_ #[t] ty #[.slice (some ⟨g, off + k * size, none⟩) n c]).run P w = .ok (.tuple #[]) w' ∧ RowAt w' e size enc g off cap l ∧ Upd (· = g) w w' ∧ w'.heap.size = w.heap.size := by
  obtain ⟨cur, hh, hnc, hm, hcur, htake⟩ := h
  cases n with
  | zero => exact ⟨w, by simp [Builtin.clear_, run_underlying ht], ⟨cur, hh, hnc, hm, hcur, htake⟩, Upd.refl _ _, rfl⟩
  | succ n =>
    have hzl : (Builtin.zeroCells z.cells (n + 1)).toList.length = (n + 1) * size := by rw [Array.length_toList, size_zeroCells, hzs]
    have hmul : k * size + (n + 1) * size ≤ cap * size := by rw [← Nat.add_mul]; exact Nat.mul_le_mul_right _ hn
    have hone : ∀ u ∈ (Builtin.zeroCells z.cells (n + 1)).toList, u.oneCell' = true := by
      intro u hu
      unfold Builtin.zeroCells at hu
      simp only [Array.toList_map, Array.toList_range, List.mem_map, List.mem_range] at hu
      obtain ⟨i, hi, rfl⟩ := hu
      have hpos : 0 < z.cells.size := by
        rcases Nat.eq_zero_or_pos z.cells.size with h0 | h0
        · rw [h0] at hi; simp at hi
        · exact h0
      have hlt : i % z.cells.size < z.cells.size := Nat.mod_lt _ hpos
      rw [getElem!_pos z.cells _ hlt]
      exact hz1 _ (by simp)
    have hst := run_storeCells_at P g (off + k * size) e (Builtin.zeroCells z.cells (n + 1)).toList 0 cur w hh (by rw [hzl]; omega) hone
    simp only [Nat.add_zero] at hst
    have hcl : cur.toList.length = cur.size := Array.length_toList
    have hlk : l.length * size ≤ k * size := Nat.mul_le_mul_right _ hk
    refine ⟨_, by simp [Builtin.clear_, run_underlying ht, hv, hst]; rfl, ⟨_, setRow_heap w g _ _ e _ hh, hnc, hm, ?_, ?_⟩, ⟨rfl, rfl, rfl, by simp [World.setRow], fun k _ hk => setRow_other w g k _ hk⟩, by simp [World.setRow]⟩
    · have hz2 : (Builtin.zeroCells z.cells (n + 1)).size = (n + 1) * size := by rw [size_zeroCells, hzs]
      simp only [List.size_toArray, List.length_append, List.length_take, List.length_drop, Array.length_toList, hz2]
      omega
    · rw [← htake]
      rw [List.drop_append_of_le_length (by rw [List.length_take, hcl]; omega), List.take_append_of_le_length (by rw [List.length_drop, List.length_take, hcl]; omega), List.drop_take, List.take_take]
      congr 1
      omega
theorem wpList_clearR {ops : Array Oper} {rest : List Oper} {o : Oper} {a : Act} {Q : Exit → Act → World → Prop} (ht : P.underlying t = some (.slice e)) (hv : ∀ w, (zeroValue e).run P w = .ok z w) (hzs : z.cells.size = size) (hz1 : ∀ u ∈ z.cells.toList, u.oneCell' = true) (hE : Enc enc size) (hgd : o.guard = none) (s : Operand)
    (ho : o.op = .call { callee := .builtin .clear, args := #[s], argTypes := #[t] }) {k n c : Nat} (hs : a.eval s = .slice (some ⟨g, off + k * size, none⟩) n c) (hrow : RowAt w e size enc g off cap l) (hk : l.length ≤ k) (hn : k + n ≤ cap)
    (h : ∀ w', RowAt w' e size enc g off cap l → Upd (· = g) w w' → w'.heap.size = w.heap.size → wpList P ops Q rest (a.put o.dst (.tuple #[])) w') : wpList P ops Q (o :: rest) a w := by
  refine wpList_plain hgd fun K hK => ?_
  obtain ⟨w', hrun, h2, h3, h4⟩ := run_clearR (P := P) ht hv hzs hz1 o.type hrow hE (c := c) hk hn
  unfold Oper.wp execOp
  simp only [ho, resolve, invoke, builtin, Sem.run_bind, Sem.run_pure, Result.andThen_ok, List.map_toArray, List.map_cons, List.map_nil, hs, hrun]
  exact hK _ _ (h w' h2 h3 h4)

theorem flat_setR {enc : α → List Value} {size : Nat} (hE : Enc enc size) {x' : α} {u : Value} {j : Nat} (hj : j < size) : ∀ (l : List α) (i : Nat) (x : α), l[i]? = some x → enc x' = (enc x).set j u → (l.flatMap enc).set (i * size + j) u = (l.set i x').flatMap enc
  | [], i, x, h, _ => by simp at h
  | y :: l, 0, x, h, hx => by
    simp at h
    subst h
    rw [List.set_cons_zero, List.flatMap_cons, List.flatMap_cons, Nat.zero_mul, Nat.zero_add, List.set_append_left _ _ (by rw [(hE y).1]; exact hj), hx]
  | y :: l, i + 1, x, h, hx => by
    rw [List.set_cons_succ, List.flatMap_cons, List.flatMap_cons, List.set_append_right _ _ (by rw [(hE y).1, Nat.add_mul]; omega), (hE y).1]
    rw [show (i + 1) * size + j - size = i * size + j by rw [Nat.add_mul]; omega]
    rw [flat_setR hE hj l i x (by simpa using h) hx]
/-- One cell of an element turns. -/
theorem RowAt.setF (hE : Enc enc size) (h : RowAt w e size enc g off cap l) {i j : Nat} {x x' : α} {u : Value} (hx : l[i]? = some x) (hj : j < size) (hx' : enc x' = (enc x).set j u) : RowAt (w.setCell ⟨g, off + i * size + j, none⟩ u) e size enc g off cap (l.set i x') := by
  obtain ⟨cur, hh, hnc, hm, hcur, htake⟩ := h
  have hil : i < l.length := (List.getElem?_eq_some_iff.1 hx).1
  have hmul : (i + 1) * size ≤ l.length * size := Nat.mul_le_mul_right _ hil
  rw [Nat.add_mul, Nat.one_mul] at hmul
  refine ⟨_, hh.set_ _ _, by rw [List.length_set]; exact hnc, hm, by rw [Array.size_setIfInBounds]; exact hcur, ?_⟩
  rw [List.length_set, ← flat_setR hE hj l i x hx hx', ← htake, Array.toList_setIfInBounds, List.drop_set]
  have hlt : ¬ off + i * size + j < off := by omega
  rw [if_neg hlt, List.take_set, show off + i * size + j - off = i * size + j by omega]
end
end Go.Lap

/- Maps, whatever their elements: a map's block as a function from keys to values. -/
namespace Go.Lap
open Go Go.RowKit
set_option linter.unusedVariables false
set_option linter.unusedSectionVars false

/-- An element read as itself. -/
def rawR (v : Value) : Option (DataW Value × List MemPlace) := some (.held v, [])

/-- A key's type: how its keys read, which keys there are. -/
structure KeyB (P : Program) (kt : TypeId) {κ : Type} (val : κ → Value) (lit : κ → Lit) (ok : κ → Prop) : Prop where
  keyed : Maps.Keyed P kt
  read : ∀ k, ok k → keyOf P kt (val k) = some (lit k)
  ne : ∀ a b, ok a → ok b → a ≠ b → lit a ≠ lit b

theorem keyI {P : Program} {kt : TypeId} (hk : P.underlying kt = some (.int .i64)) : KeyB P kt (fun n : Int => .int .i64 n) (fun n => .int .i64 n) (fun n => (Lit.int .i64 n).wf = true) where
  keyed := Maps.int_keyed hk
  read := fun k h => Maps.keyOf_int_mk hk h
  ne := fun a b _ _ h e => h (by injection e)
theorem keyU {P : Program} {kt : TypeId} (hk : P.underlying kt = some (.int .u64)) : KeyB P kt (fun n : Nat => .int .u64 (n : Int)) (fun n => .int .u64 (n : Int)) (fun n => (Lit.int .u64 (n : Int)).wf = true) where
  keyed := Maps.int_keyed hk
  read := fun k h => Maps.keyOf_int_mk hk h
  ne := fun a b _ _ h e => h (by injection e with _ e; omega)

theorem ownsMap_tight {P : Program} {k : TypeId} {R : Value → Option (DataW Value × List MemPlace)} {w : World} {b n : Nat} {D : DataW Value} (h : w.ownsMap P k R b n D) : w.ownsMap P k R b (Maps.size D) D := by
  obtain ⟨es, clock, hb, F, hs, rfl⟩ := h
  exact ⟨es, clock, hb, F, by rw [Maps.size_eq, length_sorted]; simp, rfl⟩

section
variable {P : Program} {kt : TypeId} {κ : Type} [DecidableEq κ] {val : κ → Value} {lit : κ → Lit} {ok : κ → Prop}

/-- Block b is a map of m entries that holds f. -/
def MpAt (P : Program) (kt : TypeId) (lit : κ → Lit) (ok : κ → Prop) (w : World) (b m : Nat) (f : κ → Option Value) : Prop :=
  ∃ D : DataW Value, w.ownsMap P kt rawR b m D ∧ Maps.Tidy D ∧ Maps.size D = m ∧ ∀ k, ok k → Maps.has D (lit k) = (f k).isSome ∧ ∀ v, f k = some v → ∀ z, D.atKey (lit k) z = .held v

variable {w w' : World} {b m : Nat} {f : κ → Option Value}
theorem MpAt.lt (h : MpAt P kt lit ok w b m f) : b < w.heap.size := let ⟨_, h1, _⟩ := h; h1.lt
theorem MpAt.kept {row : Option Nat} (h : MpAt P kt lit ok w b m f) (hg : w.grownBy w' row) (hne : some b ≠ row) : MpAt P kt lit ok w' b m f := let ⟨D, h1, h2⟩ := h; ⟨D, h1.kept hg hne, h2⟩
theorem MpAt.upd {S : Nat → Prop} (h : MpAt P kt lit ok w b m f) (hu : Upd S w w') (hS : ¬ S b) : MpAt P kt lit ok w' b m f := by
  have hlt := h.lt
  obtain ⟨D, h1, h2⟩ := h
  obtain ⟨es, clock, hb, F, hs, hD⟩ := h1
  exact ⟨D, ⟨es, clock, (hu.block b hlt hS).trans hb, F, hs, hD⟩, h2⟩
theorem MpAt.new (h : MpAt P kt lit ok w b m f) (hn : New w w') : MpAt P kt lit ok w' b m f := h.upd (S := fun _ => False) (Upd.new hn) (fun x => x)
theorem MpAt.congr {g : κ → Option Value} (h : MpAt P kt lit ok w b m f) (hfg : ∀ k, ok k → f k = g k) : MpAt P kt lit ok w b m g := by
  obtain ⟨D, h1, h2, h3, h4⟩ := h
  exact ⟨D, h1, h2, h3, fun k hk => by rw [← hfg k hk]; exact h4 k hk⟩
/-- make(map[K]V): nothing is there. -/
theorem MpAt.made (P : Program) (kt : TypeId) (lit : κ → Lit) (ok : κ → Prop) (w : World) : MpAt P kt lit ok (w.alloc (.map #[] 0)) w.heap.size 0 (fun _ => none) :=
  ⟨.map [], World.ownsMap_made w P kt rawR, Maps.tidy_empty, rfl, fun k _ => ⟨rfl, fun v h => by cases h⟩⟩

theorem MpAt.value (h : MpAt P kt lit ok w b m f) {D : DataW Value} {k : κ} {z v : Value} {ps : List MemPlace} (hD : Maps.has D (lit k) = (f k).isSome ∧ ∀ v, f k = some v → ∀ z, D.atKey (lit k) z = .held v)
    (hv : rawR v = some (D.atKey (lit k) (.held z), ps)) : v = (f k).getD z := by
  unfold rawR at hv
  injection hv with hv
  injection hv with hv _
  cases hf : f k with
  | some u =>
    rw [hD.2 u hf] at hv
    injection hv
  | none =>
    have h0 : Maps.has D (lit k) = false := by rw [hD.1, hf]; rfl
    rw [Maps.atKey_of_not_has h0] at hv
    injection hv

variable {ops : Array Oper} {rest : List Oper} {o : Oper} {a : Act} {Q : Exit → Act → World → Prop}
/-- 'v, ok := m[k]'. -/
theorem wpList_mp_ok (B : KeyB P kt val lit ok) (hg : o.guard = none) (mo x : Operand) (t e : TypeId) (hop : o.op = Op.lookup t mo x true) (ht : P.underlying t = some (.map kt e)) {z : Value} (hz : (zeroValue e).run P w = .ok z w)
    (hm : a.eval mo = .map (some b)) (h : MpAt P kt lit ok w b m f) (k : κ) (hk : ok k) (hx : a.eval x = val k)
    (hK : wpList P ops Q rest (a.put o.dst (.tuple #[(f k).getD z, .bool (f k).isSome])) w) : wpList P ops Q (o :: rest) a w := by
  obtain ⟨D, h1, h2, h3, h4⟩ := id h
  refine wpList_lookup_own_ok w hg mo x t hop kt e B.keyed ht rawR hz (.held z) [] rfl b m D hm h1 (val k) (lit k) hx (B.read k hk) ?_
  intro v ps hv
  rw [h.value (h4 k hk) hv, (h4 k hk).1]
  exact hK
/-- 'm[k]'. -/
theorem wpList_mp_at (B : KeyB P kt val lit ok) (hg : o.guard = none) (mo x : Operand) (t e : TypeId) (hop : o.op = Op.lookup t mo x false) (ht : P.underlying t = some (.map kt e)) {z : Value} (hz : (zeroValue e).run P w = .ok z w)
    (hm : a.eval mo = .map (some b)) (h : MpAt P kt lit ok w b m f) (k : κ) (hk : ok k) (hx : a.eval x = val k)
    (hK : wpList P ops Q rest (a.put o.dst ((f k).getD z)) w) : wpList P ops Q (o :: rest) a w := by
  obtain ⟨D, h1, h2, h3, h4⟩ := id h
  refine wpList_plain hg fun K' hK' => ?_
  obtain ⟨v, ps, hrun, hv⟩ := h1.lookup B.keyed ht hz (zd := .held z) (zp := []) rfl (B.read k hk)
  rw [h.value (h4 k hk) hv] at hrun
  unfold Oper.wp
  simp [execOp, hop, hm, hx, hrun, Result.andThen]
  exact hK' _ _ hK
/-- One more entry, or another one. -/
theorem MpAt.put_of (B : KeyB P kt val lit ok) (h : MpAt P kt lit ok w b m f) {k : κ} (hk : ok k) (v : Value) {D : DataW Value} (hD : Maps.Tidy D) (hs : Maps.size D = m) (h4 : ∀ k, ok k → Maps.has D (lit k) = (f k).isSome ∧ ∀ v, f k = some v → ∀ z, D.atKey (lit k) z = .held v)
    {n : Nat} (h1 : w'.ownsMap P kt rawR b n (D.put (lit k) (.held v))) : MpAt P kt lit ok w' b (if (f k).isSome then m else m + 1) (fun j => if j = k then some v else f j) := by
  have hl := B.keyed.key (B.read k hk)
  have hsz : Maps.size (D.put (lit k) (.held v)) = if (f k).isSome then m else m + 1 := by rw [Maps.size_put hD, (h4 k hk).1, hs]
  refine ⟨_, by rw [← hsz]; exact ownsMap_tight h1, hD.put hl _, hsz, fun j hj => ?_⟩
  by_cases hjk : j = k
  · subst hjk
    dsimp only
    rw [if_pos rfl]
    exact ⟨by rw [Maps.has_put_same hD.isMap hl]; rfl, fun u hu z => by cases hu; exact Maps.atKey_put_same hD.isMap hl _ _⟩
  · have hne := B.ne j k hj hk hjk
    dsimp only
    rw [if_neg hjk]
    exact ⟨by rw [Maps.has_put_other hne]; exact (h4 j hj).1, fun u hu z => by rw [Maps.atKey_put_other hne]; exact (h4 j hj).2 u hu z⟩
/-- 'm[k] = v'. -/
theorem wpList_mp_put (B : KeyB P kt val lit ok) (hg : o.guard = none) (mo x vo : Operand) (t e : TypeId) (hop : o.op = Op.mapUpdate t mo x vo) (ht : P.underlying t = some (.map kt e))
    (hm : a.eval mo = .map (some b)) (h : MpAt P kt lit ok w b m f) (hmx : m < maxLen) (k : κ) (hk : ok k) (hx : a.eval x = val k) (v : Value) (hv : a.eval vo = v)
    (hK : ∀ w', MpAt P kt lit ok w' b (if (f k).isSome then m else m + 1) (fun j => if j = k then some v else f j) → w.grownBy w' (some b) → wpList P ops Q rest (a.put o.dst undef) w') : wpList P ops Q (o :: rest) a w := by
  obtain ⟨D, h1, h2, h3, h4⟩ := id h
  refine wpList_mapUpdate_own w hg mo x vo t hop kt e B.keyed ht rawR b m D hm h1 hmx (val k) v (lit k) hx hv (B.read k hk) (.held v) [] rfl ?_
  intro w' h1' hg'
  exact hK w' (h.put_of B hk v h2 h3 h4 h1') hg'
/-- 'delete(m, k)'. -/
theorem wpList_mp_del (B : KeyB P kt val lit ok) (hg : o.guard = none) (mo x : Operand) (t e : TypeId) (hop : o.op = Op.call { callee := Callee.builtin Builtin.delete, args := #[mo, x], argTypes := #[t, kt] }) (ht : P.underlying t = some (.map kt e))
    (hm : a.eval mo = .map (some b)) (h : MpAt P kt lit ok w b m f) (k : κ) (hk : ok k) (hx : a.eval x = val k)
    (hK : ∀ w', MpAt P kt lit ok w' b (if (f k).isSome then m - 1 else m) (fun j => if j = k then none else f j) → w.grownBy w' (some b) → wpList P ops Q rest (a.put o.dst (.tuple #[])) w') : wpList P ops Q (o :: rest) a w := by
  obtain ⟨D, h1, h2, h3, h4⟩ := id h
  refine wpList_delete_own w hg mo x t kt hop e B.keyed ht rawR b m D hm h1 (val k) (lit k) hx (B.read k hk) ?_
  intro w' h1' hg'
  have hsz : Maps.size (D.del (lit k)) = if (f k).isSome then m - 1 else m := by
    have := Maps.size_del (k := lit k) h2
    rw [(h4 k hk).1, h3] at this
    split at this <;> simp_all <;> omega
  refine hK w' ⟨_, by rw [← hsz]; exact ownsMap_tight h1', h2.del _, hsz, fun j hj => ?_⟩ hg'.grown
  by_cases hjk : j = k
  · subst hjk
    dsimp only
    rw [if_pos rfl]
    exact ⟨by rw [Maps.has_del_same]; rfl, fun u hu => by cases hu⟩
  · have hne := B.ne j k hj hk hjk
    dsimp only
    rw [if_neg hjk]
    exact ⟨by rw [Maps.has_del_other hne]; exact (h4 j hj).1, fun u hu z => by rw [Maps.atKey_del_other hne]; exact (h4 j hj).2 u hu z⟩
/-- 'len(m)'. -/
theorem wpList_mp_len (hg : o.guard = none) (mo : Operand) (t e : TypeId) (hop : o.op = Op.call { callee := Callee.builtin Builtin.len, args := #[mo], argTypes := #[t] }) (ht : P.underlying t = some (.map kt e))
    (hm : a.eval mo = .map (some b)) (h : MpAt P kt lit ok w b m f) (hK : wpList P ops Q rest (a.put o.dst (.int .i64 (m : Int))) w) : wpList P ops Q (o :: rest) a w := by
  obtain ⟨D, h1, h2, h3, h4⟩ := h
  refine wpList_len_own w hg mo t hop kt e ht rawR b m D hm h1 ?_
  rw [h3]
  exact hK
end
end Go.Lap
