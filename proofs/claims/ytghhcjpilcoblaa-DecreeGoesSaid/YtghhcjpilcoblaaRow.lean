/- Rows: slices that are somebody's own, from any place in their block on (x[k:], x[:n:n]); what append and clear make of them. -/
import Derived.Test.YtghhcjpilcoblaaSl
import Derived.Deep.AppendSrc
namespace Go.Lap
open Go.RowKit
set_option linter.unusedVariables false

/-- The slice value v is a row of its own (a block from base on), and holds l. -/
def Row {α : Type} (w : World) (base : Nat) (e : TypeId) (size : Nat) (enc : α → List Value) (v : Value) (l : List α) : Prop :=
  (v = .slice none 0 0 ∧ l = []) ∨ ∃ g off cap cur, v = .slice (some ⟨g, off, none⟩) l.length cap ∧ base ≤ g ∧ Blk w g e cur ∧ l.length ≤ cap ∧ cap ≤ maxLen ∧ off + cap * size ≤ cur.size ∧ (cur.toList.drop off).take (l.length * size) = l.flatMap enc

section
variable {α : Type} {enc : α → List Value} {size : Nat} {l m : List α} {w w' : World} {v vx : Value} {base : Nat} {e : TypeId}

theorem Row.nil (w : World) (base : Nat) (e : TypeId) (size : Nat) (enc : α → List Value) : Row w base e size enc (.slice none 0 0) ([] : List α) := .inl ⟨rfl, rfl⟩
theorem Owns.row (h : Owns w base e size enc v l) : Row w base e size enc v l := by
  rcases h.2 with ⟨rfl, hn⟩ | ⟨g, cap, cur, rfl, hg, hh, hnc, hm, hcur, htake⟩
  · exact .inl ⟨rfl, List.eq_nil_of_length_eq_zero hn⟩
  · exact .inr ⟨g, 0, cap, cur, rfl, hg, hh, hnc, hm, by omega, by rw [List.drop_zero]; exact htake⟩
theorem Row.slIn (hE : Enc enc size) (h : Row w base e size enc v l) : SlIn w size enc v l := by
  rcases h with ⟨rfl, rfl⟩ | ⟨g, off, cap, cur, rfl, hg, hh, hnc, hm, hcur, htake⟩
  · exact ⟨none, 0, rfl, Nat.le_refl _, .inl rfl⟩
  · refine ⟨_, cap, rfl, hnc, .inr ⟨g, off, rfl, Blk.lt hh, fun k x hx j u hu => ?_⟩⟩
    have hj : j < size := by rw [← (hE x).1]; exact (List.getElem?_eq_some_iff.1 hu).1
    have h1 := flat_get hE l k x j hx hj
    rw [hu, ← htake, List.getElem?_take] at h1
    split at h1
    · rw [List.getElem?_drop, ← Nat.add_assoc] at h1
      rw [Blk.cell hh]
      simpa using h1
    · cases h1
theorem Row.shape (h : Row w base e size enc v l) : ∃ A c, v = .slice A l.length c := by
  rcases h with ⟨rfl, rfl⟩ | ⟨g, off, cap, cur, rfl, _⟩
  · exact ⟨_, _, rfl⟩
  · exact ⟨_, _, rfl⟩
theorem Row.shp (h : Row w base e size enc v l) : ∃ A n c, v = .slice A n c := by obtain ⟨A, c, h⟩ := h.shape; exact ⟨A, _, c, h⟩
theorem Row.new (h : Row w base e size enc v l) (hn : New w w') : Row w' base e size enc v l := by
  rcases h with h | ⟨g, off, cap, cur, hv, hg, hh, r⟩
  · exact .inl h
  · exact .inr ⟨g, off, cap, cur, hv, hg, hh.new hn, r⟩
theorem Row.upd {S : Nat → Prop} (h : Row w base e size enc v l) (hu : Upd S w w') (hS : ∀ k, v.ownBlock = some k → ¬ S k) : Row w' base e size enc v l := by
  rcases h with h | ⟨g, off, cap, cur, hv, hg, hh, r⟩
  · exact .inl h
  · exact .inr ⟨g, off, cap, cur, hv, hg, hh.upd hu (hS g (by rw [hv]; rfl)), r⟩
theorem Row.lower {b' : Nat} (h : Row w base e size enc v l) (hb : b' ≤ base) : Row w b' e size enc v l := by
  rcases h with h | ⟨g, off, cap, cur, hv, hg, r⟩
  · exact .inl h
  · exact .inr ⟨g, off, cap, cur, hv, by omega, r⟩
theorem Row.lt (h : Row w base e size enc v l) : ∀ k, v.ownBlock = some k → base ≤ k ∧ k < w.heap.size := by
  intro k hk
  rcases h with ⟨rfl, _⟩ | ⟨g, off, cap, cur, rfl, hg, hh, _⟩
  · cases hk
  · cases hk; exact ⟨hg, hh.lt⟩
/-- From its own block on. -/
theorem Row.own {b' : Nat} (h : Row w base e size enc v l) (hb : ∀ k, v.ownBlock = some k → b' ≤ k) : Row w b' e size enc v l := by
  rcases h with h | ⟨g, off, cap, cur, hv, hg, r⟩
  · exact .inl h
  · exact .inr ⟨g, off, cap, cur, hv, hb g (by rw [hv]; rfl), r⟩
theorem Row.ne_blk {g t : Nat} {cs : Array Value} (h : Row w base e size enc v l) (hb : Blk w g t cs) (hne : e ≠ t) : v.ownBlock ≠ some g := by
  intro hk
  rcases h with ⟨rfl, _⟩ | ⟨g', off, cap, cur, rfl, hg, hh, _⟩
  · cases hk
  · cases hk; exact Blk.ne_ hh hb hne rfl
/-- x[k:] -/
theorem Row.drop {A : Option Addr} {n c k : Nat} (hE : Enc enc size) (h : Row w base e size enc (.slice A n c) l) (hk : k ≤ l.length) :
    Row w base e size enc (.slice (if c = k then A else A.map (·.add (k * size))) (n - k) (c - k)) (l.drop k) := by
  rcases h with ⟨hv, rfl⟩ | ⟨g, off, cap, cur, hv, hg, hh, hnc, hm, hcur, htake⟩
  · injection hv with h1 h2 h3
    subst h1 h2 h3
    have hk0 : k = 0 := by simpa using hk
    subst hk0
    exact .inl ⟨rfl, rfl⟩
  · injection hv with h1 h2 h3
    subst h1 h2 h3
    have hmul : k * size + (c - k) * size = c * size := by rw [← Nat.add_mul]; congr 1; omega
    by_cases hck : c = k
    · rw [if_pos hck]
      have hlk : l.length = k := by omega
      refine .inr ⟨g, off, c - k, cur, by rw [List.length_drop], hg, hh, by rw [List.length_drop]; omega, by omega, by rw [hck, Nat.sub_self]; simp; omega, ?_⟩
      rw [List.drop_eq_nil_of_le (by omega)]
      simp
    · rw [if_neg hck]
      refine .inr ⟨g, off + k * size, c - k, cur, ?_, hg, hh, by rw [List.length_drop]; omega, by omega, by omega, ?_⟩
      · rw [List.length_drop]
        simp only [Option.map, Addr.add]
        split
        · rename_i hz; rw [hz]; rfl
        · rfl
      · have hs : l.flatMap enc = (l.take k).flatMap enc ++ (l.drop k).flatMap enc := by rw [← List.flatMap_append, List.take_append_drop]
        have hlt := flat_length hE (l.take k)
        rw [List.length_take, Nat.min_eq_left hk] at hlt
        have h2 := congrArg (List.drop (k * size)) htake
        rw [hs, List.drop_left' hlt, List.drop_take, List.drop_drop] at h2
        rw [List.length_drop, Nat.sub_mul]
        exact h2
/-- x[:k], x[:k:c'] -/
theorem Row.take {A : Option Addr} {n c k c' : Nat} (hE : Enc enc size) (h : Row w base e size enc (.slice A n c) l) (hk : k ≤ l.length) (hkc : k ≤ c') (hc : c' ≤ c) : Row w base e size enc (.slice A k c') (l.take k) := by
  rcases h with ⟨hv, rfl⟩ | ⟨g, off, cap, cur, hv, hg, hh, hnc, hm, hcur, htake⟩
  · injection hv with h1 h2 h3
    subst h1 h2 h3
    have hk0 : k = 0 := by simpa using hk
    subst hk0
    obtain rfl : c' = 0 := by omega
    exact .inl ⟨rfl, rfl⟩
  · injection hv with h1 h2 h3
    subst h1 h2 h3
    have hle : c' * size ≤ c * size := Nat.mul_le_mul_right _ hc
    refine .inr ⟨g, off, c', cur, by rw [List.length_take, Nat.min_eq_left hk], hg, hh, by rw [List.length_take]; omega, by omega, by omega, ?_⟩
    have hs : l.flatMap enc = (l.take k).flatMap enc ++ (l.drop k).flatMap enc := by rw [← List.flatMap_append, List.take_append_drop]
    have hlt := flat_length hE (l.take k)
    have hlk : (l.take k).length = k := by rw [List.length_take, Nat.min_eq_left hk]
    rw [hlk] at hlt ⊢
    have hkk : k * size ≤ l.length * size := Nat.mul_le_mul_right _ hk
    have h2 := congrArg (List.take (k * size)) htake
    rw [hs, List.take_left' hlt, List.take_take, Nat.min_eq_left hkk] at h2
    exact h2

/-- Stores behind a row's end, or ahead of it, in its block leave it as it is. -/
theorem Row.turned {g off cap : Nat} {cur cur' : Array Value} {k : Nat} (hv : v = .slice (some ⟨g, off, none⟩) l.length cap) (hg : base ≤ g) (hh : Blk w' g e cur') (hnc : l.length ≤ cap) (hm : cap ≤ maxLen) (hcur : off + cap * size ≤ cur'.size)
    (ht : (cur'.toList.drop off).take (l.length * size) = l.flatMap enc) : Row w' base e size enc v l := .inr ⟨g, off, cap, cur', hv, hg, hh, hnc, hm, hcur, ht⟩

variable {P : Program} {t : TypeId} {z : Value} {bytes : Nat} (w)

theorem SlIn.src (hT : SlTy P t e z size bytes) (hE : Enc enc size) (h : SlIn w size enc vx m) : Src P size t vx m.length (m.flatMap enc) w := by
  obtain ⟨A, c, rfl, _, h⟩ := h
  have hz : ∀ (w' : World), (Builtin.firstCells size 0 (.slice A 0 c)).run P w' = .ok #[] w' := fun w' => by
    cases A with
    | none => exact run_firstCells_none w' size 0 0 c
    | some a => exact run_firstCells_some w' size 0 a 0 c [] (by simp) (fun j u hu => by simp at hu)
  rcases h with rfl | ⟨b, off, rfl, hb, h⟩
  · exact ⟨.inl ⟨_, hT.1⟩, fun _ => rfl, hz w, hz w.drew, by simp, fun u hu => by simp at hu⟩
  · exact Src.ofSlice w hT.1 ⟨b, off, none⟩ m.length c (m.flatMap enc) (flat_length hE m) (SlIn.cells hE hT.2.2.2 h) (flat_one hE m)

/-- append(v, x...) at a row. -/
theorem run_appR (hT : SlTy P t e z size bytes) (hE : Enc enc size) (ty : TypeId) (hown : Row w base e size enc v l) (hsrc : SlIn w size enc vx m)
    (h63 : l.length + m.length ≤ maxLen) (hbytes : (l.length + m.length) * bytes ≤ 140737488355328) (hbase : base ≤ w.heap.size) :
    ∃ v' w', (Builtin.append_ #[t, t] ty #[v, vx]).run P w = .ok v' w' ∧ Row w' base e size enc v' (l ++ m) ∧ w.grownBy w' v.ownBlock ∧ (v'.ownBlock = v.ownBlock ∨ v'.ownBlock = some w.heap.size) := by
  have hs := SlIn.src w hT hE hsrc
  obtain ⟨ht, hinfo, hzs, hsz⟩ := hT
  obtain ⟨i, hi, hii⟩ := Option.map_eq_some_iff.1 hinfo
  simp only [Prod.mk.injEq] at hii
  obtain ⟨hz, hsize, hby⟩ := hii
  subst hsize
  subst hby
  have hsmall : l.length + m.length ≤ 9223372036854775807 := by simp only [maxLen] at h63; omega
  have hlf := flat_length hE l
  have hmf := flat_length hE m
  -- a new row
  have grow : ∀ (bs : Option Addr) (sc : Nat), v = .slice bs l.length sc → sc < l.length + m.length → (Builtin.firstCells i.size l.length (.slice bs l.length sc)).run P w.drew = .ok (l.flatMap enc).toArray w.drew →
      ∃ v' w', (Builtin.append_ #[t, t] ty #[v, vx]).run P w = .ok v' w' ∧ Row w' base e i.size enc v' (l ++ m) ∧ w.grownBy w' v.ownBlock ∧ (v'.ownBlock = v.ownBlock ∨ v'.ownBlock = some w.heap.size) := by
    rintro bs sc rfl hg hold
    have hrun := run_append_grow_src (P := P) w t t ty e i z ht hi hz bs l.length sc (l.flatMap enc) hold vx m.length (m.flatMap enc) hs hg (by omega) (growslice_fits hg hbytes)
    have hge := grownCap_ge w (l.length + m.length) sc e
    refine ⟨_, _, hrun, ?_, ?_, .inr rfl⟩
    · refine .inr ⟨w.heap.size, 0, grownCap w (l.length + m.length) sc e, _, by rw [List.length_append], hbase, Blk.mk_new w.drew _ _, by rw [List.length_append]; exact hge, grownCap_le_maxLen _ _ _ _ h63, ?_, ?_⟩
      · have e1 : (l.length + m.length) * i.size + (grownCap w (l.length + m.length) sc e - (l.length + m.length)) * i.size = grownCap w (l.length + m.length) sc e * i.size := by rw [← Nat.add_mul]; congr 1; omega
        rw [Array.size_append, List.size_toArray, List.length_append, hlf, hmf, size_zeroCells, hzs]
        rw [Nat.add_mul] at e1
        omega
      · rw [List.drop_zero, Array.toList_append, List.flatMap_append, List.take_left']
        rw [List.length_append, List.length_append, hlf, hmf, Nat.add_mul]
    · exact ⟨rfl, rfl, rfl, by simp, fun k hk _ => Below.heap_alloc w.drew _ k hk⟩
  rcases hown with ⟨rfl, rfl⟩ | ⟨g, off, cap, cur, rfl, hg, hh, hnc, hm, hcur, htake⟩
  · by_cases hm0 : m.length = 0
    · have hmn : m = [] := List.eq_nil_of_length_eq_zero hm0
      subst hmn
      refine ⟨.slice none 0 0, w, ?_, .inl ⟨rfl, rfl⟩, World.grownBy.refl w _, .inl rfl⟩
      have c0 : (Builtin.firstCells i.size 0 vx).run P w = .ok #[] w := hs.cells
      have c1 : ∀ w', (Builtin.lenOf vx).run P w' = .ok 0 w' := hs.len
      simp [Builtin.append_, run_underlying ht, sizeOf, typeInfo, hi, c1, c0]
    · exact grow none 0 rfl (by simp; omega) (by simpa using run_firstCells_none w.drew i.size 0 0 0)
  · have hcells : ∀ j u, (l.flatMap enc)[j]? = some u → w.cell? ((⟨g, off, none⟩ : Addr).add j) = some u := by
      intro j u hu
      rw [← htake, List.getElem?_take] at hu
      split at hu
      · rw [List.getElem?_drop] at hu
        have hadd : (⟨g, off, none⟩ : Addr).add j = ⟨g, off + j, none⟩ := by unfold Addr.add; split <;> simp_all
        rw [hadd, hh.cell]
        simpa using hu
      · cases hu
    by_cases hroom : l.length + m.length ≤ cap
    · have hmul : l.length * i.size + m.length * i.size ≤ cap * i.size := by rw [← Nat.add_mul]; exact Nat.mul_le_mul_right _ hroom
      have hst := run_storeCells_at P g (off + l.length * i.size) e (m.flatMap enc) 0 cur w hh (by rw [hmf]; omega) (flat_one hE m)
      simp only [Nat.add_zero] at hst
      have hrun : (Builtin.append_ #[t, t] ty #[.slice (some ⟨g, off, none⟩) l.length cap, vx]).run P w = .ok (.slice (some ⟨g, off, none⟩) (l.length + m.length) cap) (w.setRow g (cur.toList.take (off + l.length * i.size) ++ m.flatMap enc ++ cur.toList.drop (off + l.length * i.size + (m.flatMap enc).length)).toArray) := by
        rcases hs.kind with ⟨e', hk⟩ | hk <;> simp [Builtin.append_, run_underlying ht, sizeOf, typeInfo, hi, hs.len, hroom, hs.cells, Addr.add_lit, hst]
      refine ⟨_, _, hrun, ?_, ?_, .inl rfl⟩
      · have hcl : cur.toList.length = cur.size := Array.length_toList
        refine .inr ⟨g, off, cap, _, by rw [List.length_append], hg, setRow_heap w g _ _ e _ hh, by rw [List.length_append]; exact hroom, hm, ?_, ?_⟩
        · rw [List.size_toArray, List.length_append, List.length_append, List.length_take, List.length_drop, hmf, hcl]
          omega
        · rw [List.length_append, Nat.add_mul, List.flatMap_append]
          have e1 : cur.toList.take (off + l.length * i.size) = cur.toList.take off ++ l.flatMap enc := by rw [List.take_add, htake]
          rw [e1]
          simp only [List.append_assoc]
          rw [List.drop_left' (by rw [List.length_take, hcl]; omega), ← List.append_assoc, List.take_left' (by rw [List.length_append, hlf, hmf])]
      · exact ⟨rfl, rfl, rfl, by simp [World.setRow], fun k _ hk => setRow_other w g k _ (fun hkg => hk (by rw [hkg]; rfl))⟩
    · refine grow _ cap rfl (by omega) ?_
      exact run_firstCells_some w.drew i.size l.length ⟨g, off, none⟩ l.length cap (l.flatMap enc) hlf (by simpa using hcells)

variable {w}
theorem wpList_appR {ops : Array Oper} {rest : List Oper} {o : Oper} {a : Act} {Q : Exit → Act → World → Prop} (hT : SlTy P t e z size bytes) (hE : Enc enc size) (hgd : o.guard = none) (s x : Operand)
    (ho : o.op = .call { callee := .builtin .append, args := #[s, x], argTypes := #[t, t] }) (hs : a.eval s = v) (hx : a.eval x = vx) (hown : Row w base e size enc v l) (hsrc : SlIn w size enc vx m)
    (h63 : l.length + m.length ≤ maxLen) (hbytes : (l.length + m.length) * bytes ≤ 140737488355328) (hbase : base ≤ w.heap.size)
    (h : ∀ v' w', Row w' base e size enc v' (l ++ m) → w.grownBy w' v.ownBlock → (v'.ownBlock = v.ownBlock ∨ v'.ownBlock = some w.heap.size) → wpList P ops Q rest (a.put o.dst v') w') : wpList P ops Q (o :: rest) a w := by
  refine wpList_plain hgd fun K hK => ?_
  obtain ⟨v', w', hrun, h2, h3, h4⟩ := run_appR (P := P) w hT hE o.type hown hsrc h63 hbytes hbase
  unfold Oper.wp execOp
  simp only [ho, resolve, invoke, builtin, Sem.run_bind, Sem.run_pure, Result.andThen_ok, List.map_toArray, List.map_cons, List.map_nil, hs, hx, hrun]
  exact hK _ _ (h v' w' h2 h3 h4)
theorem step_appR {ops : Array Oper} {o : Oper} {a : Act} {K : Act → World → Prop} {Q : Exit → Act → World → Prop} {E : Prop} (hT : SlTy P t e z size bytes) (hE : Enc enc size) (hgd : o.guard = none) (s x : Operand)
    (ho : o.op = .call { callee := .builtin .append, args := #[s, x], argTypes := #[t, t] }) (hs : a.eval s = v) (hx : a.eval x = vx) (hown : Row w base e size enc v l) (hsrc : SlIn w size enc vx m)
    (h63 : l.length + m.length ≤ maxLen) (hbytes : (l.length + m.length) * bytes ≤ 140737488355328) (hbase : base ≤ w.heap.size)
    (h : ∀ v' w', Row w' base e size enc v' (l ++ m) → w.grownBy w' v.ownBlock → (v'.ownBlock = v.ownBlock ∨ v'.ownBlock = some w.heap.size) → K (a.put o.dst v') w') :
    if Region.wanted o (yielded ops a.tmps) = true then Oper.wp P o a w K Q else E := by
  have hw : Region.wanted o (yielded ops a.tmps) = true := by simp [Region.wanted, hgd]
  rw [if_pos hw]
  obtain ⟨v', w', hrun, h2, h3, h4⟩ := run_appR (P := P) w hT hE o.type hown hsrc h63 hbytes hbase
  unfold Oper.wp execOp
  simp only [ho, resolve, invoke, builtin, Sem.run_bind, Sem.run_pure, Result.andThen_ok, List.map_toArray, List.map_cons, List.map_nil, hs, hx, hrun]
  exact h v' w' h2 h3 h4
end
end Go.Lap
