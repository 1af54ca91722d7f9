/- Maps, whatever their elements: a map's block as a function from keys to values. -/
import Derived.Test.YtghhcjpilcoblaaSl
import Derived.Maps.OwnSet
namespace Go.Lap
open Go Go.RowKit
set_option linter.unusedVariables false
set_option linter.unusedSectionVars false

/-- An element read as itself. -/
def rawR (v : Value) : Option (DataW Value × List MemPlace) := some (.held v, [])

/-- A key's type: how its keys read, which keys there are. -/
structure KeyB (P : Program) (kt : TypeId) {κ : Type} (val : κ → Value) (lit : κ → Lit) (ok : κ → Prop) : Prop where
  keyed : Maps.Keyed P kt
  read : ∀ k, ok k → keyOf P kt (val k) = some (lit k)
  ne : ∀ a b, ok a → ok b → a ≠ b → lit a ≠ lit b

theorem keyI {P : Program} {kt : TypeId} (hk : P.underlying kt = some (.int .i64)) : KeyB P kt (fun n : Int => .int .i64 n) (fun n => .int .i64 n) (fun n => (Lit.int .i64 n).wf = true) where
  keyed := Maps.int_keyed hk
  read := fun k h => Maps.keyOf_int_mk hk h
  ne := fun a b _ _ h e => h (by injection e)
theorem keyU {P : Program} {kt : TypeId} (hk : P.underlying kt = some (.int .u64)) : KeyB P kt (fun n : Nat => .int .u64 (n : Int)) (fun n => .int .u64 (n : Int)) (fun n => (Lit.int .u64 (n : Int)).wf = true) where
  keyed := Maps.int_keyed hk
  read := fun k h => Maps.keyOf_int_mk hk h
  ne := fun a b _ _ h e => h (by injection e with _ e; omega)

theorem ownsMap_tight {P : Program} {k : TypeId} {R : Value → Option (DataW Value × List MemPlace)} {w : World} {b n : Nat} {D : DataW Value} (h : w.ownsMap P k R b n D) : w.ownsMap P k R b (Maps.size D) D := by
  obtain ⟨es, clock, hb, F, hs, rfl⟩ := h
  exact ⟨es, clock, hb, F, by rw [Maps.size_eq, length_sorted]; simp, rfl⟩

section
variable {P : Program} {kt : TypeId} {κ : Type} [DecidableEq κ] {val : κ → Value} {lit : κ → Lit} {ok : κ → Prop}

/-- Block b is a map of m entries that holds f. -/
def MpAt (P : Program) (kt : TypeId) (lit : κ → Lit) (ok : κ → Prop) (w : World) (b m : Nat) (f : κ → Option Value) : Prop :=
  ∃ D : DataW Value, w.ownsMap P kt rawR b m D ∧ Maps.Tidy D ∧ Maps.size D = m ∧ ∀ k, ok k → Maps.has D (lit k) = (f k).isSome ∧ ∀ v, f k = some v → ∀ z, D.atKey (lit k) z = .held v

variable {w w' : World} {b m : Nat} {f : κ → Option Value}
theorem MpAt.lt (h : MpAt P kt lit ok w b m f) : b < w.heap.size := let ⟨_, h1, _⟩ := h; h1.lt
theorem MpAt.kept {row : Option Nat} (h : MpAt P kt lit ok w b m f) (hg : w.grownBy w' row) (hne : some b ≠ row) : MpAt P kt lit ok w' b m f := let ⟨D, h1, h2⟩ := h; ⟨D, h1.kept hg hne, h2⟩
theorem MpAt.upd {S : Nat → Prop} (h : MpAt P kt lit ok w b m f) (hu : Upd S w w') (hS : ¬ S b) : MpAt P kt lit ok w' b m f := by
  have hlt := h.lt
  obtain ⟨D, h1, h2⟩ := h
  obtain ⟨es, clock, hb, F, hs, hD⟩ := h1
  exact ⟨D, ⟨es, clock, (hu.block b hlt hS).trans hb, F, hs, hD⟩, h2⟩
theorem MpAt.new (h : MpAt P kt lit ok w b m f) (hn : New w w') : MpAt P kt lit ok w' b m f := h.upd (S := fun _ => False) (Upd.new hn) (fun x => x)
theorem MpAt.congr {g : κ → Option Value} (h : MpAt P kt lit ok w b m f) (hfg : ∀ k, ok k → f k = g k) : MpAt P kt lit ok w b m g := by
  obtain ⟨D, h1, h2, h3, h4⟩ := h
  exact ⟨D, h1, h2, h3, fun k hk => by rw [← hfg k hk]; exact h4 k hk⟩
/-- make(map[K]V): nothing is there. -/
theorem MpAt.made (P : Program) (kt : TypeId) (lit : κ → Lit) (ok : κ → Prop) (w : World) : MpAt P kt lit ok (w.alloc (.map #[] 0)) w.heap.size 0 (fun _ => none) :=
  ⟨.map [], World.ownsMap_made w P kt rawR, Maps.tidy_empty, rfl, fun k _ => ⟨rfl, fun v h => by cases h⟩⟩

theorem MpAt.value (h : MpAt P kt lit ok w b m f) {D : DataW Value} {k : κ} {z v : Value} {ps : List MemPlace} (hD : Maps.has D (lit k) = (f k).isSome ∧ ∀ v, f k = some v → ∀ z, D.atKey (lit k) z = .held v)
    (hv : rawR v = some (D.atKey (lit k) (.held z), ps)) : v = (f k).getD z := by
  unfold rawR at hv
  injection hv with hv
  injection hv with hv _
  cases hf : f k with
  | some u =>
    rw [hD.2 u hf] at hv
    injection hv
  | none =>
    have h0 : Maps.has D (lit k) = false := by rw [hD.1, hf]; rfl
    rw [Maps.atKey_of_not_has h0] at hv
    injection hv

variable {ops : Array Oper} {rest : List Oper} {o : Oper} {a : Act} {Q : Exit → Act → World → Prop}
/-- 'v, ok := m[k]'. -/
theorem wpList_mp_ok (B : KeyB P kt val lit ok) (hg : o.guard = none) (mo x : Operand) (t e : TypeId) (hop : o.op = Op.lookup t mo x true) (ht : P.underlying t = some (.map kt e)) {z : Value} (hz : (zeroValue e).run P w = .ok z w)
    (hm : a.eval mo = .map (some b)) (h : MpAt P kt lit ok w b m f) (k : κ) (hk : ok k) (hx : a.eval x = val k)
    (hK : wpList P ops Q rest (a.put o.dst (.tuple #[(f k).getD z, .bool (f k).isSome])) w) : wpList P ops Q (o :: rest) a w := by
  obtain ⟨D, h1, h2, h3, h4⟩ := id h
  refine wpList_lookup_own_ok w hg mo x t hop kt e B.keyed ht rawR hz (.held z) [] rfl b m D hm h1 (val k) (lit k) hx (B.read k hk) ?_
  intro v ps hv
  rw [h.value (h4 k hk) hv, (h4 k hk).1]
  exact hK
/-- 'm[k]'. -/
theorem wpList_mp_at (B : KeyB P kt val lit ok) (hg : o.guard = none) (mo x : Operand) (t e : TypeId) (hop : o.op = Op.lookup t mo x false) (ht : P.underlying t = some (.map kt e)) {z : Value} (hz : (zeroValue e).run P w = .ok z w)
    (hm : a.eval mo = .map (some b)) (h : MpAt P kt lit ok w b m f) (k : κ) (hk : ok k) (hx : a.eval x = val k)
    (hK : wpList P ops Q rest (a.put o.dst ((f k).getD z)) w) : wpList P ops Q (o :: rest) a w := by
  obtain ⟨D, h1, h2, h3, h4⟩ := id h
  refine wpList_plain hg fun K' hK' => ?_
  obtain ⟨v, ps, hrun, hv⟩ := h1.lookup B.keyed ht hz (zd := .held z) (zp := []) rfl (B.read k hk)
  rw [h.value (h4 k hk) hv] at hrun
  unfold Oper.wp
  simp [execOp, hop, hm, hx, hrun, Result.andThen]
  exact hK' _ _ hK
/-- One more entry, or another one. -/
theorem MpAt.put_of (B : KeyB P kt val lit ok) (h : MpAt P kt lit ok w b m f) {k : κ} (hk : ok k) (v : Value) {D : DataW Value} (hD : Maps.Tidy D) (hs : Maps.size D = m) (h4 : ∀ k, ok k → Maps.has D (lit k) = (f k).isSome ∧ ∀ v, f k = some v → ∀ z, D.atKey (lit k) z = .held v)
    {n : Nat} (h1 : w'.ownsMap P kt rawR b n (D.put (lit k) (.held v))) : MpAt P kt lit ok w' b (if (f k).isSome then m else m + 1) (fun j => if j = k then some v else f j) := by
  have hl := B.keyed.key (B.read k hk)
  have hsz : Maps.size (D.put (lit k) (.held v)) = if (f k).isSome then m else m + 1 := by rw [Maps.size_put hD, (h4 k hk).1, hs]
  refine ⟨_, by rw [← hsz]; exact ownsMap_tight h1, hD.put hl _, hsz, fun j hj => ?_⟩
  by_cases hjk : j = k
  · subst hjk
    dsimp only
    rw [if_pos rfl]
    exact ⟨by rw [Maps.has_put_same hD.isMap hl]; rfl, fun u hu z => by cases hu; exact Maps.atKey_put_same hD.isMap hl _ _⟩
  · have hne := B.ne j k hj hk hjk
    dsimp only
    rw [if_neg hjk]
    exact ⟨by rw [Maps.has_put_other hne]; exact (h4 j hj).1, fun u hu z => by rw [Maps.atKey_put_other hne]; exact (h4 j hj).2 u hu z⟩
/-- 'm[k] = v'. -/
theorem wpList_mp_put (B : KeyB P kt val lit ok) (hg : o.guard = none) (mo x vo : Operand) (t e : TypeId) (hop : o.op = Op.mapUpdate t mo x vo) (ht : P.underlying t = some (.map kt e))
    (hm : a.eval mo = .map (some b)) (h : MpAt P kt lit ok w b m f) (hmx : m < maxLen) (k : κ) (hk : ok k) (hx : a.eval x = val k) (v : Value) (hv : a.eval vo = v)
    (hK : ∀ w', MpAt P kt lit ok w' b (if (f k).isSome then m else m + 1) (fun j => if j = k then some v else f j) → w.grownBy w' (some b) → wpList P ops Q rest (a.put o.dst undef) w') : wpList P ops Q (o :: rest) a w := by
  obtain ⟨D, h1, h2, h3, h4⟩ := id h
  refine wpList_mapUpdate_own w hg mo x vo t hop kt e B.keyed ht rawR b m D hm h1 hmx (val k) v (lit k) hx hv (B.read k hk) (.held v) [] rfl ?_
  intro w' h1' hg'
  exact hK w' (h.put_of B hk v h2 h3 h4 h1') hg'
/-- 'delete(m, k)'. -/
theorem wpList_mp_del (B : KeyB P kt val lit ok) (hg : o.guard = none) (mo x : Operand) (t e : TypeId) (hop : o.op = Op.call { callee := Callee.builtin Builtin.delete, args := #[mo, x], argTypes := #[t, kt] }) (ht : P.underlying t = some (.map kt e))
    (hm : a.eval mo = .map (some b)) (h : MpAt P kt lit ok w b m f) (k : κ) (hk : ok k) (hx : a.eval x = val k)
    (hK : ∀ w', MpAt P kt lit ok w' b (if (f k).isSome then m - 1 else m) (fun j => if j = k then none else f j) → w.grownBy w' (some b) → wpList P ops Q rest (a.put o.dst (.tuple #[])) w') : wpList P ops Q (o :: rest) a w := by
  obtain ⟨D, h1, h2, h3, h4⟩ := id h
  refine wpList_delete_own w hg mo x t kt hop e B.keyed ht rawR b m D hm h1 (val k) (lit k) hx (B.read k hk) ?_
  intro w' h1' hg'
  have hsz : Maps.size (D.del (lit k)) = if (f k).isSome then m - 1 else m := by
    have := Maps.size_del (k := lit k) h2
    rw [(h4 k hk).1, h3] at this
    split at this <;> simp_all <;> omega
  refine hK w' ⟨_, by rw [← hsz]; exact ownsMap_tight h1', h2.del _, hsz, fun j hj => ?_⟩ hg'.grown
  by_cases hjk : j = k
  · subst hjk
    dsimp only
    rw [if_pos rfl]
    exact ⟨by rw [Maps.has_del_same]; rfl, fun u hu => by cases hu⟩
  · have hne := B.ne j k hj hk hjk
    dsimp only
    rw [if_neg hjk]
    exact ⟨by rw [Maps.has_del_other hne]; exact (h4 j hj).1, fun u hu z => by rw [Maps.atKey_del_other hne]; exact (h4 j hj).2 u hu z⟩
/-- 'len(m)'. -/
theorem wpList_mp_len (hg : o.guard = none) (mo : Operand) (t e : TypeId) (hop : o.op = Op.call { callee := Callee.builtin Builtin.len, args := #[mo], argTypes := #[t] }) (ht : P.underlying t = some (.map kt e))
    (hm : a.eval mo = .map (some b)) (h : MpAt P kt lit ok w b m f) (hK : wpList P ops Q rest (a.put o.dst (.int .i64 (m : Int))) w) : wpList P ops Q (o :: rest) a w := by
  obtain ⟨D, h1, h2, h3, h4⟩ := h
  refine wpList_len_own w hg mo t hop kt e ht rawR b m D hm h1 ?_
  rw [h3]
  exact hK
end
end Go.Lap
