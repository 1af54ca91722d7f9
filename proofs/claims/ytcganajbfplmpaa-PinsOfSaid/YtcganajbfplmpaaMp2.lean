/- Maps, whatever their elements: range over a map, and how many entries there are. -/
import Derived.Test.YtcganajbfplmpaaMp
import Derived.Maps.RangeWalk
import Derived.Maps.Ext
namespace Go.Lap
open Go Go.RowKit
set_option linter.unusedVariables false
set_option linter.unusedSectionVars false

/-- Every key of the type is one of ours. -/
structure KeyI (P : Program) (kt : TypeId) {κ : Type} (val : κ → Value) (lit : κ → Lit) (ok : κ → Prop) : Prop extends KeyB P kt val lit ok where
  inv : ∀ key kl, keyOf P kt key = some kl → ∃ x, ok x ∧ key = val x ∧ kl = lit x

theorem keyII {P : Program} {kt : TypeId} (hk : P.underlying kt = some (.int .i64)) : KeyI P kt (fun n : Int => .int .i64 n) (fun n => .int .i64 n) (fun n => (Lit.int .i64 n).wf = true) where
  toKeyB := keyI hk
  inv := fun key kl h => by
    obtain ⟨x, rfl, rfl, hw⟩ := Maps.keyOf_int_inv hk h
    exact ⟨x, hw, rfl, rfl⟩
theorem keyUI {P : Program} {kt : TypeId} (hk : P.underlying kt = some (.int .u64)) : KeyI P kt (fun n : Nat => .int .u64 (n : Int)) (fun n => .int .u64 (n : Int)) (fun n => (Lit.int .u64 (n : Int)).wf = true) where
  toKeyB := keyU hk
  inv := fun key kl h => by
    obtain ⟨x, rfl, rfl, hw⟩ := Maps.keyOf_int_inv hk h
    have hx : 0 ≤ x := by simp [Lit.wf, IntKind.min, IntKind.signed] at hw; omega
    obtain ⟨n, rfl⟩ : ∃ n : Nat, x = (n : Int) := ⟨x.toNat, by omega⟩
    exact ⟨n, hw, rfl, rfl⟩
theorem keyOf_str {P : Program} {kt : TypeId} (hk : P.underlying kt = some .string) {s : ByteArray} (h : s.size ≤ maxLen) : keyOf P kt (.string s) = some (.string s.data.toList) := by
  simp [keyOf, hk, mapKey, h]
theorem keySI {P : Program} {kt : TypeId} (hk : P.underlying kt = some .string) : KeyI P kt (fun s : ByteArray => .string s) (fun s => .string s.data.toList) (fun s => s.size ≤ maxLen) where
  toKeyB := { keyed := Maps.string_keyed hk, read := fun k h => keyOf_str hk h, ne := fun a b _ _ hne e => hne (by
    injection e with e
    have : a.data = b.data := Array.toList_inj.1 e
    cases a; cases b; simp_all) }
  inv := fun key kl h => by
    cases key <;> simp [keyOf, hk, mapKey] at h
    obtain ⟨hs, rfl⟩ := h
    exact ⟨_, hs, rfl, rfl⟩

section
variable {P : Program} {kt : TypeId} {κ : Type} [DecidableEq κ] {val : κ → Value} {lit : κ → Lit} {ok : κ → Prop}
variable {w w' : World} {b m : Nat} {f : κ → Option Value}

theorem has_true_of_mem {es : List (Lit × DataW Value)} {p : Lit × DataW Value} (hp : p ∈ es) (hk : WideAt.IsKeyLit p.1) : Maps.has (.map es) p.1 = true := List.any_eq_true.2 ⟨p, hp, WideAt.sameKey_self hk⟩

/-- The keys as a list. -/
theorem MpAt.keys (I : KeyI P kt val lit ok) (h : MpAt P kt lit ok w b m f) : ∃ l : List κ, l.Nodup ∧ l.length = m ∧ (∀ k ∈ l, ok k) ∧ ∀ k, ok k → ((f k).isSome = true ↔ k ∈ l) := by
  obtain ⟨D, h1, h2, h3, h4⟩ := h
  have hx : ∃ es : List (Lit × DataW Value), D = .map es ∧ es.Pairwise (fun p q => p.1 ≠ q.1) ∧ ∀ p ∈ es, WideAt.IsKeyLit p.1 ∧ ∃ x, ok x ∧ p.1 = lit x := by
    obtain ⟨es, hD, hpw, hkl⟩ := h1.entries I.keyed
    refine ⟨es, hD, hpw, fun p hp => ⟨hkl p hp, ?_⟩⟩
    obtain ⟨es', clock, _, F, _, hD'⟩ := h1
    rw [hD] at hD'
    injection hD' with hD'
    subst hD'
    obtain ⟨x, hx, rfl⟩ := List.mem_map.1 (mem_sorted.1 hp)
    obtain ⟨y, hy⟩ := F.reads x hx
    rw [WideElems.rg_of hy]
    obtain ⟨z, hz, _, hl⟩ := I.inv _ _ (WideElems.rd_key hy)
    exact ⟨z, hz, hl⟩
  obtain ⟨es, rfl, hpw, hes⟩ := hx
  clear h1 h2
  have hl : ∃ l : List κ, l.map lit = es.map (·.1) ∧ ∀ k ∈ l, ok k := by
    clear h3 h4 hpw
    induction es with
    | nil => exact ⟨[], rfl, by simp⟩
    | cons p es ih =>
      obtain ⟨l, h1, h2⟩ := ih (fun q hq => hes q (List.mem_cons_of_mem _ hq))
      obtain ⟨_, x, hx, hp⟩ := hes p (List.mem_cons_self ..)
      exact ⟨x :: l, by rw [List.map_cons, List.map_cons, h1, hp], fun k hk => by
        rcases List.mem_cons.1 hk with rfl | hk
        · exact hx
        · exact h2 k hk⟩
  obtain ⟨l, hle, hok⟩ := hl
  have hnd : (es.map (·.1)).Nodup := by rw [List.Nodup, List.pairwise_map]; exact hpw
  refine ⟨l, ?_, ?_, hok, ?_⟩
  · rw [← hle] at hnd
    rw [List.Nodup, List.pairwise_map] at hnd
    exact hnd.imp fun h e => h (by rw [e])
  · have := congrArg List.length hle
    rw [List.length_map, List.length_map] at this
    rw [this, ← h3]
    rfl
  · intro k hk
    rw [← (h4 k hk).1]
    constructor
    · intro hh
      obtain ⟨p, hp, hs⟩ := List.any_eq_true.1 hh
      have he := WideAt.sameKey_eq hs
      have : lit k ∈ l.map lit := by rw [hle]; exact List.mem_map.2 ⟨p, hp, he⟩
      obtain ⟨j, hj, hjk⟩ := List.mem_map.1 this
      have : j = k := Decidable.byContradiction fun hne => I.ne j k (hok j hj) hk hne hjk
      rw [← this]; exact hj
    · intro hm
      have : lit k ∈ es.map (·.1) := by rw [← hle]; exact List.mem_map.2 ⟨k, hm, rfl⟩
      obtain ⟨p, hp, he⟩ := List.mem_map.1 this
      rw [← he]
      exact has_true_of_mem hp (hes p hp).1

/-- How many there are hangs on which there are. -/
theorem MpAt.count (I : KeyI P kt val lit ok) {w₂ : World} {b₂ m₂ : Nat} {f₂ : κ → Option Value} (h : MpAt P kt lit ok w b m f) (h₂ : MpAt P kt lit ok w₂ b₂ m₂ f₂) (he : ∀ k, ok k → (f k).isSome = (f₂ k).isSome) : m = m₂ := by
  obtain ⟨l, h1, h3, h4, h5⟩ := h.keys I
  obtain ⟨l₂, g1, g3, g4, g5⟩ := h₂.keys I
  rw [← h3, ← g3]
  refine ((List.perm_ext_iff_of_nodup h1 g1).2 fun k => ?_).length_eq
  constructor
  · intro hk
    have hok := h4 k hk
    exact (g5 k hok).1 (by rw [← he k hok]; exact (h5 k hok).2 hk)
  · intro hk
    have hok := g4 k hk
    exact (h5 k hok).1 (by rw [he k hok]; exact (g5 k hok).2 hk)

/-- A range over the map under way: left says which keys are still to come. -/
def MpRg (P : Program) (kt : TypeId) (lit : κ → Lit) (ok : κ → Prop) (w : World) (b r m : Nat) (f : κ → Option Value) (left : κ → Bool) (cnt : Nat) : Prop :=
  ∃ (D : DataW Value) (L : Lit → Bool), w.ranges P kt rawR b r m D L cnt ∧ Maps.Tidy D ∧ Maps.size D = m ∧ (∀ k, ok k → Maps.has D (lit k) = (f k).isSome ∧ ∀ v, f k = some v → ∀ z, D.atKey (lit k) z = .held v) ∧ ∀ k, ok k → L (lit k) = left k

theorem MpRg.lt {r cnt : Nat} {left : κ → Bool} (h : MpRg P kt lit ok w b r m f left cnt) : r < w.heap.size := let ⟨_, _, h1, _⟩ := h; h1.lt
theorem MpRg.ltb {r cnt : Nat} {left : κ → Bool} (h : MpRg P kt lit ok w b r m f left cnt) : b < w.heap.size := let ⟨_, _, h1, _⟩ := h; h1.owns.lt
theorem MpRg.ne {r cnt : Nat} {left : κ → Bool} (h : MpRg P kt lit ok w b r m f left cnt) : r ≠ b := let ⟨_, _, h1, _⟩ := h; h1.ne
theorem MpRg.left_eq {r cnt : Nat} {left : κ → Bool} (h : MpRg P kt lit ok w b r m f left cnt) : w.rangeLeft b r = cnt := let ⟨_, _, h1, _⟩ := h; h1.left_eq
theorem MpRg.at {r cnt : Nat} {left : κ → Bool} (h : MpRg P kt lit ok w b r m f left cnt) : MpAt P kt lit ok w b m f := let ⟨D, _, h1, h2, h3, h4, _⟩ := h; ⟨D, h1.owns, h2, h3, h4⟩
theorem MpRg.upd {S : Nat → Prop} {r cnt : Nat} {left : κ → Bool} (h : MpRg P kt lit ok w b r m f left cnt) (hu : Upd S w w') (hb : ¬ S b) (hr : ¬ S r) : MpRg P kt lit ok w' b r m f left cnt := by
  have hb' := h.ltb
  have hr' := h.lt
  obtain ⟨D, L, ⟨es, clock, since, seen, c0, g1, F, hs, hD, g2, rest⟩, h2⟩ := h
  exact ⟨D, L, ⟨es, clock, since, seen, c0, (hu.block b hb' hb).trans g1, F, hs, hD, (hu.block r hr' hr).trans g2, rest⟩, h2⟩

variable {ops : Array Oper} {rest : List Oper} {o : Oper} {a : Act} {Q : Exit → Act → World → Prop}
/-- 'range m'. -/
theorem wpList_mp_range (B : KeyB P kt val lit ok) (hg : o.guard = none) (mo : Operand) (t e : TypeId) (hop : o.op = Op.range t mo) (ht : P.underlying t = some (.map kt e)) (hm : a.eval mo = .map (some b)) (h : MpAt P kt lit ok w b m f)
    (hK : ∀ w', MpRg P kt lit ok w' b w.heap.size m f (fun k => (f k).isSome) m → New w w' → w'.heap.size = w.heap.size + 1 → wpList P ops Q rest (a.put o.dst (.pointer (some ⟨w.heap.size, 0, none⟩))) w') : wpList P ops Q (o :: rest) a w := by
  obtain ⟨D, h1, h2, h3, h4⟩ := id h
  refine wpList_range_own w hg mo t hop kt e B.keyed ht rawR b m D hm h1 ?_
  intro w' hr hgr hs
  rw [h3] at hr
  exact hK w' ⟨D, _, hr, h2, h3, h4, fun k hk => (h4 k hk).1⟩ ((New.refl w).grown hgr (by simp)) hs

/-- The step. -/
theorem wpList_mp_next (I : KeyI P kt val lit ok) (hg : o.guard = none) (it : Operand) (hop : o.op = Op.next it false) {r cnt : Nat} {left : κ → Bool} (hit : a.eval it = .pointer (some ⟨r, 0, none⟩)) (h : MpRg P kt lit ok w b r m f left cnt)
    (hDone : cnt = 0 → (∀ k, ok k → left k = false) → wpList P ops Q rest (a.put o.dst (.tuple #[.bool false])) w)
    (hMore : ∀ (x : κ) (v : Value) (w' : World) (cnt' : Nat), ok x → left x = true → f x = some v → MpRg P kt lit ok w' b r m f (fun k => left k && !decide (k = x)) cnt' → cnt' < cnt → Upd (· = r) w w' → w'.heap.size = w.heap.size →
      (Instr.entry (.pointer (some ⟨r, 0, none⟩))).run P w' = .ok (.tuple #[val x, v]) w' → wpList P ops Q rest (a.put o.dst (.tuple #[.bool true, val x, v])) w') :
    wpList P ops Q (o :: rest) a w := by
  obtain ⟨D, L, h1, h2, h3, h4, h5⟩ := h
  refine wpList_plain hg fun K' hK' => ?_
  unfold Oper.wp
  rcases h1.next I.keyed o.type with ⟨h0, hl, hrun⟩ | ⟨key, v, kl, y, w', cnt', hkey, hlk, hv, hat, hrun, hrg, hlt, hgr, hsz, hen⟩
  · simp [execOp, hop, hit, hrun, Result.andThen]
    exact hK' _ _ (hDone h0 fun k hk => by rw [← h5 k hk]; exact hl _)
  · obtain ⟨x, hx, rfl, rfl⟩ := I.inv _ _ hkey
    have hsome : (f x).isSome = true := by rw [← (h4 x hx).1]; exact Maps.has_true_of_atKey hat
    obtain ⟨u, hu⟩ := Option.isSome_iff_exists.1 hsome
    have huv : u = v := by
      have e1 := (h4 x hx).2 u hu .nil
      rw [hat] at e1
      unfold rawR at hv
      injection hv with hv
      rw [← hv] at e1
      injection e1 with e1
      exact e1.symm
    subst huv
    simp [execOp, hop, hit, hrun, Result.andThen]
    refine hK' _ _ (hMore x u w' cnt' hx (by rw [← h5 x hx]; exact hlk) hu ⟨D, _, hrg, h2, h3, h4, fun k hk => ?_⟩ hlt ⟨hgr.os, hgr.tape, hgr.output, hgr.size, fun i hi hn => hgr.block i hi (by simpa using hn)⟩ hsz hen)
    dsimp only
    rw [h5 k hk]
    congr 1
    by_cases hkx : k = x
    · subst hkx
      rw [WideAt.sameKey_self (I.keyed.key hkey)]; simp
    · have : (lit k).sameKey (lit x) = false := by
        cases hs : (lit k).sameKey (lit x)
        · rfl
        · exact absurd (WideAt.sameKey_eq hs) (I.ne k x hk hx hkx)
      rw [this]; simp [hkx]
/-- 'delete(m, k)' in the round. -/
theorem wpList_mp_rdel (I : KeyI P kt val lit ok) (hg : o.guard = none) (mo x : Operand) (t e : TypeId) (hop : o.op = Op.call { callee := Callee.builtin Builtin.delete, args := #[mo, x], argTypes := #[t, kt] }) (ht : P.underlying t = some (.map kt e))
    (hm : a.eval mo = .map (some b)) {r cnt : Nat} {left : κ → Bool} (h : MpRg P kt lit ok w b r m f left cnt) (k : κ) (hk : ok k) (hx : a.eval x = val k)
    (hK : ∀ w' cnt', MpRg P kt lit ok w' b r (if (f k).isSome then m - 1 else m) (fun j => if j = k then none else f j) (fun j => left j && !decide (j = k)) cnt' → cnt' ≤ cnt → w.grownBy w' (some b) → wpList P ops Q rest (a.put o.dst (.tuple #[])) w') : wpList P ops Q (o :: rest) a w := by
  obtain ⟨D, L, h1, h2, h3, h4, h5⟩ := h
  refine wpList_delete_ranges w hg mo x t kt hop e I.keyed ht rawR b r m D L cnt hm h1 (val k) (lit k) hx (I.read k hk) ?_
  intro w' cnt' hrg hle hturn
  have hsz : Maps.size (D.del (lit k)) = if (f k).isSome then m - 1 else m := by
    have := Maps.size_del (k := lit k) h2
    rw [(h4 k hk).1, h3] at this
    split at this <;> simp_all <;> omega
  have htight : ∀ {n n' : Nat} {E : DataW Value} {L' : Lit → Bool}, w'.ranges P kt rawR b r n E L' cnt' → Maps.size E = n' → w'.ranges P kt rawR b r n' E L' cnt' := by
    rintro n n' E L' ⟨es, clock, since, seen, c0, g1, F, hs, rfl, rest⟩ rfl
    exact ⟨es, clock, since, seen, c0, g1, F, by rw [Maps.size_eq, length_sorted]; simp, rfl, rest⟩
  refine hK w' cnt' ⟨D.del (lit k), _, htight hrg hsz, h2.del _, hsz, fun j hj => ?_, fun j hj => ?_⟩ hle hturn.grown
  · by_cases hjk : j = k
    · subst hjk
      dsimp only
      rw [if_pos rfl]
      exact ⟨by rw [Maps.has_del_same]; rfl, fun u hu => by cases hu⟩
    · have hne := I.ne j k hj hk hjk
      dsimp only
      rw [if_neg hjk]
      exact ⟨by rw [Maps.has_del_other hne]; exact (h4 j hj).1, fun u hu z => by rw [Maps.atKey_del_other hne]; exact (h4 j hj).2 u hu z⟩
  · dsimp only
    rw [h5 j hj]
    congr 1
    by_cases hjk : j = k
    · subst hjk
      rw [WideAt.sameKey_self (I.keyed.key (I.read j hk))]; simp
    · have : (lit j).sameKey (lit k) = false := by
        cases hs : (lit j).sameKey (lit k)
        · rfl
        · exact absurd (WideAt.sameKey_eq hs) (I.ne j k hj hk hjk)
      rw [this]; simp [hjk]
end
end Go.Lap
