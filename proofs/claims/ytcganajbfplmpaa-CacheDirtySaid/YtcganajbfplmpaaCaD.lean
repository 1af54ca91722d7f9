/- Chapter 11 (cache): plain laws of CacheDirty: what is dirty is told. -/
import Derived.Test.YtcganajbfplmpaaCaX
namespace Go.Proofs.Ytcganajbfplmpaa
open Go.RowKit Go.Lap
set_option linter.unusedVariables false

theorem mpGet {P : Program} {kt t e b m : Nat} {κ : Type} [DecidableEq κ] {val : κ → Value} {lit : κ → Lit} {ok : κ → Prop} {w : World} {f : κ → Option Value} (B : KeyB P kt val lit ok) (h : MpAt P kt lit ok w b m f) (ht : P.underlying t = some (.map kt e)) {z : Value} (hz : (zeroValue e).run P w = .ok z w) (k : κ) (hk : ok k) :
    (Instr.lookup t (.map (some b)) (val k) false).run P w = .ok ((f k).getD z) w := by
  obtain ⟨D, h1, h2, h3, h4⟩ := id h
  obtain ⟨v, ps, hrun, hv⟩ := h1.lookup B.keyed ht hz (zd := .held z) (zp := []) rfl (B.read k hk)
  rw [h.value (h4 k hk) hv] at hrun
  exact hrun

/-- Integers by numbers. -/
def updG (g : Int → Option Int) (k v : Int) (j : Int) : Option Int := if j = k then some v else g j
def valG (g : Int → Option Int) (j : Int) : Option Value := (g j).map (Value.int .i64)
theorem valG_upd (g : Int → Option Int) (k v : Int) : (fun j => if j = k then some (Value.int .i64 v) else valG g j) = valG (updG g k v) := by
  funext j
  unfold valG updG
  split <;> rfl
theorem valG_get (g : Int → Option Int) (j : Int) : (valG g j).getD (.int .i64 0) = .int .i64 ((g j).getD 0) := by
  unfold valG
  cases g j <;> rfl
theorem updG_at (g : Int → Option Int) (k v : Int) : (updG g k v k).getD 0 = v := by simp [updG]
theorem updG_ne (g : Int → Option Int) {k v j : Int} (h : j ≠ k) : updG g k v j = g j := by simp [updG, h]
/-- The numbers of the first k told: none. -/
def clrG (g : Int → Option Int) (D : List Ent) (j : Int) : Option Int := if j ∈ D.map (·.id) then some 0 else g j
theorem clrG_nil (g : Int → Option Int) : clrG g [] = g := by funext j; simp [clrG]
theorem clrG_step (g : Int → Option Int) {D : List Ent} {k : Nat} {x : Ent} (hx : D[k]? = some x) : updG (clrG g (D.take k)) x.id 0 = clrG g (D.take (k + 1)) := by
  funext j
  unfold updG clrG
  rw [List.take_add_one, hx]
  simp only [Option.toList, List.map_append, List.map_cons, List.map_nil, List.mem_append, List.mem_singleton]
  by_cases h : j = x.id
  · simp [h]
  · simp [h]

/-- What is kept. -/
def DInv (E : List Ent) (g : Int → Option Int) : Prop := ∀ j, 0 ≤ (g j).getD 0 ∧ (decide (0 < (g j).getD 0) = (fnd E j).elim false (·.d))
theorem dinv_nil : DInv [] fun _ => none := fun j => ⟨Int.le_refl 0, rfl⟩
section
variable {E : List Ent} {g : Int → Option Int} {N : Nat}
theorem DInv.get (h : DInv E g) (hi : idsOk E) (x : Int) : DInv (getE E x) g := fun j => by rw [fnd_get hi]; exact h j
theorem DInv.drop (h : DInv E g) (hi : idsOk E) (x : Int) : DInv (dropE E [x]).1 (updG g x 0) := fun j => by
  rw [dropE_one]
  simp only
  rw [fnd_del hi]
  by_cases hj : j = x
  · subst hj; rw [updG_at, if_pos rfl]; exact ⟨Int.le_refl 0, rfl⟩
  · rw [updG_ne g hj, if_neg hj]; exact h j
/-- Ahead of a Put. -/
def putG (g : Int → Option Int) (x : Int) (d : Bool) (v : Int) : Int → Option Int := if d then updG g x v else g
theorem DInv.front (h : DInv E g) (x : Int) (d : Bool) {v : Int} (hv : 0 < v) (b : ByteArray) (j : Int) :
    0 ≤ (putG g x d v j).getD 0 ∧ decide (0 < (putG g x d v j).getD 0) = (if j = x then some (⟨x, b, d || ((fnd E x).elim false (·.d))⟩ : Ent) else fnd E j).elim false (·.d) := by
  unfold putG
  have hx := h x
  have hj := h j
  cases d with
  | true =>
    rw [if_pos rfl]
    by_cases e : j = x
    · subst e
      rw [updG_at, if_pos rfl]
      exact ⟨by omega, by simpa using hv⟩
    · rw [updG_ne g e, if_neg e]; exact hj
  | false =>
    rw [if_neg (by decide)]
    by_cases e : j = x
    · subst e
      rw [if_pos rfl]
      exact ⟨hj.1, by rw [hj.2]; simp⟩
    · rw [if_neg e]; exact hj
theorem DInv.put_none (h : DInv E g) (hi : idsOk E) (hl : E.length ≤ N) {x : Int} {b : ByteArray} {d : Bool} {v : Int} (hv : 0 < v) (hz : (frontE E x b d)[N]? = none) : DInv (putE N E x b d) (putG g x d v) := fun j => by
  have hp := fnd_put hi hl x b d j
  rw [hz] at hp
  rw [hp]
  exact h.front x d hv b j
theorem DInv.put_some (h : DInv E g) (hi : idsOk E) (hl : E.length ≤ N) {x : Int} {b : ByteArray} {d : Bool} {v : Int} (hv : 0 < v) {z : Ent} (hz : (frontE E x b d)[N]? = some z) :
    decide (0 < (putG g x d v z.id).getD 0) = z.d ∧ DInv (putE N E x b d) (updG (putG g x d v) z.id 0) := by
  have hg := put_goes hi hz
  have hf := h.front x d hv b z.id
  rw [← hg] at hf
  refine ⟨hf.2, fun j => ?_⟩
  have hp := fnd_put hi hl x b d j
  rw [hz] at hp
  rw [hp]
  simp only
  by_cases e : j = z.id
  · subst e; rw [updG_at, if_pos rfl]; exact ⟨Int.le_refl 0, rfl⟩
  · rw [updG_ne _ e, if_neg e]; exact h.front x d hv b j
theorem DInv.dirty (h : DInv E g) (hi : idsOk E) {D : List Ent} (hp : D.Perm (E.filter (·.d))) : DInv (E.map clE) (clrG g D) := fun j => by
  have hc : ((fnd (E.map clE) j).elim false (·.d)) = false := by
    rw [fnd_cl]
    cases fnd E j <;> rfl
  rw [hc]
  unfold clrG
  by_cases hj : j ∈ D.map (·.id)
  · rw [if_pos hj]; exact ⟨Int.le_refl 0, rfl⟩
  · rw [if_neg hj]
    obtain ⟨h1, h2⟩ := h j
    refine ⟨h1, ?_⟩
    rw [h2]
    cases hf : fnd E j with
    | none => rfl
    | some x =>
      cases hd : x.d with
      | false => exact hd
      | true =>
        refine absurd (List.mem_map.2 ⟨x, hp.mem_iff.2 (List.mem_filter.2 ⟨?_, hd⟩), fnd_id hf⟩) hj
        exact List.mem_of_find?_eq_some hf
/-- What is told was dirty. -/
theorem DInv.told (h : DInv E g) (hi : idsOk E) {D : List Ent} (hp : D.Perm (E.filter (·.d))) {x : Ent} (hx : x ∈ D) : x.d = true ∧ 0 < (g x.id).getD 0 := by
  have hm := List.mem_filter.1 (hp.mem_iff.1 hx)
  refine ⟨hm.2, ?_⟩
  have := (h x.id).2
  rw [fnd_mem hi hm.1] at this
  have hd : x.d = true := hm.2
  simpa [hd] using this
theorem DInv.each (h : DInv E g) (hi : idsOk E) {x : Ent} (hx : x ∈ E) : decide (0 < (g x.id).getD 0) = x.d := by
  have := (h x.id).2
  rw [fnd_mem hi hx] at this
  exact this
end
theorem clrG_fresh {g : Int → Option Int} {D : List Ent} (hs : D.Pairwise fun x y => x.id < y.id) {k : Nat} {x : Ent} (hx : D[k]? = some x) : clrG g (D.take k) x.id = g x.id := by
  unfold clrG
  rw [if_neg]
  intro hm
  obtain ⟨y, hy, he⟩ := List.mem_map.1 hm
  obtain ⟨i, hi, hy'⟩ := List.mem_iff_getElem.1 hy
  rw [List.length_take] at hi
  obtain ⟨hk, hx'⟩ := List.getElem?_eq_some_iff.1 hx
  have := List.pairwise_iff_getElem.1 hs i k (by omega) hk (by omega)
  rw [hx'] at this
  rw [List.getElem_take] at hy'
  rw [hy', he] at this
  omega
theorem clE_clE (E : List Ent) : (E.map clE).map clE = E.map clE := by rw [List.map_map]; rfl
theorem filter_cl (E : List Ent) : (E.map clE).filter (·.d) = [] := by
  rw [List.filter_eq_nil_iff]
  intro x hx
  obtain ⟨y, _, rfl⟩ := List.mem_map.1 hx
  simp [clE]
end Go.Proofs.Ytcganajbfplmpaa
