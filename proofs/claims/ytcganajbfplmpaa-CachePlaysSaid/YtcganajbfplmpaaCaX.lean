/- Chapter 11 (cache): plain laws: what each number has behind a Put, a Get, a Drop, a Dirty. -/
import Derived.Test.YtcganajbfplmpaaCa10
namespace Go.Proofs.Ytcganajbfplmpaa
open Go.RowKit Go.Lap
set_option linter.unusedVariables false

theorem fnd_cons (x : Ent) (E : List Ent) (j : Int) : fnd (x :: E) j = if x.id = j then some x else fnd E j := by
  unfold fnd
  rw [List.find?_cons]
  by_cases h : x.id = j <;> simp [h]
theorem fnd_none {E : List Ent} {j : Int} : fnd E j = none ↔ ∀ x ∈ E, x.id ≠ j := by
  unfold fnd
  rw [List.find?_eq_none]
  simp
theorem fnd_id {E : List Ent} {j : Int} {x : Ent} (h : fnd E j = some x) : x.id = j := by simpa using List.find?_some h
theorem fnd_mem {E : List Ent} (h : idsOk E) {x : Ent} (hx : x ∈ E) : fnd E x.id = some x := by
  induction E with
  | nil => cases hx
  | cons y E ih =>
    unfold idsOk at h ih
    rw [List.map_cons, List.nodup_cons] at h
    rw [fnd_cons]
    rcases List.mem_cons.1 hx with rfl | hm
    · rw [if_pos rfl]
    · rw [if_neg (fun e : y.id = x.id => h.1 (by rw [e]; exact List.mem_map.2 ⟨x, hm, rfl⟩)), ih h.2 hm]
theorem fnd_del : ∀ {E : List Ent}, idsOk E → ∀ (i j : Int), fnd (delE E i) j = if j = i then none else fnd E j
  | [], _, i, j => by simp [delE, fnd]
  | y :: E, h, i, j => by
    unfold idsOk at h
    rw [List.map_cons, List.nodup_cons] at h
    unfold delE
    rw [List.findIdx_cons]
    by_cases hy : y.id = i
    · simp only [hy, decide_true, cond_true, List.eraseIdx_zero, List.tail_cons]
      rw [fnd_cons]
      by_cases hj : j = i
      · rw [if_pos hj, fnd_none]
        exact fun x hx e => h.1 (List.mem_map.2 ⟨x, hx, by rw [e, hj, hy]⟩)
      · rw [if_neg hj, if_neg (fun e => hj (e.symm.trans hy))]
    · simp only [hy, decide_false, cond_false, List.eraseIdx_cons_succ]
      rw [fnd_cons, fnd_cons, show (List.findIdx (fun x : Ent => decide (x.id = i)) E) = E.findIdx fun x => decide (x.id = i) from rfl]
      rw [show E.eraseIdx (E.findIdx fun x => decide (x.id = i)) = delE E i from rfl, fnd_del h.2]
      by_cases hj : j = i
      · rw [if_pos hj, if_pos hj, if_neg (fun e => hy (e.trans hj))]
      · rw [if_neg hj, if_neg hj]
theorem idsOk_del {E : List Ent} (h : idsOk E) (i : Int) : idsOk (delE E i) := h.sublist ((List.eraseIdx_sublist E _).map _)
theorem frontE_eq (E : List Ent) (id : Int) (b : ByteArray) (d : Bool) : frontE E id b d = ⟨id, b, d || ((fnd E id).elim false (·.d))⟩ :: delE E id := by
  unfold frontE
  cases hf : fnd E id with
  | none =>
    unfold fnd at hf
    rw [hf, delE_none hf]
    simp
  | some x =>
    unfold fnd at hf
    rw [hf]
    rfl
theorem getE_eq (E : List Ent) (id : Int) : getE E id = match fnd E id with | some x => x :: delE E id | none => E := by
  unfold getE fnd
  cases E.find? (fun x => decide (x.id = id)) <;> rfl
theorem fnd_front {E : List Ent} (h : idsOk E) (id : Int) (b : ByteArray) (d : Bool) (j : Int) : fnd (frontE E id b d) j = if j = id then some ⟨id, b, d || ((fnd E id).elim false (·.d))⟩ else fnd E j := by
  rw [frontE_eq, fnd_cons, fnd_del h]
  by_cases hj : j = id
  · subst hj; simp
  · rw [if_neg hj, if_neg (fun e => hj e.symm), if_neg hj]
theorem idsOk_front {E : List Ent} (h : idsOk E) (id : Int) (b : ByteArray) (d : Bool) : idsOk (frontE E id b d) := by
  rw [frontE_eq]
  unfold idsOk
  rw [List.map_cons, List.nodup_cons]
  refine ⟨fun hm => ?_, idsOk_del h id⟩
  obtain ⟨x, hx, he⟩ := List.mem_map.1 hm
  have := fnd_mem (idsOk_del h id) hx
  rw [fnd_del h, if_pos he] at this
  cases this
theorem front_len (E : List Ent) (id : Int) (b : ByteArray) (d : Bool) : (frontE E id b d).length ≤ E.length + 1 := by
  rw [frontE_eq]
  have : (delE E id).length ≤ E.length := (List.eraseIdx_sublist E _).length_le
  simp; omega
theorem fnd_take {G : List Ent} (h : idsOk G) {room : Nat} (hl : G.length ≤ room + 1) (j : Int) : fnd (G.take room) j = match G[room]? with | some z => if j = z.id then none else fnd G j | none => fnd G j := by
  cases hz : G[room]? with
  | none =>
    have := List.getElem?_eq_none_iff.1 hz
    rw [List.take_of_length_le this]
  | some z =>
    obtain ⟨hr, hz'⟩ := List.getElem?_eq_some_iff.1 hz
    have hG : G = G.take room ++ [z] := by
      have h1 := List.take_append_drop room G
      rw [List.drop_eq_getElem_cons hr, hz', List.drop_eq_nil_of_le (by omega)] at h1
      exact h1.symm
    generalize hT : G.take room = T at hG
    subst hG
    unfold idsOk at h
    rw [List.map_append, List.nodup_append] at h
    simp only
    by_cases hj : j = z.id
    · rw [if_pos hj, fnd_none]
      exact fun x hx e => h.2.2 _ (List.mem_map.2 ⟨x, hx, rfl⟩) _ (by simp) (e.trans hj)
    · rw [if_neg hj]
      unfold fnd
      rw [List.find?_append]
      have : List.find? (fun x : Ent => decide (x.id = j)) [z] = none := by
        rw [List.find?_cons_of_neg (by simpa using fun e : z.id = j => hj e.symm)]
        rfl
      rw [this]
      simp
theorem fnd_get {E : List Ent} (h : idsOk E) (id j : Int) : fnd (getE E id) j = fnd E j := by
  rw [getE_eq]
  cases hf : fnd E id with
  | none => rfl
  | some x =>
    simp only
    rw [fnd_cons, fnd_del h, fnd_id hf]
    by_cases hj : j = id
    · subst hj; rw [if_pos rfl, hf]
    · rw [if_neg (fun e => hj e.symm), if_neg hj]
theorem fnd_cl (E : List Ent) (j : Int) : fnd (E.map clE) j = (fnd E j).map clE := by
  unfold fnd
  rw [List.find?_map]; rfl
theorem dropE_one (E : List Ent) (id : Int) : dropE E [id] = (delE E id, if (fnd E id).isSome then 1 else 0) := by
  unfold dropE dropS fnd
  simp
/-- Behind a Put. -/
theorem fnd_put {E : List Ent} (h : idsOk E) {room : Nat} (hl : E.length ≤ room) (id : Int) (b : ByteArray) (d : Bool) (j : Int) :
    fnd (putE room E id b d) j = match (frontE E id b d)[room]? with
      | some z => if j = z.id then none else if j = id then some ⟨id, b, d || ((fnd E id).elim false (·.d))⟩ else fnd E j
      | none => if j = id then some ⟨id, b, d || ((fnd E id).elim false (·.d))⟩ else fnd E j := by
  unfold putE
  rw [fnd_take (idsOk_front h id b d) (by have := front_len E id b d; omega), fnd_front h]
/-- What goes. -/
theorem put_goes {E : List Ent} (h : idsOk E) {room : Nat} {id : Int} {b : ByteArray} {d : Bool} {z : Ent} (hz : (frontE E id b d)[room]? = some z) :
    some z = if z.id = id then some ⟨id, b, d || ((fnd E id).elim false (·.d))⟩ else fnd E z.id := by
  rw [← fnd_front h]
  exact (fnd_mem (idsOk_front h id b d) (List.mem_of_getElem? hz)).symm
end Go.Proofs.Ytcganajbfplmpaa
