/- Chapter 11 (cache): what the map of a ring holds, as the ring changes. -/
import Derived.Test.YtcganajbfplmpaaCa3
namespace Go.Proofs.Ytcganajbfplmpaa
open Go.RowKit Go.Lap
set_option linter.unusedVariables false

theorem mapF_cons (y : Nd) (l : List Nd) (id : Int) : mapF (y :: l) id = if id = y.id then some (.pointer (some ⟨y.g, 0, none⟩)) else mapF l id := by
  unfold mapF
  by_cases h : y.id = id
  · rw [List.find?_cons_of_pos (by simpa using h), if_pos h.symm]; rfl
  · rw [List.find?_cons_of_neg (by simpa using h), if_neg (fun e => h e.symm)]
theorem mapF_none {l : List Nd} {id : Int} : mapF l id = none ↔ ∀ x ∈ l, x.id ≠ id := by
  unfold mapF
  rw [Option.map_eq_none_iff, List.find?_eq_none]
  simp
theorem mapF_some {l : List Nd} {id : Int} {v : Value} (h : mapF l id = some v) : ∃ (i : Nat) (x : Nd), l[i]? = some x ∧ x.id = id ∧ v = .pointer (some ⟨x.g, 0, none⟩) := by
  unfold mapF at h
  obtain ⟨x, hx, hv⟩ := Option.map_eq_some_iff.1 h
  have hm := List.mem_of_find?_eq_some hx
  have hp := List.find?_some hx
  obtain ⟨i, hi⟩ := List.getElem?_of_mem hm
  exact ⟨i, x, hi, by simpa using hp, hv.symm⟩
theorem ids_inj {l : List Nd} (h : (l.map (·.id)).Nodup) {i j : Nat} {x y : Nd} (hx : l[i]? = some x) (hy : l[j]? = some y) (he : x.id = y.id) : i = j := by
  have hi : (l.map (·.id))[i]? = some x.id := by rw [List.getElem?_map, hx]; rfl
  have hj : (l.map (·.id))[j]? = some x.id := by rw [List.getElem?_map, hy, he]; rfl
  obtain ⟨hi1, hi2⟩ := List.getElem?_eq_some_iff.1 hi
  obtain ⟨hj1, hj2⟩ := List.getElem?_eq_some_iff.1 hj
  refine Decidable.byContradiction fun hne => ?_
  have hp := List.pairwise_iff_getElem.1 h
  rcases Nat.lt_or_gt_of_ne hne with hlt | hlt
  · exact hp i j hi1 hj1 hlt (hi2.trans hj2.symm)
  · exact hp j i hj1 hi1 hlt (hj2.trans hi2.symm)
/-- The one there is: who holds an id is found. -/
theorem mapF_at {l : List Nd} (h : (l.map (·.id)).Nodup) {i : Nat} {x : Nd} (hx : l[i]? = some x) : mapF l x.id = some (.pointer (some ⟨x.g, 0, none⟩)) := by
  cases hm : mapF l x.id with
  | none => exact absurd rfl (mapF_none.1 hm x (List.mem_of_getElem? hx))
  | some v =>
    obtain ⟨j, y, hy, he, rfl⟩ := mapF_some hm
    have := ids_inj h hy hx he
    subst this
    rw [hy] at hx
    cases hx
    rfl
theorem mapF_erase : ∀ {l : List Nd} {i : Nat} {x : Nd}, (l.map (·.id)).Nodup → l[i]? = some x → ∀ id, mapF (l.eraseIdx i) id = if id = x.id then none else mapF l id
  | [], _, _, _, hx, _ => by simp at hx
  | y :: l, 0, x, h, hx, id => by
    cases hx
    rw [List.map_cons, List.nodup_cons] at h
    show mapF l id = _
    rw [mapF_cons]
    split
    · rename_i he
      subst he
      exact mapF_none.2 fun z hz e => h.1 (List.mem_map.2 ⟨z, hz, e⟩)
    · rfl
  | y :: l, i + 1, x, h, hx, id => by
    rw [List.map_cons, List.nodup_cons] at h
    have hx' : l[i]? = some x := hx
    show mapF (y :: l.eraseIdx i) id = _
    rw [mapF_cons, mapF_cons, mapF_erase h.2 hx' id]
    by_cases h1 : id = y.id
    · have : id ≠ x.id := fun e => h.1 (List.mem_map.2 ⟨x, List.mem_of_getElem? hx', by rw [← e, h1]⟩)
      rw [if_pos h1, if_neg this, if_pos h1]
    · rw [if_neg h1, if_neg h1]
theorem ids_erase {l : List Nd} (h : (l.map (·.id)).Nodup) (i : Nat) : ((l.eraseIdx i).map (·.id)).Nodup := h.sublist ((List.eraseIdx_sublist l i).map _)
/-- A node taken out and put first: the map holds what it held. -/
theorem mapF_front {l : List Nd} (h : (l.map (·.id)).Nodup) {i : Nat} {x y : Nd} (hx : l[i]? = some x) (hg : y.g = x.g) (hi : y.id = x.id) (id : Int) : mapF (y :: l.eraseIdx i) id = mapF l id := by
  rw [mapF_cons, mapF_erase h hx, hi, hg]
  split
  · rename_i he
    rw [he, mapF_at h hx]
  · rfl
theorem ids_front {l : List Nd} (h : (l.map (·.id)).Nodup) {i : Nat} {x y : Nd} (hx : l[i]? = some x) (hi : y.id = x.id) : ((y :: l.eraseIdx i).map (·.id)).Nodup := by
  rw [List.map_cons, List.nodup_cons]
  refine ⟨fun hm => ?_, ids_erase h i⟩
  obtain ⟨z, hz, he⟩ := List.mem_map.1 hm
  have h1 := mapF_erase h hx x.id
  rw [if_pos rfl] at h1
  exact mapF_none.1 h1 z hz (he.trans hi)
end Go.Proofs.Ytcganajbfplmpaa
