/- Chapter 11 (cache): the plain law of CacheLeast: what is there is the last different numbers, the last one first. -/
import Derived.Test.YtcganajbfplmpaaCa6
namespace Go.Proofs.Ytcganajbfplmpaa
open Go.RowKit Go.Lap
set_option linter.unusedVariables false

/-- The different ones of a row, in its order. -/
def ddS (w : List Int) (x : Int) : List Int := if x ∈ w then w else w ++ [x]
def ddl (r : List Int) : List Int := r.foldl ddS []

theorem dd_cons (x : Int) : ∀ (r w : List Int), r.foldl ddS (x :: w.filter (· ≠ x)) = x :: (r.foldl ddS w).filter (· ≠ x)
  | [], w => rfl
  | y :: r, w => by
    rw [List.foldl_cons, List.foldl_cons, ← dd_cons x r (ddS w y)]
    congr 1
    unfold ddS
    by_cases hy : y = x
    · subst hy
      rw [if_pos (List.mem_cons_self ..)]
      split
      · rfl
      · rw [List.filter_append]; simp
    · by_cases hm : y ∈ w
      · rw [if_pos (List.mem_cons_of_mem _ (List.mem_filter.2 ⟨hm, by simpa using hy⟩)), if_pos hm]
      · rw [if_neg (fun h => by
          rcases List.mem_cons.1 h with h | h
          · exact hy h
          · exact hm (List.mem_filter.1 h).1), if_neg hm, List.filter_append]
        simp [hy]
theorem ddl_cons (x : Int) (r : List Int) : ddl (x :: r) = x :: (ddl r).filter (· ≠ x) := by
  have := dd_cons x r []
  simpa [ddl, ddS] using this
theorem ddS_nodup {w : List Int} (h : w.Nodup) (x : Int) : (ddS w x).Nodup := by
  unfold ddS
  split
  · exact h
  · rename_i hx
    rw [List.nodup_append]
    exact ⟨h, by simp, fun a ha b hb => by simp at hb; subst hb; rintro rfl; exact hx ha⟩
theorem fold_nodup : ∀ (r w : List Int), w.Nodup → (r.foldl ddS w).Nodup
  | [], _, h => h
  | x :: r, w, h => fold_nodup r _ (ddS_nodup h x)
theorem ddl_nodup (r : List Int) : (ddl r).Nodup := fold_nodup r [] List.nodup_nil
theorem fold_pre : ∀ (r w : List Int), w <+: r.foldl ddS w
  | [], w => List.prefix_refl w
  | x :: r, w => by
    refine List.IsPrefix.trans ?_ (fold_pre r (ddS w x))
    unfold ddS
    split
    · exact List.prefix_refl w
    · exact List.prefix_append ..
theorem take_filter_take (x : Int) : ∀ (n : Nat) (l : List Int), l.Nodup → ((l.take (n + 1)).filter (· ≠ x)).take n = (l.filter (· ≠ x)).take n
  | _, [], _ => by simp
  | 0, _ :: _, _ => by simp
  | n + 1, y :: l, h => by
    rw [List.nodup_cons] at h
    by_cases hy : y = x
    · subst hy
      have hf : ∀ l' : List Int, y ∉ l' → l'.filter (· ≠ y) = l' := fun l' hl' => List.filter_eq_self.2 fun z hz => by
        simp only [ne_eq, decide_not, Bool.not_eq_eq_eq_not, Bool.not_true, decide_eq_false_iff_not]
        rintro rfl; exact hl' hz
      rw [List.take_succ_cons, List.filter_cons_of_neg (by simp), List.filter_cons_of_neg (by simp), hf _ (fun hm => h.1 (List.mem_of_mem_take hm)), hf _ h.1]
      rw [List.take_take, Nat.min_self]
    · rw [List.take_succ_cons, List.filter_cons_of_pos (by simpa using hy), List.filter_cons_of_pos (by simpa using hy), List.take_succ_cons, List.take_succ_cons, take_filter_take x n l h.2]

theorem erase_filter : ∀ (l : List Ent) (x : Int), (l.map (·.id)).Nodup → (l.any fun y => decide (y.id = x)) = true → ((l.eraseIdx (l.findIdx fun y => decide (y.id = x))).map (·.id)) = (l.map (·.id)).filter (· ≠ x)
  | [], _, _, h => by simp at h
  | y :: l, x, hn, h => by
    rw [List.map_cons, List.nodup_cons] at hn
    by_cases hy : y.id = x
    · rw [List.findIdx_cons, show decide (y.id = x) = true by simpa using hy]
      simp only [cond_true, List.eraseIdx_cons_zero]
      rw [List.map_cons, List.filter_cons_of_neg (by simpa using hy)]
      refine (List.filter_eq_self.2 fun z hz => ?_).symm
      simp only [ne_eq, decide_not, Bool.not_eq_eq_eq_not, Bool.not_true, decide_eq_false_iff_not]
      rintro rfl
      rw [hy] at hn
      exact hn.1 hz
    · rw [List.findIdx_cons, show decide (y.id = x) = false by simpa using hy]
      simp only [cond_false, List.eraseIdx_cons_succ]
      rw [List.map_cons, List.map_cons, List.filter_cons_of_pos (by simpa using hy), erase_filter l x hn.2 (by simpa [hy] using h)]
/-- The numbers behind a Put. -/
theorem front_ids (E : List Ent) (x : Int) (b : ByteArray) (d : Bool) (h : (E.map (·.id)).Nodup) : (frontE E x b d).map (·.id) = x :: (E.map (·.id)).filter (· ≠ x) := by
  unfold frontE
  cases hf : E.find? (fun y => decide (y.id = x)) with
  | none =>
    dsimp only
    rw [List.map_cons]
    congr 1
    refine (List.filter_eq_self.2 fun z hz => ?_).symm
    obtain ⟨y, hy, rfl⟩ := List.mem_map.1 hz
    have := List.find?_eq_none.1 hf y hy
    simpa using this
  | some y =>
    dsimp only
    rw [List.map_cons, erase_filter E x h (List.any_eq_true.2 ⟨y, List.mem_of_find?_eq_some hf, by simpa using List.find?_some hf⟩)]
/-- A Put, seen on the last different ones. -/
theorem put_ids {n : Nat} {E : List Ent} {r : List Int} (hE : E.map (·.id) = (ddl r).take (n + 1)) (x : Int) (b : ByteArray) (d : Bool) : (putE (n + 1) E x b d).map (·.id) = (ddl (x :: r)).take (n + 1) := by
  have hn : (E.map (·.id)).Nodup := by rw [hE]; exact (ddl_nodup r).sublist (List.take_sublist ..)
  unfold putE
  rw [List.map_take, front_ids E x b d hn, hE, ddl_cons, List.take_succ_cons, List.take_succ_cons, take_filter_take x n _ (ddl_nodup r)]
end Go.Proofs.Ytcganajbfplmpaa
