/- Chapter 5 (batch): the stable order is one: a row that rises, and has the writes of each key as they were, is the sorted row. -/
import Derived.Test.YtdobingccipkkaaBat10
namespace Go.Proofs.Ytdobingccipkkaa
open Go.RowKit Go.Lap
set_option linter.unusedVariables false

theorem less_trans : ∀ a b c : List UInt8, Op.bytesLess a b = true → Op.bytesLess b c = true → Op.bytesLess a c = true
  | [], [], _, h, _ => by simp [Op.bytesLess] at h
  | [], _ :: _, [], _, h => by simp [Op.bytesLess] at h
  | [], _ :: _, _ :: _, _, _ => rfl
  | _ :: _, [], _, h, _ => by simp [Op.bytesLess] at h
  | _ :: _, _ :: _, [], _, h => by simp [Op.bytesLess] at h
  | x :: a, y :: b, z :: c, h, h' => by
    have ih := less_trans a b c
    simp only [Op.bytesLess, Bool.or_eq_true, Bool.and_eq_true, decide_eq_true_eq, beq_iff_eq, UInt8.lt_iff_toNat_lt] at h h' ⊢
    rcases h with h | ⟨rfl, h⟩
    · rcases h' with h' | ⟨rfl, _⟩
      · exact .inl (by omega)
      · exact .inl h
    · rcases h' with h' | ⟨rfl, h'⟩
      · exact .inl h'
      · exact .inr ⟨rfl, ih h h'⟩
theorem less_irr (a : List UInt8) : Op.bytesLess a a = false := by
  have h := less_trich a a
  simp only [beq_self_eq_true, Bool.or_true] at h
  simpa using h.symm
theorem less_tri (a b : List UInt8) (h1 : Op.bytesLess a b = false) (h2 : Op.bytesLess b a = false) : a = b := by
  have h := less_trich a b
  rw [h1, h2] at h
  simpa using h

theorem ltW_trans {x y z : Wri} (h : ltW x y = true) (h' : ltW y z = true) : ltW x z = true := less_trans _ _ _ h h'
theorem ltW_irr (x : Wri) : ltW x x = false := less_irr _
theorem ltW_asymm {x y : Wri} (h : ltW x y = true) : ltW y x = false := by
  cases e : ltW y x with
  | false => rfl
  | true => have := ltW_trans h e; rw [ltW_irr] at this; cases this
/-- not less is transitive. -/
theorem geW_trans {x y z : Wri} (h : ltW x y = false) (h' : ltW y z = false) : ltW x z = false := by
  cases e : ltW x z with
  | false => rfl
  | true =>
    cases e2 : ltW z y with
    | true => have := ltW_trans e e2; rw [h] at this; cases this
    | false => have := less_tri _ _ h' e2; unfold ltW at h e; rw [this] at h; rw [h] at e; cases e
theorem ltW_geW {x y z : Wri} (h : ltW x y = true) (h' : ltW z y = false) : ltW x z = true := by
  cases e : ltW x z with
  | true => rfl
  | false => have := geW_trans e h'; rw [h] at this; cases this
theorem geW_ltW {x y z : Wri} (h : ltW y x = false) (h' : ltW y z = true) : ltW x z = true := by
  cases e : ltW x z with
  | true => rfl
  | false => have := geW_trans h e; rw [h'] at this; cases this

/-- A row that rises. -/
abbrev RiseW (l : List Wri) : Prop := l.Pairwise fun x y => ltW y x = false
abbrev FallW (l : List Wri) : Prop := l.Pairwise fun x y => ltW x y = false
/-- The writes of one key. -/
def ofKey (k : List UInt8) (l : List Wri) : List Wri := l.filter fun x => decide (x.key.toList = k)
theorem ofKey_append (k : List UInt8) (a b : List Wri) : ofKey k (a ++ b) = ofKey k a ++ ofKey k b := List.filter_append ..
theorem ofKey_cons_pos {k : List UInt8} {x : Wri} (h : x.key.toList = k) (l : List Wri) : ofKey k (x :: l) = x :: ofKey k l := by simp [ofKey, h]
theorem ofKey_cons_neg {k : List UInt8} {x : Wri} (h : ¬ x.key.toList = k) (l : List Wri) : ofKey k (x :: l) = ofKey k l := by simp [ofKey, h]
theorem mem_ofKey {k : List UInt8} {x : Wri} {l : List Wri} : x ∈ ofKey k l ↔ x ∈ l ∧ x.key.toList = k := by simp [ofKey]

theorem rise_uniq : ∀ {a b : List Wri}, RiseW a → RiseW b → (∀ k, ofKey k a = ofKey k b) → a = b
  | [], [], _, _, _ => rfl
  | [], y :: b, _, _, h => by have := h y.key.toList; rw [ofKey_cons_pos rfl] at this; simp [ofKey] at this
  | x :: a, [], _, _, h => by have := h x.key.toList; rw [ofKey_cons_pos rfl] at this; simp [ofKey] at this
  | x :: a, y :: b, ha, hb, h => by
    obtain ⟨ha1, ha2⟩ := List.pairwise_cons.1 ha
    obtain ⟨hb1, hb2⟩ := List.pairwise_cons.1 hb
    have hxy : ltW x y = false := by
      have hm : x ∈ ofKey x.key.toList (y :: b) := by rw [← h]; exact mem_ofKey.2 ⟨by simp, rfl⟩
      rcases List.mem_cons.1 (mem_ofKey.1 hm).1 with e | e
      · rw [e]; exact ltW_irr y
      · exact hb1 x e
    have hyx : ltW y x = false := by
      have hm : y ∈ ofKey y.key.toList (x :: a) := by rw [h]; exact mem_ofKey.2 ⟨by simp, rfl⟩
      rcases List.mem_cons.1 (mem_ofKey.1 hm).1 with e | e
      · rw [e]; exact ltW_irr x
      · exact ha1 y e
    have hk : x.key.toList = y.key.toList := less_tri _ _ hxy hyx
    have h0 := h x.key.toList
    rw [ofKey_cons_pos rfl, ofKey_cons_pos hk.symm] at h0
    injection h0 with e h1
    subst e
    have : a = b := rise_uniq ha2 hb2 (fun k => by
      by_cases hkx : x.key.toList = k
      · subst hkx; exact h1
      · have h2 := h k
        rwa [ofKey_cons_neg hkx, ofKey_cons_neg hkx] at h2)
    rw [this]

theorem mem_insW {x z : Wri} : ∀ {l : List Wri}, z ∈ insW x l ↔ z = x ∨ z ∈ l
  | [] => by simp [insW]
  | y :: l => by
    unfold insW
    split
    · simp [mem_insW (l := l)]; constructor <;> (intro h; rcases h with h | h | h <;> simp [h])
    · simp
theorem fall_insW {x : Wri} : ∀ {l : List Wri}, FallW l → FallW (insW x l)
  | [], _ => by simp [insW]
  | y :: l, h => by
    obtain ⟨h1, h2⟩ := List.pairwise_cons.1 h
    unfold insW
    split
    · rename_i hlt
      refine List.pairwise_cons.2 ⟨fun z hz => ?_, fall_insW h2⟩
      rcases mem_insW.1 hz with rfl | hz
      · exact ltW_asymm hlt
      · exact h1 z hz
    · rename_i hlt
      have hlt' : ltW x y = false := by simpa using hlt
      refine List.pairwise_cons.2 ⟨fun z hz => ?_, h⟩
      rcases List.mem_cons.1 hz with rfl | hz
      · exact hlt'
      · exact geW_trans hlt' (h1 z hz)
theorem ofKey_insW {x : Wri} (k : List UInt8) : ∀ {l : List Wri}, FallW l → ofKey k (insW x l) = if x.key.toList = k then x :: ofKey k l else ofKey k l
  | [], _ => by by_cases h : x.key.toList = k <;> simp [insW, ofKey, h]
  | y :: l, h => by
    obtain ⟨h1, h2⟩ := List.pairwise_cons.1 h
    unfold insW
    split
    · rename_i hlt
      have ih := ofKey_insW k (x := x) h2
      by_cases hy : y.key.toList = k
      · have hx : ¬ x.key.toList = k := fun e => by unfold ltW at hlt; rw [e, hy, less_irr] at hlt; cases hlt
        rw [ofKey_cons_pos hy, ih, if_neg hx, if_neg hx, ofKey_cons_pos hy]
      · rw [ofKey_cons_neg hy, ih, ofKey_cons_neg hy]
    · by_cases hx : x.key.toList = k
      · rw [ofKey_cons_pos hx, if_pos hx]
      · rw [ofKey_cons_neg hx, if_neg hx]
theorem fall_fallW (l : List Wri) : FallW (fallW l) ∧ ∀ k, ofKey k (fallW l) = (ofKey k l).reverse := by
  have h : ∀ (l a : List Wri), FallW a → FallW (l.foldl (fun a x => insW x a) a) ∧ ∀ k, ofKey k (l.foldl (fun a x => insW x a) a) = (ofKey k l).reverse ++ ofKey k a := by
    intro l
    induction l with
    | nil => intro a ha; exact ⟨ha, fun k => by simp [ofKey]⟩
    | cons x l ih =>
      intro a ha
      obtain ⟨h1, h2⟩ := ih (insW x a) (fall_insW ha)
      refine ⟨h1, fun k => ?_⟩
      show ofKey k (l.foldl (fun a x => insW x a) (insW x a)) = _
      rw [h2, ofKey_insW k ha]
      by_cases hx : x.key.toList = k
      · rw [if_pos hx, ofKey_cons_pos hx]; simp
      · rw [if_neg hx, ofKey_cons_neg hx]
  have := h l [] List.Pairwise.nil
  refine ⟨this.1, fun k => ?_⟩
  have h2 := this.2 k
  simpa [ofKey, fallW] using h2
theorem rise_sortW (l : List Wri) : RiseW (sortW l) := by
  unfold sortW RiseW
  rw [List.pairwise_reverse]
  exact (fall_fallW l).1
theorem ofKey_sortW (k : List UInt8) (l : List Wri) : ofKey k (sortW l) = ofKey k l := by
  unfold sortW
  have h := (fall_fallW l).2 k
  unfold ofKey at h ⊢
  rw [List.filter_reverse, h, List.reverse_reverse]
/-- A row that rises, with the writes of each key as they were, is the sorted row. -/
theorem sortW_of {r l : List Wri} (hr : RiseW r) (hk : ∀ k, ofKey k r = ofKey k l) : r = sortW l :=
  rise_uniq hr (rise_sortW l) (fun k => by rw [hk, ofKey_sortW])
theorem sortW_rise {l : List Wri} (h : RiseW l) : sortW l = l := (sortW_of h (fun _ => rfl)).symm
theorem sortW_congr {a b : List Wri} (h : ∀ k, ofKey k a = ofKey k b) : sortW a = sortW b := sortW_of (rise_sortW a) (fun k => by rw [ofKey_sortW, h])
theorem mem_sortW {x : Wri} {l : List Wri} : x ∈ sortW l ↔ x ∈ l := by
  constructor
  · intro h
    have : x ∈ ofKey x.key.toList (sortW l) := mem_ofKey.2 ⟨h, rfl⟩
    rw [ofKey_sortW] at this
    exact (mem_ofKey.1 this).1
  · intro h
    have : x ∈ ofKey x.key.toList l := mem_ofKey.2 ⟨h, rfl⟩
    rw [← ofKey_sortW] at this
    exact (mem_ofKey.1 this).1

/-- One write put into a row that rises, ahead of its equals. -/
theorem sortW_left {x : Wri} {a b : List Wri} (h : RiseW (a ++ b)) (ha : ∀ y ∈ a, ltW y x = true) (hb : ∀ y ∈ b, ltW y x = false) : sortW (x :: (a ++ b)) = a ++ x :: b := by
  obtain ⟨h1, h2, h3⟩ := List.pairwise_append.1 h
  refine (sortW_of ?_ fun k => ?_).symm
  · refine List.pairwise_append.2 ⟨h1, List.pairwise_cons.2 ⟨fun y hy => hb y hy, h2⟩, fun y hy z hz => ?_⟩
    rcases List.mem_cons.1 hz with rfl | hz
    · exact ltW_asymm (ha y hy)
    · exact h3 y hy z hz
  · by_cases hx : x.key.toList = k
    · have e : ofKey k a = [] := by
        rw [List.eq_nil_iff_forall_not_mem]
        intro y hy
        have := ha y (mem_ofKey.1 hy).1
        unfold ltW at this
        rw [(mem_ofKey.1 hy).2, hx, less_irr] at this
        cases this
      rw [ofKey_append, ofKey_cons_pos hx, ofKey_cons_pos hx, ofKey_append, e]
      rfl
    · rw [ofKey_append, ofKey_cons_neg hx, ofKey_cons_neg hx, ofKey_append]
/-- One write put into a row that rises, behind its equals. -/
theorem sortW_right {x : Wri} {a b : List Wri} (h : RiseW (a ++ b)) (ha : ∀ y ∈ a, ltW x y = false) (hb : ∀ y ∈ b, ltW x y = true) : sortW (a ++ b ++ [x]) = a ++ x :: b := by
  obtain ⟨h1, h2, h3⟩ := List.pairwise_append.1 h
  refine (sortW_of ?_ fun k => ?_).symm
  · refine List.pairwise_append.2 ⟨h1, List.pairwise_cons.2 ⟨fun y hy => ltW_asymm (hb y hy), h2⟩, fun y hy z hz => ?_⟩
    rcases List.mem_cons.1 hz with rfl | hz
    · exact ha y hy
    · exact h3 y hy z hz
  · by_cases hx : x.key.toList = k
    · have e : ofKey k b = [] := by
        rw [List.eq_nil_iff_forall_not_mem]
        intro y hy
        have := hb y (mem_ofKey.1 hy).1
        unfold ltW at this
        rw [(mem_ofKey.1 hy).2, hx, less_irr] at this
        cases this
      rw [ofKey_append, ofKey_cons_pos hx, ofKey_append, ofKey_append, ofKey_cons_pos hx, e, List.append_nil]
      rfl
    · rw [ofKey_append, ofKey_cons_neg hx, ofKey_append, ofKey_append, ofKey_cons_neg hx]
      simp [ofKey]
/-- Two rows that rise, cut and merged piece by piece. -/
theorem sortW_split {u1 u2 v1 v2 : List Wri} (hu : RiseW (u1 ++ u2)) (hv : RiseW (v1 ++ v2)) (h1 : ∀ u ∈ u1, ∀ v ∈ v2, ltW v u = false) (h2 : ∀ v ∈ v1, ∀ u ∈ u2, ltW v u = true) :
    sortW (u1 ++ v1) ++ sortW (u2 ++ v2) = sortW (u1 ++ u2 ++ (v1 ++ v2)) := by
  obtain ⟨_, _, hu3⟩ := List.pairwise_append.1 hu
  obtain ⟨_, _, hv3⟩ := List.pairwise_append.1 hv
  refine sortW_of ?_ fun k => ?_
  · refine List.pairwise_append.2 ⟨rise_sortW _, rise_sortW _, fun y hy z hz => ?_⟩
    rcases List.mem_append.1 (mem_sortW.1 hy) with hy | hy <;> rcases List.mem_append.1 (mem_sortW.1 hz) with hz | hz
    · exact hu3 y hy z hz
    · exact h1 y hy z hz
    · exact ltW_asymm (h2 y hy z hz)
    · exact hv3 y hy z hz
  · have e : ofKey k v1 ++ ofKey k u2 = ofKey k u2 ++ ofKey k v1 := by
      by_cases hn : ofKey k v1 = []
      · rw [hn]; simp
      · have : ofKey k u2 = [] := by
          rw [List.eq_nil_iff_forall_not_mem]
          intro u hu
          obtain ⟨v, hv⟩ := List.exists_mem_of_ne_nil _ hn
          have := h2 v (mem_ofKey.1 hv).1 u (mem_ofKey.1 hu).1
          unfold ltW at this
          rw [(mem_ofKey.1 hv).2, (mem_ofKey.1 hu).2, less_irr] at this
          cases this
        rw [this]; simp
    simp only [ofKey_append, ofKey_sortW]
    rw [List.append_assoc, ← List.append_assoc (ofKey k v1), e]
    simp [List.append_assoc]
theorem sortW_two (a b : List Wri) : sortW (sortW a ++ sortW b) = sortW (a ++ b) := sortW_congr fun k => by simp only [ofKey_append, ofKey_sortW]
end Go.Proofs.Ytdobingccipkkaa
