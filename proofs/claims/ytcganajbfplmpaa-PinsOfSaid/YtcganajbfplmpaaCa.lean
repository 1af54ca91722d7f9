/- Chapter 11 (cache): the ring of nodes: the cells of each, a node taken out, a node put first. -/
import Derived.Test.YtcganajbfplmpaaMp
namespace Go.Proofs.Ytcganajbfplmpaa
open Go.RowKit Go.Lap
set_option linter.unusedVariables false

/-- A node: its block, and its entry. -/
structure Nd where
  g : Nat
  id : Int
  b : ByteArray
  d : Bool

/-- The address of the k-th in the ring; 0 and behind the last one: the ends, in the cache's own block c. -/
def adr (c : Nat) (l : List Nd) (k : Nat) : Addr := if k = 0 then ⟨c, 2, none⟩ else match l[k - 1]? with | some x => ⟨x.g, 0, none⟩ | none => ⟨c, 2, none⟩
theorem adr_zero (c : Nat) (l : List Nd) : adr c l 0 = ⟨c, 2, none⟩ := rfl
theorem adr_at {c : Nat} {l : List Nd} {k : Nat} {x : Nd} (h : l[k]? = some x) : adr c l (k + 1) = ⟨x.g, 0, none⟩ := by unfold adr; simp [h]
theorem adr_end {c : Nat} {l : List Nd} {k : Nat} (h : l.length ≤ k) : adr c l (k + 1) = ⟨c, 2, none⟩ := by unfold adr; simp [h]

/-- A node's cells. -/
def ndC (x : Nd) (pa pb : Addr) : Array Value := #[.int .i64 x.id, .string x.b, .bool x.d, .pointer (some pa), .pointer (some pb)]
/-- The cache's cells: its room, its map, its ends. -/
def caC (room : Int) (mb : Nat) (pa pb : Addr) : Array Value := #[.int .i64 room, .map (some mb), .int .i64 0, .string ⟨#[]⟩, .bool false, .pointer (some pa), .pointer (some pb)]

/-- The ring. -/
structure Ring (w : World) (c : Nat) (room : Int) (mb : Nat) (l : List Nd) : Prop where
  ca : Blk w c 91 (caC room mb (adr c l l.length) (adr c l 1))
  nd : ∀ (i : Nat) (x : Nd), l[i]? = some x → Blk w x.g 89 (ndC x (adr c l i) (adr c l (i + 2)))
  ne : ∀ x ∈ l, x.g ≠ c
  no : (l.map (·.g)).Nodup

section
variable {w w' : World} {c : Nat} {room : Int} {mb : Nat} {l : List Nd}
theorem Ring.keep {S : Nat → Prop} (h : Ring w c room mb l) (hu : Upd S w w') (hc : ¬ S c) (hl : ∀ x ∈ l, ¬ S x.g) : Ring w' c room mb l :=
  ⟨h.ca.upd hu hc, fun i x hx => (h.nd i x hx).upd hu (hl x (List.mem_of_getElem? hx)), h.ne, h.no⟩
theorem Ring.new (h : Ring w c room mb l) (hn : New w w') : Ring w' c room mb l := h.keep (S := fun _ => False) (Upd.new hn) (fun x => x) (fun _ _ x => x)
theorem Ring.inj (h : Ring w c room mb l) {i j : Nat} {x y : Nd} (hx : l[i]? = some x) (hy : l[j]? = some y) (he : x.g = y.g) : i = j := by
  have hi : (l.map (·.g))[i]? = some x.g := by rw [List.getElem?_map, hx]; rfl
  have hj : (l.map (·.g))[j]? = some x.g := by rw [List.getElem?_map, hy, he]; rfl
  obtain ⟨hi1, hi2⟩ := List.getElem?_eq_some_iff.1 hi
  obtain ⟨hj1, hj2⟩ := List.getElem?_eq_some_iff.1 hj
  refine Decidable.byContradiction fun hne => ?_
  have hp := List.pairwise_iff_getElem.1 h.no
  rcases Nat.lt_or_gt_of_ne hne with hlt | hlt
  · exact hp i j hi1 hj1 hlt (hi2.trans hj2.symm)
  · exact hp j i hj1 hi1 hlt (hj2.trans hi2.symm)
end

/-- A store seen from any block. -/
theorem blk_store {w : World} {g t : Nat} {cs : Array Value} (h : Blk w g t cs) (b o : Nat) (u : Value) : Blk (w.setCell ⟨b, o, none⟩ u) g t (if b = g then cs.setIfInBounds o u else cs) := by
  by_cases hb : b = g
  · subst hb
    rw [if_pos rfl]
    exact h.set_ o u
  · rw [if_neg hb]
    exact h.far (p := ⟨b, o, none⟩) (fun e => hb e.symm) u

section
variable {w : World} {c : Nat} {room : Int} {mb : Nat} {l : List Nd}
theorem Ring.adr_nd (h : Ring w c room mb l) {j : Nat} {y : Nd} (hy : l[j]? = some y) (k : Nat) : (adr c l k).block = y.g ↔ k = j + 1 := by
  have hyc := h.ne y (List.mem_of_getElem? hy)
  have hj := (List.getElem?_eq_some_iff.1 hy).1
  cases k with
  | zero => exact ⟨fun e => absurd e.symm hyc, fun e => by omega⟩
  | succ m =>
    cases hm : l[m]? with
    | none =>
      rw [adr_end (List.getElem?_eq_none_iff.1 hm)]
      have := List.getElem?_eq_none_iff.1 hm
      exact ⟨fun e => absurd e.symm hyc, fun e => by omega⟩
    | some z =>
      rw [adr_at hm]
      exact ⟨fun e => by rw [h.inj hm hy e], fun e => by
        obtain rfl : m = j := (by omega)
        rw [hy] at hm
        cases hm
        rfl⟩
theorem Ring.adr_ca (h : Ring w c room mb l) (k : Nat) : (adr c l k).block = c ↔ k = 0 ∨ l.length < k := by
  cases k with
  | zero => exact ⟨fun _ => .inl rfl, fun _ => rfl⟩
  | succ m =>
    cases hm : l[m]? with
    | none =>
      rw [adr_end (List.getElem?_eq_none_iff.1 hm)]
      have := List.getElem?_eq_none_iff.1 hm
      exact ⟨fun _ => .inr (by omega), fun _ => rfl⟩
    | some z =>
      rw [adr_at hm]
      have := (List.getElem?_eq_some_iff.1 hm).1
      exact ⟨fun e => absurd e (h.ne z (List.mem_of_getElem? hm)), fun e => by omega⟩
theorem adr_endk {k : Nat} (h : k = 0 ∨ l.length < k) : adr c l k = ⟨c, 2, none⟩ := by
  rcases h with rfl | h
  · rfl
  · obtain ⟨m, rfl⟩ : ∃ m, k = m + 1 := ⟨k - 1, by omega⟩
    exact adr_end (by omega)
theorem adr_erase {i : Nat} (hi : i < l.length) (k : Nat) : adr c (l.eraseIdx i) k = if k ≤ i then adr c l k else adr c l (k + 1) := by
  cases k with
  | zero => simp [adr]
  | succ m =>
    unfold adr
    simp only [Nat.add_one_ne_zero, if_false, Nat.add_sub_cancel, List.getElem?_eraseIdx]
    by_cases h : m < i
    · rw [if_pos h, if_pos (by omega)]
    · rw [if_neg h, if_neg (by omega)]

/-- A node taken out: two stores. -/
theorem Ring.out (h : Ring w c room mb l) {i : Nat} {x : Nd} (hx : l[i]? = some x) {pa pb : Addr} (hpa : adr c l i = pa) (hpb : adr c l (i + 2) = pb) :
    Ring ((w.setCell ⟨pa.block, pa.off + 4, none⟩ (.pointer (some pb))).setCell ⟨pb.block, pb.off + 3, none⟩ (.pointer (some pa))) c room mb (l.eraseIdx i) ∧
    Blk ((w.setCell ⟨pa.block, pa.off + 4, none⟩ (.pointer (some pb))).setCell ⟨pb.block, pb.off + 3, none⟩ (.pointer (some pa))) x.g 89 (ndC x pa pb) := by
  have hi := (List.getElem?_eq_some_iff.1 hx).1
  have key : ∀ {g t : Nat} {cs : Array Value}, Blk w g t cs → Blk ((w.setCell ⟨pa.block, pa.off + 4, none⟩ (.pointer (some pb))).setCell ⟨pb.block, pb.off + 3, none⟩ (.pointer (some pa))) g t
      (if pb.block = g then (if pa.block = g then cs.setIfInBounds (pa.off + 4) (.pointer (some pb)) else cs).setIfInBounds (pb.off + 3) (.pointer (some pa)) else (if pa.block = g then cs.setIfInBounds (pa.off + 4) (.pointer (some pb)) else cs)) :=
    fun hb => blk_store (blk_store hb pa.block (pa.off + 4) _) pb.block (pb.off + 3) _
  have ha : ∀ {j : Nat} {y : Nd}, l[j]? = some y → (pa.block = y.g ↔ i = j + 1) := fun hy => by rw [← hpa]; exact h.adr_nd hy i
  have hb : ∀ {j : Nat} {y : Nd}, l[j]? = some y → (pb.block = y.g ↔ i + 2 = j + 1) := fun hy => by rw [← hpb]; exact h.adr_nd hy (i + 2)
  have hac : pa.block = c ↔ i = 0 ∨ l.length < i := by rw [← hpa]; exact h.adr_ca i
  have hbc : pb.block = c ↔ i + 2 = 0 ∨ l.length < i + 2 := by rw [← hpb]; exact h.adr_ca (i + 2)
  have hlen : (l.eraseIdx i).length = l.length - 1 := List.length_eraseIdx_of_lt hi
  refine ⟨⟨?_, ?_, ?_, ?_⟩, ?_⟩
  · have hk := key h.ca
    rw [hlen, adr_erase hi, adr_erase hi]
    by_cases h1 : i = 0
    · have e1 : pa = ⟨c, 2, none⟩ := by rw [← hpa]; exact adr_endk (.inl h1)
      by_cases h2 : l.length < i + 2
      · have e2 : pb = ⟨c, 2, none⟩ := by rw [← hpb]; exact adr_endk (.inr h2)
        subst e1 e2
        rw [if_pos (hbc.2 (.inr h2)), if_pos (hac.2 (.inl h1))] at hk
        rw [if_pos (by omega), if_neg (by omega), show l.length - 1 = 0 by omega, show (1 : Nat) + 1 = i + 2 by omega, hpb]
        exact hk
      · subst e1
        rw [if_neg (fun e => by have := hbc.1 e; omega), if_pos (hac.2 (.inl h1))] at hk
        rw [if_neg (by omega), if_neg (by omega), show l.length - 1 + 1 = l.length by omega, show (1 : Nat) + 1 = i + 2 by omega, hpb]
        exact hk
    · have ha0 : ¬ pa.block = c := fun e => by have := hac.1 e; omega
      by_cases h2 : l.length < i + 2
      · have e2 : pb = ⟨c, 2, none⟩ := by rw [← hpb]; exact adr_endk (.inr h2)
        subst e2
        rw [if_pos (hbc.2 (.inr h2)), if_neg ha0] at hk
        rw [if_pos (by omega), if_pos (by omega), show l.length - 1 = i by omega, hpa]
        exact hk
      · rw [if_neg (fun e => by have := hbc.1 e; omega), if_neg ha0] at hk
        rw [if_neg (by omega), if_pos (by omega), show l.length - 1 + 1 = l.length by omega]
        exact hk
  · intro j y hy
    rw [List.getElem?_eraseIdx] at hy
    rw [adr_erase hi, adr_erase hi]
    split at hy
    · rename_i hj
      have hk := key (h.nd j y hy)
      have hb0 : ¬ pb.block = y.g := fun e => by have := (hb hy).1 e; omega
      rw [if_neg hb0] at hk
      rw [if_pos (by omega)]
      by_cases h1 : i = j + 1
      · have e1 : pa = ⟨y.g, 0, none⟩ := by rw [← hpa, h1]; exact adr_at hy
        subst e1
        rw [if_pos ((ha hy).2 h1)] at hk
        rw [if_neg (by omega), show j + 2 + 1 = i + 2 by omega, hpb]
        exact hk
      · rw [if_neg (fun e => h1 ((ha hy).1 e))] at hk
        rw [if_pos (by omega)]
        exact hk
    · rename_i hj
      have hk := key (h.nd (j + 1) y hy)
      have ha0 : ¬ pa.block = y.g := fun e => by have := (ha hy).1 e; omega
      rw [if_neg ha0] at hk
      rw [if_neg (show ¬ j + 2 ≤ i by omega)]
      by_cases h1 : j = i
      · have e2 : pb = ⟨y.g, 0, none⟩ := by rw [← hpb, ← h1]; exact adr_at hy
        subst e2
        rw [if_pos ((hb hy).2 (by omega))] at hk
        rw [if_pos (by omega), h1, hpa]
        subst h1
        exact hk
      · rw [if_neg (fun e => h1 (by have := (hb hy).1 e; omega))] at hk
        rw [if_neg (by omega)]
        exact hk
  · exact fun y hy => h.ne y (List.mem_of_mem_eraseIdx hy)
  · have : ((l.eraseIdx i).map (·.g)).Sublist (l.map (·.g)) := (List.eraseIdx_sublist l i).map _
    exact h.no.sublist this
  · have hk := key (h.nd i x hx)
    rw [if_neg (fun e => by have := (hb hx).1 e; omega), if_neg (fun e => by have := (ha hx).1 e; omega), hpa, hpb] at hk
    exact hk
theorem adr_cons {x : Nd} (k : Nat) : adr c (x :: l) (k + 2) = adr c l (k + 1) := by unfold adr; simp
theorem adr_one {x : Nd} : adr c (x :: l) 1 = ⟨x.g, 0, none⟩ := rfl

/-- A node put ahead of all others: four stores. -/
theorem Ring.first (h : Ring w c room mb l) {x : Nd} {qa qb : Value} {pf : Addr} (hx : Blk w x.g 89 #[.int .i64 x.id, .string x.b, .bool x.d, qa, qb]) (hxc : x.g ≠ c) (hxl : ∀ y ∈ l, y.g ≠ x.g) (hpf : adr c l 1 = pf) :
    Ring ((((w.setCell ⟨x.g, 3, none⟩ (.pointer (some ⟨c, 2, none⟩))).setCell ⟨x.g, 4, none⟩ (.pointer (some pf))).setCell ⟨pf.block, pf.off + 3, none⟩ (.pointer (some ⟨x.g, 0, none⟩))).setCell ⟨c, 6, none⟩ (.pointer (some ⟨x.g, 0, none⟩))) c room mb (x :: l) := by
  have key : ∀ {g t : Nat} {cs : Array Value}, Blk w g t cs → g ≠ x.g → Blk ((((w.setCell ⟨x.g, 3, none⟩ (.pointer (some ⟨c, 2, none⟩))).setCell ⟨x.g, 4, none⟩ (.pointer (some pf))).setCell ⟨pf.block, pf.off + 3, none⟩ (.pointer (some ⟨x.g, 0, none⟩))).setCell ⟨c, 6, none⟩ (.pointer (some ⟨x.g, 0, none⟩))) g t
      (if c = g then (if pf.block = g then cs.setIfInBounds (pf.off + 3) (.pointer (some ⟨x.g, 0, none⟩)) else cs).setIfInBounds 6 (.pointer (some ⟨x.g, 0, none⟩)) else (if pf.block = g then cs.setIfInBounds (pf.off + 3) (.pointer (some ⟨x.g, 0, none⟩)) else cs)) :=
    fun hb hg => blk_store (blk_store ((hb.far (p := ⟨x.g, 3, none⟩) hg _).far (p := ⟨x.g, 4, none⟩) hg _) pf.block (pf.off + 3) _) c 6 _
  have hpx : pf.block ≠ x.g := by
    intro e
    rw [← hpf] at e
    cases l with
    | nil => exact hxc e.symm
    | cons y r => exact hxl y (by simp) e
  refine ⟨?_, ?_, ?_, ?_⟩
  · have hk := key h.ca (fun e => hxc e.symm)
    rw [if_pos rfl] at hk
    cases l with
    | nil =>
      obtain rfl : pf = ⟨c, 2, none⟩ := hpf.symm
      rw [if_pos rfl] at hk
      exact hk
    | cons y r =>
      have hpc : ¬ pf.block = c := by rw [← hpf]; exact h.ne y (by simp)
      rw [if_neg hpc] at hk
      show Blk _ c _ (caC room mb (adr c (x :: y :: r) (r.length + 2)) _)
      rw [adr_cons]
      exact hk
  · intro j y hy
    cases j with
    | zero =>
      cases hy
      have h3 := (((hx.set_ 3 (.pointer (some ⟨c, 2, none⟩))).set_ 4 (.pointer (some pf))).far (p := ⟨pf.block, pf.off + 3, none⟩) (fun e => hpx e.symm) (.pointer (some ⟨x.g, 0, none⟩))).far (p := ⟨c, 6, none⟩) hxc (.pointer (some ⟨x.g, 0, none⟩))
      rw [adr_cons, hpf]
      exact h3
    | succ j =>
      have hy' : l[j]? = some y := hy
      have hyg := hxl y (List.mem_of_getElem? hy')
      have hyc := h.ne y (List.mem_of_getElem? hy')
      have hk := key (h.nd j y hy') hyg
      rw [if_neg (fun e => hyc e.symm)] at hk
      rw [show j + 1 + 2 = (j + 1) + 2 from rfl, adr_cons]
      have hiff : pf.block = y.g ↔ 1 = j + 1 := by rw [← hpf]; exact h.adr_nd hy' 1
      by_cases h0 : j = 0
      · subst h0
        have e1 : pf = ⟨y.g, 0, none⟩ := by rw [← hpf]; exact adr_at hy'
        subst e1
        rw [if_pos rfl] at hk
        exact hk
      · rw [if_neg (fun e => h0 (by have := hiff.1 e; omega))] at hk
        obtain ⟨m, rfl⟩ : ∃ m, j = m + 1 := ⟨j - 1, by omega⟩
        rw [adr_cons]
        exact hk
  · intro y hy
    rcases List.mem_cons.1 hy with rfl | hy
    · exact hxc
    · exact h.ne y hy
  · rw [List.map_cons, List.nodup_cons]
    refine ⟨fun hm => ?_, h.no⟩
    obtain ⟨y, hy, e⟩ := List.mem_map.1 hm
    exact hxl y hy e
end
end Go.Proofs.Ytcganajbfplmpaa
