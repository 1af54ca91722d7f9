/- Chapter 11 (cache): Dirty. -/
import Derived.Test.YtcganajbfplmpaaCa7
import Derived.Test.YtcganajbfplmpaaSrt
import Derived.Shelf.SlSortCmp.NoneTotal
namespace Go.Proofs.Ytcganajbfplmpaa
open Go.RowKit Go.Lap Go.Sort Go.Shelf
set_option linter.unusedVariables false

instance : Inhabited Ent := ⟨⟨0, ⟨#[]⟩, false⟩⟩
def cmpE (x y : Ent) : Int := Lib.compareInt x.id y.id
theorem ltE (x y : Ent) : ltOf cmpE x y = decide (x.id < y.id) := by
  unfold ltOf cmpE Lib.compareInt
  by_cases h1 : x.id < y.id
  · simp [h1]
  · by_cases h2 : y.id < x.id <;> simp [h1, h2]
theorem swoE : SWO (ltOf cmpE) where
  irrefl x := by rw [ltE]; simp
  trans x y z h1 h2 := by rw [ltE] at *; simp at *; omega
  ntrans x y z h1 h2 := by rw [ltE] at *; simp at *; omega
set_option maxHeartbeats 1000000 in
theorem closE (x y : Ent) (W : World) : Calls Try.prog 42 #[.agg #[.int .i64 x.id, .string x.b, .bool x.d], .agg #[.int .i64 y.id, .string y.b, .bool y.d]] W fun e w' => e = .returned (.int .i64 (cmpE x y)) ∧ ∃ q os', w' = grow (W.drewN q) os' := by
  have hcon := fun W' => AnyG.cmp_Compare_int Try.cmpInt x.id y.id W'
  change ∀ W', Calls Try.prog 43 _ _ _ at hcon
  unfold cmpE
  generalize Lib.compareInt x.id y.id = r at hcon ⊢
  go_enter Try.func42, Try.ntmps42
  go_wp2_with (go_at_call 43; refine (hcon _).mono ?_; rintro e w' ⟨rfl, rfl⟩)
  go_ret
  exact ⟨rfl, 0, _, by rw [alloc_eq_grow, alloc_eq_grow, grow_grow]; rfl⟩
theorem lays_E (blk off size : Nat) (w : World) : CmpLays Try.prog 42 #[] entC 3 cmpE blk off size w :=
  fun _ _ _ _ x y => closE x y _
/-- slices.SortFunc of entries. -/
theorem sort_ent {base : Nat} {v : Value} {l : List Ent} (w : World) (ho : Owns w base 32 3 entC v l) (hl : l.length ≤ 1000000) (hnd : (l.map (·.id)).Nodup) :
    Calls Try.prog 41 #[v, .func (.func 42) #[] #[]] w fun e w' => e = .returned (.tuple #[]) ∧ ∃ l', SlIn w' 3 entC v l' ∧ l'.Perm l ∧ (l'.Pairwise fun x y => x.id < y.id) ∧ Upd (fun k => v.ownBlock = some k) w w' := by
  obtain ⟨A, cp, hv, hcp, hor⟩ := Owns.slIn entOk ho
  subst hv
  by_cases h0 : l = []
  · subst h0
    refine (AnyF.slices_SortFunc_none Try.sortE A cp (.func (.func 42) #[] #[]) w).mono ?_
    rintro e w' ⟨rfl, rfl⟩
    exact ⟨rfl, [], Owns.slIn entOk ho, List.Perm.refl _, by simp, Upd.refl _ _⟩
  obtain ⟨g, rfl⟩ : ∃ g, A = some ⟨g, 0, none⟩ := by
    rcases ho.2 with h2 | ⟨g, cap, cur, hv, _⟩
    · exact absurd (List.length_eq_zero_iff.1 h2.2) h0
    · cases hv; exact ⟨g, rfl⟩
  have hH := holdsK_of entOk (by decide) ho
  have hb : g < w.heap.size := (ho.lt g rfl).2
  have eg : ∀ args w, (callFunc 42 args).run Try.prog w = .ok (.enter 42 args) w := enters_of Try.func42 (by kernel_rfl) rfl
  have hcon := AnyQ.slices_SortFunc Try.sortE 3 Try.isAgg32 Try.sizeOf32 entC (fun _ => rfl) (fun x v hv => by simp [entC] at hv; rcases hv with rfl | rfl | rfl <;> rfl) cmpE swoE 42 #[] g 0 cp l.toArray w eg (lays_E g 0 _ w) hH hb (by simp; omega)
  refine Calls.mono (show Calls Try.prog 41 #[.slice (some ⟨g, 0, none⟩) l.length cp, .func (.func 42) #[] #[]] w _ from hcon) ?_
  rintro e w' ⟨rfl, d', n, os, hp, hs, rfl⟩
  obtain ⟨h1, h2, h3⟩ := rising_of hp hs
  have h1' : d'.toList.Perm l := by simpa using h1
  refine ⟨rfl, d'.toList, slIn_sortK entOk hb hH h2 (by simpa using hcp), h1', ?_, (upd_sortK w g 0 n d' os).mono fun k _ hk => by rw [hk]; rfl⟩
  have hnd' : (d'.toList.map (·.id)).Nodup := ((h1'.map _).nodup_iff).2 hnd
  rw [List.nodup_iff_pairwise_ne, List.pairwise_map] at hnd'
  refine (h3.and hnd').imp ?_
  rintro x y ⟨ha, hb⟩
  rw [ltE] at ha
  simp at ha
  omega

/-- The first k written. -/
def cl1 (x : Nd) : Nd := ⟨x.g, x.id, x.b, false⟩
def clr (l : List Nd) (k : Nat) : List Nd := (l.take k).map cl1 ++ l.drop k
theorem clr_len (l : List Nd) (k : Nat) : (clr l k).length = l.length := by simp [clr]; omega
theorem clr_at {l : List Nd} {k : Nat} {x : Nd} (hx : l[k]? = some x) : (clr l k)[k]? = some x := by
  have hk := (List.getElem?_eq_some_iff.1 hx).1
  unfold clr
  rw [List.getElem?_append_right (by simp; omega)]
  simp only [List.length_map, List.length_take, List.getElem?_drop]
  rw [show k + (k - min k l.length) = k by omega, hx]
theorem clr_step {l : List Nd} {k : Nat} {x : Nd} (hx : l[k]? = some x) : clr l (k + 1) = (clr l k).set k (cl1 x) := by
  obtain ⟨hk, hx'⟩ := List.getElem?_eq_some_iff.1 hx
  unfold clr
  have h1 : l.drop k = x :: l.drop (k + 1) := by rw [List.drop_eq_getElem_cons hk, hx']
  have h2 : l.take (k + 1) = l.take k ++ [x] := by rw [List.take_add_one, hx]; rfl
  rw [h1, h2, List.map_append, List.append_assoc, List.set_append_right _ _ (by simp; omega)]
  simp only [List.length_map, List.length_take]
  rw [show k - min k l.length = 0 by omega]
  rfl
theorem clr_all (l : List Nd) : clr l l.length = l.map cl1 := by simp [clr]
theorem adr_set {c : Nat} {l : List Nd} {i : Nat} {x y : Nd} (hx : l[i]? = some x) (hg : y.g = x.g) (k : Nat) : adr c (l.set i y) k = adr c l k := by
  cases k with
  | zero => rfl
  | succ m =>
    unfold adr
    simp only [Nat.add_one_ne_zero, if_false, Nat.add_sub_cancel, List.getElem?_set]
    by_cases h : i = m
    · subst h
      obtain ⟨h1, h2⟩ := List.getElem?_eq_some_iff.1 hx
      simp [h1, hg, ← h2]
    · simp [h]
theorem adr_clr {c : Nat} {l : List Nd} : ∀ (k : Nat), k ≤ l.length → ∀ j, adr c (clr l k) j = adr c l j
  | 0, _, j => by simp [clr]
  | k + 1, hk, j => by
    obtain ⟨x, hx⟩ : ∃ x, l[k]? = some x := ⟨_, List.getElem?_eq_getElem (by omega)⟩
    rw [clr_step hx, adr_set (y := cl1 x) (clr_at hx) rfl, adr_clr k (by omega) j]
theorem map_g_set {l : List Nd} {i : Nat} {x y : Nd} (hx : l[i]? = some x) (hg : y.g = x.g) : (l.set i y).map (·.g) = l.map (·.g) := by
  rw [List.map_set, hg]
  obtain ⟨hi, hx'⟩ := List.getElem?_eq_some_iff.1 hx
  apply List.ext_getElem?
  intro j
  rw [List.getElem?_set]
  by_cases h : i = j
  · subst h; simp [hi, hx']
  · simp [h]
theorem map_id_set {l : List Nd} {i : Nat} {x y : Nd} (hx : l[i]? = some x) (hg : y.id = x.id) : (l.set i y).map (·.id) = l.map (·.id) := by
  rw [List.map_set, hg]
  obtain ⟨hi, hx'⟩ := List.getElem?_eq_some_iff.1 hx
  apply List.ext_getElem?
  intro j
  rw [List.getElem?_set]
  by_cases h : i = j
  · subst h; simp [hi, hx']
  · simp [h]
theorem mapF_set {l : List Nd} {i : Nat} {x y : Nd} (hx : l[i]? = some x) (hg : y.g = x.g) (hi : y.id = x.id) (id : Int) : mapF (l.set i y) id = mapF l id := by
  have key : ∀ (l : List Nd) (i : Nat), l[i]? = some x → mapF (l.set i y) id = mapF l id := by
    intro l
    induction l with
    | nil => intro i h; simp at h
    | cons z l ih =>
      intro i h
      cases i with
      | zero =>
        simp at h
        subst h
        rw [List.set_cons_zero, mapF_cons, mapF_cons, hg, hi]
      | succ i =>
        rw [List.set_cons_succ, mapF_cons, mapF_cons, ih i (by simpa using h)]
  exact key l i hx
/-- A node is written. -/
theorem CaAt.clear {w : World} {c mb : Nat} {room : Int} {l : List Nd} (h : CaAt w c room mb l) {i : Nat} {x : Nd} (hx : l[i]? = some x) :
    CaAt (w.setCell ⟨x.g, 2, none⟩ (.bool false)) c room mb (l.set i (cl1 x)) := by
  obtain ⟨hi, hx'⟩ := List.getElem?_eq_some_iff.1 hx
  have hxm := List.mem_of_getElem? hx
  have hmem : ∀ y ∈ l.set i (cl1 x), ∃ z ∈ l, z.g = y.g := fun y hy => by
    rcases List.mem_or_eq_of_mem_set hy with hy | rfl
    · exact ⟨y, hy, rfl⟩
    · exact ⟨x, hxm, rfl⟩
  have hu : Upd (· = x.g) w (w.setCell ⟨x.g, 2, none⟩ (.bool false)) := (Upd.refl (· = x.g) w).setCell (p := ⟨x.g, 2, none⟩) (fun _ => rfl) _
  refine ⟨⟨?_, ?_, ?_, ?_⟩, ?_, h.mc, ?_, ?_⟩
  · rw [List.length_set, adr_set (y := cl1 x) hx rfl, adr_set (y := cl1 x) hx rfl]
    exact h.ring.ca.upd hu (fun e => h.ring.ne x hxm e.symm)
  · intro j y hy
    rw [adr_set (y := cl1 x) hx rfl, adr_set (y := cl1 x) hx rfl]
    rw [List.getElem?_set] at hy
    by_cases hij : i = j
    · subst hij
      rw [if_pos rfl, if_pos hi] at hy
      cases hy
      have := (h.ring.nd i x hx).set_ 2 (.bool false)
      exact this
    · rw [if_neg hij] at hy
      exact (h.ring.nd j y hy).upd hu (fun e => hij (h.ring.inj hx hy e.symm))
  · intro y hy
    obtain ⟨z, hz, he⟩ := hmem y hy
    rw [← he]; exact h.ring.ne z hz
  · rw [map_g_set (y := cl1 x) hx rfl]; exact h.ring.no
  · rw [List.length_set]
    exact (h.map.upd hu (fun e => h.ml x hxm e.symm)).congr fun k _ => (mapF_set (y := cl1 x) hx rfl rfl k).symm
  · intro y hy
    obtain ⟨z, hz, he⟩ := hmem y hy
    rw [← he]; exact h.ml z hz
  · rw [map_id_set (y := cl1 x) hx rfl]; exact h.ids
theorem CaS_clr {c mb : Nat} {l : List Nd} {k : Nat} (hk : k ≤ l.length) (j : Nat) : CaS c mb (clr l k) j ↔ CaS c mb l j := by
  have : (clr l k).map (·.g) = l.map (·.g) := by
    unfold clr
    rw [List.map_append, List.map_map, show ((fun x : Nd => x.g) ∘ cl1) = fun x => x.g from rfl, ← List.map_append, List.take_append_drop]
  unfold CaS RgS
  rw [this]
def ptrBlk : Value → Nat
  | .pointer (some a) => a.block
  | _ => 0
def posOf (l : List Nd) (p : Value) : Nat := l.findIdx fun x => x.g == ptrBlk p
theorem posOf_adr {w : World} {c mb : Nat} {room : Int} {l : List Nd} (h : Ring w c room mb l) {k : Nat} (hk : k ≤ l.length) : posOf l (.pointer (some (adr c l (k + 1)))) = k := by
  by_cases hlt : k < l.length
  · obtain ⟨x, hx⟩ : ∃ x, l[k]? = some x := ⟨_, List.getElem?_eq_getElem hlt⟩
    rw [adr_at hx]
    refine (List.findIdx_eq hlt).2 ⟨by simp [ptrBlk, (List.getElem?_eq_some_iff.1 hx).2], fun j hj => ?_⟩
    have hy : l[j]? = some l[j] := List.getElem?_eq_getElem (by omega)
    simp only [ptrBlk, beq_eq_false_iff_ne]
    exact fun e => by have := h.inj hy hx e; omega
  · obtain rfl : k = l.length := by omega
    rw [adr_end (Nat.le_refl _)]
    refine List.findIdx_eq_length.2 fun x hx => ?_
    simp only [ptrBlk, beq_eq_false_iff_ne]
    exact h.ne x hx
end Go.Proofs.Ytcganajbfplmpaa
