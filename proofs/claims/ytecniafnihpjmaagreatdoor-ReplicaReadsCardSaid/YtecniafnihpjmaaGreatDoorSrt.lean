/- slices.SortFunc, in this seat's words: the row holds the same elements, sorted; nothing else old has turned. -/
import Derived.Test.YtecniafnihpjmaaGreatDoorMg2
import Derived.Shelf.SlSortCmp.WholeK
namespace Go.Lap
open Go.RowKit Go.Sort Go.Proofs
section
variable {α : Type} [Inhabited α] {enc : α → List Value} {k : Nat}
theorem holdsK_of {w : World} {base e cap g : Nat} {l : List α} (hE : Enc enc k) (hk : 0 < k) (h : Owns w base e k enc (.slice (some ⟨g, 0, none⟩) l.length cap) l) : HoldsK enc k w g 0 l.toArray := by
  have hb : ∃ cs, Blk w g e cs := by
    rcases h.2 with h2 | ⟨g', cap', cur, hv, _, hh, _⟩
    · cases h2.1
    · cases hv; exact ⟨cur, hh⟩
  obtain ⟨cs, hb⟩ := hb
  obtain ⟨A, c, hv, _, hor⟩ := Owns.slIn hE h
  cases hv
  intro t ht
  rw [size_flatK] at ht
  have hti : t / k < l.length := by
    rw [Nat.div_lt_iff_lt_mul hk]
    simpa using ht
  have htk : t % k < k := Nat.mod_lt _ hk
  rcases hor with hor | ⟨b, off, hA, _, hc⟩
  · rw [hor] at hti; simp at hti
  · cases hA
    obtain ⟨x, hx⟩ : ∃ x, l[t / k]? = some x := ⟨_, List.getElem?_eq_getElem hti⟩
    have hl := (hE x).1
    obtain ⟨u, hu⟩ : ∃ u, (enc x)[t % k]? = some u := ⟨_, List.getElem?_eq_getElem (by omega)⟩
    have h1 := hc _ x hx _ u hu
    have e1 : 0 + t / k * k + t % k = 0 + t := by
      have := Nat.div_add_mod t k
      rw [Nat.mul_comm] at this
      omega
    rw [e1] at h1
    refine ⟨?_, hb.frozen _⟩
    rw [h1, get_flatK _ _ _ _ (by simpa using ht)]
    have hx2 : l.toArray[t / k]! = x := by
      rw [getElem!_pos _ _ (by simpa using hti)]
      exact (List.getElem?_eq_some_iff.1 hx).2
    rw [hx2]
    have hu2 : (enc x)[t % k]! = u := by
      rw [getElem!_pos _ _ (by omega)]
      exact (List.getElem?_eq_some_iff.1 hu).2
    rw [hu2]
    rfl
theorem upd_sortK (w : World) (blk off n : Nat) (d : Array α) (os : Array Obj) : Upd (· = blk) w (sortWorldK enc k w blk off n d os) := by
  refine ⟨rfl, rfl, rfl, ?_, ?_⟩
  · show w.heap.size ≤ ((w.heap.modify blk _) ++ os).size
    simp
  · intro i hi hne
    show ((w.heap.modify blk _) ++ os)[i]? = _
    rw [Array.getElem?_append_left (by simpa using hi), Array.getElem?_modify, if_neg (fun e => hne e.symm)]
theorem slIn_sortK {w : World} {blk off n cap : Nat} {d d' : Array α} {os : Array Obj} (hE : Enc enc k) (hb : blk < w.heap.size) (hH : HoldsK enc k w blk off d) (hs : d'.size = d.size) (hc : d.size ≤ cap) :
    SlIn (sortWorldK enc k w blk off n d' os) k enc (.slice (some ⟨blk, off, none⟩) d.size cap) d'.toList := by
  have h2 : HoldsK enc k (sortWorldK enc k w blk off n d' os) blk off d' :=
    holdsK_grow enc k _ os blk off d' (by show blk < (w.heap.modify blk _).size; simpa using hb) (holdsK_putRowK enc k _ blk off d d' (holdsK_ahead enc k w n blk off d hH) hs)
  refine ⟨_, cap, by rw [Array.length_toList, hs], by rw [Array.length_toList, hs]; exact hc, .inr ⟨blk, off, rfl, Nat.lt_of_lt_of_le hb (upd_sortK w blk off n d' os).size, ?_⟩⟩
  intro i x hx j u hu
  rw [Array.getElem?_toList] at hx
  obtain ⟨hi, hx2⟩ := Array.getElem?_eq_some_iff.1 hx
  have hj : j < k := by rw [← (hE x).1]; exact (List.getElem?_eq_some_iff.1 hu).1
  have := (h2.cell hi hj).1
  rw [this, getElem!_pos d' i hi, hx2, getElem!_pos (enc x) j (by rw [(hE x).1]; exact hj)]
  exact congrArg some (List.getElem?_eq_some_iff.1 hu).2
/-- Sorted, and no two alike: rising. -/
theorem rising_of {lt : α → α → Bool} {d d' : Array α} (hp : PermIn 0 d.size d d') (hs : SortedIn lt 0 d.size d') : d'.toList.Perm d.toList ∧ d'.size = d.size ∧ d'.toList.Pairwise fun x y => lt y x = false := by
  obtain ⟨h1, _, h3⟩ := hp
  have e1 : d'.extract 0 d.size = d' := by rw [← h1]; exact Array.extract_size
  rw [e1, Array.extract_size] at h3
  refine ⟨h3, h1, ?_⟩
  rw [List.pairwise_iff_getElem]
  intro i j hi hj hij
  have := hs i j (Nat.zero_le _) hij (by simpa [h1] using hj)
  rw [getElem!_pos d' i (by simpa using hi), getElem!_pos d' j (by simpa using hj)] at this
  simpa using this
end
end Go.Lap
