/- Chapter 24: what a range has, as a plain list: the row that the code sorts, and the document's, made cell by cell. No program here. -/
import Derived.Test.YtecniafnihpjmaaGreatDoorMg14
namespace Go.Proofs.YtecniafnihpjmaaGreatDoor
open Go.RowKit Go.Lap
set_option linter.unusedVariables false
set_option linter.unusedSimpArgs false
structure Cel where
  key : ByteArray
  val : ByteArray
def celC (x : Cel) : List Value := [.string x.key, .string x.val]
theorem celOk : Enc celC 2 := fun x => ⟨rfl, by simp [celC, Value.oneCell']⟩
def lsK (a b : ByteArray) : Bool := Op.bytesLess a.toList b.toList
theorem lsK_trans {a b c : ByteArray} (h : lsK a b = true) (h' : lsK b c = true) : lsK a c = true := less_trans _ _ _ h h'
theorem lsK_irr (a : ByteArray) : lsK a a = false := less_irr _
theorem lsK_tri {a b : ByteArray} (h1 : lsK a b = false) (h2 : a ≠ b) : lsK b a = true := by
  cases h : lsK b a with
  | true => rfl
  | false => exact absurd (bytes_inj (less_tri _ _ h1 h)) h2
/-- The order of a range: by rising keys, or by falling ones. -/
def lsD (bk : Bool) (a b : ByteArray) : Bool := if bk then lsK b a else lsK a b
theorem lsD_trans {bk : Bool} {a b c : ByteArray} (h : lsD bk a b = true) (h' : lsD bk b c = true) : lsD bk a c = true := by
  cases bk with
  | true => exact lsK_trans (show lsK c b = true from h') (show lsK b a = true from h)
  | false => exact lsK_trans (show lsK a b = true from h) (show lsK b c = true from h')
theorem lsD_irr (bk : Bool) (a : ByteArray) : lsD bk a a = false := by cases bk <;> exact lsK_irr a
theorem lsD_tri {bk : Bool} {a b : ByteArray} (h1 : lsD bk a b = false) (h2 : a ≠ b) : lsD bk b a = true := by
  cases bk with
  | true => exact lsK_tri (show lsK b a = false from h1) (Ne.symm h2)
  | false => exact lsK_tri (show lsK a b = false from h1) h2
theorem lsD_ne {bk : Bool} {a b : ByteArray} (h : lsD bk a b = true) : a ≠ b := by rintro rfl; rw [lsD_irr] at h; cases h
def SrtD (bk : Bool) (l : List Cel) : Prop := l.Pairwise fun x y => lsD bk x.key y.key = true
theorem srtD_ext {bk : Bool} : ∀ {l m : List Cel}, SrtD bk l → SrtD bk m → (∀ c, c ∈ l ↔ c ∈ m) → l = m
  | [], [], _, _, _ => rfl
  | [], y :: m, _, _, h => by have := (h y).2 (by simp); simp at this
  | x :: l, [], _, _, h => by have := (h x).1 (by simp); simp at this
  | x :: l, y :: m, hl, hm, h => by
    obtain ⟨l1, l2⟩ := List.pairwise_cons.1 hl
    obtain ⟨m1, m2⟩ := List.pairwise_cons.1 hm
    have hxy : x = y := by
      rcases List.mem_cons.1 ((h x).1 (by simp)) with hx | hx
      · exact hx
      rcases List.mem_cons.1 ((h y).2 (by simp)) with hy | hy
      · exact hy.symm
      have h1 := lsD_trans (m1 x hx) (l1 y hy)
      rw [lsD_irr] at h1
      cases h1
    subst hxy
    congr 1
    refine srtD_ext l2 m2 fun c => ?_
    constructor
    · intro hc
      rcases List.mem_cons.1 ((h c).1 (by simp [hc])) with rfl | h3
      · have := l1 c hc; rw [lsD_irr] at this; cases this
      · exact h3
    · intro hc
      rcases List.mem_cons.1 ((h c).2 (by simp [hc])) with rfl | h3
      · have := m1 c hc; rw [lsD_irr] at this; cases this
      · exact h3
structure Rng where
  fr : ByteArray
  te : ByteArray
  op : Bool
  bk : Bool
  lim : Int
def Rng.has (x : Rng) (k : ByteArray) : Bool := !lsK k x.fr && (x.op || lsK k x.te)
/-- A key's value behind writes. -/
def valP (P : List (Nat × Wri)) (k : ByteArray) : Option ByteArray := match (vsOf P k).getLast? with
  | some v => if v.gone then none else some v.val
  | none => none
/-- A key's value, where it is in the range. -/
def valR (P : List (Nat × Wri)) (x : Rng) (k : ByteArray) : Option ByteArray := if x.has k then valP P k else none
theorem valR_key {P : List (Nat × Wri)} {x : Rng} {k v : ByteArray} (h : valR P x k = some v) : k ∈ P.map fun p => p.2.key := by
  unfold valR at h
  split at h
  · unfold valP at h
    cases hv : (vsOf P k).getLast? with
    | none => rw [hv] at h; cases h
    | some y =>
      have hm := List.mem_of_getLast? hv
      unfold vsOf at hm
      obtain ⟨p, hp, _⟩ := List.mem_map.1 hm
      obtain ⟨h1, h2⟩ := List.mem_filter.1 hp
      exact List.mem_map.2 ⟨p, h1, by simpa using h2⟩
  · cases h
/-- Where a key stands in a row. -/
def posD (bk : Bool) (out : List Cel) (k : ByteArray) : Nat := (out.takeWhile fun y => lsD bk y.key k).length
theorem posD_le (bk : Bool) (out : List Cel) (k : ByteArray) : posD bk out k ≤ out.length := (List.takeWhile_prefix _).length_le
theorem posD_take (bk : Bool) (k : ByteArray) : ∀ (out : List Cel), ∀ y ∈ out.take (posD bk out k), lsD bk y.key k = true
  | [], y, hy => by simp at hy
  | x :: out, y, hy => by
    unfold posD at hy
    rw [List.takeWhile_cons] at hy
    split at hy
    · rename_i hx
      rw [List.length_cons, List.take_succ_cons] at hy
      rcases List.mem_cons.1 hy with rfl | hy
      · exact hx
      · exact posD_take bk k out y hy
    · simp at hy
theorem posD_at {bk : Bool} {k : ByteArray} : ∀ {out : List Cel} {y : Cel}, out[posD bk out k]? = some y → lsD bk y.key k = false
  | [], y, hy => by simp at hy
  | x :: out, y, hy => by
    unfold posD at hy
    rw [List.takeWhile_cons] at hy
    split at hy
    · rename_i hx
      rw [List.length_cons, List.getElem?_cons_succ] at hy
      exact posD_at (out := out) hy
    · rename_i hx
      simp at hy
      subst hy
      simpa using hx
theorem posD_lt {bk : Bool} {k : ByteArray} {out : List Cel} {i : Nat} {y : Cel} (hi : i < posD bk out k) (hy : out[i]? = some y) : lsD bk y.key k = true := by
  refine posD_take bk k out y ?_
  have : (out.take (posD bk out k))[i]? = some y := by rw [List.getElem?_take]; simp [hi, hy]
  exact List.mem_of_getElem? this
/-- Where the row stands at a place: there it is, or one further on. -/
theorem posD_eq {bk : Bool} {k : ByteArray} {out : List Cel} {i : Nat} (h1 : ∀ j y, j < i → out[j]? = some y → lsD bk y.key k = true) (h2 : i ≤ out.length) (h3 : ∀ y, out[i]? = some y → lsD bk y.key k = false) : posD bk out k = i := by
  rcases Nat.lt_trichotomy (posD bk out k) i with h | h | h
  · obtain ⟨y, hy⟩ : ∃ y, out[posD bk out k]? = some y := ⟨_, List.getElem?_eq_getElem (by omega)⟩
    have a := h1 _ y h hy
    rw [posD_at hy] at a
    cases a
  · exact h
  · obtain ⟨y, hy⟩ : ∃ y, out[i]? = some y := ⟨_, List.getElem?_eq_getElem (by have := posD_le bk out k; omega)⟩
    have a := posD_lt h hy
    rw [h3 y hy] at a
    cases a
/-- Does a key not stand at its place yet? -/
def freeD (bk : Bool) (out : List Cel) (k : ByteArray) : Bool := match out[posD bk out k]? with
  | some y => !decide (y.key = k)
  | none => true
/-- The document's row with a key more. -/
def insD (P : List (Nat × Wri)) (x : Rng) (out : List Cel) (k : ByteArray) : List Cel := match valR P x k with
  | some v => if freeD x.bk out k then out.take (posD x.bk out k) ++ ⟨k, v⟩ :: out.drop (posD x.bk out k) else out
  | none => out
theorem drop_gt {bk : Bool} {k : ByteArray} {out : List Cel} (hs : SrtD bk out) (hf : freeD bk out k = true) : ∀ y ∈ out.drop (posD bk out k), lsD bk k y.key = true := by
  intro y hy
  unfold freeD at hf
  have hd : SrtD bk (out.drop (posD bk out k)) := List.Pairwise.sublist (List.drop_sublist _ _) hs
  cases ho : out[posD bk out k]? with
  | none =>
    have := List.getElem?_eq_none_iff.1 ho
    rw [List.drop_eq_nil_of_le this] at hy
    simp at hy
  | some z =>
    rw [ho] at hf
    have hz : z.key ≠ k := by simpa using hf
    have hlt : posD bk out k < out.length := (List.getElem?_eq_some_iff.1 ho).1
    have hze : out[posD bk out k] = z := (List.getElem?_eq_some_iff.1 ho).2
    rw [List.drop_eq_getElem_cons hlt, hze] at hd hy
    have h1 := lsD_tri (posD_at ho) hz
    rcases List.mem_cons.1 hy with rfl | hy
    · exact h1
    · exact lsD_trans h1 ((List.pairwise_cons.1 hd).1 y hy)
/-- The row behind some keys. -/
structure RInv (P : List (Nat × Wri)) (x : Rng) (done : List ByteArray) (out : List Cel) : Prop where
  srt : SrtD x.bk out
  mem : ∀ c : Cel, c ∈ out ↔ c.key ∈ done ∧ valR P x c.key = some c.val
theorem RInv.nil (P : List (Nat × Wri)) (x : Rng) : RInv P x [] [] := ⟨List.Pairwise.nil, fun c => by simp⟩
theorem RInv.step {P : List (Nat × Wri)} {x : Rng} {done : List ByteArray} {out : List Cel} (h : RInv P x done out) (k : ByteArray) : RInv P x (done ++ [k]) (insD P x out k) := by
  unfold insD
  cases hv : valR P x k with
  | none =>
    refine ⟨h.srt, fun c => ?_⟩
    rw [h.mem c]
    simp only [List.mem_append, List.mem_singleton]
    constructor
    · rintro ⟨h1, h2⟩; exact ⟨.inl h1, h2⟩
    · rintro ⟨h1 | h1, h2⟩
      · exact ⟨h1, h2⟩
      · rw [h1, hv] at h2; cases h2
  | some v =>
    dsimp only
    cases hf : freeD x.bk out k with
    | false =>
      rw [if_neg (by simp)]
      refine ⟨h.srt, fun c => ?_⟩
      rw [h.mem c]
      simp only [List.mem_append, List.mem_singleton]
      constructor
      · rintro ⟨h1, h2⟩; exact ⟨.inl h1, h2⟩
      · rintro ⟨h1 | h1, h2⟩
        · exact ⟨h1, h2⟩
        · unfold freeD at hf
          cases ho : out[posD x.bk out k]? with
          | none => rw [ho] at hf; cases hf
          | some y =>
            rw [ho] at hf
            have hy : y.key = k := by simpa using hf
            have := ((h.mem y).1 (List.mem_of_getElem? ho)).1
            rw [h1, ← hy]
            exact ⟨this, by rw [hy, ← h1]; exact h2⟩
    | true =>
      rw [if_pos rfl]
      have hdg := drop_gt h.srt hf
      have htk := posD_take x.bk k out
      refine ⟨?_, fun c => ?_⟩
      · have hs := h.srt
        rw [← List.take_append_drop (posD x.bk out k) out] at hs
        obtain ⟨a1, a2, a3⟩ := List.pairwise_append.1 hs
        refine List.pairwise_append.2 ⟨a1, List.pairwise_cons.2 ⟨hdg, a2⟩, fun y hy z hz => ?_⟩
        rcases List.mem_cons.1 hz with rfl | hz
        · exact htk y hy
        · exact a3 y hy z hz
      · have hc : c ∈ out.take (posD x.bk out k) ++ ⟨k, v⟩ :: out.drop (posD x.bk out k) ↔ c ∈ out ∨ c = ⟨k, v⟩ := by
          conv => rhs; rw [← List.take_append_drop (posD x.bk out k) out]
          simp only [List.mem_append, List.mem_cons]
          constructor
          · rintro (h1 | h1 | h1)
            · exact .inl (.inl h1)
            · exact .inr h1
            · exact .inl (.inr h1)
          · rintro ((h1 | h1) | h1)
            · exact .inl h1
            · exact .inr (.inr h1)
            · exact .inr (.inl h1)
        rw [hc, h.mem c]
        simp only [List.mem_append, List.mem_singleton]
        constructor
        · rintro (⟨h1, h2⟩ | rfl)
          · exact ⟨.inl h1, h2⟩
          · exact ⟨.inr rfl, hv⟩
        · rintro ⟨h1 | h1, h2⟩
          · exact .inl ⟨h1, h2⟩
          · obtain ⟨ck, cv⟩ := c
            dsimp only at h1 h2
            subst h1
            rw [hv] at h2
            cases h2
            exact .inr rfl
/-- The document's row, ahead of the limit. -/
def scanD (P : List (Nat × Wri)) (x : Rng) (ks : List ByteArray) : List Cel := ks.foldl (insD P x) []
theorem scanD_snoc (P : List (Nat × Wri)) (x : Rng) (ks : List ByteArray) (k : ByteArray) : scanD P x (ks ++ [k]) = insD P x (scanD P x ks) k := by
  unfold scanD; rw [List.foldl_append]; rfl
theorem scanD_inv (P : List (Nat × Wri)) (x : Rng) (ks : List ByteArray) : RInv P x ks (scanD P x ks) := by
  have : ∀ (ks done : List ByteArray) (out : List Cel), RInv P x done out → RInv P x (done ++ ks) (ks.foldl (insD P x) out) := by
    intro ks
    induction ks with
    | nil => intro done out h; simpa using h
    | cons k ks ih => intro done out h; have := ih _ _ (h.step k); simpa using this
  have h := this ks [] [] (RInv.nil P x)
  rw [List.nil_append] at h
  exact h
theorem insD_len (P : List (Nat × Wri)) (x : Rng) (out : List Cel) (k : ByteArray) : (insD P x out k).length ≤ out.length + 1 := by
  unfold insD
  split
  · split
    · have := posD_le x.bk out k
      simp only [List.length_append, List.length_cons, List.length_take, List.length_drop]
      omega
    · omega
  · omega
theorem scanD_len (P : List (Nat × Wri)) (x : Rng) (ks : List ByteArray) : (scanD P x ks).length ≤ ks.length := by
  have : ∀ (ks : List ByteArray) (out : List Cel), (ks.foldl (insD P x) out).length ≤ out.length + ks.length := by
    intro ks
    induction ks with
    | nil => intro out; simp
    | cons k ks ih => intro out; have h1 := ih (insD P x out k); have h2 := insD_len P x out k; simp only [List.foldl_cons, List.length_cons]; omega
  have h := this ks []
  simpa [scanD] using h
def limC (n : Int) (l : List Cel) : List Cel := if 0 ≤ n ∧ n < (l.length : Int) then l.take n.toNat else l
/-- What the document's Scan answers. -/
def docScan (P : List (Nat × Wri)) (x : Rng) : List Cel := limC x.lim (scanD P x (P.map fun p => p.2.key))
/-- A row that is sorted by rising keys and holds just the range's cells is the document's, turned where the range is backwards. -/
theorem code_is_doc {P : List (Nat × Wri)} {x : Rng} {l : List Cel} (hs : SrtD false l) (hm : ∀ c : Cel, c ∈ l ↔ valR P x c.key = some c.val) : limC x.lim (if x.bk then l.reverse else l) = docScan P x := by
  unfold docScan
  congr 1
  have hi := scanD_inv P x (P.map fun p => p.2.key)
  refine srtD_ext (bk := x.bk) ?_ hi.srt fun c => ?_
  · cases hb : x.bk with
    | false => exact hs
    | true =>
      rw [if_pos rfl]
      exact List.pairwise_reverse.2 hs
  · rw [hi.mem c]
    have : c ∈ (if x.bk then l.reverse else l) ↔ c ∈ l := by split <;> simp
    rw [this, hm c]
    constructor
    · intro h; exact ⟨valR_key h, h⟩
    · rintro ⟨_, h⟩; exact h
end Go.Proofs.YtecniafnihpjmaaGreatDoor
