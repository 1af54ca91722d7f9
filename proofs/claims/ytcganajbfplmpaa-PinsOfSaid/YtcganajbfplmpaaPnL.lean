/- Chapter 18 (pins): names and leases as lists (plain laws). -/
import Derived.Test.YtcganajbfplmpaaPn5
import Derived.Test.YtcganajbfplmpaaStr
namespace Go.Proofs.Ytcganajbfplmpaa
open Go.RowKit Go.Lap
set_option linter.unusedVariables false

/-- A name and its timestamp; a lease. -/
structure Pnm where
  s : ByteArray
  n : Nat
structure Lse where
  r : Nat
  a : Nat
  u : Nat
abbrev lsS (a b : ByteArray) : Bool := Op.bytesLess a.toList b.toList
theorem toList_inj {a b : ByteArray} (h : a.toList = b.toList) : a = b := by
  rw [ByteArray.toList_eq, ByteArray.toList_eq] at h
  have : a.data = b.data := Array.toList_inj.1 h
  cases a; cases b; simp_all
theorem lsS_trans {a b c : ByteArray} (h : lsS a b = true) (h' : lsS b c = true) : lsS a c = true := less_trans _ _ _ h h'
theorem lsS_irr (a : ByteArray) : lsS a a = false := less_irr _
theorem lsS_tri {a b : ByteArray} (h1 : lsS a b = false) (h2 : a ≠ b) : lsS b a = true := by
  cases h : lsS b a with
  | true => rfl
  | false => exact absurd (toList_inj (less_tri _ _ h1 h)) h2
theorem lsS_asymm {a b : ByteArray} (h : lsS a b = true) : lsS b a = false := by
  cases e : lsS b a with
  | false => rfl
  | true => have := lsS_trans h e; rw [lsS_irr] at this; cases this
theorem lsS_ne {a b : ByteArray} (h : lsS a b = true) : a ≠ b := by rintro rfl; rw [lsS_irr] at h; cases h

def lookE : List Pnm → ByteArray → Option Nat
  | [], _ => none
  | x :: l, s => if x.s = s then some x.n else lookE l s
def lookK : List Lse → Nat → Option (Nat × Nat)
  | [], _ => none
  | x :: l, r => if x.r = r then some (x.a, x.u) else lookK l r
def insP : List Pnm → ByteArray → Nat → List Pnm
  | [], s, n => [⟨s, n⟩]
  | x :: l, s, n => if lsS s x.s = true then ⟨s, n⟩ :: x :: l else x :: insP l s n
def delE (E : List Pnm) (s : ByteArray) : List Pnm := E.filter fun x => !decide (x.s = s)
def expK (K : List Lse) (t : Nat) : List Lse := K.filter fun x => decide (t < x.u)
def setK (K : List Lse) (r a u : Nat) : List Lse := K.map fun x => if x.r = r then ⟨x.r, x.a, u⟩ else x
def leaseK (K : List Lse) (r a u : Nat) : List Lse := if (lookK K r).isSome then setK K r a u else K ++ [⟨r, a, u⟩]
abbrev SrtE (E : List Pnm) : Prop := E.Pairwise fun x y => lsS x.s y.s = true
abbrev UniK (K : List Lse) : Prop := K.Pairwise fun x y => x.r ≠ y.r
structure GoodE (E : List Pnm) : Prop where
  srt : SrtE E
  len : E.length ≤ 16
  nm : ∀ x ∈ E, 0 < x.s.size ∧ x.s.size ≤ 32 ∧ okU x.n
structure GoodK (K : List Lse) : Prop where
  uni : UniK K
  len : K.length ≤ 16
  nm : ∀ x ∈ K, okU x.r ∧ okU x.a ∧ okU x.u

theorem lookE_cons (x : Pnm) (l : List Pnm) (s : ByteArray) : lookE (x :: l) s = if x.s = s then some x.n else lookE l s := rfl
theorem lookK_cons (x : Lse) (l : List Lse) (r : Nat) : lookK (x :: l) r = if x.r = r then some (x.a, x.u) else lookK l r := rfl
theorem lookE_none {E : List Pnm} {s : ByteArray} : lookE E s = none ↔ ∀ x ∈ E, x.s ≠ s := by
  induction E with
  | nil => simp [lookE]
  | cons y l ih =>
    unfold lookE
    split
    · rename_i h; simp [h]
    · rename_i h; simp [ih, h]
theorem lookE_mem {E : List Pnm} {s : ByteArray} {n : Nat} (h : lookE E s = some n) : ⟨s, n⟩ ∈ E := by
  induction E with
  | nil => cases h
  | cons y l ih =>
    unfold lookE at h
    split at h
    · rename_i e; cases h; cases y; cases e; exact List.mem_cons_self
    · exact List.mem_cons_of_mem _ (ih h)
theorem lookE_of {E : List Pnm} (hs : SrtE E) {x : Pnm} (hx : x ∈ E) : lookE E x.s = some x.n := by
  induction E with
  | nil => cases hx
  | cons y l ih =>
    have hp := List.pairwise_cons.1 hs
    unfold lookE
    rcases List.mem_cons.1 hx with rfl | hx
    · rw [if_pos rfl]
    · rw [if_neg (lsS_ne (hp.1 x hx))]; exact ih hp.2 hx
theorem lookK_none {K : List Lse} {r : Nat} : lookK K r = none ↔ ∀ x ∈ K, x.r ≠ r := by
  induction K with
  | nil => simp [lookK]
  | cons y l ih =>
    unfold lookK
    split
    · rename_i h; simp [h]
    · rename_i h; simp [ih, h]
theorem lookK_mem {K : List Lse} {r : Nat} {x : Nat × Nat} (h : lookK K r = some x) : ⟨r, x.1, x.2⟩ ∈ K := by
  induction K with
  | nil => cases h
  | cons y l ih =>
    unfold lookK at h
    split at h
    · rename_i e; cases h; cases y; cases e; exact List.mem_cons_self
    · exact List.mem_cons_of_mem _ (ih h)
theorem lookK_of {K : List Lse} (hs : UniK K) {x : Lse} (hx : x ∈ K) : lookK K x.r = some (x.a, x.u) := by
  induction K with
  | nil => cases hx
  | cons y l ih =>
    have hp := List.pairwise_cons.1 hs
    unfold lookK
    rcases List.mem_cons.1 hx with rfl | hx
    · rw [if_pos rfl]
    · rw [if_neg (hp.1 x hx)]; exact ih hp.2 hx

theorem look_ins {E : List Pnm} {s : ByteArray} {n : Nat} (h : lookE E s = none) : lookE (insP E s n) = putN (lookE E) s n := by
  funext k
  induction E with
  | nil =>
    show (if s = k then some n else none) = if k = s then some n else none
    by_cases hk : k = s
    · rw [if_pos hk, if_pos hk.symm]
    · rw [if_neg hk, if_neg (fun e => hk e.symm)]
  | cons y l ih =>
    have hy : y.s ≠ s := lookE_none.1 h y List.mem_cons_self
    have hl : lookE l s = none := lookE_none.2 fun x hx => lookE_none.1 h x (List.mem_cons_of_mem _ hx)
    unfold insP
    split
    · show (if s = k then some n else lookE (y :: l) k) = if k = s then some n else lookE (y :: l) k
      by_cases hk : k = s
      · rw [if_pos hk, if_pos hk.symm]
      · rw [if_neg hk, if_neg (fun e => hk e.symm)]
    · show (if y.s = k then some y.n else lookE (insP l s n) k) = if k = s then some n else (if y.s = k then some y.n else lookE l k)
      rw [ih hl]
      unfold putN
      by_cases hk : k = s
      · rw [if_pos hk, if_pos hk, if_neg (fun e => hy (e.trans hk))]
      · rw [if_neg hk, if_neg hk]
theorem ins_len (E : List Pnm) (s : ByteArray) (n : Nat) : (insP E s n).length = E.length + 1 := by
  induction E with
  | nil => rfl
  | cons y l ih => unfold insP; split <;> simp [ih]
theorem mem_ins {E : List Pnm} {s : ByteArray} {n : Nat} {x : Pnm} : x ∈ insP E s n ↔ x = ⟨s, n⟩ ∨ x ∈ E := by
  induction E with
  | nil => simp [insP]
  | cons y l ih =>
    unfold insP
    split
    · simp
    · simp only [List.mem_cons, ih]
      constructor
      · rintro (h | h | h) <;> simp [h]
      · rintro (h | h | h) <;> simp [h]
theorem srt_ins {E : List Pnm} (hs : SrtE E) {s : ByteArray} (n : Nat) (h : lookE E s = none) : SrtE (insP E s n) := by
  induction E with
  | nil => exact List.pairwise_singleton _ _
  | cons y l ih =>
    have hp := List.pairwise_cons.1 hs
    have hy : y.s ≠ s := lookE_none.1 h y List.mem_cons_self
    have hl : lookE l s = none := lookE_none.2 fun x hx => lookE_none.1 h x (List.mem_cons_of_mem _ hx)
    unfold insP
    split
    · rename_i hlt
      refine List.pairwise_cons.2 ⟨fun z hz => ?_, hs⟩
      rcases List.mem_cons.1 hz with rfl | hz
      · exact hlt
      · exact lsS_trans hlt (hp.1 z hz)
    · rename_i hlt
      refine List.pairwise_cons.2 ⟨fun z hz => ?_, ih hp.2 hl⟩
      rcases mem_ins.1 hz with rfl | hz
      · exact lsS_tri (by simpa using hlt) (fun e => hy e.symm)
      · exact hp.1 z hz
theorem look_del (E : List Pnm) (s : ByteArray) : lookE (delE E s) = delN (lookE E) s := by
  funext k
  unfold delN
  induction E with
  | nil => show none = _; split <;> rfl
  | cons y l ih =>
    unfold delE at ih ⊢
    rw [List.filter_cons]
    by_cases hy : y.s = s
    · rw [if_neg (by simp [hy]), ih, lookE_cons]
      by_cases hk : k = s
      · rw [if_pos hk, if_pos hk]
      · rw [if_neg hk, if_neg hk, if_neg (fun e => hk (e.symm.trans hy))]
    · rw [if_pos (by simp [hy])]
      unfold lookE
      rw [ih]
      by_cases hk : k = s
      · rw [if_pos hk, if_pos hk, if_neg (fun e => hy (e.trans hk))]
      · rw [if_neg hk, if_neg hk]
theorem del_len {E : List Pnm} (hs : SrtE E) (s : ByteArray) : (delE E s).length = if (lookE E s).isSome then E.length - 1 else E.length := by
  induction E with
  | nil => rfl
  | cons y l ih =>
    have hp := List.pairwise_cons.1 hs
    unfold delE at ih ⊢
    rw [List.filter_cons]
    unfold lookE
    by_cases hy : y.s = s
    · rw [if_neg (by simp [hy]), if_pos hy]
      have : List.filter (fun x => !decide (x.s = s)) l = l := List.filter_eq_self.2 fun x hx => by
        have := lsS_ne (hp.1 x hx)
        simp
        rintro rfl
        exact this hy
      rw [this]; rfl
    · rw [if_pos (by simp [hy]), if_neg hy, List.length_cons, ih hp.2]
      split
      · rename_i h
        have : 0 < l.length := by cases l with | nil => cases h | cons _ _ => simp
        simp; omega
      · rfl
theorem srt_del {E : List Pnm} (hs : SrtE E) (s : ByteArray) : SrtE (delE E s) := hs.sublist List.filter_sublist
theorem look_exp {K : List Lse} (hs : UniK K) (t : Nat) : lookK (expK K t) = expL (lookK K) t := by
  funext k
  unfold expL
  induction K with
  | nil => rfl
  | cons y l ih =>
    have hp := List.pairwise_cons.1 hs
    have ih := ih hp.2
    unfold expK at ih ⊢
    rw [List.filter_cons]
    by_cases hy : t < y.u
    · rw [if_pos (by simpa using hy)]
      unfold lookK
      by_cases hk : y.r = k
      · rw [if_pos hk, if_pos hk]
        exact (if_neg (by simpa using hy)).symm
      · rw [if_neg hk, if_neg hk]; exact ih
    · rw [if_neg (by simpa using hy), ih]
      by_cases hk : y.r = k
      · have h0 : lookK l k = none := lookK_none.2 fun x hx e => hp.1 x hx (hk.trans e.symm)
        rw [h0]
        show none = match (if y.r = k then some (y.a, y.u) else lookK l k) with | some x => _ | none => _
        rw [if_pos hk]
        exact (if_pos (by simpa using hy)).symm
      · have h1 : lookK (y :: l) k = lookK l k := by unfold lookK; rw [if_neg hk]; cases l <;> rfl
        rw [h1]
theorem look_set (K : List Lse) (r a u : Nat) {x : Nat × Nat} (hr : lookK K r = some x) (ha : x.1 = a) : lookK (setK K r a u) = putL (lookK K) r a u := by
  funext k
  unfold putL setK
  induction K with
  | nil => cases hr
  | cons y l ih =>
    rw [List.map_cons]
    unfold lookK at hr ⊢
    by_cases hy : y.r = r
    · rw [if_pos hy] at hr
      rw [if_pos hy]
      cases hr
      dsimp only at ha ⊢
      by_cases hk : k = r
      · rw [if_pos hk, if_pos (hy.trans hk.symm), ha]
      · have hk' : ¬ y.r = k := fun e => hk (e.symm.trans hy)
        rw [if_neg hk, if_neg hk', if_neg hk']
        clear ih
        induction l with
        | nil => rfl
        | cons z l ih =>
          rw [List.map_cons, lookK_cons, lookK_cons]
          by_cases hz : z.r = r
          · have hzk : ¬ z.r = k := fun e => hk (e.symm.trans hz)
            rw [if_pos hz, if_neg hzk, if_neg hzk]; exact ih
          · rw [if_neg hz]
            split
            · rfl
            · exact ih
    · rw [if_neg hy] at hr
      rw [if_neg hy]
      by_cases hk : k = r
      · rw [if_pos hk, if_neg (fun e => hy (e.trans hk)), ih hr, if_pos hk]
      · rw [if_neg hk]
        split
        · rfl
        · rw [ih hr, if_neg hk]
theorem look_app {K : List Lse} {r a u : Nat} (hr : lookK K r = none) : lookK (K ++ [⟨r, a, u⟩]) = putL (lookK K) r a u := by
  funext k
  unfold putL
  induction K with
  | nil =>
    show (if r = k then some (a, u) else none) = if k = r then some (a, u) else none
    by_cases hk : k = r
    · rw [if_pos hk, if_pos hk.symm]
    · rw [if_neg hk, if_neg (fun e => hk e.symm)]
  | cons y l ih =>
    have hy : y.r ≠ r := lookK_none.1 hr y List.mem_cons_self
    have hl : lookK l r = none := lookK_none.2 fun x hx => lookK_none.1 hr x (List.mem_cons_of_mem _ hx)
    rw [List.cons_append]
    unfold lookK
    rw [ih hl]
    by_cases hk : k = r
    · rw [if_pos hk, if_pos hk, if_neg (fun e => hy (e.trans hk))]
    · rw [if_neg hk, if_neg hk]
theorem uni_set {K : List Lse} (hs : UniK K) (r a u : Nat) : UniK (setK K r a u) := by
  unfold UniK setK
  rw [List.pairwise_map]
  refine hs.imp fun {x y} h => ?_
  split <;> split <;> simpa using h
theorem uni_app {K : List Lse} (hs : UniK K) {r a u : Nat} (hr : lookK K r = none) : UniK (K ++ [⟨r, a, u⟩]) := by
  refine List.pairwise_append.2 ⟨hs, List.pairwise_singleton _ _, fun x hx y hy => ?_⟩
  rw [List.mem_singleton] at hy
  subst hy
  exact lookK_none.1 hr x hx

/-- Two rising rows of the same names are one. -/
theorem srt_eq : ∀ {E M : List Pnm}, SrtE E → SrtE M → (∀ x, x ∈ E ↔ x ∈ M) → E = M
  | [], [], _, _, _ => rfl
  | [], y :: M, _, _, h => absurd ((h y).2 List.mem_cons_self) (by simp)
  | x :: E, [], _, _, h => absurd ((h x).1 List.mem_cons_self) (by simp)
  | x :: E, y :: M, h1, h2, h => by
    have p1 := List.pairwise_cons.1 h1
    have p2 := List.pairwise_cons.1 h2
    have hxy : x = y := by
      rcases List.mem_cons.1 ((h x).1 List.mem_cons_self) with e | hx
      · exact e
      · rcases List.mem_cons.1 ((h y).2 List.mem_cons_self) with e | hy
        · exact e.symm
        · have a1 := p2.1 x hx
          have a2 := p1.1 y hy
          rw [lsS_asymm a1] at a2; cases a2
    subst hxy
    congr 1
    refine srt_eq p1.2 p2.2 fun z => ?_
    constructor
    · intro hz
      rcases List.mem_cons.1 ((h z).1 (List.mem_cons_of_mem _ hz)) with rfl | hz'
      · exact absurd rfl (lsS_ne (p1.1 z hz))
      · exact hz'
    · intro hz
      rcases List.mem_cons.1 ((h z).2 (List.mem_cons_of_mem _ hz)) with rfl | hz'
      · exact absurd rfl (lsS_ne (p2.1 z hz))
      · exact hz'

/-- The floor. -/
def floorE (E : List Pnm) (last : Nat) : Nat := E.foldl (fun m x => if x.n < m then x.n else m) last
def floorK (K : List Lse) (last : Nat) : Nat := K.foldl (fun m x => if x.a < m then x.a else m) last
def floorP (E : List Pnm) (K : List Lse) (last : Nat) : Nat := floorK K (floorE E last)
theorem floorE_le (E : List Pnm) : ∀ last, floorE E last ≤ last ∧ (∀ x ∈ E, floorE E last ≤ x.n) ∧ (floorE E last = last ∨ ∃ x ∈ E, floorE E last = x.n) := by
  induction E with
  | nil => intro last; exact ⟨Nat.le_refl _, by simp, .inl rfl⟩
  | cons y l ih =>
    intro last
    have he : floorE (y :: l) last = floorE l (if y.n < last then y.n else last) := rfl
    rw [he]
    obtain ⟨h1, h2, h3⟩ := ih (if y.n < last then y.n else last)
    generalize floorE l (if y.n < last then y.n else last) = f at h1 h2 h3 ⊢
    refine ⟨by split at h1 <;> omega, fun x hx => ?_, ?_⟩
    · rcases List.mem_cons.1 hx with rfl | hx
      · split at h1 <;> omega
      · exact h2 x hx
    · rcases h3 with h3 | ⟨x, hx, h3⟩
      · split at h3
        · exact .inr ⟨y, List.mem_cons_self, h3⟩
        · exact .inl h3
      · exact .inr ⟨x, List.mem_cons_of_mem _ hx, h3⟩
theorem floorK_le (K : List Lse) : ∀ last, floorK K last ≤ last ∧ (∀ x ∈ K, floorK K last ≤ x.a) ∧ (floorK K last = last ∨ ∃ x ∈ K, floorK K last = x.a) := by
  induction K with
  | nil => intro last; exact ⟨Nat.le_refl _, by simp, .inl rfl⟩
  | cons y l ih =>
    intro last
    have he : floorK (y :: l) last = floorK l (if y.a < last then y.a else last) := rfl
    rw [he]
    obtain ⟨h1, h2, h3⟩ := ih (if y.a < last then y.a else last)
    generalize floorK l (if y.a < last then y.a else last) = f at h1 h2 h3 ⊢
    refine ⟨by split at h1 <;> omega, fun x hx => ?_, ?_⟩
    · rcases List.mem_cons.1 hx with rfl | hx
      · split at h1 <;> omega
      · exact h2 x hx
    · rcases h3 with h3 | ⟨x, hx, h3⟩
      · split at h3
        · exact .inr ⟨y, List.mem_cons_self, h3⟩
        · exact .inl h3
      · exact .inr ⟨x, List.mem_cons_of_mem _ hx, h3⟩
theorem floorP_le (E : List Pnm) (K : List Lse) (last : Nat) : floorP E K last ≤ last ∧ (∀ x ∈ E, floorP E K last ≤ x.n) ∧ (∀ x ∈ K, floorP E K last ≤ x.a) ∧ (floorP E K last = last ∨ (∃ x ∈ E, floorP E K last = x.n) ∨ ∃ x ∈ K, floorP E K last = x.a) := by
  obtain ⟨h1, h2, h3⟩ := floorE_le E last
  obtain ⟨g1, g2, g3⟩ := floorK_le K (floorE E last)
  unfold floorP
  refine ⟨Nat.le_trans g1 h1, fun x hx => Nat.le_trans g1 (h2 x hx), g2, ?_⟩
  rcases g3 with g3 | g3
  · rcases h3 with h3 | ⟨x, hx, h3⟩
    · exact .inl (g3.trans h3)
    · exact .inr (.inl ⟨x, hx, g3.trans h3⟩)
  · exact .inr (.inr g3)
/-- What the code's floor is of any names and leases. -/
def FloorIs (N : ByteArray → Option Nat) (L : Nat → Option (Nat × Nat)) (last r : Nat) : Prop :=
  r ≤ last ∧ (∀ s n, okS s → N s = some n → r ≤ n) ∧ (∀ k x, okU k → L k = some x → r ≤ x.1) ∧ (r = last ∨ (∃ s n, N s = some n ∧ r = n) ∨ ∃ k x, L k = some x ∧ r = x.1)
theorem floor_is {E : List Pnm} {K : List Lse} (hE : GoodE E) (hK : GoodK K) {last r : Nat} (h : FloorIs (lookE E) (lookK K) last r) : r = floorP E K last := by
  obtain ⟨h1, h2, h3, h4⟩ := h
  obtain ⟨g1, g2, g3, g4⟩ := floorP_le E K last
  refine Nat.le_antisymm ?_ ?_
  · rcases g4 with g4 | ⟨x, hx, g4⟩ | ⟨x, hx, g4⟩
    · omega
    · have := h2 x.s x.n (by have := hE.nm x hx; unfold okS maxLen; omega) (lookE_of hE.srt hx)
      omega
    · have := h3 x.r _ (hK.nm x hx).1 (lookK_of hK.uni hx)
      simp only at this
      omega
  · rcases h4 with h4 | ⟨s, n, hn, h4⟩ | ⟨k, x, hx, h4⟩
    · omega
    · have := g2 _ (lookE_mem hn)
      simp only at this; omega
    · have := g3 _ (lookK_mem hx)
      simp only at this; omega
end Go.Proofs.Ytcganajbfplmpaa
