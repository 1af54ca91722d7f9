/- Chapter 20 (accept): one value (plain law, no program): whatever reaches whom, a value that a quorum has accepted in one ballot is the only one. -/
import Derived.Test.YtghhcjpilcoblaaBase
namespace Go.Lap.Pax
set_option linter.unusedVariables false

/-- An acceptor: which ballot it promised (0: none; i + 1: the i-th proposal's), what it accepted (whose, which). -/
structure Ac where
  p : Nat
  a : Option (Nat × ByteArray)
/-- A proposal: who promised, who accepted, what was promised, its value. -/
structure Pp where
  fr : Nat → Bool
  by_ : Nat → Bool
  prom : List (Option (Nat × ByteArray))
  val : ByteArray
  has : Bool
structure St where
  ac : Nat → Ac
  pp : Nat → Pp
  any : Bool
  ch : ByteArray
def upd {α : Type} (f : Nat → α) (k : Nat) (x : α) : Nat → α := fun j => if j = k then x else f j
theorem upd_same {α : Type} (f : Nat → α) (k : Nat) (x : α) : upd f k x k = x := if_pos rfl
theorem upd_ne {α : Type} (f : Nat → α) {k j : Nat} (x : α) (h : j ≠ k) : upd f k x j = f j := if_neg h
/-- How many of the first m are so. -/
def cnt (f : Nat → Bool) : Nat → Nat
  | 0 => 0
  | m + 1 => cnt f m + if f m then 1 else 0
theorem cnt_two (f g : Nat → Bool) : ∀ m, (∀ k, k < m → ¬ (f k = true ∧ g k = true)) → cnt f m + cnt g m ≤ m
  | 0, _ => by simp [cnt]
  | m + 1, h => by
    have := cnt_two f g m (fun k hk => h k (by omega))
    have hm := h m (by omega)
    unfold cnt
    cases hf : f m <;> cases hg : g m <;> simp [hf, hg] at hm ⊢ <;> omega
theorem cnt_upto (f : Nat → Bool) (n : Nat) (h : ∀ k, f k = true → k < n) : ∀ m, n ≤ m → cnt f m = cnt f n
  | 0, hm => by have : n = 0 := by omega
                subst this; rfl
  | m + 1, hm => by
    by_cases he : n = m + 1
    · subst he; rfl
    · rw [show cnt f (m + 1) = cnt f m + if f m then 1 else 0 from rfl]
      have : f m = false := by
        cases hf : f m with
        | false => rfl
        | true => have := h m hf; omega
      rw [this, cnt_upto f n h m (by omega)]; rfl
theorem meets {n : Nat} (hn : n ≤ 8) {f g : Nat → Bool} (hf : ∀ k, f k = true → k < n) (hg : ∀ k, g k = true → k < n) (h1 : n / 2 + 1 ≤ cnt f 8) (h2 : n / 2 + 1 ≤ cnt g 8) : ∃ k, f k = true ∧ g k = true := by
  rw [cnt_upto f n hf 8 hn] at h1
  rw [cnt_upto g n hg 8 hn] at h2
  refine Classical.byContradiction fun hno => ?_
  have := cnt_two f g n (fun k _ h => hno ⟨k, h⟩)
  omega
/-- What may be proposed behind promises. -/
def bestA (own : ByteArray) (l : List (Option (Nat × ByteArray))) : Option (Nat × ByteArray) := l.foldl (fun b x => match b, x with
  | none, x => x
  | some y, some z => if y.1 < z.1 then some z else some y
  | some y, none => some y) none
def bestV (own : ByteArray) (l : List (Option (Nat × ByteArray))) : ByteArray := match bestA own l with
  | none => own
  | some y => y.2
theorem bestA_snoc (own : ByteArray) (l : List (Option (Nat × ByteArray))) (x : Option (Nat × ByteArray)) : bestA own (l ++ [x]) = match bestA own l, x with
  | none, x => x
  | some y, some z => if y.1 < z.1 then some z else some y
  | some y, none => some y := by
  unfold bestA
  rw [List.foldl_append]; rfl
theorem rev_ind {α : Type} {P : List α → Prop} (h0 : P []) (h1 : ∀ l x, P l → P (l ++ [x])) (l : List α) : P l := by
  have : ∀ l : List α, P l.reverse := by
    intro l
    induction l with
    | nil => exact h0
    | cons x l ih => rw [List.reverse_cons]; exact h1 _ _ ih
  have := this l.reverse
  rwa [List.reverse_reverse] at this
theorem bestA_is (own : ByteArray) (l : List (Option (Nat × ByteArray))) : (bestA own l = none ∧ ∀ x ∈ l, x = none) ∨ ∃ y, bestA own l = some y ∧ some y ∈ l ∧ ∀ z, some z ∈ l → z.1 ≤ y.1 := by
  induction l using rev_ind with
  | h0 => exact .inl ⟨rfl, by simp⟩
  | h1 l x ih =>
    rw [bestA_snoc]
    rcases ih with ⟨h1, h2⟩ | ⟨y, h1, h2, h3⟩
    · rw [h1]
      cases x with
      | none =>
        refine .inl ⟨rfl, fun x hx => ?_⟩
        rcases List.mem_append.1 hx with hx | hx
        · exact h2 x hx
        · simpa using hx
      | some z =>
        refine .inr ⟨z, rfl, by simp, fun z' hz => ?_⟩
        rcases List.mem_append.1 hz with hz | hz
        · cases h2 _ hz
        · simp at hz; subst hz; exact Nat.le_refl _
    · rw [h1]
      cases x with
      | none =>
        refine .inr ⟨y, rfl, by simp [h2], fun z' hz => ?_⟩
        rcases List.mem_append.1 hz with hz | hz
        · exact h3 _ hz
        · simp at hz
      | some z =>
        dsimp only
        split
        · refine .inr ⟨z, rfl, by simp, fun z' hz => ?_⟩
          rcases List.mem_append.1 hz with hz | hz
          · have := h3 _ hz; omega
          · simp at hz; subst hz; exact Nat.le_refl _
        · refine .inr ⟨y, rfl, by simp [h2], fun z' hz => ?_⟩
          rcases List.mem_append.1 hz with hz | hz
          · exact h3 _ hz
          · simp at hz; subst hz; omega

/-- A quorum will never accept a proposal any more. -/
def Bl (n : Nat) (s : St) (q : Nat) : Prop := ∃ Q : Nat → Bool, (∀ k, Q k = true → k < n) ∧ n / 2 + 1 ≤ cnt Q 8 ∧ ∀ k, Q k = true → (s.pp q).by_ k = false ∧ q + 1 < (s.ac k).p
structure Inv (n : Nat) (s : St) : Prop where
  a1 : ∀ k a v, (s.ac k).a = some (a, v) → a + 1 ≤ (s.ac k).p ∧ (s.pp a).has = true ∧ v = (s.pp a).val
  a2 : ∀ q k, (s.pp q).by_ k = true → (s.pp q).has = true ∧ ∃ a v, (s.ac k).a = some (a, v) ∧ q ≤ a
  f1 : ∀ p k, (s.pp p).fr k = true → p + 1 ≤ (s.ac k).p
  f2 : ∀ p, (s.pp p).has = false → ∀ k, (s.pp p).fr k = true → ∃ x ∈ (s.pp p).prom, ∀ q, q < p → (s.pp q).by_ k = true → ∃ a v, x = some (a, v) ∧ q ≤ a
  f3 : ∀ p a v, some (a, v) ∈ (s.pp p).prom → a < p ∧ (s.pp a).has = true ∧ v = (s.pp a).val
  d1 : ∀ p k, (s.pp p).fr k = true → k < n
  d2 : ∀ p k, (s.pp p).by_ k = true → k < n
  sa : ∀ p, (s.pp p).has = true → ∀ q, q < p → ((s.pp q).has = true ∧ (s.pp q).val = (s.pp p).val) ∨ Bl n s q
  ch : s.any = true → ∃ p, (s.pp p).has = true ∧ (s.pp p).val = s.ch ∧ n / 2 + 1 ≤ cnt (s.pp p).by_ 8

/-- A promise: whether it is given; what becomes of it. -/
def prepS (s : St) (k p : Nat) : St := if (s.ac k).p ≤ p + 1 then { s with ac := upd s.ac k ⟨p + 1, (s.ac k).a⟩ } else s
def addP (x : Pp) (k : Nat) (q : Option (Nat × ByteArray)) : Pp := { x with fr := upd x.fr k true, prom := x.prom ++ [q] }
def setV (x : Pp) (v : ByteArray) : Pp := { x with val := v, has := true }
def accS (s : St) (k p : Nat) : St := { s with ac := upd s.ac k ⟨p + 1, some (p, (s.pp p).val)⟩, pp := upd s.pp p { s.pp p with by_ := upd (s.pp p).by_ k true } }

theorem Bl.mono {n : Nat} {s s' : St} {q : Nat} (h : Bl n s q) (hb : ∀ k, q + 1 < (s.ac k).p → (s.pp q).by_ k = false → (s'.pp q).by_ k = false) (ha : ∀ k, q + 1 < (s.ac k).p → q + 1 < (s'.ac k).p) : Bl n s' q := by
  obtain ⟨Q, h1, h2, h3⟩ := h
  exact ⟨Q, h1, h2, fun k hk => ⟨hb k (h3 k hk).2 (h3 k hk).1, ha k (h3 k hk).2⟩⟩
theorem Inv.prep {n : Nat} {s : St} (h : Inv n s) (k p : Nat) : Inv n (prepS s k p) := by
  unfold prepS
  split
  · rename_i hle
    have hge : ∀ j, (s.ac j).p ≤ (upd s.ac k ⟨p + 1, (s.ac k).a⟩ j).p := fun j => by
      by_cases hj : j = k
      · subst hj; rw [upd_same]; exact hle
      · rw [upd_ne _ _ hj]; exact Nat.le_refl _
    have hsa : ∀ j, (upd s.ac k ⟨p + 1, (s.ac k).a⟩ j).a = (s.ac j).a := fun j => by
      by_cases hj : j = k
      · subst hj; rw [upd_same]
      · rw [upd_ne _ _ hj]
    refine ⟨fun j a v hv => ?_, fun q j hq => ?_, fun q j hq => Nat.le_trans (h.f1 q j hq) (hge j), h.f2, h.f3, h.d1, h.d2, fun q hq r hr => ?_, h.ch⟩
    · rw [hsa] at hv
      have := h.a1 j a v hv
      exact ⟨Nat.le_trans this.1 (hge j), this.2⟩
    · have := h.a2 q j hq
      refine ⟨this.1, ?_⟩
      obtain ⟨a, v, h1, h2⟩ := this.2
      exact ⟨a, v, by rw [hsa]; exact h1, h2⟩
    · exact (h.sa q hq r hr).imp (fun x => x) fun b => b.mono (fun _ _ h => h) (fun j hj => Nat.lt_of_lt_of_le hj (hge j))
  · exact h
/-- The promise is kept with the proposal. -/
theorem Inv.add {n : Nat} {s : St} (h : Inv n s) {k p : Nat} (hk : k < n) (hh : (s.pp p).has = false) (hp : p + 1 ≤ (s.ac k).p) (hp2 : (s.ac k).p ≤ p + 1) : Inv n { s with pp := upd s.pp p (addP (s.pp p) k (s.ac k).a) } := by
  have hhas : ∀ q, (upd s.pp p (addP (s.pp p) k (s.ac k).a) q).has = (s.pp q).has := fun q => by
    by_cases hq : q = p
    · subst hq; rw [upd_same]; rfl
    · rw [upd_ne _ _ hq]
  have hval : ∀ q, (upd s.pp p (addP (s.pp p) k (s.ac k).a) q).val = (s.pp q).val := fun q => by
    by_cases hq : q = p
    · subst hq; rw [upd_same]; rfl
    · rw [upd_ne _ _ hq]
  have hby : ∀ q, (upd s.pp p (addP (s.pp p) k (s.ac k).a) q).by_ = (s.pp q).by_ := fun q => by
    by_cases hq : q = p
    · subst hq; rw [upd_same]; rfl
    · rw [upd_ne _ _ hq]
  refine ⟨fun j a v hv => ?_, fun q j hq => ?_, fun q j hq => ?_, fun q hq j hj => ?_, fun q a v hv => ?_, fun q j hq => ?_, fun q j hq => ?_, fun q hq r hr => ?_, fun ha => ?_⟩
  · dsimp only; rw [hhas, hval]; exact h.a1 j a v hv
  · dsimp only at hq ⊢; rw [hby] at hq; rw [hhas]; exact h.a2 q j hq
  · dsimp only at hq ⊢
    by_cases hqp : q = p
    · subst hqp
      rw [upd_same] at hq
      by_cases hjk : j = k
      · subst hjk; exact hp
      · have : (s.pp q).fr j = true := by unfold addP at hq; dsimp only at hq; rwa [upd_ne _ _ hjk] at hq
        exact h.f1 q j this
    · rw [upd_ne _ _ hqp] at hq; exact h.f1 q j hq
  · dsimp only at hq hj ⊢
    rw [hhas] at hq
    simp only [hby]
    by_cases hqp : q = p
    · subst hqp
      rw [upd_same] at hj ⊢
      by_cases hjk : j = k
      · subst hjk
        refine ⟨(s.ac j).a, by unfold addP; simp, fun r hr hb => ?_⟩
        exact (h.a2 r j hb).2
      · have hj' : (s.pp q).fr j = true := by unfold addP at hj; dsimp only at hj; rwa [upd_ne _ _ hjk] at hj
        obtain ⟨x, hx, hx2⟩ := h.f2 q hq j hj'
        exact ⟨x, by unfold addP; simp [hx], hx2⟩
    · rw [upd_ne _ _ hqp] at hj ⊢
      exact h.f2 q hq j hj
  · dsimp only at hv ⊢
    rw [hhas, hval]
    by_cases hqp : q = p
    · subst hqp
      rw [upd_same] at hv
      unfold addP at hv
      rcases List.mem_append.1 hv with hv | hv
      · exact h.f3 q a v hv
      · have hv : (s.ac k).a = some (a, v) := by simpa [eq_comm] using hv
        have := h.a1 k a v hv
        refine ⟨?_, this.2⟩
        have hne : a ≠ q := fun e => by rw [e, hh] at this; exact absurd this.2.1 (by simp)
        omega
    · rw [upd_ne _ _ hqp] at hv; exact h.f3 q a v hv
  · dsimp only at hq
    by_cases hqp : q = p
    · subst hqp
      rw [upd_same] at hq
      by_cases hjk : j = k
      · rw [hjk]; exact hk
      · have : (s.pp q).fr j = true := by unfold addP at hq; dsimp only at hq; rwa [upd_ne _ _ hjk] at hq
        exact h.d1 q j this
    · rw [upd_ne _ _ hqp] at hq; exact h.d1 q j hq
  · dsimp only at hq; rw [hby] at hq; exact h.d2 q j hq
  · dsimp only at hq ⊢
    rw [hhas] at hq
    rw [hhas, hval, hval]
    exact (h.sa q hq r hr).imp (fun x => x) fun b => b.mono (fun j _ hb => by dsimp only; rw [hby]; exact hb) (fun j hj => hj)
  · obtain ⟨q, h1, h2, h3⟩ := h.ch ha
    refine ⟨q, ?_, ?_, ?_⟩
    · dsimp only; rw [hhas]; exact h1
    · dsimp only; rw [hval]; exact h2
    · dsimp only; rw [hby]; exact h3
/-- A quorum has promised: the proposal has its value. -/
theorem Inv.val {n : Nat} {s : St} (h : Inv n s) {p : Nat} (hh : (s.pp p).has = false) (hq : n / 2 + 1 ≤ cnt (s.pp p).fr 8) (own : ByteArray) : Inv n { s with pp := upd s.pp p (setV (s.pp p) (bestV own (s.pp p).prom)) } := by
  have hne : ∀ a, (s.pp a).has = true → a ≠ p := fun a ha e => by rw [e, hh] at ha; cases ha
  have hfr : ∀ q, (upd s.pp p (setV (s.pp p) (bestV own (s.pp p).prom)) q).fr = (s.pp q).fr := fun q => by
    by_cases hq : q = p
    · subst hq; rw [upd_same]; rfl
    · rw [upd_ne _ _ hq]
  have hpr : ∀ q, (upd s.pp p (setV (s.pp p) (bestV own (s.pp p).prom)) q).prom = (s.pp q).prom := fun q => by
    by_cases hq : q = p
    · subst hq; rw [upd_same]; rfl
    · rw [upd_ne _ _ hq]
  have hby : ∀ q, (upd s.pp p (setV (s.pp p) (bestV own (s.pp p).prom)) q).by_ = (s.pp q).by_ := fun q => by
    by_cases hq : q = p
    · subst hq; rw [upd_same]; rfl
    · rw [upd_ne _ _ hq]
  have hsame : ∀ a, (s.pp a).has = true → upd s.pp p (setV (s.pp p) (bestV own (s.pp p).prom)) a = s.pp a := fun a ha => upd_ne _ _ (hne a ha)
  have hbm : ∀ q, Bl n s q → Bl n { s with pp := upd s.pp p (setV (s.pp p) (bestV own (s.pp p).prom)) } q := fun q b => b.mono (fun j _ hb => by dsimp only; rw [hby]; exact hb) (fun j hj => hj)
  refine ⟨fun j a v hv => ?_, fun q j hq => ?_, fun q j hq => ?_, fun q hq j hj => ?_, fun q a v hv => ?_, fun q j hq => ?_, fun q j hq => ?_, fun r hr q hqr => ?_, fun ha => ?_⟩
  · have := h.a1 j a v hv
    dsimp only
    rw [hsame a this.2.1]
    exact this
  · dsimp only at hq ⊢; rw [hby] at hq
    have := h.a2 q j hq
    rw [hsame q this.1]; exact this
  · dsimp only at hq; rw [hfr] at hq; exact h.f1 q j hq
  · dsimp only at hq hj ⊢
    rw [hfr] at hj
    rw [hpr]
    simp only [hby]
    have hqp : q ≠ p := fun e => by subst e; rw [upd_same] at hq; cases hq
    rw [upd_ne _ _ hqp] at hq
    exact h.f2 q hq j hj
  · dsimp only at hv ⊢
    rw [hpr] at hv
    have := h.f3 q a v hv
    rw [hsame a this.2.1]; exact this
  · dsimp only at hq; rw [hfr] at hq; exact h.d1 q j hq
  · dsimp only at hq; rw [hby] at hq; exact h.d2 q j hq
  · dsimp only at hr ⊢
    by_cases hrp : r = p
    · subst hrp
      rw [upd_same]
      have hblF : (∀ j, (s.pp r).fr j = true → (s.pp q).by_ j = false) → Bl n { s with pp := upd s.pp r (setV (s.pp r) (bestV own (s.pp r).prom)) } q := fun hb => by
        refine ⟨(s.pp r).fr, h.d1 r, hq, fun j hj => ⟨?_, ?_⟩⟩
        · dsimp only; rw [hby]; exact hb j hj
        · have := h.f1 r j hj; dsimp only; omega
      rcases bestA_is own (s.pp r).prom with ⟨h1, h2⟩ | ⟨y, h1, h2, h3⟩
      · refine .inr (hblF fun j hj => ?_)
        cases hb : (s.pp q).by_ j with
        | false => rfl
        | true =>
          obtain ⟨x, hx, hx2⟩ := h.f2 r hh j hj
          obtain ⟨a, v, e, _⟩ := hx2 q hqr hb
          have := h2 x hx
          rw [e] at this
          cases this
      · obtain ⟨ya, yv⟩ := y
        obtain ⟨g1, g2, g3⟩ := h.f3 r ya yv h2
        have hv : bestV own (s.pp r).prom = (s.pp ya).val := by unfold bestV; rw [h1]; exact g3
        show _ ∨ _
        have hsv : (setV (s.pp r) (bestV own (s.pp r).prom)).val = (s.pp ya).val := hv
        rw [hsv]
        rcases Nat.lt_trichotomy q ya with hlt | heq | hgt
        · have hqr' : q ≠ r := by omega
          rw [upd_ne _ _ hqr']
          exact (h.sa ya g2 q hlt).imp (fun x => x) (hbm q)
        · subst heq
          rw [upd_ne _ _ (show q ≠ r by omega)]
          exact .inl ⟨g2, rfl⟩
        · refine .inr (hblF fun j hj => ?_)
          cases hb : (s.pp q).by_ j with
          | false => rfl
          | true =>
            obtain ⟨x, hx, hx2⟩ := h.f2 r hh j hj
            obtain ⟨a, v, e, ha⟩ := hx2 q hqr hb
            rw [e] at hx
            have := h3 _ hx
            dsimp only at this
            omega
    · rw [upd_ne _ _ hrp] at hr ⊢
      rcases h.sa r hr q hqr with ⟨g1, g2⟩ | g
      · rw [hsame q g1]; exact .inl ⟨g1, g2⟩
      · exact .inr (hbm q g)
  · obtain ⟨q, h1, h2, h3⟩ := h.ch ha
    exact ⟨q, by dsimp only; rw [hsame q h1]; exact h1, by dsimp only; rw [hsame q h1]; exact h2, by dsimp only; rw [hsame q h1]; exact h3⟩
/-- A value is accepted. -/
theorem Inv.acc {n : Nat} {s : St} (h : Inv n s) {k p : Nat} (hk : k < n) (hh : (s.pp p).has = true) (hp : (s.ac k).p ≤ p + 1) : Inv n (accS s k p) := by
  unfold accS
  have hE : ∀ q, (upd s.pp p { s.pp p with by_ := upd (s.pp p).by_ k true } q).has = (s.pp q).has ∧ (upd s.pp p { s.pp p with by_ := upd (s.pp p).by_ k true } q).val = (s.pp q).val ∧ (upd s.pp p { s.pp p with by_ := upd (s.pp p).by_ k true } q).fr = (s.pp q).fr ∧ (upd s.pp p { s.pp p with by_ := upd (s.pp p).by_ k true } q).prom = (s.pp q).prom := fun q => by
    by_cases hq : q = p
    · subst hq; rw [upd_same]; exact ⟨rfl, rfl, rfl, rfl⟩
    · rw [upd_ne _ _ hq]; exact ⟨rfl, rfl, rfl, rfl⟩
  have hB : ∀ q j, (upd s.pp p { s.pp p with by_ := upd (s.pp p).by_ k true } q).by_ j = true → (s.pp q).by_ j = true ∨ (q = p ∧ j = k) := fun q j hb => by
    by_cases hq : q = p
    · subst hq
      rw [upd_same] at hb
      dsimp only at hb
      by_cases hj : j = k
      · exact .inr ⟨rfl, hj⟩
      · rw [upd_ne _ _ hj] at hb; exact .inl hb
    · rw [upd_ne _ _ hq] at hb; exact .inl hb
  have hge : ∀ j, (s.ac j).p ≤ (upd s.ac k ⟨p + 1, some (p, (s.pp p).val)⟩ j).p := fun j => by
    by_cases hj : j = k
    · subst hj; rw [upd_same]; exact hp
    · rw [upd_ne _ _ hj]; exact Nat.le_refl _
  refine ⟨fun j a v hv => ?_, fun q j hq => ?_, fun q j hq => ?_, fun q hq j hj => ?_, fun q a v hv => ?_, fun q j hq => ?_, fun q j hq => ?_, fun q hq r hr => ?_, fun ha => ?_⟩
  · dsimp only at hv ⊢
    rw [(hE a).1, (hE a).2.1]
    by_cases hj : j = k
    · subst hj
      rw [upd_same] at hv ⊢
      injection hv with hv
      injection hv with e1 e2
      subst e1
      exact ⟨Nat.le_refl _, hh, e2.symm⟩
    · rw [upd_ne _ _ hj] at hv ⊢
      exact h.a1 j a v hv
  · dsimp only at hq ⊢
    rw [(hE q).1]
    by_cases hj : j = k
    · subst hj
      rw [upd_same]
      rcases hB q j hq with hb | ⟨e, _⟩
      · obtain ⟨g1, a, v, g2, g3⟩ := h.a2 q j hb
        have := (h.a1 j a v g2).1
        exact ⟨g1, p, _, rfl, by omega⟩
      · subst e; exact ⟨hh, q, _, rfl, Nat.le_refl _⟩
    · rw [upd_ne _ _ hj]
      rcases hB q j hq with hb | ⟨_, e⟩
      · exact h.a2 q j hb
      · exact absurd e hj
  · dsimp only at hq ⊢
    rw [(hE q).2.2.1] at hq
    exact Nat.le_trans (h.f1 q j hq) (hge j)
  · dsimp only at hq hj ⊢
    rw [(hE q).1] at hq
    rw [(hE q).2.2.1] at hj
    rw [(hE q).2.2.2]
    obtain ⟨x, hx, hx2⟩ := h.f2 q hq j hj
    refine ⟨x, hx, fun r hr hb => ?_⟩
    rcases hB r j hb with hb | ⟨e1, e2⟩
    · exact hx2 r hr hb
    · subst e1 e2
      have := h.f1 q j hj
      omega
  · dsimp only at hv ⊢
    rw [(hE q).2.2.2] at hv
    rw [(hE a).1, (hE a).2.1]
    exact h.f3 q a v hv
  · dsimp only at hq; rw [(hE q).2.2.1] at hq; exact h.d1 q j hq
  · dsimp only at hq
    rcases hB q j hq with hb | ⟨_, e⟩
    · exact h.d2 q j hb
    · rw [e]; exact hk
  · dsimp only at hq ⊢
    rw [(hE q).1] at hq
    rw [(hE r).1, (hE r).2.1, (hE q).2.1]
    refine (h.sa q hq r hr).imp (fun x => x) fun b => b.mono (fun j hj hb => ?_) (fun j hj => Nat.lt_of_lt_of_le hj (hge j))
    dsimp only
    cases hc : (upd s.pp p { s.pp p with by_ := upd (s.pp p).by_ k true } r).by_ j with
    | false => rfl
    | true =>
      rcases hB r j hc with hc | ⟨e1, e2⟩
      · rw [hc] at hb; cases hb
      · subst e1 e2; omega
  · obtain ⟨q, h1, h2, h3⟩ := h.ch ha
    refine ⟨q, by dsimp only; rw [(hE q).1]; exact h1, by dsimp only; rw [(hE q).2.1]; exact h2, ?_⟩
    have hmono : ∀ m, cnt (s.pp q).by_ m ≤ cnt (upd s.pp p { s.pp p with by_ := upd (s.pp p).by_ k true } q).by_ m := by
      intro m
      induction m with
      | zero => exact Nat.le_refl _
      | succ m ih =>
        have e1 : cnt (s.pp q).by_ (m + 1) = cnt (s.pp q).by_ m + if (s.pp q).by_ m then 1 else 0 := rfl
        have e2 : cnt (upd s.pp p { s.pp p with by_ := upd (s.pp p).by_ k true } q).by_ (m + 1) = cnt (upd s.pp p { s.pp p with by_ := upd (s.pp p).by_ k true } q).by_ m + if (upd s.pp p { s.pp p with by_ := upd (s.pp p).by_ k true } q).by_ m then 1 else 0 := rfl
        rw [e1, e2]
        have : (s.pp q).by_ m = true → (upd s.pp p { s.pp p with by_ := upd (s.pp p).by_ k true } q).by_ m = true := fun hb => by
          by_cases hq : q = p
          · subst hq
            rw [upd_same]
            dsimp only
            by_cases hm : m = k
            · subst hm; exact upd_same _ _ _
            · rw [upd_ne _ _ hm]; exact hb
          · rw [upd_ne _ _ hq]; exact hb
        by_cases hb : (s.pp q).by_ m = true
        · rw [if_pos hb, if_pos (this hb)]; omega
        · rw [if_neg hb]; split <;> omega
    exact Nat.le_trans h3 (hmono 8)
/-- A quorum has accepted it: it is the only one. -/
theorem Inv.only {n : Nat} (hn : n ≤ 8) {s : St} (h : Inv n s) {p : Nat} (hh : (s.pp p).has = true) (hq : n / 2 + 1 ≤ cnt (s.pp p).by_ 8) (ha : s.any = true) : (s.pp p).val = s.ch := by
  obtain ⟨q, h1, h2, h3⟩ := h.ch ha
  have key : ∀ {a b : Nat}, (s.pp a).has = true → a > b → n / 2 + 1 ≤ cnt (s.pp b).by_ 8 → (s.pp b).val = (s.pp a).val := fun {a b} hha hlt hb => by
    rcases h.sa a hha b hlt with g | ⟨Q, g1, g2, g3⟩
    · exact g.2
    · obtain ⟨k, e1, e2⟩ := meets hn g1 (h.d2 b) g2 hb
      rw [(g3 k e1).1] at e2
      cases e2
  rw [← h2]
  rcases Nat.lt_trichotomy p q with hlt | heq | hgt
  · exact key h1 hlt hq
  · rw [heq]
  · exact (key hh hgt h3).symm
theorem Inv.set {n : Nat} {s : St} (h : Inv n s) {p : Nat} (hh : (s.pp p).has = true) (hq : n / 2 + 1 ≤ cnt (s.pp p).by_ 8) : Inv n { s with any := true, ch := (s.pp p).val } :=
  ⟨h.a1, h.a2, h.f1, h.f2, h.f3, h.d1, h.d2, fun q hq' r hr => (h.sa q hq' r hr).imp (fun x => x) fun b => b.mono (fun _ _ h => h) (fun _ h => h), fun _ => ⟨p, hh, rfl, hq⟩⟩
/-- At first nothing has happened. -/
def st0 : St := ⟨fun _ => ⟨0, none⟩, fun _ => ⟨fun _ => false, fun _ => false, [], ⟨#[]⟩, false⟩, false, ⟨#[]⟩⟩
theorem inv0 (n : Nat) : Inv n st0 :=
  ⟨fun k a v h => (by cases h), fun q k h => (by cases h), fun p k h => (by cases h), fun p _ k h => (by cases h), fun p a v h => (by cases h), fun p k h => (by cases h), fun p k h => (by cases h), fun p h => (by cases h), fun h => (by cases h)⟩
end Go.Lap.Pax
