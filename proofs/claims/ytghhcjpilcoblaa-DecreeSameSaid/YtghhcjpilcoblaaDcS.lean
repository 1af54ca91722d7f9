/- Chapter 22 (decree): one list, the plain law: whatever is delivered, copied, lost and forgotten, no two nodes know two values for one slot, and each was proposed. No program here. -/
import Derived.Test.YtghhcjpilcoblaaDcM2
namespace Go.Proofs.Ytghhcjpilcoblaa
open Go.Lap
set_option linter.unusedVariables false

/-- A ballot as one number. -/
def bal (r n : Nat) : Nat := r * 8 + n
theorem bal_inj {r n r' n' : Nat} (hn : n < 8) (hn' : n' < 8) (h : bal r n = bal r' n') : r = r' ∧ n = n' := by unfold bal at h; omega
theorem lessB_bal {r n r' n' : Nat} (hn : n < 8) (hn' : n' < 8) : lessB (r : Int) n r' n' = decide (bal r n < bal r' n') := by
  unfold lessB bal
  by_cases h : r * 8 + n < r' * 8 + n'
  · rw [decide_eq_true h]; exact decide_eq_true (by omega)
  · rw [decide_eq_false h]; exact decide_eq_false (by omega)
def Acr.pb (a : Acr) : Nat := bal a.r a.n
def Acr.acd (a : Acr) : Option (Nat × ByteArray) := if a.h = true then some (bal a.ar a.an, a.v) else none
def Pro.acd (p : Pro) : Option (Nat × ByteArray) := if p.has = true then some (bal p.r.toNat p.n.toNat, p.v) else none
/-- More than half of the nodes are so. -/
def Qm (n : Nat) (P : Nat → Prop) : Prop := ∃ Q : List Int, Q.Nodup ∧ n / 2 + 1 ≤ Q.length ∧ ∀ k ∈ Q, ∃ j : Nat, k = (j : Int) ∧ j < n ∧ P j
theorem Qm.mono {n : Nat} {P R : Nat → Prop} (h : Qm n P) (hp : ∀ j, j < n → P j → R j) : Qm n R := by
  obtain ⟨Q, h1, h2, h3⟩ := h
  refine ⟨Q, h1, h2, fun k hk => ?_⟩
  obtain ⟨j, e, hj, hP⟩ := h3 k hk
  exact ⟨j, e, hj, hp j hj hP⟩
theorem Qm.meets {n : Nat} {P R : Nat → Prop} (h : Qm n P) (h' : Qm n R) : ∃ j, j < n ∧ P j ∧ R j := by
  obtain ⟨Q, h1, h2, h3⟩ := h
  obtain ⟨Q', g1, g2, g3⟩ := h'
  refine Classical.byContradiction fun hno => ?_
  have hnd : (Q ++ Q').Nodup := by
    rw [List.nodup_append]
    refine ⟨h1, g1, fun a ha b hb e => ?_⟩
    subst e
    obtain ⟨j, e, hj, hP⟩ := h3 a ha
    obtain ⟨i, e', hi, hR⟩ := g3 a hb
    have : i = j := by omega
    subst this
    exact hno ⟨i, hi, hP, hR⟩
  have hl := hnd.length_le_of_subset (l₂ := (List.range n).map (fun j : Nat => (j : Int))) (fun x hx => by
    rw [List.mem_map]
    rcases List.mem_append.1 hx with hx | hx
    · obtain ⟨j, e, hj, _⟩ := h3 x hx
      exact ⟨j, List.mem_range.2 hj, e.symm⟩
    · obtain ⟨j, e, hj, _⟩ := g3 x hx
      exact ⟨j, List.mem_range.2 hj, e.symm⟩)
  rw [List.length_append, List.length_map, List.length_range] at hl
  omega
/-- A quorum will never accept a ballot any more. -/
def Bl (n : Nat) (A : Nat → Acr) (Ac : Nat → Nat → Prop) (c : Nat) : Prop := Qm n fun j => ¬ Ac j c ∧ c < (A j).pb
/-- A quorum has accepted a value. -/
def Chn (n : Nat) (V : Nat → Option ByteArray) (Ac : Nat → Nat → Prop) (v : ByteArray) : Prop := ∃ b, V b = some v ∧ Qm n fun j => Ac j b
structure SInv (n : Nat) (A : Nat → Acr) (V : Nat → Option ByteArray) (Ac : Nat → Nat → Prop) (Pr : Nat → Nat → Option (Nat × ByteArray) → Prop) : Prop where
  i1 : ∀ k b v, (A k).acd = some (b, v) → b ≤ (A k).pb ∧ V b = some v
  i2 : ∀ k b, Ac k b → (∃ v, V b = some v) ∧ ∃ c v, (A k).acd = some (c, v) ∧ b ≤ c
  i3 : ∀ k b x, Pr k b x → b ≤ (A k).pb
  i4 : ∀ k b x, Pr k b x → ∀ c, c < b → Ac k c → ∃ d v, x = some (d, v) ∧ c ≤ d
  i5 : ∀ k b c v, Pr k b (some (c, v)) → V c = some v ∧ c ≤ b
  sa : ∀ b v, V b = some v → ∀ c, c < b → V c = some v ∨ Bl n A Ac c
section
variable {n : Nat} {A A' : Nat → Acr} {V V' : Nat → Option ByteArray} {Ac Ac' : Nat → Nat → Prop} {Pr Pr' : Nat → Nat → Option (Nat × ByteArray) → Prop}
theorem SInv.unique (h : SInv n A V Ac Pr) {v u : ByteArray} (hv : Chn n V Ac v) (hu : Chn n V Ac u) : v = u := by
  obtain ⟨b, h1, h2⟩ := hv
  obtain ⟨c, g1, g2⟩ := hu
  have key : ∀ {b c : Nat} {v u : ByteArray}, V b = some v → V c = some u → (Qm n fun j => Ac j b) → c > b → v = u := fun {b c v u} h1 g1 h2 hlt => by
    rcases h.sa c u g1 b hlt with e | hb
    · rw [h1] at e; exact Option.some.inj e
    · obtain ⟨j, _, g, hn, _⟩ := h2.meets hb
      exact absurd g hn
  rcases Nat.lt_trichotomy b c with hlt | he | hgt
  · exact key h1 g1 h2 hlt
  · rw [he, g1] at h1; exact (Option.some.inj h1).symm
  · exact (key g1 h1 g2 hgt).symm
theorem Bl.mono {c : Nat} (h : Bl n A Ac c) (hA : ∀ j, (A j).pb ≤ (A' j).pb) (hb : ∀ j, c < (A j).pb → Ac' j c → Ac j c) : Bl n A' Ac' c :=
  Qm.mono h fun j _ hj => ⟨fun h' => hj.1 (hb j hj.2 h'), Nat.lt_of_lt_of_le hj.2 (hA j)⟩
/-- A promise. -/
theorem SInv.prep (h : SInv n A V Ac Pr) {k b : Nat} {a : Acr} (hk : (A k).pb ≤ b) (hp : a.pb = b) (ha : a.acd = (A k).acd) :
    SInv n (set A k a) V Ac (fun j c x => Pr j c x ∨ (j = k ∧ c = b ∧ x = (A k).acd)) := by
  have hge : ∀ j, (A j).pb ≤ (set A k a j).pb := fun j => by
    by_cases hj : j = k
    · rw [hj, set_same, hp]; exact hk
    · rw [set_ne _ _ hj]; exact Nat.le_refl _
  have hacd : ∀ j, (set A k a j).acd = (A j).acd := fun j => by
    by_cases hj : j = k
    · rw [hj, set_same, ha]
    · rw [set_ne _ _ hj]
  refine ⟨fun j c v hv => ?_, fun j c hc => ?_, fun j c x hx => ?_, fun j c x hx d hd hAc => ?_, fun j c d v hx => ?_, fun c v hc d hd => ?_⟩
  · rw [hacd] at hv
    have := h.i1 j c v hv
    exact ⟨Nat.le_trans this.1 (hge j), this.2⟩
  · obtain ⟨g1, d, v, g2, g3⟩ := h.i2 j c hc
    exact ⟨g1, d, v, by rw [hacd]; exact g2, g3⟩
  · rcases hx with hx | ⟨rfl, rfl, _⟩
    · exact Nat.le_trans (h.i3 j c x hx) (hge j)
    · rw [set_same, hp]; exact Nat.le_refl _
  · rcases hx with hx | ⟨rfl, rfl, rfl⟩
    · exact h.i4 j c x hx d hd hAc
    · obtain ⟨_, e, v, g2, g3⟩ := h.i2 j d hAc
      exact ⟨e, v, g2, g3⟩
  · rcases hx with hx | ⟨rfl, rfl, hx⟩
    · exact h.i5 j c d v hx
    · have := h.i1 j d v hx.symm
      exact ⟨this.2, Nat.le_trans this.1 hk⟩
  · exact (h.sa c v hc d hd).imp (fun x => x) fun hb => hb.mono hge fun _ _ g => g
/-- A value is accepted. -/
theorem SInv.acc (h : SInv n A V Ac Pr) {k b : Nat} {v : ByteArray} {a : Acr} (hk : (A k).pb ≤ b) (hv : V b = some v) (hp : a.pb = b) (ha : a.acd = some (b, v)) :
    SInv n (set A k a) V (fun j c => Ac j c ∨ (j = k ∧ c = b)) Pr := by
  have hge : ∀ j, (A j).pb ≤ (set A k a j).pb := fun j => by
    by_cases hj : j = k
    · rw [hj, set_same, hp]; exact hk
    · rw [set_ne _ _ hj]; exact Nat.le_refl _
  refine ⟨fun j c u hu => ?_, fun j c hc => ?_, fun j c x hx => ?_, fun j c x hx d hd hAc => ?_, fun j c d v hx => ?_, fun c u hc d hd => ?_⟩
  · by_cases hj : j = k
    · subst hj
      rw [set_same, ha] at hu
      rw [set_same, hp]
      cases hu
      exact ⟨Nat.le_refl _, hv⟩
    · rw [set_ne _ _ hj] at hu ⊢; exact h.i1 j c u hu
  · by_cases hj : j = k
    · subst hj
      rw [set_same]
      rcases hc with hc | ⟨_, rfl⟩
      · obtain ⟨g1, d, u, g2, g3⟩ := h.i2 j c hc
        have := (h.i1 j d u g2).1
        exact ⟨g1, b, v, ha, by omega⟩
      · exact ⟨⟨v, hv⟩, _, v, ha, Nat.le_refl _⟩
    · rw [set_ne _ _ hj]
      rcases hc with hc | ⟨e, _⟩
      · exact h.i2 j c hc
      · exact absurd e hj
  · exact Nat.le_trans (h.i3 j c x hx) (hge j)
  · rcases hAc with hAc | ⟨rfl, rfl⟩
    · exact h.i4 j c x hx d hd hAc
    · have := h.i3 j c x hx; omega
  · exact h.i5 j c d v hx
  · refine (h.sa c u hc d hd).imp (fun x => x) fun hb => hb.mono hge fun j hlt g => ?_
    rcases g with g | ⟨rfl, rfl⟩
    · exact g
    · omega
theorem revInd {α : Type} {P : List α → Prop} (h0 : P []) (h1 : ∀ l x, P l → P (l ++ [x])) (l : List α) : P l := by
  have : ∀ l : List α, P l.reverse := by
    intro l
    induction l with
    | nil => exact h0
    | cons x l ih => rw [List.reverse_cons]; exact h1 _ _ ih
  have := this l.reverse
  rwa [List.reverse_reverse] at this
theorem best_is' (own : ByteArray) (l : List Pro) : ((Pro.best own l).has = false ∧ (Pro.best own l).v = own ∧ ∀ x ∈ l, x.has = false) ∨ ((Pro.best own l).has = true ∧ Pro.best own l ∈ l ∧ ∀ z ∈ l, z.has = true → lessB (Pro.best own l).r (Pro.best own l).n z.r z.n = false) := by
  induction l using revInd with
  | h0 => exact .inl ⟨rfl, rfl, by simp⟩
  | h1 l x ih =>
    have hb : Pro.best own (l ++ [x]) = (Pro.best own l).take x := by unfold Pro.best; rw [List.foldl_append]; rfl
    rw [hb]
    unfold Pro.take betterB
    have hirr : ∀ a b, lessB a b a b = false := fun a b => decide_eq_false (by omega)
    rcases ih with ⟨h1, h2, h3⟩ | ⟨h1, h2, h3⟩
    · cases hx : x.has with
      | false =>
        rw [h1]
        refine .inl ⟨by simpa using h1, by simpa using h2, fun y hy => ?_⟩
        rcases List.mem_append.1 hy with hy | hy
        · exact h3 y hy
        · simp at hy; rw [hy]; exact hx
      | true =>
        rw [h1]
        refine .inr ⟨by simpa using hx, by simp, fun z hz hzh => ?_⟩
        rcases List.mem_append.1 hz with hz | hz
        · rw [h3 z hz] at hzh; cases hzh
        · simp at hz; rw [hz]; simp [hirr]
    · cases hx : x.has with
      | false =>
        rw [h1]
        refine .inr ⟨by simpa using h1, by simp [h2], fun z hz hzh => ?_⟩
        rcases List.mem_append.1 hz with hz | hz
        · simpa using h3 z hz hzh
        · simp at hz; rw [hz, hx] at hzh; cases hzh
      | true =>
        rw [h1]
        cases hl : lessB (Pro.best own l).r (Pro.best own l).n x.r x.n with
        | false =>
          refine .inr ⟨by simpa using h1, by simp [h2], fun z hz hzh => ?_⟩
          rcases List.mem_append.1 hz with hz | hz
          · simpa using h3 z hz hzh
          · simp at hz; rw [hz]; simpa using hl
        | true =>
          refine .inr ⟨by simpa using hx, by simp, fun z hz hzh => ?_⟩
          rcases List.mem_append.1 hz with hz | hz
          · have := h3 z hz hzh
            simp only [Bool.not_true, Bool.false_or, Bool.and_self, if_true]
            unfold lessB at this hl ⊢
            have e1 := of_decide_eq_false this
            have e2 := of_decide_eq_true hl
            exact decide_eq_false (by omega)
          · simp at hz; rw [hz]; simp [hirr]
/-- A ballot gets its value. -/
theorem SInv.val (h : SInv n A V Ac Pr) {b : Nat} {own : ByteArray} {L : List Pro} (hb : V b = none) (hq : Qm n fun j => ∃ x ∈ L, Pr j b x.acd) (hL : ∀ x ∈ L, ∃ j, Pr j b x.acd)
    (hw : ∀ x ∈ L, 0 ≤ x.r ∧ 0 ≤ x.n ∧ x.n < 8) : SInv n A (set V b (some (Pro.best own L).v)) Ac Pr ∧ (∃ c, c ≠ b ∧ V c = some (Pro.best own L).v) ∨ SInv n A (set V b (some (Pro.best own L).v)) Ac Pr ∧ (Pro.best own L).v = own := by
  have hne : ∀ c v, V c = some v → c ≠ b := fun c v hc e => by rw [e, hb] at hc; cases hc
  have hset : ∀ c v, V c = some v → set V b (some (Pro.best own L).v) c = some v := fun c v hc => by rw [set_ne _ _ (hne c v hc)]; exact hc
  have main : (∀ c, c < b → set V b (some (Pro.best own L).v) c = some (Pro.best own L).v ∨ Bl n A Ac c) → SInv n A (set V b (some (Pro.best own L).v)) Ac Pr := fun hs =>
    ⟨fun j c v hv => ⟨(h.i1 j c v hv).1, hset _ _ (h.i1 j c v hv).2⟩, fun j c hc => ⟨(h.i2 j c hc).1.imp fun v hv => hset _ _ hv, (h.i2 j c hc).2⟩, h.i3, h.i4, fun j c d v hx => ⟨hset _ _ (h.i5 j c d v hx).1, (h.i5 j c d v hx).2⟩, fun c v hc d hd => by
      by_cases hcb : c = b
      · subst hcb
        rw [set_same] at hc
        cases hc
        exact hs d hd
      · rw [set_ne _ _ hcb] at hc
        exact (h.sa c v hc d hd).imp (hset _ _) (fun x => x)⟩
  have hblF : ∀ c, c < b → (∀ j, (∃ x ∈ L, Pr j b x.acd) → ¬ Ac j c) → Bl n A Ac c := fun c hc hno => Qm.mono hq fun j _ hj => ⟨hno j hj, by
    obtain ⟨x, _, hx⟩ := hj
    have := h.i3 j b _ hx
    omega⟩
  rcases best_is' own L with ⟨h1, h2, h3⟩ | ⟨h1, h2, h3⟩
  · refine .inr ⟨main fun c hc => .inr (hblF c hc fun j ⟨x, hx, hpr⟩ hac => ?_), h2⟩
    obtain ⟨d, v, e, _⟩ := h.i4 j b _ hpr c hc hac
    unfold Pro.acd at e
    rw [h3 x hx] at e
    simp at e
  · obtain ⟨j0, hj0⟩ := hL _ h2
    have hacd : (Pro.best own L).acd = some (bal (Pro.best own L).r.toNat (Pro.best own L).n.toNat, (Pro.best own L).v) := by unfold Pro.acd; rw [if_pos h1]
    obtain ⟨w1, w2, w3⟩ := hw _ h2
    rw [hacd] at hj0
    obtain ⟨hVy, hyb⟩ := h.i5 j0 b _ _ hj0
    have hynb := hne _ _ hVy
    refine .inl ⟨main fun c hc => ?_, _, hynb, hVy⟩
    obtain ⟨y, hy⟩ : ∃ y, bal (Pro.best own L).r.toNat (Pro.best own L).n.toNat = y := ⟨_, rfl⟩
    rw [hy] at hVy hyb hynb
    rcases Nat.lt_trichotomy c y with hlt | he | hgt
    · exact (h.sa y _ hVy c hlt).imp (hset _ _) (fun x => x)
    · rw [he]; exact .inl (hset _ _ hVy)
    · refine .inr (hblF c hc fun j ⟨x, hx, hpr⟩ hac => ?_)
      obtain ⟨d, v, e, hd⟩ := h.i4 j b _ hpr c hc hac
      unfold Pro.acd at e
      cases hxh : x.has with
      | false => rw [hxh] at e; simp at e
      | true =>
        rw [if_pos hxh] at e
        injection e with e
        injection e with e1 e2
        have hl := h3 x hx hxh
        obtain ⟨z1, z2, z3⟩ := hw x hx
        unfold lessB at hl
        have hl := of_decide_eq_false hl
        unfold bal at hy e1
        omega
theorem Chn.mono {v : ByteArray} (h : Chn n V Ac v) (hV : ∀ b v, V b = some v → V' b = some v) (hA : ∀ j b, Ac j b → Ac' j b) : Chn n V' Ac' v := by
  obtain ⟨b, h1, h2⟩ := h
  exact ⟨b, hV _ _ h1, h2.mono fun j _ hj => hA j b hj⟩
end
end Go.Proofs.Ytghhcjpilcoblaa
