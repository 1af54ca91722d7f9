/- Chapter 22 (decree): one list, the plain law: whatever is delivered, copied, lost and forgotten, no two nodes know two values for one slot, and each was proposed; what holds is kept by every act. No program here. -/
import Derived.Test.YtghhcjpilcoblaaDg18
namespace Go.Proofs.Ytghhcjpilcoblaa
open Go.RowKit Go.Lap
set_option linter.unusedVariables false
/-- A ballot as one number. -/
def bal (r n : Nat) : Nat := r * 8 + n
theorem bal_inj {r n r' n' : Nat} (hn : n < 8) (hn' : n' < 8) (h : bal r n = bal r' n') : r = r' ∧ n = n' := by unfold bal at h; omega
theorem lessB_bal {r n r' n' : Nat} (hn : n < 8) (hn' : n' < 8) : lessB (r : Int) n r' n' = decide (bal r n < bal r' n') := by
  unfold lessB bal
  by_cases h : r * 8 + n < r' * 8 + n'
  · rw [decide_eq_true h]; exact decide_eq_true (by omega)
  · rw [decide_eq_false h]; exact decide_eq_false (by omega)
def Acr.pb (a : Acr) : Nat := bal a.r a.n
def Acr.acd (a : Acr) : Option (Nat × ByteArray) := if a.h = true then some (bal a.ar a.an, a.v) else none
def Pro.acd (p : Pro) : Option (Nat × ByteArray) := if p.has = true then some (bal p.r.toNat p.n.toNat, p.v) else none
/-- More than half of the nodes are so. -/
def Qm (n : Nat) (P : Nat → Prop) : Prop := ∃ Q : List Int, Q.Nodup ∧ n / 2 + 1 ≤ Q.length ∧ ∀ k ∈ Q, ∃ j : Nat, k = (j : Int) ∧ j < n ∧ P j
theorem Qm.mono {n : Nat} {P R : Nat → Prop} (h : Qm n P) (hp : ∀ j, j < n → P j → R j) : Qm n R := by
  obtain ⟨Q, h1, h2, h3⟩ := h
  refine ⟨Q, h1, h2, fun k hk => ?_⟩
  obtain ⟨j, e, hj, hP⟩ := h3 k hk
  exact ⟨j, e, hj, hp j hj hP⟩
theorem Qm.meets {n : Nat} {P R : Nat → Prop} (h : Qm n P) (h' : Qm n R) : ∃ j, j < n ∧ P j ∧ R j := by
  obtain ⟨Q, h1, h2, h3⟩ := h
  obtain ⟨Q', g1, g2, g3⟩ := h'
  refine Classical.byContradiction fun hno => ?_
  have hnd : (Q ++ Q').Nodup := by
    rw [List.nodup_append]
    refine ⟨h1, g1, fun a ha b hb e => ?_⟩
    subst e
    obtain ⟨j, e, hj, hP⟩ := h3 a ha
    obtain ⟨i, e', hi, hR⟩ := g3 a hb
    have : i = j := by omega
    subst this
    exact hno ⟨i, hi, hP, hR⟩
  have hl := hnd.length_le_of_subset (l₂ := (List.range n).map (fun j : Nat => (j : Int))) (fun x hx => by
    rw [List.mem_map]
    rcases List.mem_append.1 hx with hx | hx
    · obtain ⟨j, e, hj, _⟩ := h3 x hx
      exact ⟨j, List.mem_range.2 hj, e.symm⟩
    · obtain ⟨j, e, hj, _⟩ := g3 x hx
      exact ⟨j, List.mem_range.2 hj, e.symm⟩)
  rw [List.length_append, List.length_map, List.length_range] at hl
  omega
/-- A quorum will never accept a ballot any more. -/
def Bl (n : Nat) (A : Nat → Acr) (Ac : Nat → Nat → Prop) (c : Nat) : Prop := Qm n fun j => ¬ Ac j c ∧ c < (A j).pb
/-- A quorum has accepted a value. -/
def Chn (n : Nat) (V : Nat → Option ByteArray) (Ac : Nat → Nat → Prop) (v : ByteArray) : Prop := ∃ b, V b = some v ∧ Qm n fun j => Ac j b
structure SInv (n : Nat) (A : Nat → Acr) (V : Nat → Option ByteArray) (Ac : Nat → Nat → Prop) (Pr : Nat → Nat → Option (Nat × ByteArray) → Prop) : Prop where
  i1 : ∀ k b v, (A k).acd = some (b, v) → b ≤ (A k).pb ∧ V b = some v
  i2 : ∀ k b, Ac k b → (∃ v, V b = some v) ∧ ∃ c v, (A k).acd = some (c, v) ∧ b ≤ c
  i3 : ∀ k b x, Pr k b x → b ≤ (A k).pb
  i4 : ∀ k b x, Pr k b x → ∀ c, c < b → Ac k c → ∃ d v, x = some (d, v) ∧ c ≤ d
  i5 : ∀ k b c v, Pr k b (some (c, v)) → V c = some v ∧ c ≤ b
  sa : ∀ b v, V b = some v → ∀ c, c < b → V c = some v ∨ Bl n A Ac c
section
variable {n : Nat} {A A' : Nat → Acr} {V V' : Nat → Option ByteArray} {Ac Ac' : Nat → Nat → Prop} {Pr Pr' : Nat → Nat → Option (Nat × ByteArray) → Prop}
theorem SInv.unique (h : SInv n A V Ac Pr) {v u : ByteArray} (hv : Chn n V Ac v) (hu : Chn n V Ac u) : v = u := by
  obtain ⟨b, h1, h2⟩ := hv
  obtain ⟨c, g1, g2⟩ := hu
  have key : ∀ {b c : Nat} {v u : ByteArray}, V b = some v → V c = some u → (Qm n fun j => Ac j b) → c > b → v = u := fun {b c v u} h1 g1 h2 hlt => by
    rcases h.sa c u g1 b hlt with e | hb
    · rw [h1] at e; exact Option.some.inj e
    · obtain ⟨j, _, g, hn, _⟩ := h2.meets hb
      exact absurd g hn
  rcases Nat.lt_trichotomy b c with hlt | he | hgt
  · exact key h1 g1 h2 hlt
  · rw [he, g1] at h1; exact (Option.some.inj h1).symm
  · exact (key g1 h1 g2 hgt).symm
theorem Bl.mono {c : Nat} (h : Bl n A Ac c) (hA : ∀ j, (A j).pb ≤ (A' j).pb) (hb : ∀ j, c < (A j).pb → Ac' j c → Ac j c) : Bl n A' Ac' c :=
  Qm.mono h fun j _ hj => ⟨fun h' => hj.1 (hb j hj.2 h'), Nat.lt_of_lt_of_le hj.2 (hA j)⟩
/-- A promise. -/
theorem SInv.prep (h : SInv n A V Ac Pr) {k b : Nat} {a : Acr} (hk : (A k).pb ≤ b) (hp : a.pb = b) (ha : a.acd = (A k).acd) :
    SInv n (set A k a) V Ac (fun j c x => Pr j c x ∨ (j = k ∧ c = b ∧ x = (A k).acd)) := by
  have hge : ∀ j, (A j).pb ≤ (set A k a j).pb := fun j => by
    by_cases hj : j = k
    · rw [hj, set_same, hp]; exact hk
    · rw [set_ne _ _ hj]; exact Nat.le_refl _
  have hacd : ∀ j, (set A k a j).acd = (A j).acd := fun j => by
    by_cases hj : j = k
    · rw [hj, set_same, ha]
    · rw [set_ne _ _ hj]
  refine ⟨fun j c v hv => ?_, fun j c hc => ?_, fun j c x hx => ?_, fun j c x hx d hd hAc => ?_, fun j c d v hx => ?_, fun c v hc d hd => ?_⟩
  · rw [hacd] at hv
    have := h.i1 j c v hv
    exact ⟨Nat.le_trans this.1 (hge j), this.2⟩
  · obtain ⟨g1, d, v, g2, g3⟩ := h.i2 j c hc
    exact ⟨g1, d, v, by rw [hacd]; exact g2, g3⟩
  · rcases hx with hx | ⟨rfl, rfl, _⟩
    · exact Nat.le_trans (h.i3 j c x hx) (hge j)
    · rw [set_same, hp]; exact Nat.le_refl _
  · rcases hx with hx | ⟨rfl, rfl, rfl⟩
    · exact h.i4 j c x hx d hd hAc
    · obtain ⟨_, e, v, g2, g3⟩ := h.i2 j d hAc
      exact ⟨e, v, g2, g3⟩
  · rcases hx with hx | ⟨rfl, rfl, hx⟩
    · exact h.i5 j c d v hx
    · have := h.i1 j d v hx.symm
      exact ⟨this.2, Nat.le_trans this.1 hk⟩
  · exact (h.sa c v hc d hd).imp (fun x => x) fun hb => hb.mono hge fun _ _ g => g
/-- A value is accepted. -/
theorem SInv.acc (h : SInv n A V Ac Pr) {k b : Nat} {v : ByteArray} {a : Acr} (hk : (A k).pb ≤ b) (hv : V b = some v) (hp : a.pb = b) (ha : a.acd = some (b, v)) :
    SInv n (set A k a) V (fun j c => Ac j c ∨ (j = k ∧ c = b)) Pr := by
  have hge : ∀ j, (A j).pb ≤ (set A k a j).pb := fun j => by
    by_cases hj : j = k
    · rw [hj, set_same, hp]; exact hk
    · rw [set_ne _ _ hj]; exact Nat.le_refl _
  refine ⟨fun j c u hu => ?_, fun j c hc => ?_, fun j c x hx => ?_, fun j c x hx d hd hAc => ?_, fun j c d v hx => ?_, fun c u hc d hd => ?_⟩
  · by_cases hj : j = k
    · subst hj
      rw [set_same, ha] at hu
      rw [set_same, hp]
      cases hu
      exact ⟨Nat.le_refl _, hv⟩
    · rw [set_ne _ _ hj] at hu ⊢; exact h.i1 j c u hu
  · by_cases hj : j = k
    · subst hj
      rw [set_same]
      rcases hc with hc | ⟨_, rfl⟩
      · obtain ⟨g1, d, u, g2, g3⟩ := h.i2 j c hc
        have := (h.i1 j d u g2).1
        exact ⟨g1, b, v, ha, by omega⟩
      · exact ⟨⟨v, hv⟩, _, v, ha, Nat.le_refl _⟩
    · rw [set_ne _ _ hj]
      rcases hc with hc | ⟨e, _⟩
      · exact h.i2 j c hc
      · exact absurd e hj
  · exact Nat.le_trans (h.i3 j c x hx) (hge j)
  · rcases hAc with hAc | ⟨rfl, rfl⟩
    · exact h.i4 j c x hx d hd hAc
    · have := h.i3 j c x hx; omega
  · exact h.i5 j c d v hx
  · refine (h.sa c u hc d hd).imp (fun x => x) fun hb => hb.mono hge fun j hlt g => ?_
    rcases g with g | ⟨rfl, rfl⟩
    · exact g
    · omega
theorem revInd {α : Type} {P : List α → Prop} (h0 : P []) (h1 : ∀ l x, P l → P (l ++ [x])) (l : List α) : P l := by
  have : ∀ l : List α, P l.reverse := by
    intro l
    induction l with
    | nil => exact h0
    | cons x l ih => rw [List.reverse_cons]; exact h1 _ _ ih
  have := this l.reverse
  rwa [List.reverse_reverse] at this
theorem best_is' (own : ByteArray) (l : List Pro) : ((Pro.best own l).has = false ∧ (Pro.best own l).v = own ∧ ∀ x ∈ l, x.has = false) ∨ ((Pro.best own l).has = true ∧ Pro.best own l ∈ l ∧ ∀ z ∈ l, z.has = true → lessB (Pro.best own l).r (Pro.best own l).n z.r z.n = false) := by
  induction l using revInd with
  | h0 => exact .inl ⟨rfl, rfl, by simp⟩
  | h1 l x ih =>
    have hb : Pro.best own (l ++ [x]) = (Pro.best own l).take x := by unfold Pro.best; rw [List.foldl_append]; rfl
    rw [hb]
    unfold Pro.take betterB
    have hirr : ∀ a b, lessB a b a b = false := fun a b => decide_eq_false (by omega)
    rcases ih with ⟨h1, h2, h3⟩ | ⟨h1, h2, h3⟩
    · cases hx : x.has with
      | false =>
        rw [h1]
        refine .inl ⟨by simpa using h1, by simpa using h2, fun y hy => ?_⟩
        rcases List.mem_append.1 hy with hy | hy
        · exact h3 y hy
        · simp at hy; rw [hy]; exact hx
      | true =>
        rw [h1]
        refine .inr ⟨by simpa using hx, by simp, fun z hz hzh => ?_⟩
        rcases List.mem_append.1 hz with hz | hz
        · rw [h3 z hz] at hzh; cases hzh
        · simp at hz; rw [hz]; simp [hirr]
    · cases hx : x.has with
      | false =>
        rw [h1]
        refine .inr ⟨by simpa using h1, by simp [h2], fun z hz hzh => ?_⟩
        rcases List.mem_append.1 hz with hz | hz
        · simpa using h3 z hz hzh
        · simp at hz; rw [hz, hx] at hzh; cases hzh
      | true =>
        rw [h1]
        cases hl : lessB (Pro.best own l).r (Pro.best own l).n x.r x.n with
        | false =>
          refine .inr ⟨by simpa using h1, by simp [h2], fun z hz hzh => ?_⟩
          rcases List.mem_append.1 hz with hz | hz
          · simpa using h3 z hz hzh
          · simp at hz; rw [hz]; simpa using hl
        | true =>
          refine .inr ⟨by simpa using hx, by simp, fun z hz hzh => ?_⟩
          rcases List.mem_append.1 hz with hz | hz
          · have := h3 z hz hzh
            simp only [Bool.not_true, Bool.false_or, Bool.and_self, if_true]
            unfold lessB at this hl ⊢
            have e1 := of_decide_eq_false this
            have e2 := of_decide_eq_true hl
            exact decide_eq_false (by omega)
          · simp at hz; rw [hz]; simp [hirr]
/-- A ballot gets its value. -/
theorem SInv.val (h : SInv n A V Ac Pr) {b : Nat} {own : ByteArray} {L : List Pro} (hb : V b = none) (hq : Qm n fun j => ∃ x ∈ L, Pr j b x.acd) (hL : ∀ x ∈ L, ∃ j, Pr j b x.acd)
    (hw : ∀ x ∈ L, 0 ≤ x.r ∧ 0 ≤ x.n ∧ x.n < 8) : SInv n A (set V b (some (Pro.best own L).v)) Ac Pr ∧ (∃ c, c ≠ b ∧ V c = some (Pro.best own L).v) ∨ SInv n A (set V b (some (Pro.best own L).v)) Ac Pr ∧ (Pro.best own L).v = own := by
  have hne : ∀ c v, V c = some v → c ≠ b := fun c v hc e => by rw [e, hb] at hc; cases hc
  have hset : ∀ c v, V c = some v → set V b (some (Pro.best own L).v) c = some v := fun c v hc => by rw [set_ne _ _ (hne c v hc)]; exact hc
  have main : (∀ c, c < b → set V b (some (Pro.best own L).v) c = some (Pro.best own L).v ∨ Bl n A Ac c) → SInv n A (set V b (some (Pro.best own L).v)) Ac Pr := fun hs =>
    ⟨fun j c v hv => ⟨(h.i1 j c v hv).1, hset _ _ (h.i1 j c v hv).2⟩, fun j c hc => ⟨(h.i2 j c hc).1.imp fun v hv => hset _ _ hv, (h.i2 j c hc).2⟩, h.i3, h.i4, fun j c d v hx => ⟨hset _ _ (h.i5 j c d v hx).1, (h.i5 j c d v hx).2⟩, fun c v hc d hd => by
      by_cases hcb : c = b
      · subst hcb
        rw [set_same] at hc
        cases hc
        exact hs d hd
      · rw [set_ne _ _ hcb] at hc
        exact (h.sa c v hc d hd).imp (hset _ _) (fun x => x)⟩
  have hblF : ∀ c, c < b → (∀ j, (∃ x ∈ L, Pr j b x.acd) → ¬ Ac j c) → Bl n A Ac c := fun c hc hno => Qm.mono hq fun j _ hj => ⟨hno j hj, by
    obtain ⟨x, _, hx⟩ := hj
    have := h.i3 j b _ hx
    omega⟩
  rcases best_is' own L with ⟨h1, h2, h3⟩ | ⟨h1, h2, h3⟩
  · refine .inr ⟨main fun c hc => .inr (hblF c hc fun j ⟨x, hx, hpr⟩ hac => ?_), h2⟩
    obtain ⟨d, v, e, _⟩ := h.i4 j b _ hpr c hc hac
    unfold Pro.acd at e
    rw [h3 x hx] at e
    simp at e
  · obtain ⟨j0, hj0⟩ := hL _ h2
    have hacd : (Pro.best own L).acd = some (bal (Pro.best own L).r.toNat (Pro.best own L).n.toNat, (Pro.best own L).v) := by unfold Pro.acd; rw [if_pos h1]
    obtain ⟨w1, w2, w3⟩ := hw _ h2
    rw [hacd] at hj0
    obtain ⟨hVy, hyb⟩ := h.i5 j0 b _ _ hj0
    have hynb := hne _ _ hVy
    refine .inl ⟨main fun c hc => ?_, _, hynb, hVy⟩
    obtain ⟨y, hy⟩ : ∃ y, bal (Pro.best own L).r.toNat (Pro.best own L).n.toNat = y := ⟨_, rfl⟩
    rw [hy] at hVy hyb hynb
    rcases Nat.lt_trichotomy c y with hlt | he | hgt
    · exact (h.sa y _ hVy c hlt).imp (hset _ _) (fun x => x)
    · rw [he]; exact .inl (hset _ _ hVy)
    · refine .inr (hblF c hc fun j ⟨x, hx, hpr⟩ hac => ?_)
      obtain ⟨d, v, e, hd⟩ := h.i4 j b _ hpr c hc hac
      unfold Pro.acd at e
      cases hxh : x.has with
      | false => rw [hxh] at e; simp at e
      | true =>
        rw [if_pos hxh] at e
        injection e with e
        injection e with e1 e2
        have hl := h3 x hx hxh
        obtain ⟨z1, z2, z3⟩ := hw x hx
        unfold lessB at hl
        have hl := of_decide_eq_false hl
        unfold bal at hy e1
        omega
theorem Chn.mono {v : ByteArray} (h : Chn n V Ac v) (hV : ∀ b v, V b = some v → V' b = some v) (hA : ∀ j b, Ac j b → Ac' j b) : Chn n V' Ac' v := by
  obtain ⟨b, h1, h2⟩ := h
  exact ⟨b, hV _ _ h1, h2.mono fun j _ hj => hA j b hj⟩
end
/-- What has happened, by slots: which value each ballot has, who accepted what, who promised what. -/
structure Gh where
  V : Nat → Nat → Option ByteArray
  Ac : Nat → Nat → Nat → Prop
  Pr : Nat → Nat → Nat → Option (Nat × ByteArray) → Prop
structure Gh.le (h h' : Gh) : Prop where
  V : ∀ s b v, h.V s b = some v → h'.V s b = some v
  Ac : ∀ s j b, h.Ac s j b → h'.Ac s j b
  Pr : ∀ s j b x, h.Pr s j b x → h'.Pr s j b x
theorem Gh.le.rfl' (h : Gh) : h.le h := ⟨fun _ _ _ x => x, fun _ _ _ x => x, fun _ _ _ _ x => x⟩
abbrev Gh.Ch (h : Gh) (n s : Nat) (v : ByteArray) : Prop := Chn n (h.V s) (h.Ac s) v
theorem Gh.le.Ch {h h' : Gh} (hl : h.le h') {n s : Nat} {v : ByteArray} (hc : h.Ch n s v) : h'.Ch n s v := Chn.mono hc (hl.V s) (hl.Ac s)
/-- What a packet says has happened. -/
structure MI (n : Nat) (h : Gh) (q : Pkt) : Prop where
  k1 : q.m.k = 1 → h.Pr q.m.s q.fr (bal q.m.r q.m.n) q.m.pro.acd
  k2 : q.m.k = 2 → h.V q.m.s (bal q.m.r q.m.n) = some q.m.v
  k3 : q.m.k = 3 → h.Ac q.m.s q.fr (bal q.m.r q.m.n)
  k5 : q.m.k = 5 → h.Ch n q.m.s q.m.v
theorem MI.mono {n : Nat} {h h' : Gh} (hl : h.le h') {q : Pkt} (hq : MI n h q) : MI n h' q := ⟨fun k => hl.Pr _ _ _ _ (hq.k1 k), fun k => hl.V _ _ _ (hq.k2 k), fun k => hl.Ac _ _ _ (hq.k3 k), fun k => hl.Ch (hq.k5 k)⟩
/-- What a node's proposal says. -/
structure PrI (n : Nat) (h : Gh) (i rd : Nat) (p : Prs) : Prop where
  lt : i < n
  nn : p.n = i
  r : p.r ≤ rd
  pr : ∀ x ∈ p.pm, ∃ j, h.Pr p.s j (bal p.r p.n) x.acd
  wf : ∀ x ∈ p.pm, 0 ≤ x.r ∧ 0 ≤ x.n ∧ x.n < 8
  fr : ∀ k ∈ p.fr, ∃ j : Nat, k = (j : Int) ∧ j < n ∧ ∃ x ∈ p.pm, h.Pr p.s j (bal p.r p.n) x.acd
  ch : p.ch = true → h.V p.s (bal p.r p.n) = some p.v
  no : p.ch = false → ∀ s, h.V s (bal p.r p.n) = none
  by_ : ∀ k ∈ p.by_, ∃ j : Nat, k = (j : Int) ∧ j < n ∧ h.Ac p.s j (bal p.r p.n)
structure DI (n : Nat) (P : ByteArray → Prop) (g : Gm) (h : Gh) : Prop where
  sl : ∀ s, SInv n (fun k => (g.nd k).acr s) (h.V s) (h.Ac s) (h.Pr s)
  vp : ∀ s b v, h.V s b = some v → P v
  vr : ∀ s b v, h.V s b = some v → ∃ r i, b = bal r i ∧ i < n ∧ r ≤ (g.nd i).rd
  pe : ∀ i v, v ∈ (g.nd i).pe → P v
  lg : ∀ i s v, (g.nd i).lg s = some v → h.Ch n s v
  nw : ∀ i p, (g.nd i).nw = some p → PrI n h i (g.nd i).rd p
  bg : ∀ q ∈ g.bg, MI n h q
section
variable {n B : Nat} {P P' : ByteArray → Prop} {g : Gm} {h h' : Gh}
theorem PrI.mono {i rd rd' : Nat} {p : Prs} (hp : PrI n h i rd p) (hl : h.le h') (hr : rd ≤ rd') (hno : ∀ s, h.V s (bal p.r p.n) = none → h'.V s (bal p.r p.n) = none) : PrI n h' i rd' p :=
  ⟨hp.lt, hp.nn, Nat.le_trans hp.r hr, fun x hx => (hp.pr x hx).imp fun j => hl.Pr _ _ _ _, hp.wf, fun k hk => by
    obtain ⟨j, e, hj, x, hx, hpr⟩ := hp.fr k hk
    exact ⟨j, e, hj, x, hx, hl.Pr _ _ _ _ hpr⟩, fun hc => hl.V _ _ _ (hp.ch hc), fun hc s => hno s (hp.no hc s), fun k hk => by
    obtain ⟨j, e, hj, hac⟩ := hp.by_ k hk
    exact ⟨j, e, hj, hl.Ac _ _ _ hac⟩⟩
theorem set_acr (f : Nat → Nod) (i : Nat) (x : Nod) (s : Nat) : (fun k => (set f i x k).acr s) = set (fun k => (f k).acr s) i (x.acr s) := by
  funext k
  by_cases hk : k = i
  · rw [hk, set_same, set_same]
  · rw [set_ne _ _ hk, set_ne _ _ hk]
theorem acr_set (x : Nod) (t : Nat) (a : Acr) (s : Nat) : ({ x with ac := set x.ac t (some a) } : Nod).acr s = if s = t then a else x.acr s := by
  unfold Nod.acr
  dsimp only
  by_cases hs : s = t
  · rw [hs, set_same, if_pos rfl]; rfl
  · rw [set_ne _ _ hs, if_neg hs]
/-- A node changes. -/
theorem DI.step (hd : DI n P g h) {i : Nat} {x : Nod} {b : List Pkt} (hn : n ≤ 7) (hi : i < n) (hle : h.le h')
    (hsl : ∀ s, SInv n (set (fun k => (g.nd k).acr s) i (x.acr s)) (h'.V s) (h'.Ac s) (h'.Pr s))
    (hnew : ∀ s c v, h'.V s c = some v → h.V s c = some v ∨ (P v ∧ ∃ r, c = bal r i ∧ r ≤ x.rd))
    (hrd : (g.nd i).rd ≤ x.rd) (hpe : ∀ v ∈ x.pe, P v) (hlg : ∀ s v, x.lg s = some v → h'.Ch n s v) (hnw : ∀ p, x.nw = some p → PrI n h' i x.rd p) (hbg : ∀ q ∈ b, MI n h' q) :
    DI n P ⟨set g.nd i x, b⟩ h' := by
  refine ⟨fun s => ?_, fun s c v hv => ?_, fun s c v hv => ?_, fun k v hv => ?_, fun k s v hv => ?_, fun k p hp => ?_, hbg⟩
  · show SInv n (fun k => (set g.nd i x k).acr s) _ _ _
    rw [set_acr]; exact hsl s
  · rcases hnew s c v hv with hv | ⟨hv, _⟩
    · exact hd.vp s c v hv
    · exact hv
  · rcases hnew s c v hv with hv | ⟨_, r, e, hr⟩
    · obtain ⟨r, k, e, hk, hr⟩ := hd.vr s c v hv
      refine ⟨r, k, e, hk, ?_⟩
      by_cases hki : k = i
      · subst hki; show r ≤ (set g.nd k x k).rd; rw [set_same]; exact Nat.le_trans hr hrd
      · show r ≤ (set g.nd i x k).rd; rw [set_ne _ _ hki]; exact hr
    · exact ⟨r, i, e, hi, by show r ≤ (set g.nd i x i).rd; rw [set_same]; exact hr⟩
  · by_cases hki : k = i
    · subst hki; have hv : v ∈ (set g.nd k x k).pe := hv; rw [set_same] at hv; exact hpe v hv
    · have hv : v ∈ (set g.nd i x k).pe := hv; rw [set_ne _ _ hki] at hv; exact hd.pe k v hv
  · by_cases hki : k = i
    · subst hki; have hv : (set g.nd k x k).lg s = some v := hv; rw [set_same] at hv; exact hlg s v hv
    · have hv : (set g.nd i x k).lg s = some v := hv; rw [set_ne _ _ hki] at hv; exact hle.Ch (hd.lg k s v hv)
  · by_cases hki : k = i
    · subst hki
      have hp : (set g.nd k x k).nw = some p := hp
      show PrI n h' k (set g.nd k x k).rd p
      rw [set_same] at hp ⊢
      exact hnw p hp
    · have hp : (set g.nd i x k).nw = some p := hp
      show PrI n h' k (set g.nd i x k).rd p
      rw [set_ne _ _ hki] at hp ⊢
      have hq := hd.nw k p hp
      refine hq.mono hle (Nat.le_refl _) fun s hs => ?_
      cases hv : h'.V s (bal p.r p.n) with
      | none => rfl
      | some v =>
        rcases hnew s _ v hv with hv | ⟨_, r, e, _⟩
        · rw [hs] at hv; cases hv
        · have := bal_inj (by have := hq.lt; rw [hq.nn]; omega) (by omega) e
          exact absurd (hq.nn.symm.trans this.2) hki
/-- A node changes, but none of its acceptors; nothing new is proposed, promised, accepted. -/
theorem DI.step0 (hd : DI n P g h) {i : Nat} {x : Nod} {b : List Pkt} (hn : n ≤ 7) (hi : i < n) (hac : ∀ s, x.acr s = (g.nd i).acr s)
    (hrd : (g.nd i).rd ≤ x.rd) (hpe : ∀ v ∈ x.pe, P v) (hlg : ∀ s v, x.lg s = some v → h.Ch n s v) (hnw : ∀ p, x.nw = some p → PrI n h i x.rd p) (hbg : ∀ q ∈ b, MI n h q) :
    DI n P ⟨set g.nd i x, b⟩ h :=
  hd.step hn hi (Gh.le.rfl' h) (fun s => by
    have := hd.sl s
    rw [hac s, show set (fun k => (g.nd k).acr s) i ((g.nd i).acr s) = fun k => (g.nd k).acr s from set_self (fun k => (g.nd k).acr s) i]
    exact this) (fun s c v hv => .inl hv) hrd hpe hlg hnw hbg
theorem DI.bag (hd : DI n P g h) {b : List Pkt} (hb : ∀ q ∈ b, MI n h q) : DI n P ⟨g.nd, b⟩ h := ⟨hd.sl, hd.vp, hd.vr, hd.pe, hd.lg, hd.nw, hb⟩
theorem DI.more (hd : DI n P g h) (hP : ∀ v, P v → P' v) : DI n P' g h := ⟨hd.sl, fun s b v hv => hP v (hd.vp s b v hv), hd.vr, fun i v hv => hP v (hd.pe i v hv), hd.lg, hd.nw, hd.bg⟩
theorem MI.other {q : Pkt} (h1 : q.m.k ≠ 1) (h2 : q.m.k ≠ 2) (h3 : q.m.k ≠ 3) (h5 : q.m.k ≠ 5) : MI n h q := ⟨fun k => absurd k h1, fun k => absurd k h2, fun k => absurd k h3, fun k => absurd k h5⟩
theorem MI.learn {fr ds s : Nat} {v : ByteArray} (hc : h.Ch n s v) : MI n h ⟨fr, ds, mLearn s v⟩ := ⟨fun k => (nomatch k), fun k => (nomatch k), fun k => (nomatch k), fun _ => hc⟩
theorem mi_send {b : List Pkt} {p : Pkt} (hb : ∀ q ∈ b, MI n h q) (hp : MI n h p) : ∀ q ∈ sendB b p, MI n h q := fun q hq => by
  rcases sendB_mem hq with hq | rfl
  · exact hb q hq
  · exact hp
theorem mi_all {b : List Pkt} {fr : Nat} {m : Msg} {l : List Nat} (hb : ∀ q ∈ b, MI n h q) (hp : ∀ d, MI n h ⟨fr, d, m⟩) : ∀ q ∈ sendTo b fr m l, MI n h q := fun q hq => by
  rcases sendTo_mem hq with hq | ⟨d, _, rfl⟩
  · exact hb q hq
  · exact hp d
theorem DI.zero : DI n P ⟨fun _ => Nod.zero, []⟩ ⟨fun _ _ => none, fun _ _ _ => False, fun _ _ _ _ => False⟩ := by
  refine ⟨fun s => ⟨fun k b v hv => ?_, fun k b hc => hc.elim, fun k b x hx => hx.elim, fun k b x hx => hx.elim, fun k b c v hx => hx.elim, fun b v hv => (nomatch hv)⟩, fun s b v hv => (nomatch hv), fun s b v hv => (nomatch hv), fun i v hv => (nomatch hv), fun i s v hv => (nomatch hv), fun i p hp => (nomatch hp), fun q hq => (nomatch hq)⟩
  exact (nomatch hv)
theorem DI.propose (hd : DI n P g h) (hn : n ≤ 7) {i : Nat} (hi : i < n) {v : ByteArray} (hv : P v) : DI n P (g.propose i v) h := by
  refine hd.step0 hn hi (fun _ => rfl) (Nat.le_refl _) (fun u hu => ?_) (fun s u hu => hd.lg i s u hu) (fun p hp => hd.nw i p hp) hd.bg
  rcases List.mem_append.1 hu with hu | hu
  · exact hd.pe i u hu
  · simp at hu; rw [hu]; exact hv
theorem DI.crash (hd : DI n P g h) (hn : n ≤ 7) {i : Nat} (hi : i < n) : DI n P (g.crash i) h :=
  hd.step0 hn hi (fun _ => rfl) (Nat.le_refl _) (fun u hu => (nomatch hu)) (fun s u hu => hd.lg i s u hu) (fun p hp => (nomatch hp)) hd.bg
theorem DI.tick (hd : DI n P g h) (hn : n ≤ 7) {i : Nat} (hi : i < n) : DI n P (g.tick n i) h := by
  have ha : ∀ d, MI n h ⟨i, d, mAsk (g.nd i).first⟩ := fun d => MI.other (by show (6 : Nat) ≠ 1; omega) (by show (6 : Nat) ≠ 2; omega) (by show (6 : Nat) ≠ 3; omega) (by show (6 : Nat) ≠ 5; omega)
  unfold Gm.tick
  dsimp only
  split
  · exact hd.bag (mi_all hd.bg ha)
  · refine hd.step0 hn hi (fun _ => rfl) (Nat.le_succ _) (fun u hu => hd.pe i u hu) (fun s u hu => hd.lg i s u hu) (fun p hp => ?_) (mi_all (mi_all hd.bg fun d => MI.other (by show (0 : Nat) ≠ 1; omega) (by show (0 : Nat) ≠ 2; omega) (by show (0 : Nat) ≠ 3; omega) (by show (0 : Nat) ≠ 5; omega)) ha)
    cases hp
    refine ⟨hi, rfl, Nat.le_refl _, fun x hx => (nomatch hx), fun x hx => (nomatch hx), fun k hk => (nomatch hk), fun hc => (nomatch hc), fun _ s => ?_, fun k hk => (nomatch hk)⟩
    show h.V s (bal ((g.nd i).rd + 1) i) = none
    cases hv : h.V s (bal ((g.nd i).rd + 1) i) with
    | none => rfl
    | some v =>
      obtain ⟨r, k, e, hk, hr⟩ := hd.vr s _ v hv
      obtain ⟨e1, e2⟩ := bal_inj (by omega) (by omega) e
      subst e2
      omega
theorem DI.copy (hd : DI n P g h) (i : Nat) : DI n P (g.copy i) h := by
  unfold Gm.copy
  split
  · rename_i p hp
    exact hd.bag (mi_send hd.bg (hd.bg p (List.mem_of_getElem? hp)))
  · exact hd
theorem DI.lose (hd : DI n P g h) (fr dt : Int) : DI n P (g.lose fr dt) h := hd.bag fun q hq => hd.bg q (List.mem_filter.1 hq).1
theorem know_acr (x : Nod) (s : Nat) (v : ByteArray) (t : Nat) : (x.know s v).acr t = x.acr t := by
  unfold Nod.know
  split
  · rfl
  · dsimp only; split <;> rfl
theorem know_rd (x : Nod) (s : Nat) (v : ByteArray) : (x.know s v).rd = x.rd := by
  unfold Nod.know
  split
  · rfl
  · dsimp only; split <;> rfl
theorem know_pe (x : Nod) (s : Nat) (v u : ByteArray) (hu : u ∈ (x.know s v).pe) : u ∈ x.pe := by
  unfold Nod.know at hu
  split at hu
  · exact hu
  · dsimp only at hu
    split at hu
    · exact List.mem_of_mem_tail hu
    · exact hu
theorem know_lg (x : Nod) (s : Nat) (v : ByteArray) (t : Nat) (u : ByteArray) (hu : (x.know s v).lg t = some u) : x.lg t = some u ∨ (t = s ∧ u = v) := by
  unfold Nod.know at hu
  split at hu
  · exact .inl hu
  · dsimp only at hu
    have : set x.lg s (some v) t = some u := by split at hu <;> exact hu
    rcases set_some this with ⟨e, e2⟩ | e
    · exact .inr ⟨e, e2⟩
    · exact .inl e
theorem know_keeps (x : Nod) (s : Nat) (v : ByteArray) (t : Nat) (u : ByteArray) (hu : x.lg t = some u) : (x.know s v).lg t = some u := by
  unfold Nod.know
  split
  · exact hu
  · rename_i hs
    have ht : t ≠ s := fun e => by rw [e] at hu; rw [hu] at hs; exact hs rfl
    dsimp only
    split
    · show set x.lg s (some v) t = some u; rw [set_ne _ _ ht]; exact hu
    · show set x.lg s (some v) t = some u; rw [set_ne _ _ ht]; exact hu
theorem know_nw (x : Nod) (s : Nat) (v : ByteArray) (p : Prs) (hp : (x.know s v).nw = some p) : x.nw = some p := by
  unfold Nod.know at hp
  split at hp
  · exact hp
  · dsimp only at hp
    split at hp
    · cases hp
    · dsimp only at hp
      cases hn : x.nw with
      | none => rw [hn] at hp; cases hp
      | some q =>
        rw [hn] at hp
        dsimp only at hp
        split at hp
        · cases hp
        · exact hp
/-- A node comes to know a value that a quorum has accepted. -/
theorem DI.know (hd : DI n P g h) (hn : n ≤ 7) {i : Nat} (hi : i < n) {x : Nod} (hac : ∀ s, x.acr s = (g.nd i).acr s) (hrd : (g.nd i).rd ≤ x.rd) (hpe : ∀ v ∈ x.pe, P v) (hlg : ∀ s v, x.lg s = some v → h.Ch n s v) (hnw : ∀ p, x.nw = some p → PrI n h i x.rd p)
    {s : Nat} {v : ByteArray} (hc : h.Ch n s v) {b : List Pkt} (hb : ∀ q ∈ b, MI n h q) : DI n P ⟨set g.nd i (x.know s v), b⟩ h :=
  hd.step0 hn hi (fun t => by rw [know_acr, hac]) (by rw [know_rd]; exact hrd) (fun u hu => hpe u (know_pe _ _ _ _ hu)) (fun t u hu => by
    rcases know_lg _ _ _ _ _ hu with hu | ⟨rfl, rfl⟩
    · exact hlg t u hu
    · exact hc) (fun p hp => by rw [know_rd]; exact hnw p (know_nw _ _ _ _ hp)) hb
theorem acd_pro (s r n' : Nat) (a : Acr) : (mProm s r n' a).pro.acd = a.acd := rfl
/-- Who is asked answers. -/
theorem DI.asked (hd : DI n P g h) (hn : n ≤ 7) {p : Pkt} {b : List Pkt} (hds : p.ds < n) (hok : NodOk B (g.nd p.ds)) (hm : MsgOk B p.m) (hk : p.m.k = 0 ∨ p.m.k = 2) (hmi : MI n h p) (hb : ∀ q ∈ b, MI n h q) :
    ∃ h', DI n P ⟨set g.nd p.ds ((g.nd p.ds).asked p.m).1, sendB b ⟨p.ds, p.fr, ((g.nd p.ds).asked p.m).2⟩⟩ h' := by
  have ha := hok.acr (by have := hm.s; omega) p.m.s
  unfold Nod.asked
  split
  · rename_i v hv
    exact ⟨h, hd.step0 hn hds (fun _ => rfl) (Nat.le_refl _) (fun u hu => hd.pe _ u hu) (fun s u hu => hd.lg _ s u hu) (fun q hq => hd.nw _ q hq) (mi_send hb (MI.learn (hd.lg _ _ _ hv)))⟩
  · dsimp only
    rw [lessB_bal hm.n ha.n]
    have hset : ∀ (a : Acr) (s : Nat), ({ g.nd p.ds with ac := set (g.nd p.ds).ac p.m.s (some a) } : Nod).acr s = if s = p.m.s then a else (g.nd p.ds).acr s := fun a s => acr_set _ _ _ _
    have hskip : ∀ (a : Acr) (s : Nat), s ≠ p.m.s → set (fun k => (g.nd k).acr s) p.ds (({ g.nd p.ds with ac := set (g.nd p.ds).ac p.m.s (some a) } : Nod).acr s) = fun k => (g.nd k).acr s := fun a s hs => by
      rw [hset, if_neg hs]; exact set_self (fun k => (g.nd k).acr s) p.ds
    by_cases hlt : bal p.m.r p.m.n < bal ((g.nd p.ds).acr p.m.s).r ((g.nd p.ds).acr p.m.s).n
    · rw [decide_eq_true hlt, if_pos rfl]
      exact ⟨h, hd.step0 hn hds (fun s => by
        rw [hset]; split
        · rename_i e; rw [e]
        · rfl) (Nat.le_refl _) (fun u hu => hd.pe _ u hu) (fun s u hu => hd.lg _ s u hu) (fun q hq => hd.nw _ q hq) (mi_send hb (MI.other (by show (4 : Nat) ≠ 1; omega) (by show (4 : Nat) ≠ 2; omega) (by show (4 : Nat) ≠ 3; omega) (by show (4 : Nat) ≠ 5; omega)))⟩
    · rw [decide_eq_false hlt, if_neg (by decide)]
      have hle : ((g.nd p.ds).acr p.m.s).pb ≤ bal p.m.r p.m.n := by unfold Acr.pb; omega
      by_cases hk0 : p.m.k = 0
      · rw [if_pos hk0]
        refine ⟨⟨h.V, h.Ac, fun s j c x => h.Pr s j c x ∨ (s = p.m.s ∧ j = p.ds ∧ c = bal p.m.r p.m.n ∧ x = ((g.nd p.ds).acr p.m.s).acd)⟩, ?_⟩
        have hl : h.le ⟨h.V, h.Ac, fun s j c x => h.Pr s j c x ∨ (s = p.m.s ∧ j = p.ds ∧ c = bal p.m.r p.m.n ∧ x = ((g.nd p.ds).acr p.m.s).acd)⟩ := ⟨fun _ _ _ x => x, fun _ _ _ x => x, fun _ _ _ _ x => .inl x⟩
        refine hd.step hn hds hl (fun s => ?_) (fun s c v hv => .inl hv) (Nat.le_refl _) (fun u hu => hd.pe _ u hu) (fun s u hu => hd.lg _ s u hu) (fun q hq => (hd.nw _ q hq).mono hl (Nat.le_refl _) fun _ x => x) (mi_send (fun q hq => (hb q hq).mono hl) ⟨fun _ => .inr ⟨rfl, rfl, rfl, acd_pro ..⟩, fun k => (nomatch k), fun k => (nomatch k), fun k => (nomatch k)⟩)
        by_cases hs : s = p.m.s
        · subst hs
          rw [hset, if_pos rfl]
          have := (hd.sl p.m.s).prep (k := p.ds) (b := bal p.m.r p.m.n) (a := { (g.nd p.ds).acr p.m.s with r := p.m.r, n := p.m.n }) hle rfl rfl
          refine cast (congrArg (SInv n _ _ _) ?_) this
          funext j c x
          exact propext ⟨fun hx => hx.imp (fun x => x) fun ⟨e1, e2, e3⟩ => ⟨rfl, e1, e2, e3⟩, fun hx => hx.imp (fun x => x) fun ⟨_, e1, e2, e3⟩ => ⟨e1, e2, e3⟩⟩
        · rw [hskip _ s hs]
          refine cast (congrArg (SInv n _ _ _) ?_) (hd.sl s)
          funext j c x
          exact propext ⟨fun hx => .inl hx, fun hx => hx.elim (fun x => x) fun ⟨e, _⟩ => absurd e hs⟩
      · rw [if_neg hk0]
        have hV := hmi.k2 (hk.resolve_left hk0)
        refine ⟨⟨h.V, fun s j c => h.Ac s j c ∨ (s = p.m.s ∧ j = p.ds ∧ c = bal p.m.r p.m.n), h.Pr⟩, ?_⟩
        have hl : h.le ⟨h.V, fun s j c => h.Ac s j c ∨ (s = p.m.s ∧ j = p.ds ∧ c = bal p.m.r p.m.n), h.Pr⟩ := ⟨fun _ _ _ x => x, fun _ _ _ x => .inl x, fun _ _ _ _ x => x⟩
        refine hd.step hn hds hl (fun s => ?_) (fun s c v hv => .inl hv) (Nat.le_refl _) (fun u hu => hd.pe _ u hu) (fun s u hu => hl.Ch (hd.lg _ s u hu)) (fun q hq => (hd.nw _ q hq).mono hl (Nat.le_refl _) fun _ x => x) (mi_send (fun q hq => (hb q hq).mono hl) ⟨fun k => (nomatch k), fun k => (nomatch k), fun _ => .inr ⟨rfl, rfl, rfl⟩, fun k => (nomatch k)⟩)
        by_cases hs : s = p.m.s
        · subst hs
          rw [hset, if_pos rfl]
          have := (hd.sl p.m.s).acc (k := p.ds) (b := bal p.m.r p.m.n) (v := p.m.v) (a := ⟨p.m.r, p.m.n, true, p.m.r, p.m.n, p.m.v⟩) hle hV rfl rfl
          refine cast (congrArg (fun A => SInv n _ _ A _) ?_) this
          funext j c
          exact propext ⟨fun hx => hx.imp (fun x => x) fun ⟨e1, e2⟩ => ⟨rfl, e1, e2⟩, fun hx => hx.imp (fun x => x) fun ⟨_, e1, e2⟩ => ⟨e1, e2⟩⟩
        · rw [hskip _ s hs]
          refine cast (congrArg (fun A => SInv n _ _ A _) ?_) (hd.sl s)
          funext j c
          exact propext ⟨fun hx => .inl hx, fun hx => hx.elim (fun x => x) fun ⟨e, _⟩ => absurd e hs⟩
theorem pro_wf {m : Msg} (hm : MsgOk B m) : 0 ≤ m.pro.r ∧ 0 ≤ m.pro.n ∧ m.pro.n < 8 := by
  have := hm.hn
  refine ⟨?_, ?_, ?_⟩
  · show (0 : Int) ≤ (m.hr : Int); omega
  · show (0 : Int) ≤ (m.hn : Int); omega
  · show (m.hn : Int) < 8; omega
theorem mineP_eq {p : Prs} {m : Msg} (hm : ¬ mineP p m = false) : p.s = m.s ∧ p.r = m.r ∧ p.n = m.n := by
  unfold mineP at hm
  exact of_decide_eq_true (by simpa using hm)
/-- A promise comes. -/
theorem DI.promised (hd : DI n P g h) (hn : n ≤ 7) {p : Pkt} {b : List Pkt} (hds : p.ds < n) (hfr : p.fr < n) (hok : NodOk B (g.nd p.ds)) (hm : MsgOk B p.m) (hk : p.m.k = 1) (hmi : MI n h p) (hb : ∀ q ∈ b, MI n h q) :
    ∃ h', DI n P ⟨set g.nd p.ds ((g.nd p.ds).promised n p.fr p.m).1, match ((g.nd p.ds).promised n p.fr p.m).2 with | some m => sendTo b p.ds m (allOf n) | none => b⟩ h' := by
  have hnone : ∃ h', DI n P ⟨set g.nd p.ds (g.nd p.ds), b⟩ h' := ⟨h, by rw [set_self]; exact hd.bag hb⟩
  have hpr := hmi.k1 hk
  unfold Nod.promised
  cases hq : (g.nd p.ds).nw with
  | none => exact hnone
  | some q =>
    dsimp only
    split
    · exact hnone
    · rename_i hc
      simp only [not_or] at hc
      obtain ⟨e1, e2, e3⟩ := mineP_eq hc.1
      have hqi := hd.nw _ q hq
      rw [← e1, ← e2, ← e3] at hpr
      have hprx : ∀ x ∈ q.pm ++ [p.m.pro], ∃ j, h.Pr q.s j (bal q.r q.n) x.acd := fun x hx => by
        rcases List.mem_append.1 hx with hx | hx
        · exact hqi.pr x hx
        · simp at hx; rw [hx]; exact ⟨_, hpr⟩
      have hwf : ∀ x ∈ q.pm ++ [p.m.pro], 0 ≤ x.r ∧ 0 ≤ x.n ∧ x.n < 8 := fun x hx => by
        rcases List.mem_append.1 hx with hx | hx
        · exact hqi.wf x hx
        · simp at hx; rw [hx]; exact pro_wf hm
      have hfrx : ∀ k ∈ q.fr ++ [(p.fr : Int)], ∃ j : Nat, k = (j : Int) ∧ j < n ∧ ∃ x ∈ q.pm ++ [p.m.pro], h.Pr q.s j (bal q.r q.n) x.acd := fun k hk => by
        rcases List.mem_append.1 hk with hk | hk
        · obtain ⟨j, e, hj, x, hx, hxp⟩ := hqi.fr k hk
          exact ⟨j, e, hj, x, List.mem_append_left _ hx, hxp⟩
        · simp at hk; exact ⟨p.fr, hk, hfr, _, List.mem_append_right _ (List.mem_singleton.2 rfl), hpr⟩
      have hno := hqi.no (by simpa using hc.2.1)
      split
      · rename_i hlen
        have hnd : (q.fr ++ [(p.fr : Int)]).Nodup := by
          rw [List.nodup_append]
          refine ⟨(hok.nw q hq).1.fn, by simp, fun a ha c hcm => ?_⟩
          simp at hcm
          intro e
          exact hc.2.2 (by rw [← hcm, ← e]; exact ha)
        have hQ : Qm n fun j => ∃ x ∈ q.pm ++ [p.m.pro], h.Pr q.s j (bal q.r q.n) x.acd := ⟨_, hnd, by rw [List.length_append]; exact hlen, hfrx⟩
        have hS := (hd.sl q.s).val (own := (g.nd p.ds).pe.headD E0) (hno q.s) hQ hprx hwf
        obtain ⟨v, hv⟩ : ∃ v, (Pro.best ((g.nd p.ds).pe.headD E0) (q.pm ++ [p.m.pro])).v = v := ⟨_, rfl⟩
        rw [hv] at hS
        simp only [hv]
        have hSI : SInv n (fun k => (g.nd k).acr q.s) (set (h.V q.s) (bal q.r q.n) (some v)) (h.Ac q.s) (h.Pr q.s) := hS.elim (fun x => x.1) (fun x => x.1)
        have hPv : P v := by
          rcases hS with ⟨_, c, _, hc⟩ | ⟨_, e⟩
          · exact hd.vp _ _ _ hc
          · rw [e]
            cases hpe : (g.nd p.ds).pe with
            | nil => exact absurd hpe (hok.nw q hq).2
            | cons u l => exact hd.pe p.ds u (by rw [hpe]; simp)
        refine ⟨⟨fun s c => if s = q.s ∧ c = bal q.r q.n then some v else h.V s c, h.Ac, h.Pr⟩, ?_⟩
        have hl : h.le ⟨fun s c => if s = q.s ∧ c = bal q.r q.n then some v else h.V s c, h.Ac, h.Pr⟩ := ⟨fun s c u hu => by
          dsimp only
          by_cases hsc : s = q.s ∧ c = bal q.r q.n
          · rw [hsc.2, hno s] at hu; cases hu
          · rw [if_neg hsc]; exact hu, fun _ _ _ x => x, fun _ _ _ _ x => x⟩
        have hVq : (if q.s = q.s ∧ bal q.r q.n = bal q.r q.n then some v else h.V q.s (bal q.r q.n)) = some v := if_pos ⟨rfl, rfl⟩
        refine hd.step hn hds hl (fun s => ?_) (fun s c u hu => ?_) (Nat.le_refl _) (fun u hu => hd.pe _ u hu) (fun s u hu => hl.Ch (hd.lg _ s u hu)) (fun p' hp' => ?_) ?_
        · show SInv n (set (fun k => (g.nd k).acr s) p.ds ((g.nd p.ds).acr s)) (fun c => if s = q.s ∧ c = bal q.r q.n then some v else h.V s c) (h.Ac s) (h.Pr s)
          rw [show set (fun k => (g.nd k).acr s) p.ds ((g.nd p.ds).acr s) = fun k => (g.nd k).acr s from set_self (fun k => (g.nd k).acr s) p.ds]
          by_cases hs : s = q.s
          · subst hs
            refine cast (congrArg (fun V => SInv n _ V _ _) ?_) hSI
            funext c
            unfold set
            by_cases hc : c = bal q.r q.n
            · rw [if_pos hc, if_pos ⟨rfl, hc⟩]
            · rw [if_neg hc, if_neg (fun h => hc h.2)]
          · refine cast (congrArg (fun V => SInv n _ V _ _) ?_) (hd.sl s)
            funext c
            rw [if_neg (fun h => hs h.1)]
        · dsimp only at hu
          by_cases hsc : s = q.s ∧ c = bal q.r q.n
          · rw [if_pos hsc] at hu
            cases hu
            exact .inr ⟨hPv, q.r, by rw [hsc.2, hqi.nn], hqi.r⟩
          · rw [if_neg hsc] at hu; exact .inl hu
        · cases hp'
          exact ⟨hqi.lt, hqi.nn, hqi.r, hprx, hwf, hfrx, fun _ => hVq, fun hc => (nomatch hc), fun k hk => by obtain ⟨j, e, hj, hac⟩ := hqi.by_ k hk; exact ⟨j, e, hj, hac⟩⟩
        · exact mi_all (fun x hx => (hb x hx).mono hl) fun d => ⟨fun k => (nomatch k), fun _ => hVq, fun k => (nomatch k), fun k => (nomatch k)⟩
      · refine ⟨h, hd.step0 hn hds (fun _ => rfl) (Nat.le_refl _) (fun u hu => hd.pe _ u hu) (fun s u hu => hd.lg _ s u hu) (fun p' hp' => ?_) hb⟩
        cases hp'
        exact ⟨hqi.lt, hqi.nn, hqi.r, hprx, hwf, hfrx, hqi.ch, hqi.no, hqi.by_⟩
/-- An acceptance comes. -/
theorem DI.taken (hd : DI n P g h) (hn : n ≤ 7) {p : Pkt} {b : List Pkt} (hds : p.ds < n) (hfr : p.fr < n) (hok : NodOk B (g.nd p.ds)) (hk : p.m.k = 3) (hmi : MI n h p) (hb : ∀ q ∈ b, MI n h q) :
    ∃ h', DI n P ⟨set g.nd p.ds ((g.nd p.ds).taken n p.fr p.m).1, match ((g.nd p.ds).taken n p.fr p.m).2 with | some m => sendTo b p.ds m (othersOf n p.ds) | none => b⟩ h' := by
  have hnone : ∃ h', DI n P ⟨set g.nd p.ds (g.nd p.ds), b⟩ h' := ⟨h, by rw [set_self]; exact hd.bag hb⟩
  have hac := hmi.k3 hk
  unfold Nod.taken
  cases hq : (g.nd p.ds).nw with
  | none => exact hnone
  | some q =>
    dsimp only
    split
    · exact hnone
    · rename_i hc
      simp only [not_or] at hc
      obtain ⟨e1, e2, e3⟩ := mineP_eq hc.1
      have hqi := hd.nw _ q hq
      rw [← e1, ← e2, ← e3] at hac
      have hby : ∀ k ∈ addL q.by_ (p.fr : Int), ∃ j : Nat, k = (j : Int) ∧ j < n ∧ h.Ac q.s j (bal q.r q.n) := fun k hk => by
        rcases addL_mem hk with hk | hk
        · exact hqi.by_ k hk
        · exact ⟨p.fr, hk, hfr, hac⟩
      have hq' : PrI n h p.ds (g.nd p.ds).rd { q with by_ := addL q.by_ (p.fr : Int) } := ⟨hqi.lt, hqi.nn, hqi.r, hqi.pr, hqi.wf, hqi.fr, hqi.ch, hqi.no, hby⟩
      have hVq := hqi.ch (by simpa using hc.2)
      split
      · rename_i hlen
        have hCh : h.Ch n q.s q.v := ⟨_, hVq, _, addL_nodup (hok.nw q hq).1.bn, hlen, hby⟩
        refine ⟨h, hd.know hn hds (x := { g.nd p.ds with nw := some { q with by_ := addL q.by_ (p.fr : Int) } }) (fun _ => rfl) (Nat.le_refl _) (fun u hu => hd.pe _ u hu) (fun s u hu => hd.lg _ s u hu) (fun p' hp' => ?_) hCh (mi_all hb fun d => MI.learn hCh)⟩
        cases hp'; exact hq'
      · refine ⟨h, hd.step0 hn hds (fun _ => rfl) (Nat.le_refl _) (fun u hu => hd.pe _ u hu) (fun s u hu => hd.lg _ s u hu) (fun p' hp' => ?_) hb⟩
        cases hp'; exact hq'
theorem DI.refused (hd : DI n P g h) (hn : n ≤ 7) {i : Nat} (hi : i < n) {b : List Pkt} (m : Msg) (hb : ∀ q ∈ b, MI n h q) : DI n P ⟨set g.nd i ((g.nd i).refused m), b⟩ h := by
  refine hd.step0 hn hi (fun _ => rfl) (Nat.le_max_left _ _) (fun u hu => hd.pe _ u hu) (fun s u hu => hd.lg _ s u hu) (fun p hp => ?_) hb
  unfold Nod.refused at hp
  dsimp only at hp
  cases hq : (g.nd i).nw with
  | none => rw [hq] at hp; cases hp
  | some q =>
    rw [hq] at hp
    dsimp only at hp
    split at hp
    · cases hp
    · cases hp
      exact (hd.nw i _ hq).mono (Gh.le.rfl' h) (Nat.le_max_left _ _) fun _ x => x
theorem mi_fold {fr ds : Nat} : ∀ (l : List Msg) (b : List Pkt), (∀ m ∈ l, MI n h ⟨fr, ds, m⟩) → (∀ q ∈ b, MI n h q) → ∀ q ∈ l.foldl (fun b m => sendB b ⟨fr, ds, m⟩) b, MI n h q
  | [], _, _, hb => hb
  | m :: l, b, hl, hb => mi_fold l _ (fun x hx => hl x (List.mem_cons_of_mem _ hx)) (mi_send hb (hl m (List.mem_cons_self ..)))
theorem DI.arrive (hd : DI n P g h) (hn : n ≤ 7) (hok : GmOk n B g) {p : Pkt} {b : List Pkt} (hp : p.fr < n ∧ p.ds < n ∧ MsgOk B p.m) (hmi : MI n h p) (hb : ∀ q ∈ b, MI n h q) : ∃ h', DI n P (g.arrive n p b) h' := by
  obtain ⟨hfr, hds, hm⟩ := hp
  have hx := hok.nd p.ds hds
  have hk := hm.k
  unfold Gm.arrive
  dsimp only
  split
  · rename_i e; exact hd.asked hn hds hx hm (.inl e) hmi hb
  · rename_i e; exact hd.asked hn hds hx hm (.inr e) hmi hb
  · rename_i e; exact hd.promised hn hds hfr hx hm e hmi hb
  · rename_i e; exact hd.taken hn hds hfr hx e hmi hb
  · exact ⟨h, hd.refused hn hds _ hb⟩
  · rename_i e
    exact ⟨h, hd.know hn hds (fun _ => rfl) (Nat.le_refl _) (fun u hu => hd.pe _ u hu) (fun s u hu => hd.lg _ s u hu) (fun q hq => hd.nw _ q hq) (hmi.k5 e) hb⟩
  · refine ⟨h, hd.bag (mi_fold _ _ (fun m hm => ?_) hb)⟩
    obtain ⟨t, v, hv, rfl⟩ := five_mem hm
    exact MI.learn (hd.lg _ _ _ hv)
end
/-- The invariant of the group. -/
def DJ (n : Nat) (P : ByteArray → Prop) (g : Gm) : Prop := ∃ h, DI n P g h
section
variable {n B : Nat} {P P' : ByteArray → Prop} {g : Gm}
theorem DJ.zero : DJ n P ⟨fun _ => Nod.zero, []⟩ := ⟨_, DI.zero⟩
theorem DJ.more (hd : DJ n P g) (hP : ∀ v, P v → P' v) : DJ n P' g := hd.imp fun _ h => h.more hP
theorem DJ.deliver (hd : DJ n P g) (hn : n ≤ 7) (hok : GmOk n B g) (i : Nat) : DJ n P (g.deliver n i) := by
  obtain ⟨h, hd⟩ := hd
  unfold Gm.deliver
  split
  · rename_i p hp
    have hm := List.mem_of_getElem? hp
    exact hd.arrive hn hok (hok.bg p hm) (hd.bg p hm) fun q hq => hd.bg q (List.mem_of_mem_eraseIdx hq)
  · exact ⟨h, hd⟩
/-- No two nodes know two values for one slot. -/
theorem DJ.same (hd : DJ n P g) {i k s : Nat} {v u : ByteArray} (hv : (g.nd i).lg s = some v) (hu : (g.nd k).lg s = some u) : v = u := by
  obtain ⟨h, hd⟩ := hd
  exact (hd.sl s).unique (hd.lg i s v hv) (hd.lg k s u hu)
theorem DJ.prop (hd : DJ n P g) {i s : Nat} {v : ByteArray} (hv : (g.nd i).lg s = some v) : P v := by
  obtain ⟨h, hd⟩ := hd
  obtain ⟨b, hb, _⟩ := hd.lg i s v hv
  exact hd.vp s b v hb
end
/-- What is known stays known. -/
def LgUp (g g' : Gm) : Prop := ∀ i s v, (g.nd i).lg s = some v → (g'.nd i).lg s = some v
section
variable {n B : Nat} {P P' : ByteArray → Prop} {g g' : Gm} {x y : Nod}
theorem LgUp.refl (g : Gm) : LgUp g g := fun _ _ _ h => h
theorem LgUp.trans {a b c : Gm} (h : LgUp a b) (k : LgUp b c) : LgUp a c := fun i s v hv => k i s v (h i s v hv)
theorem LgUp.nd {i : Nat} {b : List Pkt} (h : ∀ s v, (g.nd i).lg s = some v → x.lg s = some v) : LgUp g ⟨set g.nd i x, b⟩ := fun k s v hv => by
  show (set g.nd i x k).lg s = some v
  by_cases hk : k = i
  · subst hk; rw [set_same]; exact h s v hv
  · rw [set_ne _ _ hk]; exact hv
theorem asked_lg (x : Nod) (m : Msg) : (x.asked m).1.lg = x.lg := by
  unfold Nod.asked
  split
  · rfl
  · dsimp only; split
    · rfl
    · split <;> rfl
theorem promised_lg (x : Nod) (n : Nat) (fr : Int) (m : Msg) : (x.promised n fr m).1.lg = x.lg := by
  unfold Nod.promised
  split
  · rfl
  · split
    · rfl
    · split <;> rfl
theorem taken_lg (x : Nod) (n : Nat) (fr : Int) (m : Msg) (s : Nat) (v : ByteArray) (hv : x.lg s = some v) : (x.taken n fr m).1.lg s = some v := by
  unfold Nod.taken
  split
  · exact hv
  · split
    · exact hv
    · dsimp only; split
      · exact know_keeps _ _ _ _ _ hv
      · exact hv
theorem LgUp.arrive (g : Gm) (n : Nat) (p : Pkt) (b : List Pkt) : LgUp g (g.arrive n p b) := by
  unfold Gm.arrive
  dsimp only
  split
  · exact LgUp.nd fun s v hv => by rw [asked_lg]; exact hv
  · exact LgUp.nd fun s v hv => by rw [asked_lg]; exact hv
  · exact LgUp.nd fun s v hv => by rw [promised_lg]; exact hv
  · exact LgUp.nd fun s v hv => taken_lg _ _ _ _ _ _ hv
  · exact LgUp.nd fun s v hv => hv
  · exact LgUp.nd fun s v hv => know_keeps _ _ _ _ _ hv
  · exact fun i s v hv => hv
theorem LgUp.deliver (g : Gm) (n i : Nat) : LgUp g (g.deliver n i) := by
  unfold Gm.deliver
  split
  · exact LgUp.arrive g n _ _
  · exact LgUp.refl g
theorem LgUp.tick (g : Gm) (n i : Nat) : LgUp g (g.tick n i) := by
  unfold Gm.tick
  dsimp only
  split
  · exact fun i s v hv => hv
  · exact LgUp.nd fun s v hv => hv
theorem LgUp.propose (g : Gm) (i : Nat) (v : ByteArray) : LgUp g (g.propose i v) := LgUp.nd fun s v hv => hv
theorem LgUp.crash (g : Gm) (i : Nat) : LgUp g (g.crash i) := LgUp.nd fun s v hv => hv
theorem LgUp.copy (g : Gm) (i : Nat) : LgUp g (g.copy i) := by
  unfold Gm.copy
  split
  · exact fun i s v hv => hv
  · exact LgUp.refl g
theorem LgUp.lose (g : Gm) (a b : Int) : LgUp g (g.lose a b) := fun i s v hv => hv
theorem LgUp.do22 (n : Nat) (g : Gm) (x : DAct) : LgUp g (doG n g x) := by
  unfold doG proposeG tickG deliverG copyG crashG
  repeat' split
  all_goals first | exact LgUp.propose _ _ _ | exact LgUp.tick _ _ _ | exact LgUp.deliver _ _ _ | exact LgUp.copy _ _ | exact LgUp.lose _ _ _ | exact LgUp.crash _ _ | exact LgUp.refl _
theorem DJ.do22 (hd : DJ n P g) (hn : n ≤ 7) (hok : GmOk n B g) (x : DAct) (hP : ∀ v, P v → P' v) (hx : x.k = 0 → doR n g x = 0 → P' x.v) : DJ n P' (doG n g x) := by
  have hd' := hd.more hP
  obtain ⟨k, i, a, t, v⟩ := x
  unfold doG
  dsimp only at hx ⊢
  split
  · rename_i hk
    unfold proposeG
    split
    · rename_i hc
      obtain ⟨j, rfl, hj⟩ := inN_of hc.1
      obtain ⟨h, hd'⟩ := hd'
      have hPv : P' v := hx hk (by unfold doR; rw [if_pos hk]; unfold proposeR; rw [if_pos hc.1, if_pos hc.2])
      rw [Int.toNat_natCast]
      exact ⟨h, hd'.propose hn hj hPv⟩
    · exact hd'
  · split
    · unfold tickG
      split
      · rename_i hc
        obtain ⟨j, rfl, hj⟩ := inN_of hc
        obtain ⟨h, hd'⟩ := hd'
        rw [Int.toNat_natCast]
        exact ⟨h, hd'.tick hn hj⟩
      · exact hd'
    · split
      · unfold deliverG
        split
        · exact hd'.deliver hn hok _
        · exact hd'
      · split
        · unfold copyG
          split
          · obtain ⟨h, hd'⟩ := hd'
            exact ⟨h, hd'.copy _⟩
          · exact hd'
        · split
          · obtain ⟨h, hd'⟩ := hd'
            exact ⟨h, hd'.lose _ _⟩
          · split
            · unfold crashG
              split
              · rename_i hc
                obtain ⟨j, rfl, hj⟩ := inN_of hc
                obtain ⟨h, hd'⟩ := hd'
                rw [Int.toNat_natCast]
                exact ⟨h, hd'.crash hn hj⟩
              · exact hd'
            · exact hd'
theorem log_pre' {a b : Nat} {f h : Nat → ByteArray} (hab : a ≤ b) (hf : ∀ s, s < a → f s = h s) : (List.range a).map f <+: (List.range b).map h := by
  obtain ⟨c, rfl⟩ := Nat.exists_eq_add_of_le hab
  rw [List.range_add, List.map_append]
  rw [show (List.range a).map f = (List.range a).map h from List.map_congr_left fun s hs => hf s (List.mem_range.1 hs)]
  exact List.prefix_append _ _
theorem isSome_get {o : Option ByteArray} (h : o.isSome = true) : ∃ v, o = some v := Option.isSome_iff_exists.1 h
/-- A list that only grows. -/
theorem log_grows (hx : IsFirst x.lg x.first) (hy : IsFirst y.lg y.first) (h : ∀ s v, x.lg s = some v → y.lg s = some v) : x.log <+: y.log := by
  have hle : x.first ≤ y.first := by
    refine Nat.le_of_not_lt fun hlt => ?_
    obtain ⟨v, hv⟩ := isSome_get (hx.yes _ hlt)
    have := h _ _ hv
    rw [hy.no] at this
    cases this
  refine log_pre' hle fun s hs => ?_
  obtain ⟨v, hv⟩ := isSome_get (hx.yes s hs)
  rw [hv, h _ _ hv]
/-- Of two lists that never say two things one is the beginning of the other. -/
theorem log_compat (hx : IsFirst x.lg x.first) (hy : IsFirst y.lg y.first) (h : ∀ s v u, x.lg s = some v → y.lg s = some u → v = u) : x.log <+: y.log ∨ y.log <+: x.log := by
  have key : ∀ {x y : Nod}, IsFirst x.lg x.first → IsFirst y.lg y.first → (∀ s v u, x.lg s = some v → y.lg s = some u → v = u) → x.first ≤ y.first → x.log <+: y.log := fun {x y} hx hy h hle => by
    refine log_pre' hle fun s hs => ?_
    obtain ⟨v, hv⟩ := isSome_get (hx.yes s hs)
    obtain ⟨u, hu⟩ := isSome_get (hy.yes s (by omega))
    rw [hv, hu, h s v u hv hu]
  rcases Nat.le_total x.first y.first with hle | hle
  · exact .inl (key hx hy h hle)
  · exact .inr (key hy hx (fun s v u hv hu => (h s u v hu hv).symm) hle)
theorem log_mem (hx : IsFirst x.lg x.first) {v : ByteArray} (hv : v ∈ x.log) : ∃ s, s < x.first ∧ x.lg s = some v := by
  unfold Nod.log at hv
  obtain ⟨s, hs, e⟩ := List.mem_map.1 hv
  obtain ⟨u, hu⟩ := isSome_get (hx.yes s (List.mem_range.1 hs))
  rw [hu] at e
  exact ⟨s, List.mem_range.1 hs, by rw [hu, ← e]; rfl⟩
theorem log_len (x : Nod) : x.log.length = x.first := by unfold Nod.log; rw [List.length_map, List.length_range]
theorem logR_nat {i : Nat} (hi : i < n) : logR n g (i : Int) = (g.nd i).log := by
  unfold logR
  rw [if_pos (show inN n (i : Int) from ⟨by omega, by omega⟩), Int.toNat_natCast]
theorem DJ.compat (hd : DJ n P g) (hok : GmOk n B g) (hB : B ≤ 1000000000) {i k : Nat} (hi : i < n) (hk : k < n) : (g.nd i).log <+: (g.nd k).log ∨ (g.nd k).log <+: (g.nd i).log :=
  log_compat ((hok.nd i hi).first hB).1 ((hok.nd k hk).first hB).1 fun s v u hv hu => hd.same hv hu
theorem LgUp.log (h : LgUp g g') {C : Nat} (hok : GmOk n B g) (hB : B ≤ 1000000000) (hok' : GmOk n C g') (hC : C ≤ 1000000000) {i : Nat} (hi : i < n) : (g.nd i).log <+: (g'.nd i).log :=
  log_grows ((hok.nd i hi).first hB).1 ((hok'.nd i hi).first hC).1 fun s v hv => h i s v hv
theorem DJ.mem (hd : DJ n P g) (hok : GmOk n B g) (hB : B ≤ 1000000000) {i : Nat} (hi : i < n) {v : ByteArray} (hv : v ∈ (g.nd i).log) : P v := by
  obtain ⟨s, _, hs⟩ := log_mem ((hok.nd i hi).first hB).1 hv
  exact hd.prop hs
theorem log_small (hok : GmOk n B g) (hB : B ≤ 1000000000) {i : Nat} (hi : i < n) : (g.nd i).log.length ≤ B := by
  rw [log_len]; exact ((hok.nd i hi).first hB).2
end
end Go.Proofs.Ytghhcjpilcoblaa
