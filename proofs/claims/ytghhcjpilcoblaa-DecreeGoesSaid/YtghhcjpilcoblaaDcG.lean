/- Chapter 22 (decree): if from some time on one node ticks and all is delivered, its values come into the list, and the others come to know them (plain law). No program here. -/
import Derived.Test.YtghhcjpilcoblaaDcR
namespace Go.Proofs.Ytghhcjpilcoblaa
open Go.RowKit Go.Lap
set_option linter.unusedVariables false
section
variable {n i s r B : Nat} {g g' : Gm}
/-- What anybody knows of, all that is ahead of it somebody knows. -/
structure CI (n : Nat) (g : Gm) : Prop where
  ch : ∀ k t, k < n → ((g.nd k).lg t).isSome = true → ∀ t', t' < t → ∃ k', k' < n ∧ ((g.nd k').lg t').isSome = true
  nw : ∀ k q, k < n → (g.nd k).nw = some q → ∀ t', t' < q.s → ((g.nd k).lg t').isSome = true
  ms : ∀ q ∈ g.bg, q.m.k = 5 → ∃ k, k < n ∧ ((g.nd k).lg q.m.s).isSome = true
theorem CI.zero : CI n ⟨fun _ => Nod.zero, []⟩ := ⟨fun k t _ h => (nomatch h), fun k q _ h => (nomatch h), fun q h => (nomatch h)⟩
theorem CI.step (h : CI n g) {x : Nod} {b : List Pkt} (hi : i < n) (hlg : ∀ t v, (g.nd i).lg t = some v → x.lg t = some v)
    (hnew : ∀ t, (x.lg t).isSome = true → ((g.nd i).lg t).isSome = true ∨ (∃ k, k < n ∧ ((g.nd k).lg t).isSome = true) ∨ ∀ t', t' < t → ((g.nd i).lg t').isSome = true)
    (hnw : ∀ q, x.nw = some q → ∀ t', t' < q.s → (x.lg t').isSome = true)
    (hb : ∀ q ∈ b, q.m.k = 5 → (∃ k, k < n ∧ ((g.nd k).lg q.m.s).isSome = true) ∨ (x.lg q.m.s).isSome = true) : CI n ⟨set g.nd i x, b⟩ := by
  have hs : ∀ t, ((g.nd i).lg t).isSome = true → (x.lg t).isSome = true := fun t ht => by
    obtain ⟨v, hv⟩ := isSome_get ht
    rw [hlg t v hv]; rfl
  have up : ∀ k t, ((g.nd k).lg t).isSome = true → ((set g.nd i x k).lg t).isSome = true := fun k t ht => by
    by_cases hk : k = i
    · subst hk; rw [set_same]; exact hs t ht
    · rw [set_ne _ _ hk]; exact ht
  have hx : ∀ t, (x.lg t).isSome = true → ∃ k, k < n ∧ ((set g.nd i x k).lg t).isSome = true := fun t ht => ⟨i, hi, by rw [set_same]; exact ht⟩
  refine ⟨fun k t hk ht t' ht' => ?_, fun k q hk hq t' ht' => ?_, fun q hq h5 => ?_⟩
  · have hold : ∀ k2, k2 < n → ((g.nd k2).lg t).isSome = true → ∃ k', k' < n ∧ ((set g.nd i x k').lg t').isSome = true := fun k2 hk2 h2 => by
      obtain ⟨k', h1, h2⟩ := h.ch k2 t hk2 h2 t' ht'
      exact ⟨k', h1, up _ _ h2⟩
    have ht : ((set g.nd i x k).lg t).isSome = true := ht
    by_cases hki : k = i
    · subst hki
      rw [set_same] at ht
      rcases hnew t ht with h1 | ⟨k2, h1, h2⟩ | h1
      · exact hold k hk h1
      · exact hold k2 h1 h2
      · exact hx t' (hs _ (h1 t' ht'))
    · rw [set_ne _ _ hki] at ht; exact hold k hk ht
  · have hq : (set g.nd i x k).nw = some q := hq
    show ((set g.nd i x k).lg t').isSome = true
    by_cases hki : k = i
    · subst hki; rw [set_same] at hq ⊢; exact hnw q hq t' ht'
    · rw [set_ne _ _ hki] at hq ⊢; exact h.nw k q hk hq t' ht'
  · rcases hb q hq h5 with ⟨k, h1, h2⟩ | h1
    · exact ⟨k, h1, up _ _ h2⟩
    · exact hx _ h1
theorem CI.bag (h : CI n g) {b : List Pkt} (hb : ∀ q ∈ b, q.m.k = 5 → ∃ k, k < n ∧ ((g.nd k).lg q.m.s).isSome = true) : CI n ⟨g.nd, b⟩ := ⟨h.ch, h.nw, hb⟩
theorem CI.step0 (h : CI n g) {x : Nod} {b : List Pkt} (hi : i < n) (hlg : x.lg = (g.nd i).lg) (hnw : ∀ q, x.nw = some q → ∀ t', t' < q.s → ((g.nd i).lg t').isSome = true)
    (hb : ∀ q ∈ b, q.m.k = 5 → ∃ k, k < n ∧ ((g.nd k).lg q.m.s).isSome = true) : CI n ⟨set g.nd i x, b⟩ :=
  h.step hi (fun t v hv => by rw [hlg]; exact hv) (fun t ht => by rw [hlg] at ht; exact .inl ht) (fun q hq t' ht' => by rw [hlg]; exact hnw q hq t' ht') (fun q hq h5 => .inl (hb q hq h5))
theorem CI.arrive (h : CI n g) (hok : GmOk n B g) {p : Pkt} {b : List Pkt} (hds : p.ds < n) (hp : p.m.k = 5 → ∃ k, k < n ∧ ((g.nd k).lg p.m.s).isSome = true) (hb : ∀ q ∈ b, q.m.k = 5 → ∃ k, k < n ∧ ((g.nd k).lg q.m.s).isSome = true) : CI n (g.arrive n p b) := by
  have hnw := h.nw p.ds
  have ask : CI n ⟨set g.nd p.ds ((g.nd p.ds).asked p.m).1, sendB b ⟨p.ds, p.fr, ((g.nd p.ds).asked p.m).2⟩⟩ := by
    refine h.step0 hds (asked_lg _ _) (fun q hq => hnw q hds ?_) fun q hq h5 => ?_
    · unfold Nod.asked at hq
      split at hq
      · exact hq
      · dsimp only at hq; split at hq
        · exact hq
        · split at hq <;> exact hq
    · rcases sendB_mem hq with hq | rfl
      · exact hb q hq h5
      · unfold Nod.asked at h5 ⊢
        split at h5
        · rename_i v hv
          exact ⟨p.ds, hds, by show ((g.nd p.ds).lg p.m.s).isSome = true; rw [hv]; rfl⟩
        · dsimp only at h5; split at h5
          · cases h5
          · split at h5 <;> cases h5
  unfold Gm.arrive
  dsimp only
  split
  · exact ask
  · exact ask
  · refine h.step0 hds (promised_lg _ _ _ _) (fun q hq t' ht' => ?_) fun q hq h5 => ?_
    · unfold Nod.promised at hq
      cases hp0 : (g.nd p.ds).nw with
      | none => rw [hp0] at hq; dsimp only at hq; rw [hp0] at hq; cases hq
      | some q0 =>
        rw [hp0] at hq
        dsimp only at hq
        split at hq
        · rw [hp0] at hq; cases hq; exact hnw q hds hp0 t' ht'
        · split at hq
          · cases hq; exact hnw q0 hds hp0 t' ht'
          · cases hq; exact hnw q0 hds hp0 t' ht'
    · split at hq
      · rename_i m' hm'
        rcases sendTo_mem hq with hq | ⟨d, _, rfl⟩
        · exact hb q hq h5
        · exfalso
          unfold Nod.promised at hm'
          split at hm'
          · cases hm'
          · split at hm'
            · cases hm'
            · split at hm'
              · cases hm'; cases h5
              · cases hm'
      · exact hb q hq h5
  · cases hp0 : (g.nd p.ds).nw with
    | none =>
      have e : (g.nd p.ds).taken n p.fr p.m = (g.nd p.ds, none) := by unfold Nod.taken; rw [hp0]
      rw [e]
      exact h.step0 hds rfl (fun q hq => hnw q hds hq) hb
    | some q0 =>
      by_cases hc : mineP q0 p.m = false ∨ q0.ch = false
      · have e : (g.nd p.ds).taken n p.fr p.m = (g.nd p.ds, none) := by unfold Nod.taken; rw [hp0]; exact if_pos hc
        rw [e]
        exact h.step0 hds rfl (fun q hq => hnw q hds hq) hb
      · by_cases hl : quor n ≤ (addL q0.by_ (p.fr : Int)).length
        · have e : (g.nd p.ds).taken n p.fr p.m = (({ g.nd p.ds with nw := some { q0 with by_ := addL q0.by_ (p.fr : Int) } } : Nod).know q0.s q0.v, some (mLearn q0.s q0.v)) := by
            unfold Nod.taken; rw [hp0]; dsimp only; rw [if_neg hc, if_pos hl]
          rw [e]
          have hmono := fun t v (hv : (g.nd p.ds).lg t = some v) => know_keeps ({ g.nd p.ds with nw := some { q0 with by_ := addL q0.by_ (p.fr : Int) } } : Nod) q0.s q0.v t v hv
          have hms : ∀ t, ((g.nd p.ds).lg t).isSome = true → ((({ g.nd p.ds with nw := some { q0 with by_ := addL q0.by_ (p.fr : Int) } } : Nod).know q0.s q0.v).lg t).isSome = true := fun t ht => by
            obtain ⟨v, hv⟩ := isSome_get ht
            rw [hmono t v hv]; rfl
          refine h.step hds hmono (fun t ht => ?_) (fun q hq t' ht' => ?_) fun q hq h5 => ?_
          · obtain ⟨v, hv⟩ := isSome_get ht
            rcases know_lg _ _ _ _ _ hv with hv | ⟨rfl, _⟩
            · left; have hv : (g.nd p.ds).lg t = some v := hv; rw [hv]; rfl
            · exact .inr (.inr fun t' ht' => hnw q0 hds hp0 t' ht')
          · have := know_nw _ _ _ _ hq
            cases this
            exact hms t' (hnw q0 hds hp0 t' ht')
          · dsimp only at hq
            rcases sendTo_mem hq with hq | ⟨d, _, rfl⟩
            · exact .inl (hb q hq h5)
            · right
              show ((({ g.nd p.ds with nw := some { q0 with by_ := addL q0.by_ (p.fr : Int) } } : Nod).know q0.s q0.v).lg q0.s).isSome = true
              by_cases hk : ((g.nd p.ds).lg q0.s).isSome = true
              · exact hms _ hk
              · unfold Nod.know
                rw [if_neg hk]
                dsimp only
                split <;> (dsimp only; rw [set_same]; rfl)
        · have e : (g.nd p.ds).taken n p.fr p.m = ({ g.nd p.ds with nw := some { q0 with by_ := addL q0.by_ (p.fr : Int) } }, none) := by
            unfold Nod.taken; rw [hp0]; dsimp only; rw [if_neg hc, if_neg hl]
          rw [e]
          refine h.step0 hds rfl (fun q hq => ?_) hb
          cases hq; exact hnw q0 hds hp0
  · refine h.step0 hds rfl (fun q hq => ?_) hb
    unfold Nod.refused at hq
    dsimp only at hq
    cases hp0 : (g.nd p.ds).nw with
    | none => rw [hp0] at hq; cases hq
    | some q0 =>
      rw [hp0] at hq
      dsimp only at hq
      split at hq
      · cases hq
      · cases hq; exact hnw _ hds hp0
  · rename_i hk
    refine h.step hds (fun t v hv => know_keeps _ _ _ _ _ hv) (fun t ht => ?_) (fun q hq t' ht' => ?_) fun q hq h5 => .inl (hb q hq h5)
    · obtain ⟨v, hv⟩ := isSome_get ht
      rcases know_lg _ _ _ _ _ hv with hv | ⟨rfl, _⟩
      · left; rw [hv]; rfl
      · exact .inr (.inl (hp hk))
    · obtain ⟨v, hv⟩ := isSome_get (hnw q hds (know_nw _ _ _ _ hq) t' ht')
      rw [know_keeps _ _ _ _ _ hv]; rfl
  · refine h.bag ?_
    have : ∀ (l : List Msg) (b : List Pkt), (∀ m ∈ l, m.k = 5 → ∃ k, k < n ∧ ((g.nd k).lg m.s).isSome = true) → (∀ q ∈ b, q.m.k = 5 → ∃ k, k < n ∧ ((g.nd k).lg q.m.s).isSome = true) → ∀ q ∈ l.foldl (fun b m => sendB b ⟨p.ds, p.fr, m⟩) b, q.m.k = 5 → ∃ k, k < n ∧ ((g.nd k).lg q.m.s).isSome = true := by
      intro l
      induction l with
      | nil => intro b _ hb; exact hb
      | cons m l ih =>
        intro b hl hb
        refine ih _ (fun x hx => hl x (List.mem_cons_of_mem _ hx)) fun q hq h5 => ?_
        rcases sendB_mem hq with hq | rfl
        · exact hb q hq h5
        · exact hl m (List.mem_cons_self ..) h5
    refine this _ b (fun m hm _ => ?_) hb
    obtain ⟨t, v, hv, rfl⟩ := five_mem hm
    exact ⟨p.ds, hds, by show ((g.nd p.ds).lg t).isSome = true; rw [hv]; rfl⟩
theorem CI.do22 (h : CI n g) (hok : GmOk n B g) (hB : B ≤ 1000000000) (x : DAct) : CI n (doG n g x) := by
  unfold doG
  split
  · unfold proposeG
    split
    · rename_i hc
      obtain ⟨j, hj, hjn⟩ := inN_of hc.1
      rw [hj, Int.toNat_natCast]
      exact h.step0 hjn rfl (fun q hq => h.nw j q hjn hq) h.ms
    · exact h
  · split
    · unfold tickG
      split
      · rename_i hc
        obtain ⟨j, hj, hjn⟩ := inN_of hc
        rw [hj, Int.toNat_natCast]
        have ha : ∀ q ∈ sendTo g.bg j (mAsk (g.nd j).first) (othersOf n j), q.m.k = 5 → ∃ k, k < n ∧ ((g.nd k).lg q.m.s).isSome = true := fun q hq h5 => by
          rcases sendTo_mem hq with hq | ⟨d, _, rfl⟩
          · exact h.ms q hq h5
          · cases h5
        unfold Gm.tick
        dsimp only
        split
        · exact h.bag ha
        · refine h.step0 hjn rfl (fun q hq t' ht' => ?_) fun q hq h5 => ?_
          · cases hq; exact ((hok.nd j hjn).first hB).1.yes t' ht'
          · rcases sendTo_mem hq with hq | ⟨d, _, rfl⟩
            · rcases sendTo_mem hq with hq | ⟨d, _, rfl⟩
              · exact h.ms q hq h5
              · cases h5
            · cases h5
      · exact h
    · split
      · unfold deliverG
        split
        · unfold Gm.deliver
          split
          · rename_i p hp
            have hm := List.mem_of_getElem? hp
            exact h.arrive hok (hok.bg p hm).2.1 (h.ms p hm) fun q hq => h.ms q (List.mem_of_mem_eraseIdx hq)
          · exact h
        · exact h
      · split
        · unfold copyG
          split
          · unfold Gm.copy
            split
            · rename_i p hp
              refine h.bag fun q hq h5 => ?_
              rcases sendB_mem hq with hq | rfl
              · exact h.ms q hq h5
              · exact h.ms _ (List.mem_of_getElem? hp) h5
            · exact h
          · exact h
        · split
          · exact h.bag fun q hq => h.ms q (List.mem_filter.1 hq).1
          · split
            · unfold crashG
              split
              · rename_i hc
                obtain ⟨j, hj, hjn⟩ := inN_of hc
                rw [hj, Int.toNat_natCast]
                exact h.step0 hjn rfl (fun q hq => (nomatch hq)) h.ms
              · exact h
            · exact h
end
section
variable {n i s r B : Nat} {P : ByteArray → Prop} {g g' : Gm}
theorem asked_acr (x : Nod) (m : Msg) (t : Nat) (h : ((x.asked m).1.acr t).h = true) : (x.acr t).h = true ∨ t = m.s := by
  by_cases ht : t = m.s
  · exact .inr ht
  · left
    unfold Nod.asked at h
    split at h
    · exact h
    · dsimp only at h
      split at h
      · rw [acr_else _ ht] at h; exact h
      · split at h
        · rw [acr_else _ ht] at h; exact h
        · rw [acr_else _ ht] at h; exact h
theorem promised_acr (x : Nod) (n : Nat) (fr : Int) (m : Msg) (t : Nat) : (x.promised n fr m).1.acr t = x.acr t := by
  unfold Nod.promised
  split
  · rfl
  · split
    · rfl
    · split <;> rfl
theorem taken_acr (x : Nod) (n : Nat) (fr : Int) (m : Msg) (t : Nat) : (x.taken n fr m).1.acr t = x.acr t := by
  unfold Nod.taken
  split
  · rfl
  · split
    · rfl
    · dsimp only; split
      · exact know_acr _ _ _ _
      · rfl
theorem know_pel (x : Nod) (s : Nat) (v : ByteArray) : (x.know s v).pe.length ≤ x.pe.length := by
  unfold Nod.know
  split
  · exact Nat.le_refl _
  · dsimp only; split
    · show x.pe.tail.length ≤ _; rw [List.length_tail]; omega
    · exact Nat.le_refl _
theorem set_acr1 (g : Gm) {i : Nat} {x : Nod} {b : List Pkt} {Q : Nat → Prop} (h : ∀ t, (x.acr t).h = true → ((g.nd i).acr t).h = true ∨ Q t) (k t : Nat) (hk : (((⟨set g.nd i x, b⟩ : Gm).nd k).acr t).h = true) : ((g.nd k).acr t).h = true ∨ Q t := by
  have hk : ((set g.nd i x k).acr t).h = true := hk
  by_cases hki : k = i
  · rw [hki, set_same] at hk; rw [hki]; exact h t hk
  · rw [set_ne _ _ hki] at hk; exact .inl hk
theorem set_pe1 (g : Gm) {i : Nat} {x : Nod} {b : List Pkt} (h : x.pe.length ≤ (g.nd i).pe.length) (k : Nat) : ((⟨set g.nd i x, b⟩ : Gm).nd k).pe.length ≤ (g.nd k).pe.length := by
  show (set g.nd i x k).pe.length ≤ _
  by_cases hki : k = i
  · rw [hki, set_same]; exact h
  · rw [set_ne _ _ hki]; exact Nat.le_refl _
theorem arrive_acc (g : Gm) (n : Nat) (p : Pkt) (b : List Pkt) (k t : Nat) (h : (((g.arrive n p b).nd k).acr t).h = true) : ((g.nd k).acr t).h = true ∨ t = p.m.s := by
  unfold Gm.arrive at h
  dsimp only at h
  split at h
  · exact set_acr1 g (fun t ht => asked_acr _ _ t ht) k t h
  · exact set_acr1 g (fun t ht => asked_acr _ _ t ht) k t h
  · exact set_acr1 g (Q := fun t => t = p.m.s) (fun t ht => .inl (by rw [promised_acr] at ht; exact ht)) k t h
  · exact set_acr1 g (Q := fun t => t = p.m.s) (fun t ht => .inl (by rw [taken_acr] at ht; exact ht)) k t h
  · exact set_acr1 g (x := (g.nd p.ds).refused p.m) (Q := fun t => t = p.m.s) (fun t ht => .inl ht) k t h
  · exact set_acr1 g (Q := fun t => t = p.m.s) (fun t ht => .inl (by rw [know_acr] at ht; exact ht)) k t h
  · exact .inl h
theorem arrive_pe (g : Gm) (n : Nat) (p : Pkt) (b : List Pkt) (k : Nat) : ((g.arrive n p b).nd k).pe.length ≤ (g.nd k).pe.length := by
  have hask : ((g.nd p.ds).asked p.m).1.pe = (g.nd p.ds).pe := by
    unfold Nod.asked
    split
    · rfl
    · dsimp only; split
      · rfl
      · split <;> rfl
  unfold Gm.arrive
  dsimp only
  split
  · exact set_pe1 g (by rw [hask]; exact Nat.le_refl _) k
  · exact set_pe1 g (by rw [hask]; exact Nat.le_refl _) k
  · refine set_pe1 g ?_ k
    unfold Nod.promised
    split
    · exact Nat.le_refl _
    · split
      · exact Nat.le_refl _
      · split <;> exact Nat.le_refl _
  · refine set_pe1 g ?_ k
    unfold Nod.taken
    split
    · exact Nat.le_refl _
    · split
      · exact Nat.le_refl _
      · dsimp only; split
        · exact know_pel _ _ _
        · exact Nat.le_refl _
  · exact set_pe1 g (x := (g.nd p.ds).refused p.m) (Nat.le_refl (g.nd p.ds).pe.length) k
  · exact set_pe1 g (know_pel _ _ _) k
  · exact Nat.le_refl _
/-- The slots for which anybody has accepted anything, and the values of node 0: not more than there were acts. -/
def KI (a : Nat) (g : Gm) : Prop := ∃ Kl : List Nat, (∀ k t, ((g.nd k).acr t).h = true → t ∈ Kl) ∧ Kl.length + (g.nd 0).pe.length ≤ a
theorem KI.zero : KI 0 ⟨fun _ => Nod.zero, []⟩ := ⟨[], fun k t h => (nomatch h), Nat.le_refl _⟩
theorem KI.same {a : Nat} (h : KI a g) (hA : ∀ k t, ((g'.nd k).acr t).h = true → ((g.nd k).acr t).h = true) (hp : (g'.nd 0).pe.length ≤ (g.nd 0).pe.length + 1) : KI (a + 1) g' := by
  obtain ⟨Kl, h1, h2⟩ := h
  exact ⟨Kl, fun k t ht => h1 k t (hA k t ht), by omega⟩
theorem KI.do22 {a : Nat} (h : KI a g) (n : Nat) (x : DAct) : KI (a + 1) (doG n g x) := by
  have hself : KI (a + 1) g := h.same (fun _ _ h => h) (Nat.le_succ _)
  unfold doG
  split
  · unfold proposeG
    split
    · refine h.same (fun k t ht => (set_acr1 g (i := x.i.toNat) (x := { g.nd x.i.toNat with pe := (g.nd x.i.toNat).pe ++ [x.v] }) (b := g.bg) (Q := fun _ => False) (fun t ht => .inl ht) k t ht).elim (fun h => h) (fun h => h.elim)) ?_
      show (set g.nd x.i.toNat { g.nd x.i.toNat with pe := (g.nd x.i.toNat).pe ++ [x.v] } 0).pe.length ≤ _
      by_cases h0 : (0 : Nat) = x.i.toNat
      · rw [← h0, set_same]; simp
      · rw [set_ne _ _ h0]; omega
    · exact hself
  · split
    · unfold tickG
      split
      · unfold Gm.tick
        dsimp only
        split
        · exact hself
        · refine h.same (fun k t ht => ?_) (Nat.le_trans (set_pe1 g ?_ 0) (Nat.le_succ _))
          · refine (set_acr1 g (Q := fun _ => False) ?_ k t ht).elim (fun h => h) (fun h => h.elim)
            exact fun t ht => .inl ht
          · exact Nat.le_refl _
      · exact hself
    · split
      · unfold deliverG
        split
        · unfold Gm.deliver
          split
          · rename_i p hp
            obtain ⟨Kl, h1, h2⟩ := h
            refine ⟨p.m.s :: Kl, fun k t ht => ?_, ?_⟩
            · rcases arrive_acc g n p _ k t ht with ht | rfl
              · exact List.mem_cons_of_mem _ (h1 k t ht)
              · exact List.mem_cons_self ..
            · have := arrive_pe g n p (g.bg.eraseIdx x.a.toNat) 0
              rw [List.length_cons]; omega
          · exact hself
        · exact hself
      · split
        · unfold copyG
          split
          · unfold Gm.copy
            split
            · exact h.same (fun _ _ h => h) (Nat.le_succ _)
            · exact hself
          · exact hself
        · split
          · exact h.same (fun _ _ h => h) (Nat.le_succ _)
          · split
            · unfold crashG
              split
              · exact h.same (fun k t ht => (set_acr1 g (i := x.i.toNat) (x := { g.nd x.i.toNat with pe := [], nw := none }) (b := g.bg) (Q := fun _ => False) (fun t ht => .inl ht) k t ht).elim (fun h => h) (fun h => h.elim)) (Nat.le_trans (set_pe1 g (i := x.i.toNat) (x := { g.nd x.i.toNat with pe := [], nw := none }) (b := g.bg) (Nat.zero_le _) 0) (Nat.le_succ _))
              · exact hself
            · exact hself
/-- What is known somebody has accepted. -/
theorem DJ.acc (hd : DJ n P g) {k t : Nat} {v : ByteArray} (hv : (g.nd k).lg t = some v) : ∃ j, j < n ∧ ((g.nd j).acr t).h = true ∧ ((g.nd j).acr t).v = v := by
  obtain ⟨h, hd⟩ := hd
  obtain ⟨b, hb, hq⟩ := hd.lg k t v hv
  obtain ⟨j, hj, hac, _⟩ := hq.meets hq
  obtain ⟨_, c, u, hc, hbc⟩ := (hd.sl t).i2 j b hac
  have h1 := (hd.sl t).i1 j c u hc
  have huv : u = v := by
    rcases Nat.lt_or_ge b c with hlt | hge
    · rcases (hd.sl t).sa c u h1.2 b hlt with e | hbl
      · rw [hb] at e; exact (Option.some.inj e).symm
      · obtain ⟨j2, _, g1, g2, _⟩ := hq.meets hbl
        exact absurd g1 g2
    · have : c = b := by omega
      rw [this, hb] at h1; exact (Option.some.inj h1.2).symm
  unfold Acr.acd at hc
  split at hc
  · rename_i hh
    injection hc with hc
    injection hc with _ hc
    exact ⟨j, hj, hh, hc.trans huv⟩
  · cases hc
theorem DJ.run (hn : n ≤ 7) : ∀ (f : Nat) (g : Gm), DJ n P g → GmOk n B g → DJ n P (runG n f g)
  | 0, g, h, _ => h
  | f + 1, g, h, hok => by
    show DJ n P (if g.bg = [] then g else runG n f (g.deliver n 0))
    split
    · exact h
    · exact DJ.run hn f _ (h.deliver hn hok 0) (hok.deliver hn 0)
theorem DJ.tick (hd : DJ n P g) (hn : n ≤ 7) (hi : i < n) : DJ n P (g.tick n i) := by
  obtain ⟨h, hd⟩ := hd
  exact ⟨h, hd.tick hn hi⟩
def RD (n : Nat) (g : Gm) : Prop := ∀ k, k < n → ((g.nd k).acr (g.nd 0).first).r ≤ (g.nd 0).rd
def mu (Kl : List Nat) (g : Gm) : Nat := 2 * (g.nd 0).pe.length + (Kl.filter fun t => ((g.nd 0).lg t).isNone).length
def NU (n : Nat) (Kl : List Nat) (g : Gm) (N : Nat) : Prop := 2 * mu Kl g + 1 ≤ N ∨ (2 * mu Kl g ≤ N ∧ RD n g)
structure GI (n B : Nat) (P : ByteArray → Prop) (mine : List ByteArray) (Kl Kl2 : List Nat) (g : Gm) : Prop where
  ts : TS n 0 B g
  dj : DJ n P g
  ik : ∀ k t, k < n → ((g.nd k).acr t).h = true → t ∈ Kl ∨ ((g.nd 0).lg t).isSome = true ∨ (t = (g.nd 0).first ∧ (g.nd 0).pe.head? = some ((g.nd k).acr t).v)
  k2 : ∀ k t, k < n → ((g.nd k).acr t).h = true → t ∈ Kl2
  hm : ∀ v ∈ mine, v ∈ (g.nd 0).pe ∨ ∃ t, t < (g.nd 0).first ∧ (g.nd 0).lg t = some v
theorem filter_le {Kl : List Nat} {f h : Nat → Bool} (hf : ∀ t, f t = true → h t = true) : (Kl.filter f).length ≤ (Kl.filter h).length := by
  induction Kl with
  | nil => exact Nat.le_refl _
  | cons t l ih =>
    rw [List.filter_cons, List.filter_cons]
    by_cases h1 : f t = true
    · rw [if_pos h1, if_pos (hf t h1)]; simp; exact ih
    · rw [if_neg h1]; split
      · simp; omega
      · exact ih
theorem filter_lt {Kl : List Nat} {f h : Nat → Bool} (hf : ∀ t, f t = true → h t = true) {s : Nat} (hs : s ∈ Kl) (h1 : h s = true) (h2 : f s = false) : (Kl.filter f).length + 1 ≤ (Kl.filter h).length := by
  induction Kl with
  | nil => cases hs
  | cons t l ih =>
    rw [List.filter_cons, List.filter_cons]
    rcases List.mem_cons.1 hs with rfl | hs
    · rw [if_neg (by rw [h2]; simp), if_pos h1]
      simp; exact filter_le hf
    · have := ih hs
      by_cases h3 : f t = true
      · rw [if_pos h3, if_pos (hf t h3)]; simp; omega
      · rw [if_neg h3]; split
        · simp; omega
        · exact this
/-- A turn of node 0. -/
theorem GI.turn {mine : List ByteArray} {Kl Kl2 : List Nat} (h : GI n B P mine Kl Kl2 g) (hn : n ≤ 7) (h0 : 0 < n) (hB : B ≤ 100000000) (hpe : (g.nd 0).pe ≠ []) {N : Nat} (hN : NU n Kl g (N + 1)) :
    ∃ Kl', GI n (B + 1) P mine Kl' ((g.nd 0).first :: Kl2) (runG n 500 (g.tick n 0)) ∧ NU n Kl' (runG n 500 (g.tick n 0)) N := by
  have hT := turn_is h.ts hn h0 hB hpe (f := 500) (by omega)
  have hlu : LgUp g (runG n 500 (g.tick n 0)) := (LgUp.tick g n 0).trans (runG_lg n 500 _)
  have hdj : DJ n P (runG n 500 (g.tick n 0)) := DJ.run hn 500 _ (h.dj.tick hn h0) (h.ts.ok.tick hn (by omega) h0)
  have hf := (h.ts.ok.nd 0 h0).first (B := B) (by omega)
  have hf' := (hT.ts.ok.nd 0 h0).first (B := B + 1) (by omega)
  obtain ⟨s, hs⟩ : ∃ s, (g.nd 0).first = s := ⟨_, rfl⟩
  obtain ⟨g', hg'⟩ : ∃ g', runG n 500 (g.tick n 0) = g' := ⟨_, rfl⟩
  rw [hg'] at hT hlu hdj hf' ⊢
  rw [hs] at hf
  have hls : ∀ {t}, ((g.nd 0).lg t).isSome = true → ((g'.nd 0).lg t).isSome = true := fun {t} ht => by
    obtain ⟨v, hv⟩ := isSome_get ht
    rw [hlu 0 t v hv]; rfl
  have hfs : s ≤ (g'.nd 0).first := by
    refine Nat.le_of_not_lt fun hlt => ?_
    have := hls (hf.1.yes _ hlt)
    rw [hf'.1.no] at this; cases this
  have hk2 : ∀ k t, k < n → ((g'.nd k).acr t).h = true → t ∈ s :: Kl2 := fun k t hk ht => by
    by_cases hts : t = s
    · rw [hts]; exact List.mem_cons_self ..
    · rw [hT.ac k t (by rw [hs]; exact hts)] at ht
      exact List.mem_cons_of_mem _ (h.k2 k t hk ht)
  have hwin : ∀ t, t < s + 5 → ((g'.nd 0).lg t).isSome = true → t < (g'.nd 0).first := fun t ht hk => by
    refine Nat.lt_of_not_le fun hle => ?_
    have hne : (g'.nd 0).lg (g'.nd 0).first = none := hf'.1.no
    by_cases he : (g'.nd 0).first = t
    · rw [he] at hne; rw [hne] at hk; cases hk
    · obtain ⟨k', hk', hk2'⟩ := hT.ts.ch 0 t h0 hk (g'.nd 0).first (by omega)
      by_cases hk0 : k' = 0
      · rw [hk0, hne] at hk2'; cases hk2'
      · have := hT.cov k' _ hk' hk0 (by rw [hs]; exact hfs) (by rw [hs]; omega) hk2'
        rw [hne] at this; cases this
  have hmine : ∀ v ∈ mine, v ∈ (g'.nd 0).pe ∨ ∃ t, t < (g'.nd 0).first ∧ (g'.nd 0).lg t = some v := fun v hv => by
    rcases h.hm v hv with hv | ⟨t, ht, hv⟩
    · rcases hT.h6 v hv with hv | ⟨t, ht, hv⟩
      · exact .inl hv
      · exact .inr ⟨t, hwin t (by rw [hs] at ht; exact ht) (by rw [hv]; rfl), hv⟩
    · exact .inr ⟨t, by rw [hs] at ht; omega, hlu 0 t v hv⟩
  have hold : ∀ k t, k < n → ((g'.nd k).acr t).h = true → t ≠ s → t ∈ Kl ∨ ((g'.nd 0).lg t).isSome = true := fun k t hk ht hts => by
    rw [hT.ac k t (by rw [hs]; exact hts)] at ht
    rcases h.ik k t hk ht with h1 | h1 | ⟨h1, _⟩
    · exact .inl h1
    · exact .inr (hls h1)
    · exact absurd (h1.trans hs) hts
  have hflt : ∀ t, ((g'.nd 0).lg t).isNone = true → ((g.nd 0).lg t).isNone = true := fun t ht => by
    cases hv : (g.nd 0).lg t with
    | none => rfl
    | some v => rw [hlu 0 t v hv] at ht; cases ht
  have hpl := hT.pl
  have hmu2 : 2 * mu Kl g ≤ N + 1 := by
    rcases hN with h | h
    · omega
    · exact h.1
  -- where nobody has accepted another value
  have hVH : ¬ s ∈ Kl → ∃ v, (g.nd 0).pe.head? = some v ∧ (∀ k, k < n → ((g.nd k).acr s).h = true → ((g.nd k).acr s).v = v) ∧ ∀ k, k < n → ∀ u, (g.nd k).lg s = some u → u = v := fun hsK => by
    cases hp : (g.nd 0).pe with
    | nil => exact absurd hp hpe
    | cons v l =>
      have ha : ∀ k, k < n → ((g.nd k).acr s).h = true → ((g.nd k).acr s).v = v := fun k hk hh => by
        rcases h.ik k s hk hh with h1 | h1 | ⟨_, h1⟩
        · exact absurd h1 hsK
        · rw [hf.1.no] at h1; cases h1
        · rw [hp] at h1; simp at h1; exact h1.symm
      refine ⟨v, rfl, ha, fun k hk u hu => ?_⟩
      obtain ⟨j, hj, h1, h2⟩ := h.dj.acc hu
      rw [← h2]; exact ha j hj h1
  by_cases hsh : (g'.nd 0).pe.length < (g.nd 0).pe.length
  · refine ⟨s :: Kl, ⟨hT.ts, hdj, fun k t hk ht => ?_, by rw [hs]; exact hk2, hmine⟩, .inl ?_⟩
    · by_cases hts : t = s
      · rw [hts]; exact .inl (List.mem_cons_self ..)
      · rcases hold k t hk ht hts with h1 | h1
        · exact .inl (List.mem_cons_of_mem _ h1)
        · exact .inr (.inl h1)
    · have h1 : ((s :: Kl).filter fun t => ((g'.nd 0).lg t).isNone).length ≤ (Kl.filter fun t => ((g.nd 0).lg t).isNone).length + 1 := by
        rw [List.filter_cons]
        have := filter_le (Kl := Kl) hflt
        split
        · simp; omega
        · omega
      unfold mu at hmu2 ⊢
      omega
  · have hple : (g'.nd 0).pe.length = (g.nd 0).pe.length := by omega
    have hpeq := hpl.2 hple
    by_cases hkn : ((g'.nd 0).lg s).isSome = true
    · have hsK : s ∈ Kl := by
        refine Classical.byContradiction fun hsK => ?_
        obtain ⟨v, v1, v2, v3⟩ := hVH hsK
        have := (hT.vh v v1 (by rw [hs]; exact v2) (by rw [hs]; exact v3) hple).1
        rw [hs] at this
        rw [this] at hkn; cases hkn
      refine ⟨Kl, ⟨hT.ts, hdj, fun k t hk ht => ?_, by rw [hs]; exact hk2, hmine⟩, .inl ?_⟩
      · by_cases hts : t = s
        · rw [hts]; exact .inl hsK
        · rcases hold k t hk ht hts with h1 | h1
          · exact .inl h1
          · exact .inr (.inl h1)
      · have h1 := filter_lt (Kl := Kl) hflt hsK (by rw [hf.1.no]; rfl) (by
          cases hv : (g'.nd 0).lg s with
          | none => rw [hv] at hkn; cases hkn
          | some u => rfl)
        unfold mu at hmu2 ⊢
        omega
    · have hno' : (g'.nd 0).lg s = none := by simpa using hkn
      have hfeq : (g'.nd 0).first = s := hf'.1.unique ⟨hno', fun t ht => hls (hf.1.yes t ht)⟩
      have hrd : RD n g' := by
        have := hT.t1
        rw [hs] at this
        rcases this with h1 | h1
        · exact absurd h1 hkn
        · intro k hk; rw [hfeq]; exact h1 k hk
      have hnrd : ¬ RD n g := fun hr => by
        rcases hT.na hr with h1 | h1
        · rw [hs] at h1; exact hkn h1
        · omega
      refine ⟨Kl, ⟨hT.ts, hdj, fun k t hk ht => ?_, by rw [hs]; exact hk2, hmine⟩, .inr ⟨?_, hrd⟩⟩
      · by_cases hts : t = s
        · subst hts
          by_cases hsK : t ∈ Kl
          · exact .inl hsK
          · obtain ⟨v, v1, v2, v3⟩ := hVH hsK
            have h3 := (hT.vh v v1 (by rw [hs]; exact v2) (by rw [hs]; exact v3) hple).2.1 k hk
            rw [hs] at h3
            exact .inr (.inr ⟨hfeq.symm, by rw [hpeq, h3 ht]; exact v1⟩)
        · rcases hold k t hk ht hts with h1 | h1
          · exact .inl h1
          · exact .inr (.inl h1)
      · have h1 := filter_le (Kl := Kl) hflt
        have hN' : 2 * mu Kl g + 1 ≤ N + 1 := by
          rcases hN with h | h
          · exact h
          · exact absurd h.2 hnrd
        unfold mu at hN' ⊢
        omega
theorem NU.pos {Kl : List Nat} {N : Nat} (h : NU n Kl g N) (hpe : (g.nd 0).pe ≠ []) : 0 < N := by
  have : 0 < (g.nd 0).pe.length := List.length_pos_iff.2 hpe
  unfold NU mu at h
  omega
/-- A list's slots have all been accepted by somebody. -/
theorem GI.first_le {mine : List ByteArray} {Kl Kl2 : List Nat} (h : GI n B P mine Kl Kl2 g) (h0 : 0 < n) (hB : B ≤ 1000000000) : (g.nd 0).first ≤ Kl2.length := by
  have := (List.nodup_range (n := (g.nd 0).first)).length_le_of_subset (l₂ := Kl2) (fun t ht => by
    obtain ⟨v, hv⟩ := isSome_get (((h.ts.ok.nd 0 h0).first hB).1.yes t (List.mem_range.1 ht))
    obtain ⟨j, hj, h1, _⟩ := h.dj.acc hv
    exact h.k2 j t hj h1)
  simpa using this
end
section
variable {n i s r B C : Nat} {P : ByteArray → Prop} {g g' : Gm}
/-- What holds behind acts. -/
structure PH (n B a : Nat) (g : Gm) : Prop where
  ok : GmOk n B g
  dj : DJ n (fun _ => True) g
  ci : CI n g
  ki : KI a g
theorem PH.zero : PH n 1 0 Gm.zero := ⟨GmOk.zero, DJ.zero, CI.zero, KI.zero⟩
theorem PH.do22 {a : Nat} (h : PH n B a g) (hn : n ≤ 7) (hB : B ≤ 1000000000) (x : DAct) (hok : GmOk n C (doG n g x)) : PH n C (a + 1) (doG n g x) :=
  ⟨hok, h.dj.do22 hn h.ok x (fun _ _ => trivial) (fun _ _ => trivial), h.ci.do22 h.ok hB x, h.ki.do22 n x⟩
theorem lose_all (g : Gm) : (g.lose (-1) (-1)).bg = [] := by
  show g.bg.filter _ = []
  rw [List.filter_eq_nil_iff]
  intro p _
  simp [Pkt.lost]
/-- Some of the others have forgotten all. -/
structure CR (n B a c : Nat) (g : Gm) : Prop where
  ok : GmOk n B g
  dj : DJ n (fun _ => True) g
  ci : CI n g
  ki : KI a g
  bg : g.bg = []
  id : ∀ k, 1 ≤ k → k < c → (g.nd k).pe = [] ∧ (g.nd k).nw = none
theorem PH.lose {a : Nat} (h : PH n B a g) : CR n (B + 1) a 1 (g.lose (-1) (-1)) := by
  obtain ⟨hh, hd⟩ := h.dj
  exact ⟨(h.ok.lose _ _).mono (Nat.le_succ _), ⟨hh, hd.lose _ _⟩, h.ci.bag (fun q hq => h.ci.ms q (List.mem_filter.1 hq).1), h.ki, lose_all g, fun k h1 h2 => by omega⟩
theorem CR.crash {a c : Nat} (h : CR n B a c g) (hn : n ≤ 7) (hc : c < n) (hc1 : 1 ≤ c) (hB : 0 < B) : CR n (B + 1) a (c + 1) (g.crash c) := by
  obtain ⟨hh, hd⟩ := h.dj
  obtain ⟨Kl, k1, k2⟩ := h.ki
  refine ⟨(h.ok.crash hB hc).mono (Nat.le_succ _), ⟨hh, hd.crash hn hc⟩, h.ci.step0 hc rfl (fun q hq => (nomatch hq)) h.ci.ms, ⟨Kl, fun k t ht => k1 k t ?_, ?_⟩, h.bg, fun k h1 h2 => ?_⟩
  · have ht : ((set g.nd c { g.nd c with pe := [], nw := none } k).acr t).h = true := ht
    by_cases hk : k = c
    · rw [hk, set_same] at ht; rw [hk]; exact ht
    · rw [set_ne _ _ hk] at ht; exact ht
  · show Kl.length + (set g.nd c { g.nd c with pe := [], nw := none } 0).pe.length ≤ a
    rw [set_ne _ _ (by omega)]; exact k2
  · show (set g.nd c { g.nd c with pe := [], nw := none } k).pe = [] ∧ (set g.nd c { g.nd c with pe := [], nw := none } k).nw = none
    by_cases hk : k = c
    · rw [hk, set_same]; exact ⟨rfl, rfl⟩
    · rw [set_ne _ _ hk]; exact h.id k h1 (by omega)
/-- Node 0 is given values. -/
structure LA (n B a : Nat) (mine : List ByteArray) (g : Gm) : Prop where
  cr : CR n B a n g
  mi : ∀ v ∈ mine, v ∈ (g.nd 0).pe
theorem LA.propose {a : Nat} {mine : List ByteArray} (h : LA n B a mine g) (hn : n ≤ 7) (h0 : 0 < n) {v : ByteArray} (hv : 1 ≤ v.size ∧ v.size ≤ 64) : LA n (B + 1) (a + 1) (mine ++ [v]) (g.propose 0 v) := by
  obtain ⟨hh, hd⟩ := h.cr.dj
  obtain ⟨Kl, k1, k2⟩ := h.cr.ki
  refine ⟨⟨h.cr.ok.propose h0 hv, ⟨hh, hd.propose hn h0 trivial⟩, h.cr.ci.step0 h0 rfl (fun q hq => h.cr.ci.nw 0 q h0 hq) h.cr.ci.ms, ⟨Kl, fun k t ht => k1 k t ?_, ?_⟩, h.cr.bg, fun k h1 h2 => ?_⟩, fun u hu => ?_⟩
  · have ht : ((set g.nd 0 { g.nd 0 with pe := (g.nd 0).pe ++ [v] } k).acr t).h = true := ht
    by_cases hk : k = 0
    · rw [hk, set_same] at ht; rw [hk]; exact ht
    · rw [set_ne _ _ hk] at ht; exact ht
  · show Kl.length + (set g.nd 0 { g.nd 0 with pe := (g.nd 0).pe ++ [v] } 0).pe.length ≤ a + 1
    rw [set_same]; simp; omega
  · show (set g.nd 0 _ k).pe = [] ∧ (set g.nd 0 _ k).nw = none
    rw [set_ne _ _ (by omega)]; exact h.cr.id k h1 h2
  · show u ∈ (set g.nd 0 { g.nd 0 with pe := (g.nd 0).pe ++ [v] } 0).pe
    rw [set_same]
    rcases List.mem_append.1 hu with hu | hu
    · exact List.mem_append_left _ (h.mi u hu)
    · exact List.mem_append_right _ hu
theorem LA.mono {a b : Nat} {mine : List ByteArray} (h : LA n B a mine g) (hB : B ≤ C) (hab : a ≤ b) : LA n C b mine g := by
  obtain ⟨Kl, k1, k2⟩ := h.cr.ki
  exact ⟨{ h.cr with ok := h.cr.ok.mono hB, ki := ⟨Kl, k1, by omega⟩ }, h.mi⟩
theorem LA.start {a : Nat} {mine : List ByteArray} (h : LA n B a mine g) (ha : a ≤ 105) : ∃ Kl Kl2, GI n B (fun _ => True) mine Kl Kl2 g ∧ Kl2.length ≤ 105 ∧ NU n Kl g 421 := by
  obtain ⟨Kl, k1, k2⟩ := h.cr.ki
  refine ⟨Kl, Kl, ⟨⟨h.cr.ok, fun k hk hk0 => h.cr.id k (by omega) hk, h.cr.bg, h.cr.ci.ch⟩, h.cr.dj, fun k t _ ht => .inl (k1 k t ht), fun k t _ ht => k1 k t ht, fun v hv => .inl (h.mi v hv)⟩, by omega, .inl ?_⟩
  have h1 := List.length_filter_le (fun t => ((g.nd 0).lg t).isNone) Kl
  unfold mu
  omega
/-- All have nothing to do of their own. -/
structure AI (n B : Nat) (g : Gm) : Prop where
  ok : GmOk n B g
  bg : g.bg = []
  ch : ∀ k t, k < n → ((g.nd k).lg t).isSome = true → ∀ t', t' < t → ∃ k', k' < n ∧ ((g.nd k').lg t').isSome = true
  pe : ∀ k, k < n → (g.nd k).pe = []
theorem AI.nw (h : AI n B g) {k : Nat} (hk : k < n) : (g.nd k).nw = none := by
  cases hq : (g.nd k).nw with
  | none => rfl
  | some q => exact absurd (h.pe k hk) ((h.ok.nd k hk).nw q hq).2
theorem GI.all {mine : List ByteArray} {Kl Kl2 : List Nat} (h : GI n B P mine Kl Kl2 g) (hpe : (g.nd 0).pe = []) : AI n B g :=
  ⟨h.ts.ok, h.ts.bg, h.ts.ch, fun k hk => by
    by_cases hk0 : k = 0
    · rw [hk0]; exact hpe
    · exact (h.ts.idle k hk hk0).1⟩
theorem AI.turn (h : AI n B g) (hn : n ≤ 7) (hi : i < n) (hB : B ≤ 100000000) {f : Nat} (hf : 450 ≤ f) : AI n (B + 1) (runG n f (g.tick n i)) ∧
    ∀ k t, k < n → k ≠ i → (g.nd i).first ≤ t → t < (g.nd i).first + 5 → (((runG n f (g.tick n i)).nd k).lg t).isSome = true → (((runG n f (g.tick n i)).nd i).lg t).isSome = true := by
  obtain ⟨s, hs⟩ : ∃ s, (g.nd i).first = s := ⟨_, rfl⟩
  have hno := (h.ok.nd i hi).first (B := B) (by omega)
  rw [hs] at hno
  have ho := others_len n i hi
  have hgt := h.ok.tick hn (by omega) hi
  have heq := tick_eq0 (i := i) h.bg hn hi hs (h.pe i hi)
  rw [heq] at hgt ⊢
  have w2 := sum_le (c := 6) (f := fun q => wt q.m.k) ((othersOf n i).map fun d => (⟨i, d, mAsk s⟩ : Pkt)) (fun q hq => by obtain ⟨d, _, rfl⟩ := List.mem_map.1 hq; exact Nat.le_refl _)
  have p2 := sum_le (c := 5) (f := fun q => ph q.m.k) ((othersOf n i).map fun d => (⟨i, d, mAsk s⟩ : Pkt)) (fun q hq => by obtain ⟨d, _, rfl⟩ := List.mem_map.1 hq; exact Nat.le_refl _)
  rw [List.length_map] at w2 p2
  have hvn : (vw i s ⟨g.nd, (othersOf n i).map fun d => (⟨i, d, mAsk s⟩ : Pkt)⟩).nw = none := h.nw hi
  have hG : RG n i s 0 (B + 1) [] g (fun _ _ => True) ⟨g.nd, (othersOf n i).map fun d => ⟨i, d, mAsk s⟩⟩ := by
    refine ⟨hgt, fun k hk _ => ⟨h.pe k hk, h.nw hk⟩, ⟨fun q hq => ?_, fun q hq => ?_, Nat.zero_le _, ?_, hno.1.yes, fun k t hk hki _ _ _ => .inl (List.mem_map.2 ⟨k, mem_others.2 ⟨hk, hki⟩, rfl⟩), h.ch, fun v hv => (nomatch hv)⟩, ?_, trivial, fun _ _ _ => rfl⟩
    · obtain ⟨d, hd, rfl⟩ := List.mem_map.1 hq
      have := mem_others.1 hd
      exact .ask _ this.1 this.2
    · rw [hvn] at hq; cases hq
    · have : (vw i s ⟨g.nd, (othersOf n i).map fun d => (⟨i, d, mAsk s⟩ : Pkt)⟩).pe = [] := h.pe i hi
      rw [this]; exact ⟨Nat.le_refl _, fun _ => rfl⟩
    · unfold flag; rw [hvn]
      show phL ((othersOf n i).map fun d => (⟨i, d, mAsk s⟩ : Pkt)) + 0 ≤ 100
      unfold phL; omega
  obtain ⟨hG', hbg⟩ := RG.run hn hi (Nat.succ_pos _) (fun _ _ _ _ _ _ _ _ => trivial) f _ hG (by show wtL ((othersOf n i).map fun d => (⟨i, d, mAsk s⟩ : Pkt)) ≤ f; unfold wtL; omega)
  have hri := hG'.ri
  rw [hbg] at hri
  refine ⟨⟨hG'.ok, hbg, hri.ch, fun k hk => ?_⟩, fun k t hk hki h1 h2 h3 => ?_⟩
  · by_cases hki : k = i
    · have := hri.suf.1
      rw [hki]
      exact List.length_eq_zero_iff.1 (Nat.le_zero.1 this)
    · exact (hG'.idle k hk hki).1
  · rw [hs] at h1 h2
    rcases hri.cov k t hk hki h1 h2 h3 with h | ⟨j, v, h⟩ | h
    · cases h
    · cases h
    · exact h
theorem first_mono {x y : Nod} (hx : IsFirst x.lg x.first) (hy : IsFirst y.lg y.first) (h : ∀ s v, x.lg s = some v → y.lg s = some v) : x.first ≤ y.first := by
  refine Nat.le_of_not_lt fun hlt => ?_
  obtain ⟨v, hv⟩ := isSome_get (hx.yes _ hlt)
  have := h _ _ hv
  rw [hy.no] at this
  cases this
/-- What the others have come to know. -/
structure OT (n B N m c : Nat) (g : Gm) : Prop where
  ai : AI n B g
  dj : DJ n (fun _ => True) g
  n0 : N ≤ (g.nd 0).first
  hi : ∀ k, k < n → 1 ≤ k → min N (5 * m) ≤ (g.nd k).first
  lo : ∀ k, k < n → 1 ≤ k → k < c → min N (5 * (m + 1)) ≤ (g.nd k).first
theorem OT.turn {N m c : Nat} (h : OT n B N m c g) (hn : n ≤ 7) (hc1 : 1 ≤ c) (hc : c < n) (hB : B ≤ 100000000) {f : Nat} (hf : 450 ≤ f) : OT n (B + 1) N m (c + 1) (runG n f (g.tick n c)) := by
  obtain ⟨h1, h2⟩ := h.ai.turn hn hc hB hf
  have hlu : LgUp g (runG n f (g.tick n c)) := (LgUp.tick g n c).trans (runG_lg n f _)
  have hdj : DJ n (fun _ => True) (runG n f (g.tick n c)) := DJ.run hn f _ (h.dj.tick hn hc) (h.ai.ok.tick hn (by omega) hc)
  have hmo : ∀ k, k < n → (g.nd k).first ≤ ((runG n f (g.tick n c)).nd k).first := fun k hk => first_mono ((h.ai.ok.nd k hk).first (B := B) (by omega)).1 ((h1.ok.nd k hk).first (B := B + 1) (by omega)).1 (hlu k)
  have h0 := hmo 0 (by omega)
  refine ⟨h1, hdj, Nat.le_trans h.n0 h0, fun k hk hk1 => Nat.le_trans (h.hi k hk hk1) (hmo k hk), fun k hk hk1 hkc => ?_⟩
  by_cases hkc' : k = c
  · subst hkc'
    have hk5 := h.hi k hk hk1
    have hmk := hmo k hk
    refine Nat.le_of_not_lt fun hlt => ?_
    have hfk := ((h1.ok.nd k hk).first (B := B + 1) (by omega)).1
    have h0k := ((h1.ok.nd 0 (by omega)).first (B := B + 1) (by omega)).1
    have hN := h.n0
    have := h2 0 ((runG n f (g.tick n k)).nd k).first (by omega) (by omega) hmk (by omega) (h0k.yes _ (by omega))
    rw [hfk.no] at this
    cases this
  · exact Nat.le_trans (h.lo k hk hk1 (by omega)) (hmo k hk)
theorem OT.next {N m : Nat} (h : OT n B N m n g) : OT n B N (m + 1) 1 g :=
  ⟨h.ai, h.dj, h.n0, fun k hk hk1 => h.lo k hk hk1 hk, fun k _ h1 h2 => by omega⟩
theorem OT.start (h : AI n B g) (hd : DJ n (fun _ => True) g) : OT n B (g.nd 0).first 0 1 g :=
  ⟨h, hd, Nat.le_refl _, fun k _ _ => by omega, fun k _ h1 h2 => by omega⟩
theorem OT.mono {N m c : Nat} (h : OT n B N m c g) (hC : B ≤ C) : OT n C N m c g := ⟨⟨h.ai.ok.mono hC, h.ai.bg, h.ai.ch, h.ai.pe⟩, h.dj, h.n0, h.hi, h.lo⟩
/-- The others know the list. -/
theorem OT.prefix_ {N m c : Nat} (h : OT n B N m c g) (h0 : 0 < n) (hB : B ≤ 1000000000) {l : List ByteArray} (hN : N ≤ 5 * m) (hl : l.length = N) (hlg : ∀ t, t < N → (g.nd 0).lg t = l[t]?) {k : Nat} (hk : k < n) (hk1 : 1 ≤ k) : l <+: (g.nd k).log := by
  have h1 := h.hi k hk hk1
  have hfk := ((h.ai.ok.nd k hk).first (B := B) hB).1
  have hle : N ≤ (g.nd k).first := by omega
  have : l = (List.range N).map fun t => (l[t]?).getD E0 := by
    refine List.ext_getElem? fun t => ?_
    rw [List.getElem?_map]
    by_cases ht : t < N
    · rw [List.getElem?_range ht, Option.map_some, List.getElem?_eq_getElem (by omega)]; rfl
    · rw [List.getElem?_eq_none (by omega), List.getElem?_eq_none (by rw [List.length_range]; omega)]; rfl
  rw [this]
  refine log_pre' hle fun t ht => ?_
  obtain ⟨v, hv⟩ := isSome_get (hfk.yes t (by omega))
  have h2 := hlg t ht
  rw [List.getElem?_eq_getElem (by omega)] at h2
  have := h.dj.same hv h2
  rw [hv, this, List.getElem?_eq_getElem (by omega)]
end
end Go.Proofs.Ytghhcjpilcoblaa
