/- The parts RpQ, RpP, RpO, joined. -/
import Derived.Test.YtecniafnihpjmaaGreatDoorMg5
import Derived.Test.YtecniafnihpjmaaGreatDoorMg15
import Derived.Test.YtecniafnihpjmaaGreatDoorMg13
/- Chapter 24 (replica): a line of replicas as numbers (how long each list is, how much of it is clean, what is under way): turn by turn all becomes clean. No program here. -/
namespace Go.Proofs.YtecniafnihpjmaaGreatDoor
open Go.RowKit Go.Lap C
set_option linter.unusedVariables false
/-- A note: 0 a batch for d, 1 what is clean for d, 2 what is wanted of d; its number. -/
structure LN where
  k : Nat
  d : Nat
  t : Nat
structure LS where
  la : Nat → Nat
  cl : Nat → Nat
def someF (d la : Nat) : Nat → Nat → List LN
  | _, 0 => []
  | t, m + 1 => if t ≤ la then ⟨0, d, t⟩ :: someF d la (t + 1) m else []
def LS.tell (s : LS) (d : Nat) : List LN := if 0 < d then [⟨1, d - 1, s.cl d⟩] else []
def LS.ask (s : LS) (d : Nat) : List LN := if 0 < d then [⟨2, d - 1, s.la d + 1⟩] else []
def LS.setCl (s : LS) (d t : Nat) : LS := { s with cl := setD s.cl d t }
def LS.setLa (s : LS) (d t : Nat) : LS := { s with la := setD s.la d t }
def LS.add (r : Nat) (s : LS) (d : Nat) : LS × List LN :=
  if d + 1 < r then (s.setLa d (s.la d + 1), [⟨0, d + 1, s.la d + 1⟩])
  else ((s.setLa d (s.la d + 1)).setCl d (s.la d + 1), ((s.setLa d (s.la d + 1)).setCl d (s.la d + 1)).tell d)
/-- A note arrives. -/
def LS.del (r : Nat) (s : LS) (a : LN) : LS × List LN :=
  if a.k = 0 then
    if a.t = s.la a.d + 1 then s.add r a.d
    else if s.la a.d < a.t then (s, s.ask a.d)
    else if a.t ≤ s.cl a.d then (s, s.tell a.d) else (s, [])
  else if a.k = 1 then
    if s.cl a.d < min a.t (s.la a.d) then (s.setCl a.d (min a.t (s.la a.d)), (s.setCl a.d (min a.t (s.la a.d))).tell a.d) else (s, [])
  else (s, if a.d + 1 < r then someF (a.d + 1) (s.la a.d) a.t 5 else [])
structure LNOk (N r : Nat) (s : LS) (a : LN) : Prop where
  d : a.d < r
  f : a.k = 0 → 1 ≤ a.d ∧ 1 ≤ a.t ∧ a.t ≤ N
  c : a.k = 1 → a.d + 1 < r ∧ a.t ≤ s.cl (a.d + 1)
  w : a.k ≠ 0 → a.k ≠ 1 → a.d + 1 < r ∧ 1 ≤ a.t ∧ a.t ≤ s.la (a.d + 1) + 1
structure LOk (N r : Nat) (s : LS) : Prop where
  r0 : 0 < r
  hd : s.la 0 = N
  la : ∀ k, k < r → s.la k ≤ N
  cl : ∀ k, k < r → s.cl k ≤ s.la k
  nx : ∀ k, k + 1 < r → s.cl k ≤ s.la (k + 1)
  tl : s.cl (r - 1) = s.la (r - 1)
def LLe (s s' : LS) : Prop := ∀ k, s.la k ≤ s'.la k ∧ s.cl k ≤ s'.cl k
def sumN (f : Nat → Nat) : Nat → Nat
  | 0 => 0
  | k + 1 => sumN f k + f k
theorem sumN_le {f g : Nat → Nat} : ∀ r, (∀ k, k < r → f k ≤ g k) → sumN f r ≤ sumN g r
  | 0, _ => Nat.le_refl _
  | r + 1, h => by
    have := sumN_le r (fun k hk => h k (by omega))
    have := h r (Nat.lt_succ_self r)
    unfold sumN
    omega
theorem sumN_lt {f g : Nat → Nat} {c d : Nat} : ∀ r, d < r → (∀ k, k < r → f k ≤ g k) → f d + c ≤ g d → sumN f r + c ≤ sumN g r
  | 0, hd, _, _ => by omega
  | r + 1, hd, h, hc => by
    by_cases he : d = r
    · subst he
      have := sumN_le d (fun k hk => h k (by omega))
      unfold sumN
      omega
    · have := sumN_lt r (by omega) (fun k hk => h k (by omega)) hc
      have := h r (Nat.lt_succ_self r)
      unfold sumN
      omega
theorem sumN_bound {f : Nat → Nat} {c : Nat} : ∀ r, (∀ k, k < r → f k ≤ c) → sumN f r ≤ r * c
  | 0, _ => by simp [sumN]
  | r + 1, h => by
    have := sumN_bound r (fun k hk => h k (by omega))
    have := h r (Nat.lt_succ_self r)
    unfold sumN
    rw [Nat.add_mul]
    omega
theorem sumN_zero {f : Nat → Nat} : ∀ r, sumN f r = 0 → ∀ k, k < r → f k = 0
  | 0, _, k, hk => by omega
  | r + 1, h, k, hk => by
    unfold sumN at h
    by_cases he : k = r
    · subst he; omega
    · exact sumN_zero r (by omega) k (by omega)
section
variable {N r : Nat} {s s' : LS} {a : LN} {q : List LN}
theorem LLe.refl (s : LS) : LLe s s := fun _ => ⟨Nat.le_refl _, Nat.le_refl _⟩
theorem LLe.trans {s'' : LS} (h : LLe s s') (h' : LLe s' s'') : LLe s s'' := fun k => ⟨Nat.le_trans (h k).1 (h' k).1, Nat.le_trans (h k).2 (h' k).2⟩
theorem LNOk.mono (h : LNOk N r s a) (hl : LLe s s') : LNOk N r s' a :=
  ⟨h.d, h.f, fun e => ⟨(h.c e).1, Nat.le_trans (h.c e).2 (hl _).2⟩, fun e1 e2 => ⟨(h.w e1 e2).1, (h.w e1 e2).2.1, by have := (h.w e1 e2).2.2; have := (hl (a.d + 1)).1; omega⟩⟩
theorem LNOk.tell {d : Nat} (hd : d < r) : ∀ b ∈ s.tell d, LNOk N r s b := by
  intro b hb
  unfold LS.tell at hb
  split at hb
  · obtain rfl := List.mem_singleton.1 hb
    refine ⟨by dsimp only; omega, fun h => by simp at h, fun _ => ⟨by dsimp only; omega, ?_⟩, fun _ h => absurd rfl h⟩
    dsimp only
    rw [show d - 1 + 1 = d by omega]
    exact Nat.le_refl _
  · cases hb
theorem LNOk.ask {d : Nat} (hd : d < r) : ∀ b ∈ s.ask d, LNOk N r s b := by
  intro b hb
  unfold LS.ask at hb
  split at hb
  · obtain rfl := List.mem_singleton.1 hb
    refine ⟨by dsimp only; omega, fun h => by simp at h, fun h => by simp at h, fun _ _ => ⟨by dsimp only; omega, by dsimp only; omega, ?_⟩⟩
    dsimp only
    rw [show d - 1 + 1 = d by omega]
    exact Nat.le_refl _
  · cases hb
theorem LNOk.some_ {d la : Nat} (hd : d < r) (h1 : 1 ≤ d) (hla : la ≤ N) : ∀ (m t : Nat), 1 ≤ t → ∀ b ∈ someF d la t m, LNOk N r s b
  | 0, t, _, b, hb => by cases hb
  | m + 1, t, ht, b, hb => by
    unfold someF at hb
    split at hb
    · rcases List.mem_cons.1 hb with rfl | hb
      · exact ⟨hd, fun _ => ⟨h1, ht, by dsimp only; omega⟩, fun h => by simp at h, fun h => absurd rfl h⟩
      · exact LNOk.some_ hd h1 hla m (t + 1) (by omega) b hb
    · cases hb
/-- What a note leaves is as it should be. -/
theorem LOk.setCl (h : LOk N r s) {d t : Nat} (hd : d < r) (h1 : s.cl d ≤ t) (h2 : t ≤ s.la d) (h3 : d + 1 < r → t ≤ s.la (d + 1)) : LOk N r (s.setCl d t) ∧ LLe s (s.setCl d t) := by
  refine ⟨⟨h.r0, h.hd, h.la, fun k hk => ?_, fun k hk => ?_, ?_⟩, fun k => ⟨Nat.le_refl _, ?_⟩⟩
  · unfold LS.setCl setD; (try dsimp only)
    split
    · rename_i e; subst e; exact h2
    · exact h.cl k hk
  · unfold LS.setCl setD; (try dsimp only)
    split
    · rename_i e; subst e; exact h3 hk
    · exact h.nx k hk
  · unfold LS.setCl setD; (try dsimp only)
    split
    · rename_i e
      have h4 := h.tl
      have h5 := h.cl d hd
      rw [e] at h4 ⊢
      omega
    · exact h.tl
  · unfold LS.setCl setD; (try dsimp only)
    split
    · rename_i e; subst e; exact h1
    · exact Nat.le_refl _
theorem LOk.add (h : LOk N r s) {d : Nat} (hd : d < r) (h1 : 1 ≤ d) (hN : s.la d + 1 ≤ N) : LOk N r (s.add r d).1 ∧ LLe s (s.add r d).1 ∧ ∀ b ∈ (s.add r d).2, LNOk N r (s.add r d).1 b := by
  have hle : LLe s (s.setLa d (s.la d + 1)) := fun k => ⟨by unfold LS.setLa setD; dsimp only; split; (rename_i e; subst e; omega); exact Nat.le_refl _, Nat.le_refl _⟩
  have hcl := fun k hk => Nat.le_trans (h.cl k hk) (hle k).1
  have hnx := fun k hk => Nat.le_trans (h.nx k hk) (hle (k + 1)).1
  have hla : ∀ k, k < r → (s.setLa d (s.la d + 1)).la k ≤ N := fun k hk => by
    unfold LS.setLa setD; dsimp only; split; (rename_i e; subst e; exact hN); exact h.la k hk
  have hhd : (s.setLa d (s.la d + 1)).la 0 = N := by unfold LS.setLa setD; dsimp only; rw [if_neg (by omega)]; exact h.hd
  have hdd : (s.setLa d (s.la d + 1)).la d = s.la d + 1 := by unfold LS.setLa setD; dsimp only; rw [if_pos rfl]
  unfold LS.add
  by_cases hr : d + 1 < r
  · rw [if_pos hr]
    refine ⟨⟨h.r0, hhd, hla, hcl, hnx, ?_⟩, hle, fun b hb => ?_⟩
    · have : (s.setLa d (s.la d + 1)).la (r - 1) = s.la (r - 1) := by unfold LS.setLa setD; dsimp only; rw [if_neg (by omega)]
      dsimp only
      rw [this]; exact h.tl
    · obtain rfl := List.mem_singleton.1 hb
      exact ⟨hr, fun _ => ⟨by dsimp only; omega, by dsimp only; omega, hN⟩, fun h => by simp at h, fun h => absurd rfl h⟩
  · rw [if_neg hr]
    dsimp only
    have hcc : ∀ k, ((s.setLa d (s.la d + 1)).setCl d (s.la d + 1)).cl k = if k = d then s.la d + 1 else s.cl k := fun k => rfl
    have hlc : ∀ k, ((s.setLa d (s.la d + 1)).setCl d (s.la d + 1)).la k = (s.setLa d (s.la d + 1)).la k := fun k => rfl
    have hcd := h.cl d hd
    refine ⟨⟨h.r0, hhd, hla, fun k hk => ?_, fun k hk => ?_, ?_⟩, fun k => ⟨(hle k).1, ?_⟩, LNOk.tell hd⟩
    · rw [hcc, hlc]; split
      · rename_i e; subst e; rw [hdd]; exact Nat.le_refl _
      · exact hcl k hk
    · rw [hcc, hlc]; split
      · rename_i e; omega
      · exact hnx k hk
    · have he : r - 1 = d := by omega
      rw [hcc, hlc, he, if_pos rfl, hdd]
    · rw [hcc]; split
      · rename_i e; subst e; omega
      · exact Nat.le_refl _
theorem LOk.del (h : LOk N r s) (ha : LNOk N r s a) : LOk N r (s.del r a).1 ∧ LLe s (s.del r a).1 ∧ ∀ b ∈ (s.del r a).2, LNOk N r (s.del r a).1 b := by
  unfold LS.del
  by_cases h0 : a.k = 0
  · rw [if_pos h0]
    by_cases h1 : a.t = s.la a.d + 1
    · rw [if_pos h1]
      exact h.add ha.d (ha.f h0).1 (by have := (ha.f h0).2.2; omega)
    · rw [if_neg h1]
      split
      · exact ⟨h, LLe.refl _, LNOk.ask ha.d⟩
      · split
        · exact ⟨h, LLe.refl _, LNOk.tell ha.d⟩
        · exact ⟨h, LLe.refl _, fun b hb => by cases hb⟩
  · rw [if_neg h0]
    by_cases h1 : a.k = 1
    · rw [if_pos h1]
      split
      · rename_i h2
        have h3 := (ha.c h1).2
        have h4 := h.cl (a.d + 1) (ha.c h1).1
        obtain ⟨h5, h6⟩ := h.setCl (d := a.d) (t := min a.t (s.la a.d)) ha.d (by omega) (by omega) (fun _ => by omega)
        exact ⟨h5, h6, LNOk.tell ha.d⟩
      · exact ⟨h, LLe.refl _, fun b hb => by cases hb⟩
    · rw [if_neg h1]
      refine ⟨h, LLe.refl _, ?_⟩
      dsimp only
      rw [if_pos (ha.w h0 h1).1]
      exact LNOk.some_ (ha.w h0 h1).1 (by omega) (h.la _ ha.d) 5 _ (ha.w h0 h1).2.1
end
/-- The weight of what is under way: a batch that will be in its place, or not. -/
def wq (vl : Nat → Nat) : List LN → Nat
  | [] => 0
  | a :: q => if a.k = 0 then (if a.t ≤ vl a.d + 1 then 2 + wq (setD vl a.d (max (vl a.d) a.t)) q else 12 + wq vl q) else if a.k = 1 then 1 + wq vl q else 11 + wq vl q
def vlq (vl : Nat → Nat) : List LN → (Nat → Nat)
  | [] => vl
  | a :: q => if a.k = 0 ∧ a.t ≤ vl a.d + 1 then vlq (setD vl a.d (max (vl a.d) a.t)) q else vlq vl q
theorem wq_cons (vl : Nat → Nat) (a : LN) (q : List LN) : wq vl (a :: q) = if a.k = 0 then (if a.t ≤ vl a.d + 1 then 2 + wq (setD vl a.d (max (vl a.d) a.t)) q else 12 + wq vl q) else if a.k = 1 then 1 + wq vl q else 11 + wq vl q := rfl
theorem vlq_cons (vl : Nat → Nat) (a : LN) (q : List LN) : vlq vl (a :: q) = if a.k = 0 ∧ a.t ≤ vl a.d + 1 then vlq (setD vl a.d (max (vl a.d) a.t)) q else vlq vl q := rfl
theorem wq_app : ∀ (q : List LN) (vl : Nat → Nat) (p : List LN), wq vl (q ++ p) = wq vl q + wq (vlq vl q) p
  | [], vl, p => by simp [wq, vlq]
  | a :: q, vl, p => by
    rw [List.cons_append, wq_cons, wq_cons, vlq_cons]
    by_cases h0 : a.k = 0
    · by_cases h1 : a.t ≤ vl a.d + 1
      · simp only [if_pos h0, if_pos h1, if_pos (And.intro h0 h1), wq_app q]; omega
      · have h2 : ¬ (a.k = 0 ∧ a.t ≤ vl a.d + 1) := fun h => h1 h.2
        simp only [if_pos h0, if_neg h1, if_neg h2, wq_app q]; omega
    · have h2 : ¬ (a.k = 0 ∧ a.t ≤ vl a.d + 1) := fun h => h0 h.1
      by_cases h3 : a.k = 1
      · simp only [if_neg h0, if_pos h3, if_neg h2, wq_app q]; omega
      · simp only [if_neg h0, if_neg h3, if_neg h2, wq_app q]; omega
theorem vlq_ge : ∀ (q : List LN) (vl : Nat → Nat) (k : Nat), vl k ≤ vlq vl q k
  | [], vl, k => Nat.le_refl _
  | a :: q, vl, k => by
    unfold vlq
    split
    · refine Nat.le_trans ?_ (vlq_ge q _ k)
      unfold setD
      split
      · rename_i e; subst e; omega
      · exact Nat.le_refl _
    · exact vlq_ge q vl k
theorem wq_take : ∀ (q : List LN) (vl : Nat → Nat) (m : Nat), wq vl (q.take m) ≤ wq vl q
  | [], vl, m => by simp
  | a :: q, vl, 0 => by simp [wq]
  | a :: q, vl, m + 1 => by
    rw [List.take_succ_cons]
    unfold wq
    split
    · split
      · have := wq_take q (setD vl a.d (max (vl a.d) a.t)) m; omega
      · have := wq_take q vl m; omega
    · have := wq_take q vl m
      split <;> omega
theorem wq_some {d la : Nat} : ∀ (m t : Nat) (vl : Nat → Nat), t ≤ vl d + 1 → wq vl (someF d la t m) ≤ 2 * m
  | 0, t, vl, _ => by simp [someF, wq]
  | m + 1, t, vl, h => by
    unfold someF
    split
    · unfold wq
      dsimp only
      rw [if_pos rfl, if_pos h]
      have := wq_some (la := la) m (t + 1) (setD vl d (max (vl d) t)) (by rw [setD_same]; omega)
      omega
    · simp [wq]
theorem vlq_le {vl : Nat → Nat} {q : List LN} {d : Nat} {t : Nat} (h : t ≤ vl d + 1) : t ≤ vlq vl q d + 1 := Nat.le_trans h (by have := vlq_ge q vl d; omega)
def Psi (N r : Nat) (s : LS) (q : List LN) : Nat := wq s.la q + 11 * sumN (fun k => N - s.la k) r + sumN (fun k => N - s.cl k) r
section
variable {N r : Nat} {s s' : LS} {a : LN} {q : List LN}
theorem wq_tell (vl : Nat → Nat) (d : Nat) : wq vl (s.tell d) ≤ 1 := by
  unfold LS.tell
  split
  · simp [wq]
  · simp [wq]
theorem wq_ask (vl : Nat → Nat) (d : Nat) : wq vl (s.ask d) ≤ 11 := by
  unfold LS.ask
  split
  · simp [wq]
  · simp [wq]
theorem Psi_le (hl : LLe s s') : 11 * sumN (fun k => N - s'.la k) r + sumN (fun k => N - s'.cl k) r ≤ 11 * sumN (fun k => N - s.la k) r + sumN (fun k => N - s.cl k) r := by
  have h1 := sumN_le (f := fun k => N - s'.la k) (g := fun k => N - s.la k) r (fun k _ => by have := (hl k).1; (try dsimp only); omega)
  have h2 := sumN_le (f := fun k => N - s'.cl k) (g := fun k => N - s.cl k) r (fun k _ => by have := (hl k).2; (try dsimp only); omega)
  omega
/-- A note that arrives lowers it. -/
theorem Psi_del (h : LOk N r s) (ha : LNOk N r s a) : Psi N r (s.del r a).1 (q ++ (s.del r a).2) + 1 ≤ Psi N r s (a :: q) := by
  have hmono := Psi_le (N := N) (r := r) (h.del ha).2.1
  unfold Psi
  rw [wq_app]
  revert hmono
  unfold LS.del
  by_cases h0 : a.k = 0
  · rw [if_pos h0]
    rw [wq_cons, if_pos h0]
    by_cases h1 : a.t = s.la a.d + 1
    · rw [if_pos h1, if_pos (show a.t ≤ s.la a.d + 1 by omega)]
      have hN : s.la a.d + 1 ≤ N := by have := (ha.f h0).2.2; omega
      have hmx : max (s.la a.d) a.t = s.la a.d + 1 := by omega
      rw [hmx]
      have hsum := sumN_lt (f := fun k => N - setD s.la a.d (s.la a.d + 1) k) (g := fun k => N - s.la k) (c := 1) r ha.d (fun k _ => by unfold setD; (try dsimp only); split; (rename_i e; subst e; omega); omega) (by (try dsimp only); rw [setD_same]; omega)
      unfold LS.add
      by_cases hr : a.d + 1 < r
      · rw [if_pos hr]
        intro _
        have e1 : (s.setLa a.d (s.la a.d + 1)).la = setD s.la a.d (s.la a.d + 1) := rfl
        have e2 : (s.setLa a.d (s.la a.d + 1)).cl = s.cl := rfl
        dsimp only
        rw [e1, e2]
        have hw : ∀ vl : Nat → Nat, wq vl [(⟨0, a.d + 1, s.la a.d + 1⟩ : LN)] ≤ 12 := fun vl => by
          have e : ∀ vl : Nat → Nat, wq vl [] = 0 := fun _ => rfl
          rw [wq_cons]
          simp only [e]
          split
          · split <;> omega
          · rename_i h; exact absurd trivial h
        have := hw (vlq (setD s.la a.d (s.la a.d + 1)) q)
        omega
      · rw [if_neg hr]
        intro _
        have e1 : ((s.setLa a.d (s.la a.d + 1)).setCl a.d (s.la a.d + 1)).la = setD s.la a.d (s.la a.d + 1) := rfl
        have e2 : ((s.setLa a.d (s.la a.d + 1)).setCl a.d (s.la a.d + 1)).cl = setD s.cl a.d (s.la a.d + 1) := rfl
        have hcd := h.cl _ ha.d
        have hs2 := sumN_le (f := fun k => N - setD s.cl a.d (s.la a.d + 1) k) (g := fun k => N - s.cl k) r (fun k _ => by unfold setD; (try dsimp only); split; (rename_i e; subst e; omega); omega)
        have := wq_tell (s := (s.setLa a.d (s.la a.d + 1)).setCl a.d (s.la a.d + 1)) (vlq (setD s.la a.d (s.la a.d + 1)) q) a.d
        dsimp only
        rw [e1, e2]
        omega
    · rw [if_neg h1]
      by_cases h2 : s.la a.d < a.t
      · rw [if_pos h2, if_neg (show ¬ a.t ≤ s.la a.d + 1 by omega)]
        intro _
        have := wq_ask (s := s) (vlq s.la q) a.d
        dsimp only
        omega
      · rw [if_neg h2, if_pos (show a.t ≤ s.la a.d + 1 by omega)]
        have hmx : max (s.la a.d) a.t = s.la a.d := by omega
        rw [hmx, setD_self]
        by_cases h3 : a.t ≤ s.cl a.d
        · rw [if_pos h3]
          intro _
          have := wq_tell (s := s) (vlq s.la q) a.d
          dsimp only
          omega
        · rw [if_neg h3]
          intro _
          simp only [wq]
          omega
  · rw [if_neg h0]
    rw [wq_cons, if_neg h0]
    by_cases h1 : a.k = 1
    · rw [if_pos h1, if_pos h1]
      by_cases h2 : s.cl a.d < min a.t (s.la a.d)
      · rw [if_pos h2]
        intro _
        have e1 : (s.setCl a.d (min a.t (s.la a.d))).la = s.la := rfl
        have e2 : (s.setCl a.d (min a.t (s.la a.d))).cl = setD s.cl a.d (min a.t (s.la a.d)) := rfl
        have hN := h.la _ ha.d
        have hs2 := sumN_lt (f := fun k => N - setD s.cl a.d (min a.t (s.la a.d)) k) (g := fun k => N - s.cl k) (c := 1) r ha.d (fun k _ => by unfold setD; (try dsimp only); split; (rename_i e; subst e; omega); omega) (by (try dsimp only); rw [setD_same]; omega)
        have := wq_tell (s := s.setCl a.d (min a.t (s.la a.d))) (vlq s.la q) a.d
        dsimp only
        rw [e1, e2]
        omega
      · rw [if_neg h2]
        intro _
        simp only [wq]
        omega
    · rw [if_neg h1, if_neg h1]
      intro _
      dsimp only
      rw [if_pos (ha.w h0 h1).1]
      have := wq_some (d := a.d + 1) (la := s.la a.d) 5 a.t (vlq s.la q) (vlq_le (ha.w h0 h1).2.2)
      omega
end
/-- The notes arrive in their order; beyond 300 they are lost. -/
def LS.step (r : Nat) : LS × List LN → LS × List LN
  | (s, []) => (s, [])
  | (s, a :: q) => ((s.del r a).1, (q ++ (s.del r a).2).take 300)
def LS.run (r : Nat) : Nat → LS × List LN → LS × List LN
  | 0, x => x
  | m + 1, x => LS.run r m (LS.step r x)
structure LInv (N r : Nat) (x : LS × List LN) : Prop where
  le : x.2.length ≤ 300
  ok : LOk N r x.1
  q : ∀ a ∈ x.2, LNOk N r x.1 a
def LPsi (N r : Nat) (x : LS × List LN) : Nat := Psi N r x.1 x.2
section
variable {N r : Nat} {x : LS × List LN}
theorem LInv.step (h : LInv N r x) : LInv N r (LS.step r x) ∧ LLe x.1 (LS.step r x).1 ∧ LPsi N r (LS.step r x) ≤ LPsi N r x ∧ (x.2 ≠ [] → LPsi N r (LS.step r x) + 1 ≤ LPsi N r x) := by
  obtain ⟨s, q⟩ := x
  cases q with
  | nil => exact ⟨h, LLe.refl _, Nat.le_refl _, fun h => absurd rfl h⟩
  | cons a q =>
    obtain ⟨h1, h2, h3⟩ := h.ok.del (h.q a (List.mem_cons_self ..))
    have hp : LPsi N r (LS.step r (s, a :: q)) + 1 ≤ LPsi N r (s, a :: q) := by
      refine Nat.le_trans ?_ (Psi_del (q := q) h.ok (h.q a (List.mem_cons_self ..)))
      unfold LPsi LS.step Psi
      dsimp only
      have := wq_take (q ++ (s.del r a).2) (s.del r a).1.la 300
      omega
    refine ⟨⟨List.length_take_le _ _, h1, fun b hb => ?_⟩, h2, by omega, fun _ => hp⟩
    rcases List.mem_append.1 (List.mem_of_mem_take hb) with hb | hb
    · exact (h.q b (List.mem_cons_of_mem _ hb)).mono h2
    · exact h3 b hb
theorem LInv.run : ∀ (m : Nat) {x : LS × List LN}, LInv N r x → LInv N r (LS.run r m x) ∧ LLe x.1 (LS.run r m x).1 ∧ LPsi N r (LS.run r m x) ≤ LPsi N r x
  | 0, x, h => ⟨h, LLe.refl _, Nat.le_refl _⟩
  | m + 1, x, h => by
    obtain ⟨h1, h2, h3, _⟩ := h.step
    obtain ⟨h4, h5, h6⟩ := LInv.run m h1
    exact ⟨h4, h2.trans h5, Nat.le_trans h6 h3⟩
theorem run_nil (r : Nat) (s : LS) : ∀ m, LS.run r m (s, []) = (s, [])
  | 0 => rfl
  | m + 1 => run_nil r s m
theorem LInv.run_all : ∀ (m : Nat) {x : LS × List LN}, LInv N r x → (LS.run r m x).2 = [] ∨ LPsi N r (LS.run r m x) + m ≤ LPsi N r x
  | 0, x, h => .inr (Nat.le_refl _)
  | m + 1, x, h => by
    obtain ⟨h1, _, _, h4⟩ := h.step
    rcases LInv.run_all m h1 with h5 | h5
    · exact .inl h5
    · by_cases hx : x.2 = []
      · left
        obtain ⟨s, q⟩ := x
        dsimp only at hx
        subst hx
        rw [run_nil]
      · have := h4 hx
        refine .inr ?_
        show LPsi N r (LS.run r m (LS.step r x)) + (m + 1) ≤ _
        omega
theorem LInv.run_len : ∀ (m : Nat) {x : LS × List LN}, LInv N r x → (LS.run r m x).2 = [] → LPsi N r (LS.run r m x) + x.2.length ≤ LPsi N r x
  | 0, x, h, he => by
    have he : x.2 = [] := he
    rw [he]
    exact Nat.le_refl _
  | m + 1, x, h, he => by
    obtain ⟨h1, _, _, h4⟩ := h.step
    have h5 := LInv.run_len m h1 he
    obtain ⟨s, q⟩ := x
    cases q with
    | nil => exact (h.run (m + 1)).2.2
    | cons a q =>
      have h6 := h4 (by simp)
      show LPsi N r (LS.run r m (LS.step r (s, a :: q))) + _ ≤ _
      have hlen : (LS.step r (s, a :: q)).2.length ≥ min 300 q.length := by
        unfold LS.step
        dsimp only
        rw [List.length_take, List.length_append]
        omega
      have hq : (a :: q).length = q.length + 1 := rfl
      have h300 := h.le
      dsimp only [hq] at h300 ⊢
      omega
theorem LInv.run_pred {P : LS → List LN → Prop} (hP : ∀ s a q, LInv N r (s, a :: q) → P s (a :: q) → P (s.del r a).1 (q ++ (s.del r a).2)) :
    ∀ (m : Nat) (x : LS × List LN), LInv N r x → P x.1 x.2 → (LS.run r m x).2 = [] → P (LS.run r m x).1 (LS.run r m x).2 ∨ LPsi N r (LS.run r m x) + 300 ≤ LPsi N r x
  | 0, x, h, hp, he => .inl hp
  | m + 1, (s, []), h, hp, he => .inl (by rw [run_nil]; exact hp)
  | m + 1, (s, a :: q), h, hp, he => by
    obtain ⟨h1, _, h3, h4⟩ := h.step
    have h5 := h4 (by simp)
    by_cases hl : (q ++ (s.del r a).2).length ≤ 300
    · have e : LS.step r (s, a :: q) = ((s.del r a).1, q ++ (s.del r a).2) := by unfold LS.step; dsimp only; rw [List.take_of_length_le hl]
      have hp' := hP s a q h hp
      rcases LInv.run_pred hP m _ h1 (by rw [e]; exact hp') he with h6 | h6
      · exact .inl h6
      · right
        show LPsi N r (LS.run r m (LS.step r (s, a :: q))) + 300 ≤ _
        omega
    · right
      have h6 := LInv.run_len m h1 he
      have h7 : (LS.step r (s, a :: q)).2.length = 300 := by unfold LS.step; dsimp only; rw [List.length_take]; omega
      show LPsi N r (LS.run r m (LS.step r (s, a :: q))) + 300 ≤ _
      omega
end
def Mu (N r : Nat) (s : LS) : Nat := sumN (fun k => (N - s.la k + 4) / 5 + if s.cl k < N then 1 else 0) r
def MM (N r : Nat) (x : LS × List LN) : Nat := 90 * Mu N r x.1 + LPsi N r x + if x.2 = [] then 0 else 200
section
variable {N r : Nat} {s s' : LS} {q T : List LN}
theorem mu_at (N : Nat) (hl : LLe s s') (k : Nat) : (N - s'.la k + 4) / 5 + (if s'.cl k < N then 1 else 0) ≤ (N - s.la k + 4) / 5 + if s.cl k < N then 1 else 0 := by
  have h1 := (hl k).1
  have h2 := (hl k).2
  split <;> split <;> omega
theorem Mu_le (hl : LLe s s') : Mu N r s' ≤ Mu N r s := sumN_le r (fun k _ => mu_at N hl k)
theorem Mu_zero (h : Mu N r s = 0) : ∀ k, k < r → N ≤ s.la k ∧ N ≤ s.cl k := by
  intro k hk
  have := sumN_zero r h k hk
  split at this <;> omega
/-- k asks, and what it asks for comes. -/
def PA (N k t0 : Nat) (s : LS) (q : List LN) : Prop := s.la (k - 1) = N ∧ t0 ≤ s.la k + 1 ∧ ((⟨2, k - 1, t0⟩ : LN) ∈ q ∨ ∃ u m, (someF k N u m).Sublist q ∧ u ≤ s.la k + 1 ∧ u + m = t0 + 5)
theorem PA_del {k t0 : Nat} (hk : 0 < k) (hkr : k < r) (s : LS) (a : LN) (q : List LN) (hi : LInv N r (s, a :: q)) (h : PA N k t0 s (a :: q)) : PA N k t0 (s.del r a).1 (q ++ (s.del r a).2) := by
  obtain ⟨h1, h2, h3⟩ := (show LOk N r s from hi.ok).del (show LNOk N r s a from hi.q a (List.mem_cons_self ..))
  obtain ⟨p1, p2, p3⟩ := h
  have hk1 := h1.la (k - 1) (by omega)
  have hk2 := (h2 (k - 1)).1
  have hk3 := (h2 k).1
  refine ⟨by omega, by omega, ?_⟩
  rcases p3 with p3 | ⟨u, m, p3, p4, p5⟩
  · rcases List.mem_cons.1 p3 with e | p3
    · right
      subst e
      refine ⟨t0, 5, ?_, by omega, rfl⟩
      have hd : (s.del r ⟨2, k - 1, t0⟩).2 = someF k N t0 5 := by
        unfold LS.del
        rw [if_neg (show ¬ (2 : Nat) = 0 by decide), if_neg (show ¬ (2 : Nat) = 1 by decide)]
        dsimp only
        rw [show k - 1 + 1 = k by omega, if_pos hkr, p1]
      rw [hd]
      exact List.sublist_append_right _ _
    · exact .inl (List.mem_append_left _ p3)
  · right
    rcases List.sublist_cons_iff.1 p3 with p3 | ⟨rest, p6, p7⟩
    · exact ⟨u, m, p3.trans (List.sublist_append_left _ _), by omega, p5⟩
    · cases m with
      | zero => simp [someF] at p6
      | succ m =>
        unfold someF at p6
        split at p6
        · rename_i huN
          rw [List.cons.injEq] at p6
          obtain ⟨e, rfl⟩ := p6
          refine ⟨u + 1, m, p7.trans (List.sublist_append_left _ _), ?_, by omega⟩
          by_cases hu : u = s.la k + 1
          · have : (s.del r a).1.la k = s.la k + 1 := by
              subst e
              unfold LS.del
              rw [if_pos rfl]
              dsimp only
              rw [if_pos hu]
              unfold LS.add
              split
              · exact setD_same _ _ _
              · exact setD_same _ _ _
            omega
          · omega
        · cases p6
theorem PA_end {k t0 : Nat} (h : PA N k t0 s []) : min (t0 + 4) N ≤ s.la k := by
  obtain ⟨p1, p2, p3⟩ := h
  rcases p3 with p3 | ⟨u, m, p3, p4, p5⟩
  · cases p3
  · cases m with
    | zero => omega
    | succ m =>
      unfold someF at p3
      split at p3
      · have := p3.length_le; simp at this
      · omega
/-- What is clean to the next one is told. -/
def PB (N k : Nat) (s : LS) (q : List LN) : Prop := s.la k = N ∧ ((⟨1, k, N⟩ : LN) ∈ q ∨ s.cl k = N)
theorem PB_del {k : Nat} (hkr : k < r) (s : LS) (a : LN) (q : List LN) (hi : LInv N r (s, a :: q)) (h : PB N k s (a :: q)) : PB N k (s.del r a).1 (q ++ (s.del r a).2) := by
  obtain ⟨h1, h2, h3⟩ := (show LOk N r s from hi.ok).del (show LNOk N r s a from hi.q a (List.mem_cons_self ..))
  obtain ⟨p1, p3⟩ := h
  have hk1 := h1.la k hkr
  have hk2 := (h2 k).1
  have hk3 := (h2 k).2
  have hk4 := h1.cl k hkr
  have hk5 := hi.ok.cl k hkr
  refine ⟨by omega, ?_⟩
  rcases p3 with p3 | p3
  · rcases List.mem_cons.1 p3 with e | p3
    · right
      subst e
      have hd : N ≤ (s.del r ⟨1, k, N⟩).1.cl k := by
        unfold LS.del
        rw [if_neg (show ¬ (1 : Nat) = 0 by decide), if_pos rfl]
        dsimp only
        split
        · show N ≤ setD s.cl k _ k
          rw [setD_same]; omega
        · dsimp only at hk5 ⊢; omega
      omega
    · exact .inl (List.mem_append_left _ p3)
  · right; omega
theorem LOk.least (h : LOk N r s) : ∀ j, j ≤ r → (∀ i, i < j → s.la i = N) ∨ ∃ k, 0 < k ∧ k < r ∧ s.la (k - 1) = N ∧ s.la k < N
  | 0, _ => .inl (fun i hi => by omega)
  | j + 1, hj => by
    rcases LOk.least h j (by omega) with h1 | h1
    · have h2 := h.la j (by omega)
      rcases Nat.lt_or_ge (s.la j) N with hlt | hge
      · right
        have hj0 : j ≠ 0 := by rintro rfl; have := h.hd; omega
        exact ⟨j, by omega, by omega, h1 _ (by omega), hlt⟩
      · left
        intro i hi
        by_cases e : i = j
        · subst e; omega
        · exact h1 i (by omega)
    · exact .inr h1
theorem LOk.last (h : LOk N r s) (hla : ∀ i, i < r → s.la i = N) : ∀ j, j < r → (∀ i, r - 1 - j ≤ i → i < r → s.cl i = N) ∨ ∃ k, k + 1 < r ∧ s.cl k < N ∧ s.cl (k + 1) = N
  | 0, hj => .inl (fun i h1 h2 => by
    obtain rfl : i = r - 1 := by omega
    rw [h.tl]; exact hla _ h2)
  | j + 1, hj => by
    rcases LOk.last h hla j (by omega) with h1 | h1
    · have h2 := h.cl (r - 1 - (j + 1)) (by omega)
      rw [hla _ (by omega)] at h2
      rcases Nat.lt_or_ge (s.cl (r - 1 - (j + 1))) N with hlt | hge
      · exact .inr ⟨r - 1 - (j + 1), by omega, hlt, h1 _ (by omega) (by omega)⟩
      · left
        intro i hi hir
        by_cases e : i = r - 1 - (j + 1)
        · subst e; omega
        · exact h1 i (by omega) hir
    · exact .inr h1
theorem Mu_all (hla : ∀ i, i < r → s.la i = N) (hcl : ∀ i, i < r → s.cl i = N) : Mu N r s = 0 := by
  have := sumN_bound (f := fun k => (N - s.la k + 4) / 5 + if s.cl k < N then 1 else 0) (c := 0) r (fun k hk => by
    (try dsimp only)
    rw [hla k hk, hcl k hk, if_neg (Nat.lt_irrefl _)]
    omega)
  unfold Mu
  omega
theorem Psi_nil (N r : Nat) (s : LS) : LPsi N r (s, []) = 11 * sumN (fun k => N - s.la k) r + sumN (fun k => N - s.cl k) r := by
  unfold LPsi Psi
  simp [wq]
/-- A turn, and what is left behind it. -/
theorem turn (h : LInv N r (s, q)) (hT : ∀ a ∈ T, LNOk N r s a) (hw : wq (vlq s.la q) T ≤ 110) (hl : T.length ≤ 300)
    (hask : ∀ k, 0 < k → k < r → (⟨2, k - 1, s.la k + 1⟩ : LN) ∈ T) (htell : ∀ k, 0 < k → k < r → 0 < s.cl k → (⟨1, k - 1, s.cl k⟩ : LN) ∈ T) (hmu : Mu N r s ≠ 0) :
    MM N r (LS.run r 400 (s, (q ++ T).take 300)) + 90 ≤ MM N r (s, q) := by
  have hi : LInv N r (s, (q ++ T).take 300) := ⟨List.length_take_le _ _, h.ok, fun a ha => (List.mem_append.1 (List.mem_of_mem_take ha)).elim (h.q a) (hT a)⟩
  have hp1 : LPsi N r (s, (q ++ T).take 300) ≤ LPsi N r (s, q) + 110 := by
    unfold LPsi Psi
    dsimp only
    have h1 := wq_take (q ++ T) s.la 300
    have h2 := wq_app q s.la T
    omega
  obtain ⟨hr1, hr2, hr3⟩ := hi.run 400
  have hmu2 := Mu_le (N := N) (r := r) hr2
  have hall := hi.run_all 400
  have hpred := fun (P : LS → List LN → Prop) hP => LInv.run_pred (N := N) (r := r) (P := P) hP 400 (s, (q ++ T).take 300) hi
  have hnil : (LS.run r 400 (s, (q ++ T).take 300)).2 = [] → q = [] → LPsi N r (LS.run r 400 (s, (q ++ T).take 300)) ≤ LPsi N r (s, q) := by
    intro h1 h2
    have e : LS.run r 400 (s, (q ++ T).take 300) = ((LS.run r 400 (s, (q ++ T).take 300)).1, []) := by rw [← h1]
    rw [e, h2, Psi_nil, Psi_nil]
    exact Psi_le (by rw [h2] at hr2; exact hr2)
  have htk : q = [] → (q ++ T).take 300 = T := fun e => by rw [e, List.nil_append, List.take_of_length_le hl]
  generalize LS.run r 400 (s, (q ++ T).take 300) = x2 at *
  obtain ⟨s2, q2⟩ := x2
  unfold MM
  dsimp only at *
  by_cases h2 : q2 = []
  · rw [if_pos h2]
    by_cases hq : q = []
    · rw [if_pos hq]
      have hn := hnil h2 hq
      have hgood : ∀ k, k < r → (N - s2.la k + 4) / 5 + (if s2.cl k < N then 1 else 0) + 1 ≤ (N - s.la k + 4) / 5 + (if s.cl k < N then 1 else 0) → 90 * Mu N r s2 + LPsi N r (s2, q2) + 0 + 90 ≤ 90 * Mu N r s + LPsi N r (s, q) + 0 := by
        intro k hk hlt
        have := sumN_lt (f := fun k => (N - s2.la k + 4) / 5 + if s2.cl k < N then 1 else 0) (g := fun k => (N - s.la k + 4) / 5 + if s.cl k < N then 1 else 0) (c := 1) r hk (fun k _ => mu_at N hr2 k) hlt
        have e1 : Mu N r s2 + 1 ≤ Mu N r s := this
        omega
      have hok : LOk N r s := h.ok
      rcases hok.least r (Nat.le_refl r) with hla | ⟨k, hk0, hkr, hk1, hk2⟩
      · rcases hok.last hla (r - 1) (by have := hok.r0; omega) with hcl | ⟨k, hk1, hk2, hk3⟩
        · exact absurd (Mu_all hla (fun i hi => hcl i (by omega) hi)) hmu
        · have hm := htell (k + 1) (by omega) hk1 (by omega)
          rw [hk3, Nat.add_sub_cancel] at hm
          rcases hpred (PB N k) (PB_del (by omega)) ⟨hla k (by omega), .inl (by rw [htk hq]; exact hm)⟩ h2 with h3 | h3
          · rw [h2] at h3
            obtain ⟨p1, p2⟩ := h3
            have p3 := p2.resolve_left (fun h => by cases h)
            refine hgood k (by omega) ?_
            rw [p1, p3, hla k (by omega), if_neg (Nat.lt_irrefl N), if_pos hk2]
            omega
          · omega
      · have hm := hask k hk0 hkr
        rcases hpred (PA N k (s.la k + 1)) (PA_del hk0 hkr) ⟨hk1, Nat.le_refl _, .inl (by rw [htk hq]; exact hm)⟩ h2 with h3 | h3
        · rw [h2] at h3
          have p1 := PA_end h3
          refine hgood k hkr ?_
          have p2 := (hr2 k).2
          split <;> split <;> omega
        · omega
    · rw [if_neg hq]
      omega
  · rw [if_neg h2]
    have h3 := hall.resolve_left h2
    split <;> omega
theorem sumN_bound1 {f : Nat → Nat} {c0 c : Nat} : ∀ r, f 0 ≤ c0 → (∀ k, k < r + 1 → f k ≤ c) → sumN f (r + 1) ≤ c0 + r * c
  | 0, h0, _ => by simp [sumN]; exact h0
  | r + 1, h0, h => by
    have h1 := sumN_bound1 r h0 (fun k hk => h k (by omega))
    have h2 := h (r + 1) (Nat.lt_succ_self _)
    have e : sumN f (r + 1 + 1) = sumN f (r + 1) + f (r + 1) := rfl
    rw [e, Nat.add_mul]
    omega
theorem LOk.bound (h : LOk N r s) (hr : r ≤ 5) (hN : N ≤ 80) : 90 * Mu N r s + (11 * sumN (fun k => N - s.la k) r + sumN (fun k => N - s.cl k) r) ≤ 10130 := by
  obtain ⟨m, rfl⟩ : ∃ m, r = m + 1 := ⟨r - 1, by have := h.r0; omega⟩
  have h1 := sumN_bound1 (f := fun k => (N - s.la k + 4) / 5 + if s.cl k < N then 1 else 0) (c0 := 1) (c := 17) m (by (try dsimp only); rw [h.hd]; split <;> omega) (fun k _ => by (try dsimp only); split <;> omega)
  have h2 := sumN_bound1 (f := fun k => N - s.la k) (c0 := 0) (c := 80) m (by (try dsimp only); rw [h.hd]; omega) (fun k _ => by (try dsimp only); omega)
  have h3 := sumN_bound (f := fun k => N - s.cl k) (c := 80) (m + 1) (fun k _ => by (try dsimp only); omega)
  have e : Mu N (m + 1) s = sumN (fun k => (N - s.la k + 4) / 5 + if s.cl k < N then 1 else 0) (m + 1) := rfl
  rw [e]
  omega
/-- The first turn, whatever it starts with. -/
theorem turn_first (h : LInv N r (s, q)) (hr : r ≤ 5) (hN : N ≤ 80) (hw : wq s.la q ≤ 170) : MM N r (LS.run r 400 (s, q)) ≤ 10500 := by
  obtain ⟨hr1, hr2, hr3⟩ := h.run 400
  have hb := (show LOk N r s from h.ok).bound hr hN
  have hmu2 := Mu_le (N := N) (r := r) hr2
  have hp : LPsi N r (s, q) = wq s.la q + 11 * sumN (fun k => N - s.la k) r + sumN (fun k => N - s.cl k) r := rfl
  unfold MM
  dsimp only at hmu2
  split <;> omega
end
end Go.Proofs.YtecniafnihpjmaaGreatDoor

/- Chapter 24 (replica): the chain from where on all members know the newest configuration, as a line of numbers. No program here. -/
namespace Go.Proofs.YtecniafnihpjmaaGreatDoor
open Go.RowKit Go.Lap C
set_option linter.unusedVariables false
def mem (nw : Cfg) (p : Nat) : Int := (nw.ms[p]?).getD 0
def idn (nw : Cfg) (p : Nat) : Nat := (mem nw p).toNat
def absN (nw : Cfg) (nt : Nt) : LN := ⟨nt.k.toNat, (placeC nw.ms nt.ds).toNat, nt.t⟩
/-- A note between two that stand side by side; d is where it goes. -/
structure NGd (nw : Cfg) (nt : Nt) (d : Nat) : Prop where
  lt : d < nw.ms.length
  ds : nt.ds = mem nw d
  ep : nt.ep = nw.e
  k : 0 ≤ nt.k ∧ nt.k ≤ 2
  f : nt.k = 0 → 0 < d ∧ nt.fr = mem nw (d - 1) ∧ chk nt.b.l = 0
  g : nt.k ≠ 0 → d + 1 < nw.ms.length ∧ nt.fr = mem nw (d + 1)
/-- A configuration as it should be. -/
structure NwOk (n : Nat) (nw : Cfg) : Prop where
  nd : nw.ms.Nodup
  bd : ∀ m ∈ nw.ms, 0 ≤ m ∧ m < n
  r0 : 0 < nw.ms.length
  ck : chkC nw = true
section
variable {n d p e : Nat} {nw : Cfg} {s s' : LS} {y : Rpl} {al : List LN} {nt : Nt} {x : Chn}
theorem mem_at (hp : p < nw.ms.length) : nw.ms[p]? = some (mem nw p) := by unfold mem; rw [List.getElem?_eq_getElem hp]; rfl
theorem mem_in (hp : p < nw.ms.length) : mem nw p ∈ nw.ms := List.mem_of_getElem? (mem_at hp)
theorem idn_int (h : NwOk n nw) (hp : p < nw.ms.length) : ((idn nw p : Nat) : Int) = mem nw p := by
  have := (h.bd _ (mem_in hp)).1
  unfold idn
  omega
theorem idn_lt (h : NwOk n nw) (hp : p < nw.ms.length) : idn nw p < n := by
  have h1 := idn_int h hp
  have h2 := (h.bd _ (mem_in hp)).2
  omega
theorem mem_inj (h : NwOk n nw) (hp : p < nw.ms.length) (he : e < nw.ms.length) (hm : mem nw p = mem nw e) : p = e :=
  nodup_at h.nd (mem_at hp) ((mem_at he).trans (by rw [hm]))
theorem idn_inj (h : NwOk n nw) (hp : p < nw.ms.length) (he : e < nw.ms.length) (hm : idn nw p = idn nw e) : p = e :=
  mem_inj h hp he (by rw [← idn_int h hp, ← idn_int h he, hm])
theorem place_mem (h : NwOk n nw) (hp : p < nw.ms.length) : placeC nw.ms (mem nw p) = (p : Int) := by
  rcases place_cases nw.ms (mem nw p) with ⟨h1, _⟩ | ⟨k, h1, h2, _, h3⟩
  · exact absurd (mem_in hp) h1
  · rw [h3, nodup_at h.nd h2 (mem_at hp)]
theorem absN_at (h : NwOk n nw) (hn : NGd nw nt d) : absN nw nt = ⟨nt.k.toNat, d, nt.t⟩ := by
  unfold absN
  rw [hn.ds, place_mem h hn.lt]
  rfl
theorem next_mem (h : NwOk n nw) (hp : p + 1 < nw.ms.length) : nextC nw (mem nw p) = (mem nw (p + 1), true) := next_mk h.nd (mem_at (by omega)) (mem_at hp)
theorem next_last (h : NwOk n nw) (hp : p + 1 = nw.ms.length) : (nextC nw (mem nw p)).2 = false := by
  cases hb : (nextC nw (mem nw p)).2 with
  | false => rfl
  | true =>
    obtain ⟨k, h1, h2⟩ := next_some (pair_of hb)
    obtain rfl := nodup_at h.nd h1 (mem_at (by omega))
    have := (List.getElem?_eq_some_iff.1 h2).1
    omega
theorem bef_mem (h : NwOk n nw) (h0 : 0 < p) (hp : p < nw.ms.length) : befC nw (mem nw p) = (mem nw (p - 1), true) := bef_mk h.nd (k := p - 1) (mem_at (by omega)) (by rw [show p - 1 + 1 = p by omega]; exact mem_at hp)
theorem bef_first (h : NwOk n nw) : (befC nw (mem nw 0)).2 = false := by
  cases hb : (befC nw (mem nw 0)).2 with
  | false => rfl
  | true =>
    obtain ⟨k, h1, h2⟩ := bef_some (pair_of hb)
    have := nodup_at h.nd h2 (mem_at h.r0)
    omega
/-- A replica and its numbers. -/
structure Sim (nw : Cfg) (d : Nat) (s : LS) (y : Rpl) (al : List LN) : Prop where
  lt : d < nw.ms.length
  id : y.id = mem nw d
  cf : y.cf = nw
  la : y.l.length = s.la d
  cl : y.cl = s.cl d
  out : y.out.map (absN nw) = al
  gd : ∀ nt ∈ y.out, ∃ e, NGd nw nt e
  ck : ∀ b ∈ y.l, chk b.l = 0
theorem Sim.other (h : Sim nw d s y al) (h1 : s'.la d = s.la d) (h2 : s'.cl d = s.cl d) : Sim nw d s' y al := { h with la := h.la.trans h1.symm, cl := h.cl.trans h2.symm }
theorem Sim.send (h : Sim nw d s y al) (hw : NwOk n nw) {k ds : Int} {t : Nat} {b : Btc} (hn : NGd nw ⟨k, y.id, ds, y.cf.e, t, b⟩ e) : Sim nw d s (y.send ds k t b) (al ++ [⟨k.toNat, e, t⟩]) :=
  { h with
    out := by
      show (y.out ++ [_]).map (absN nw) = _
      rw [List.map_append, h.out, List.map_singleton, absN_at hw hn]
    gd := fun nt hnt => (List.mem_append.1 hnt).elim (h.gd nt) (fun e' => by rw [List.mem_singleton.1 e']; exact ⟨e, hn⟩) }
theorem Sim.tell (h : Sim nw d s y al) (hw : NwOk n nw) : Sim nw d s y.tell (al ++ s.tell d) := by
  unfold Rpl.tell LS.tell
  rw [h.cf, h.id]
  by_cases h0 : 0 < d
  · rw [bef_mem hw h0 h.lt, if_pos rfl, if_pos h0]
    have := h.send hw (k := 1) (ds := mem nw (d - 1)) (t := y.cl) (b := Btc.none) (e := d - 1) ⟨by have := h.lt; omega, rfl, by rw [h.cf], ⟨(by decide : (0 : Int) ≤ 1), (by decide : (1 : Int) ≤ 2)⟩, fun h => by simp at h, fun _ => ⟨by have := h.lt; omega, by rw [show d - 1 + 1 = d by omega]; exact h.id⟩⟩
    rw [h.cl] at this
    rw [← h.cl] at this ⊢
    exact this
  · have hd : d = 0 := by omega
    subst hd
    rw [bef_first hw, if_neg (show ¬ (false = true) by decide), if_neg h0, List.append_nil]
    exact h
theorem Sim.ask (h : Sim nw d s y al) (hw : NwOk n nw) : Sim nw d s y.ask (al ++ s.ask d) := by
  unfold Rpl.ask LS.ask
  rw [h.cf, h.id]
  by_cases h0 : 0 < d
  · rw [bef_mem hw h0 h.lt, if_pos rfl, if_pos h0]
    have := h.send hw (k := 2) (ds := mem nw (d - 1)) (t := y.la + 1) (b := Btc.none) (e := d - 1) ⟨by have := h.lt; omega, rfl, by rw [h.cf], ⟨(by decide : (0 : Int) ≤ 2), (by decide : (2 : Int) ≤ 2)⟩, fun h => by simp at h, fun _ => ⟨by have := h.lt; omega, by rw [show d - 1 + 1 = d by omega]; exact h.id⟩⟩
    have hla : y.la = s.la d := h.la
    rw [hla] at this ⊢
    exact this
  · have hd : d = 0 := by omega
    subst hd
    rw [bef_first hw, if_neg (show ¬ (false = true) by decide), if_neg h0, List.append_nil]
    exact h
theorem Sim.some_ (h : Sim nw d s y al) (hw : NwOk n nw) (hd : d + 1 < nw.ms.length) {t : Nat} (ht : 1 ≤ t) : Sim nw d s (y.some_ (mem nw (d + 1)) t) (al ++ someF (d + 1) (s.la d) t 5) := by
  have key : ∀ (m i : Nat) (z : Rpl) (al : List LN), Sim nw d s z al → z.l = y.l →
      Sim nw d s ((List.range' i m).foldl (fun z i => if 1 ≤ t ∧ t + i ≤ y.la then z.send (mem nw (d + 1)) 0 (t + i) ((y.l[t + i - 1]?).getD Btc.none) else z) z) (al ++ someF (d + 1) (s.la d) (t + i) m) := by
    intro m
    induction m with
    | zero => intro i z al hz _; simp [someF]; exact hz
    | succ m ih =>
      intro i z al hz hl
      have hla : y.la = s.la d := h.la
      rw [List.range'_succ, List.foldl_cons]
      unfold someF
      by_cases hc : t + i ≤ s.la d
      · rw [if_pos ⟨ht, by rw [hla]; exact hc⟩, if_pos hc]
        have hlt : t + i - 1 < y.l.length := by have := h.la; omega
        have h1 := hz.send hw (k := 0) (ds := mem nw (d + 1)) (t := t + i) (b := (y.l[t + i - 1]?).getD Btc.none) (e := d + 1) ⟨hd, rfl, by rw [hz.cf], ⟨(by decide : (0 : Int) ≤ 0), (by decide : (0 : Int) ≤ 2)⟩, fun _ => ⟨by omega, by rw [Nat.add_sub_cancel]; exact hz.id, by
          rw [List.getElem?_eq_getElem hlt]
          exact h.ck _ (List.getElem_mem hlt)⟩, fun hk => absurd rfl hk⟩
        have h2 := ih (i + 1) _ _ h1 hl
        rw [List.append_assoc] at h2
        exact h2
      · rw [if_neg (by rw [hla]; omega), if_neg hc, List.append_nil]
        have h2 := ih (i + 1) z al hz hl
        cases m with
        | zero => simp [someF] at h2 ⊢; exact h2
        | succ m =>
          unfold someF at h2
          rw [if_neg (by omega), List.append_nil] at h2
          exact h2
  have := key 5 0 y al h rfl
  unfold Rpl.some_
  rw [List.range_eq_range']
  exact this
theorem Sim.cleaned (h : Sim nw d s y al) (hw : NwOk n nw) (t : Nat) : Sim nw d (s.setCl d t) (y.cleaned t) (al ++ (s.setCl d t).tell d) :=
  Sim.tell (y := { y with cl := t }) { h with la := h.la, cl := (setD_same _ _ _).symm } hw
theorem Sim.added (h : Sim nw d s y al) (hw : NwOk n nw) {b : Btc} (hb : chk b.l = 0) : Sim nw d (s.add nw.ms.length d).1 (y.added b) (al ++ (s.add nw.ms.length d).2) := by
  have h1 : Sim nw d (s.setLa d (s.la d + 1)) ({ y with l := y.l ++ [b] } : Rpl) al :=
    { h with
      la := by
        show (y.l ++ [b]).length = setD s.la d (s.la d + 1) d
        rw [List.length_append, List.length_singleton, h.la, setD_same]
      cl := h.cl
      ck := fun c hc => (List.mem_append.1 hc).elim (h.ck c) (fun e => by rw [List.mem_singleton.1 e]; exact hb) }
  unfold Rpl.added LS.add
  dsimp only
  have hla : (({ y with l := y.l ++ [b] } : Rpl)).la = s.la d + 1 := by show (y.l ++ [b]).length = _; rw [List.length_append, List.length_singleton, h.la]
  by_cases hr : d + 1 < nw.ms.length
  · have e1 : nextC y.cf y.id = (mem nw (d + 1), true) := by rw [h.cf, h.id]; exact next_mem hw hr
    rw [e1, if_pos rfl, if_pos hr, hla]
    exact h1.send hw (k := 0) (e := d + 1) ⟨hr, rfl, by show y.cf.e = nw.e; rw [h.cf], ⟨(by decide : (0 : Int) ≤ 0), (by decide : (0 : Int) ≤ 2)⟩, fun _ => ⟨by omega, by rw [Nat.add_sub_cancel]; exact h.id, hb⟩, fun hk => absurd rfl hk⟩
  · have e1 : (nextC y.cf y.id).2 = false := by rw [h.cf, h.id]; exact next_last hw (by have := h.lt; omega)
    rw [e1, if_neg (show ¬ (false = true) by decide), if_neg hr, hla]
    exact h1.cleaned hw _
theorem vlq_app : ∀ (q : List LN) (vl : Nat → Nat) (p : List LN), vlq vl (q ++ p) = vlq (vlq vl q) p
  | [], vl, p => rfl
  | a :: q, vl, p => by
    rw [List.cons_append, vlq_cons, vlq_cons]
    split
    · exact vlq_app q _ p
    · exact vlq_app q _ p
theorem del_other {r : Nat} {a : LN} (he : e ≠ a.d) : (s.del r a).1.la e = s.la e ∧ (s.del r a).1.cl e = s.cl e := by
  have h1 : ∀ t, setD s.la a.d t e = s.la e := fun t => setD_ne _ _ he
  have h2 : ∀ t, setD s.cl a.d t e = s.cl e := fun t => setD_ne _ _ he
  unfold LS.del
  split
  · split
    · unfold LS.add
      split
      · exact ⟨h1 _, rfl⟩
      · exact ⟨h1 _, h2 _⟩
    · split
      · exact ⟨rfl, rfl⟩
      · split <;> exact ⟨rfl, rfl⟩
  · split
    · split
      · exact ⟨rfl, h2 _⟩
      · exact ⟨rfl, rfl⟩
    · exact ⟨rfl, rfl⟩
theorem Sim.receive (h : Sim nw d s y al) (hw : NwOk n nw) (hn : NGd nw nt d) (ht : nt.k ≠ 1 → 1 ≤ nt.t) : Sim nw d (s.del nw.ms.length ⟨nt.k.toNat, d, nt.t⟩).1 (y.receive nt) (al ++ (s.del nw.ms.length ⟨nt.k.toNat, d, nt.t⟩).2) := by
  have hla : y.la = s.la d := h.la
  unfold Rpl.receive LS.del
  dsimp only
  by_cases ht0 : nt.t = 0
  · rw [if_pos (show nt.t = 0 ∨ nt.ds ≠ y.id ∨ nt.ep ≠ y.cf.e ∨ nt.k < 0 ∨ 3 ≤ nt.k from .inl ht0)]
    have hk1 : nt.k = 1 := Decidable.byContradiction fun hk => by have := ht hk; omega
    rw [hk1, ht0]
    rw [if_neg (show ¬ (1 : Int).toNat = 0 by decide), if_pos (show (1 : Int).toNat = 1 from rfl), if_neg (show ¬ s.cl d < min 0 (s.la d) by omega), List.append_nil]
    exact h
  rw [if_neg (show ¬ (nt.t = 0 ∨ nt.ds ≠ y.id ∨ nt.ep ≠ y.cf.e ∨ nt.k < 0 ∨ 3 ≤ nt.k) by
    rintro (h1 | h1 | h1 | h1 | h1)
    · exact ht0 h1
    · exact h1 (by rw [hn.ds, h.id])
    · exact h1 (by rw [hn.ep, h.cf])
    · have := hn.k.1; omega
    · have := hn.k.2; omega)]
  by_cases hk0 : nt.k = 0
  · obtain ⟨h1, h2, h3⟩ := hn.f hk0
    have hside : y.side nt.k = (nt.fr, true) := by unfold Rpl.side; rw [if_pos hk0, h.cf, h.id, bef_mem hw h1 h.lt, h2]
    have hC : (y.side nt.k).2 = true ∧ (y.side nt.k).1 = nt.fr := by rw [hside]; exact ⟨rfl, rfl⟩
    rw [if_pos hC, if_pos hk0, if_pos (show nt.k.toNat = 0 by omega)]
    unfold Rpl.forwarded
    by_cases h4 : nt.t = y.la + 1
    · rw [if_pos h4, if_neg (show ¬ chk nt.b.l ≠ 0 by rw [h3]; exact fun e => e rfl), if_pos (show nt.t = s.la d + 1 by rw [← hla]; exact h4)]
      exact Sim.added (y := { y with j := (y.j.load nt.b).1 }) { h with } hw h3
    · rw [if_neg h4, if_neg (show ¬ nt.t = s.la d + 1 by rw [← hla]; exact h4), ← hla]
      by_cases h5 : y.la < nt.t
      · rw [if_pos h5, if_pos h5]
        exact h.ask hw
      · rw [if_neg h5, if_neg h5, ← h.cl]
        by_cases h6 : nt.t ≤ y.cl
        · rw [if_pos h6, if_pos h6]
          exact h.tell hw
        · rw [if_neg h6, if_neg h6, List.append_nil]
          exact h
  · obtain ⟨h1, h2⟩ := hn.g hk0
    have hside : y.side nt.k = (nt.fr, true) := by unfold Rpl.side; rw [if_neg hk0, h.cf, h.id, next_mem hw h1, h2]
    have hC : (y.side nt.k).2 = true ∧ (y.side nt.k).1 = nt.fr := by rw [hside]; exact ⟨rfl, rfl⟩
    have hk00 := hn.k
    rw [if_pos hC, if_neg hk0, if_neg (show ¬ nt.k.toNat = 0 by omega)]
    by_cases hk1 : nt.k = 1
    · rw [if_pos hk1, if_pos (show nt.k.toNat = 1 by omega)]
      unfold Rpl.acked
      rw [← hla, ← h.cl]
      by_cases h3 : y.cl < min nt.t y.la
      · rw [if_pos h3, if_pos h3]
        exact h.cleaned hw _
      · rw [if_neg h3, if_neg h3, List.append_nil]
        exact h
    · rw [if_neg hk1, if_neg (show ¬ nt.k.toNat = 1 by omega), if_pos h1, h2]
      exact h.some_ hw h1 (ht hk1)
/-- What a tick sends. -/
def tickA (r : Nat) (s : LS) (d : Nat) : List LN := (if d + 1 < r then someF (d + 1) (s.la d) (s.cl d + 1) 5 else []) ++ (if 0 < s.cl d then s.tell d else []) ++ s.ask d
theorem Sim.tick (h : Sim nw d s y al) (hw : NwOk n nw) : Sim nw d s y.tick (al ++ tickA nw.ms.length s d) := by
  unfold Rpl.tick tickA
  dsimp only
  have h1 : Sim nw d s (if (nextC y.cf y.id).2 = true then y.some_ (nextC y.cf y.id).1 (y.cl + 1) else y) (al ++ (if d + 1 < nw.ms.length then someF (d + 1) (s.la d) (s.cl d + 1) 5 else [])) := by
    by_cases hr : d + 1 < nw.ms.length
    · have e1 : nextC y.cf y.id = (mem nw (d + 1), true) := by rw [h.cf, h.id]; exact next_mem hw hr
      rw [e1, if_pos rfl, if_pos hr, h.cl]
      exact h.some_ hw hr (by omega)
    · have e1 : (nextC y.cf y.id).2 = false := by rw [h.cf, h.id]; exact next_last hw (by have := h.lt; omega)
      rw [e1, if_neg (show ¬ (false = true) by decide), if_neg hr, List.append_nil]
      exact h
  generalize (if (nextC y.cf y.id).2 = true then y.some_ (nextC y.cf y.id).1 (y.cl + 1) else y) = z at h1 ⊢
  have h2 : Sim nw d s (if 0 < z.cl then z.tell else z) ((al ++ (if d + 1 < nw.ms.length then someF (d + 1) (s.la d) (s.cl d + 1) 5 else [])) ++ (if 0 < s.cl d then s.tell d else [])) := by
    rw [h1.cl]
    by_cases hc : 0 < s.cl d
    · rw [if_pos hc, if_pos hc]; exact h1.tell hw
    · rw [if_neg hc, if_neg hc, List.append_nil]; exact h1
  have h3 := h2.ask hw
  rw [List.append_assoc, List.append_assoc] at h3
  rw [List.append_assoc]
  exact h3
end
/-- The chain and its numbers; al: what each member has to send. -/
structure CSim (n : Nat) (nw : Cfg) (x : Chn) (s : LS) (q : List LN) (al : Nat → List LN) : Prop where
  mb : ∀ p, p < nw.ms.length → Sim nw p s (x.rp (idn nw p)) (al p)
  un : x.un.map (absN nw) = q
  gd : ∀ nt ∈ x.un, ∃ d, NGd nw nt d
  em : ∀ i, i < n → (∀ p, p < nw.ms.length → i ≠ idn nw p) → (x.rp i).out = []
section
variable {n d p e N c : Nat} {nw : Cfg} {s s' : LS} {y z : Rpl} {a : LN} {q bl : List LN} {nt : Nt} {x : Chn} {al : Nat → List LN}
theorem CSim.set_ (h : CSim n nw x s q al) (hw : NwOk n nw) (hz : Sim nw d s' z bl) (hs : ∀ e, e ≠ d → s'.la e = s.la e ∧ s'.cl e = s.cl e) : CSim n nw { x with rp := setD x.rp (idn nw d) z } s' q (setD al d bl) := by
  refine ⟨fun p hp => ?_, h.un, h.gd, fun i hi hne => ?_⟩
  · by_cases hpd : p = d
    · subst hpd
      show Sim nw p s' (setD x.rp (idn nw p) z (idn nw p)) (setD al p bl p)
      rw [setD_same, setD_same]; exact hz
    · show Sim nw p s' (setD x.rp (idn nw d) z (idn nw p)) (setD al d bl p)
      rw [setD_ne _ _ (fun e => hpd (idn_inj hw hp hz.lt e)), setD_ne _ _ hpd]
      exact (h.mb p hp).other (hs p hpd).1 (hs p hpd).2
  · show (setD x.rp (idn nw d) z i).out = []
    rw [setD_ne _ _ (hne d hz.lt)]
    exact h.em i hi hne
theorem CSim.outs (h : CSim n nw x s q al) (hw : NwOk n nw) {i : Nat} (hi : i < n) : (∃ p, p < nw.ms.length ∧ i = idn nw p) ∨ (x.rp i).out = [] := by
  by_cases hm : ∃ p, p < nw.ms.length ∧ i = idn nw p
  · exact .inl hm
  · exact .inr (h.em i hi (fun p hp e => hm ⟨p, hp, e⟩))
theorem CSim.gather (h : CSim n nw x s q al) (hw : NwOk n nw) : CSim n nw (x.gather n) s ((q ++ (x.outs n).map (absN nw)).take 300) (fun _ => []) := by
  refine ⟨fun p hp => { h.mb p hp with out := rfl, gd := fun nt hnt => by cases hnt }, ?_, fun nt hnt => ?_, fun i _ _ => rfl⟩
  · show ((x.un ++ x.outs n).take 300).map (absN nw) = _
    rw [List.map_take, List.map_append, h.un]
  · rcases List.mem_append.1 (List.mem_of_mem_take hnt) with hm | hm
    · exact h.gd nt hm
    · obtain ⟨i, hi, hm⟩ := List.mem_flatMap.1 hm
      rcases h.outs hw (List.mem_range.1 hi) with ⟨p, hp, rfl⟩ | h0
      · exact (h.mb p hp).gd nt hm
      · rw [h0] at hm; cases hm
theorem CSim.outs_of (h : CSim n nw x s q al) (hw : NwOk n nw) (ha : a ∈ (x.outs n).map (absN nw)) : ∃ p, p < nw.ms.length ∧ a ∈ al p := by
  obtain ⟨nt, hm, rfl⟩ := List.mem_map.1 ha
  obtain ⟨i, hi, hm⟩ := List.mem_flatMap.1 hm
  rcases h.outs hw (List.mem_range.1 hi) with ⟨p, hp, rfl⟩ | h0
  · exact ⟨p, hp, by rw [← (h.mb p hp).out]; exact List.mem_map_of_mem hm⟩
  · rw [h0] at hm; cases hm
theorem CSim.outs_in (h : CSim n nw x s q al) (hw : NwOk n nw) (hp : p < nw.ms.length) (ha : a ∈ al p) : a ∈ (x.outs n).map (absN nw) := by
  rw [← (h.mb p hp).out] at ha
  obtain ⟨nt, hm, rfl⟩ := List.mem_map.1 ha
  exact List.mem_map_of_mem (List.mem_flatMap.2 ⟨idn nw p, List.mem_range.2 (idn_lt hw hp), hm⟩)
theorem outs_succ (x : Chn) (k : Nat) : x.outs (k + 1) = x.outs k ++ (x.rp k).out := by unfold Chn.outs; rw [List.range_succ, List.flatMap_append]; simp
theorem CSim.outs_wq (h : CSim n nw x s q al) (hw : NwOk n nw) (hc : ∀ p, p < nw.ms.length → ∀ vl : Nat → Nat, (∀ j, s.la j ≤ vl j) → wq vl (al p) ≤ c) : ∀ k, k ≤ n → ∀ vl : Nat → Nat, (∀ j, s.la j ≤ vl j) → wq vl ((x.outs k).map (absN nw)) ≤ k * c
  | 0, _, vl, _ => by simp [Chn.outs, wq]
  | k + 1, hk, vl, hv => by
    have h1 := CSim.outs_wq h hw hc k (by omega) vl hv
    rw [outs_succ, List.map_append, wq_app, Nat.add_mul]
    have h2 : wq (vlq vl ((x.outs k).map (absN nw))) ((x.rp k).out.map (absN nw)) ≤ c := by
      rcases h.outs hw (show k < n by omega) with ⟨p, hp, rfl⟩ | h0
      · rw [(h.mb p hp).out]
        exact hc p hp _ (fun j => Nat.le_trans (hv j) (vlq_ge _ _ _))
      · rw [h0]; simp [wq]
    omega
theorem CSim.outs_len (h : CSim n nw x s q al) (hw : NwOk n nw) (hc : ∀ p, p < nw.ms.length → (al p).length ≤ c) : ∀ k, k ≤ n → ((x.outs k).map (absN nw)).length ≤ k * c
  | 0, _ => by simp [Chn.outs]
  | k + 1, hk => by
    have h1 := CSim.outs_len h hw hc k (by omega)
    rw [outs_succ, List.map_append, List.length_append, Nat.add_mul]
    have h2 : ((x.rp k).out.map (absN nw)).length ≤ c := by
      rcases h.outs hw (show k < n by omega) with ⟨p, hp, rfl⟩ | h0
      · rw [(h.mb p hp).out]; exact hc p hp
      · rw [h0]; simp
    omega
theorem CSim.outs_one (h : CSim n nw x s q (setD (fun _ => []) d bl)) (hw : NwOk n nw) (hd : d < nw.ms.length) : (x.outs n).map (absN nw) = bl := by
  have key : ∀ k, k ≤ n → (x.outs k).map (absN nw) = if idn nw d < k then bl else [] := by
    intro k
    induction k with
    | zero => intro _; simp [Chn.outs]
    | succ k ih =>
      intro hk
      rw [outs_succ, List.map_append, ih (by omega)]
      by_cases hkd : k = idn nw d
      · subst hkd
        rw [if_neg (Nat.lt_irrefl _), if_pos (Nat.lt_succ_self _), (h.mb d hd).out, setD_same]
        rfl
      · have h0 : ((x.rp k).out).map (absN nw) = [] := by
          rcases h.outs hw (show k < n by omega) with ⟨p, hp, rfl⟩ | h0
          · rw [(h.mb p hp).out, setD_ne _ _ (fun e => hkd (by rw [e]))]
          · rw [h0]; rfl
        rw [h0, List.append_nil]
        by_cases h1 : idn nw d < k
        · rw [if_pos h1, if_pos (by omega)]
        · rw [if_neg h1, if_neg (by omega)]
  rw [key n (Nat.le_refl n), if_pos (idn_lt hw hd)]
/-- The first note arrives. -/
theorem CSim.step (h : CSim n nw x s (a :: q) (fun _ => [])) (hw : NwOk n nw) (hN : LNOk N nw.ms.length s a) (st : Stp) (hk : st.kind = 1) (hat : st.at_ = 0) :
    CSim n nw (x.step n st) (LS.step nw.ms.length (s, a :: q)).1 (LS.step nw.ms.length (s, a :: q)).2 (fun _ => []) := by
  obtain ⟨nt, rest, hun, hnt, hrest⟩ := List.map_eq_cons_iff.1 h.un
  obtain ⟨d, hg⟩ := h.gd nt (by rw [hun]; exact List.mem_cons_self ..)
  have ha : a = ⟨nt.k.toNat, d, nt.t⟩ := by rw [← hnt, absN_at hw hg]
  have hact : x.act n st = ({ ({ x with un := rest } : Chn) with rp := setD x.rp (idn nw d) ((x.rp (idn nw d)).receive nt) } : Chn) := by
    unfold Chn.act
    rw [hk, hat, if_neg (by decide), if_pos (by decide), Nat.zero_mod, hun]
    have e0 : (nt :: rest)[0]? = some nt := rfl
    rw [e0]
    show (if (1 : Int) = 1 then _ else _) = _
    rw [if_pos rfl]
    unfold Chn.arrive
    have hds : nt.ds = ((idn nw d : Nat) : Int) := by rw [hg.ds, idn_int hw hg.lt]
    have hlt := idn_lt hw hg.lt
    rw [if_pos ⟨by omega, by omega⟩, hds]
    rfl
  have h1 : CSim n nw ({ x with un := rest } : Chn) s q (fun _ => []) := ⟨h.mb, hrest, fun m hm => h.gd m (by rw [hun]; exact List.mem_cons_of_mem _ hm), h.em⟩
  have hz := (h.mb d hg.lt).receive hw hg (fun hk1 => by
    by_cases h0 : nt.k = 0
    · have := (hN.f (by rw [ha]; show nt.k.toNat = 0; omega)).2.1
      rw [ha] at this; exact this
    · have hkk := hg.k
      have := (hN.w (by rw [ha]; show ¬ nt.k.toNat = 0; omega) (by rw [ha]; show ¬ nt.k.toNat = 1; omega)).2.1
      rw [ha] at this; exact this)
  rw [List.nil_append, ← ha] at hz
  have had : a.d = d := by rw [ha]
  have h2 := h1.set_ hw hz (fun e he => del_other (by rw [had]; exact he))
  have h3 := h2.gather hw
  rw [h2.outs_one hw hg.lt] at h3
  unfold Chn.step
  rw [hact]
  exact h3
theorem run_succ (r m : Nat) : ∀ X : LS × List LN, LS.run r (m + 1) X = LS.step r (LS.run r m X) := by
  induction m with
  | zero => intro X; rfl
  | succ m ih => intro X; show LS.run r (m + 1) (LS.step r X) = _; rw [ih]; rfl
theorem run_stop (r : Nat) {m k : Nat} (hmk : m ≤ k) {X : LS × List LN} (h : (LS.run r m X).2 = []) : LS.run r k X = LS.run r m X := by
  obtain ⟨j, rfl⟩ : ∃ j, k = m + j := ⟨k - m, by omega⟩
  clear hmk
  induction j with
  | zero => rfl
  | succ j ih =>
    rw [← Nat.add_assoc, run_succ, ih]
    obtain ⟨s, q⟩ : ∃ s q, LS.run r m X = (s, q) := ⟨_, _, rfl⟩
    revert h
    generalize LS.run r m X = Y
    obtain ⟨s, q⟩ := Y
    intro h
    dsimp only at h
    subst h
    rfl
/-- k members have ticked. -/
def Chn.tickN (nw : Cfg) (x : Chn) : Nat → Chn
  | 0 => x
  | k + 1 => { x.tickN nw k with rp := setD (x.tickN nw k).rp (idn nw k) ((x.tickN nw k).rp (idn nw k)).tick }
theorem CSim.tickN (h : CSim n nw x s q al) (hw : NwOk n nw) : ∀ k, k ≤ nw.ms.length → CSim n nw (x.tickN nw k) s q (fun p => if p < k then al p ++ tickA nw.ms.length s p else al p)
  | 0, _ => by
    have e : (fun p => if p < 0 then al p ++ tickA nw.ms.length s p else al p) = al := by funext p; rw [if_neg (Nat.not_lt_zero p)]
    rw [e]
    exact h
  | k + 1, hk => by
    have h1 := CSim.tickN h hw k (by omega)
    have h2 := (h1.mb k (by omega)).tick hw
    rw [if_neg (Nat.lt_irrefl k)] at h2
    have h3 := h1.set_ hw h2 (fun e _ => ⟨rfl, rfl⟩)
    have e : (setD (fun p => if p < k then al p ++ tickA nw.ms.length s p else al p) k (al k ++ tickA nw.ms.length s k)) = (fun p => if p < k + 1 then al p ++ tickA nw.ms.length s p else al p) := by
      funext p
      unfold setD
      by_cases hp : p = k
      · subst hp; rw [if_pos rfl, if_pos (Nat.lt_succ_self p)]
      · rw [if_neg hp]
        dsimp only
        by_cases hp2 : p < k
        · rw [if_pos hp2, if_pos (by omega)]
        · rw [if_neg hp2, if_neg (by omega)]
    rw [e] at h3
    exact h3
theorem tickA_wq (h : LOk N nw.ms.length s) (hp : p < nw.ms.length) (vl : Nat → Nat) (hv : ∀ j, s.la j ≤ vl j) : wq vl (tickA nw.ms.length s p) ≤ 22 := by
  unfold tickA
  rw [wq_app, wq_app]
  have h1 : wq vl (if p + 1 < nw.ms.length then someF (p + 1) (s.la p) (s.cl p + 1) 5 else []) ≤ 10 := by
    split
    · rename_i hr
      have h2 := h.nx p hr
      have h3 := hv (p + 1)
      exact wq_some 5 _ vl (by omega)
    · simp [wq]
  have h2 : ∀ vl' : Nat → Nat, wq vl' (if 0 < s.cl p then s.tell p else []) ≤ 1 := fun vl' => by
    split
    · exact wq_tell vl' p
    · simp [wq]
  have h3 := wq_ask (s := s) (vlq (vlq vl (if p + 1 < nw.ms.length then someF (p + 1) (s.la p) (s.cl p + 1) 5 else [])) (if 0 < s.cl p then s.tell p else [])) p
  have h4 := h2 (vlq vl (if p + 1 < nw.ms.length then someF (p + 1) (s.la p) (s.cl p + 1) 5 else []))
  rw [vlq_app]
  omega
theorem someF_len (d la : Nat) : ∀ (m t : Nat), (someF d la t m).length ≤ m
  | 0, t => by simp [someF]
  | m + 1, t => by
    unfold someF
    split
    · rw [List.length_cons]; have := someF_len d la m (t + 1); omega
    · simp
theorem tell_len (s : LS) (d : Nat) : (s.tell d).length ≤ 1 := by unfold LS.tell; split <;> simp
theorem ask_len (s : LS) (d : Nat) : (s.ask d).length ≤ 1 := by unfold LS.ask; split <;> simp
theorem tickA_len (s : LS) (r p : Nat) : (tickA r s p).length ≤ 7 := by
  unfold tickA
  rw [List.length_append, List.length_append]
  have h1 := someF_len (p + 1) (s.la p) 5 (s.cl p + 1)
  have h2 := tell_len s p
  have h3 := ask_len s p
  split <;> split <;> simp <;> omega
theorem tickA_ok (h : LOk N nw.ms.length s) (hp : p < nw.ms.length) : ∀ a ∈ tickA nw.ms.length s p, LNOk N nw.ms.length s a := by
  intro a ha
  unfold tickA at ha
  rcases List.mem_append.1 ha with ha | ha
  · rcases List.mem_append.1 ha with ha | ha
    · split at ha
      · rename_i hr
        exact LNOk.some_ hr (by omega) (h.la p hp) 5 _ (by omega) a ha
      · cases ha
    · split at ha
      · exact LNOk.tell hp a ha
      · cases ha
  · exact LNOk.ask hp a ha
/-- The chain's numbers are as they should be. -/
theorem CSim.lok (h : CSim n nw x s q al) (hw : NwOk n nw) (hx : ChOk n x) (hnw : x.newest = nw) : LOk (s.la 0) nw.ms.length s := by
  have hid := fun p (hp : p < nw.ms.length) => hx.rp (idn nw p) (idn_lt hw hp)
  have hcf := fun p (hp : p < nw.ms.length) => (h.mb p hp).cf
  have hL := fun p (hp : p < nw.ms.length) => (h.mb p hp).la
  have hC := fun p (hp : p < nw.ms.length) => (h.mb p hp).cl
  refine ⟨hw.r0, rfl, fun p hp => ?_, fun p hp => ?_, fun p hp => ?_, ?_⟩
  · rcases Nat.eq_zero_or_pos p with rfl | h0
    · exact Nat.le_refl _
    · have h1 := (hid p hp).pre (idn nw 0) (idn_lt hw hw.r0) (by rw [hcf p hp, idn_int hw hp, idn_int hw hw.r0]; exact ⟨0, p, h0, mem_at hw.r0, mem_at hp⟩)
      rw [← hL p hp, ← hL 0 hw.r0]
      exact h1.length_le
  · have h1 := (hid p hp).cl
    rw [← hL p hp, ← hC p hp]
    exact h1
  · have hp0 : p < nw.ms.length := by omega
    have h1 := (hid p hp0).new_ (idn nw (p + 1)) (idn_lt hw hp) (by rw [hnw, idn_int hw hp]; exact mem_in hp)
    have h2 := h1.length_le
    have h3 := (hid p hp0).cl
    rw [List.length_take] at h2
    rw [← hC p hp0, ← hL (p + 1) hp]
    unfold Chn.ls at h2 h3
    omega
  · have hp : nw.ms.length - 1 < nw.ms.length := by have := hw.r0; omega
    have h1 := (hid _ hp).tl (by rw [hcf _ hp, idn_int hw hp]; exact mem_in hp) (by rw [hcf _ hp, idn_int hw hp]; exact next_last hw (by omega))
    rw [← hC _ hp, ← hL _ hp]
    exact h1
/-- All is clean everywhere. -/
theorem CSim.done (h : CSim n nw x s q al) (hw : NwOk n nw) (hx : ChOk n x) (hnw : x.newest = nw) (hmu : Mu (s.la 0) nw.ms.length s = 0) : ∀ p, p < nw.ms.length → (x.rp (idn nw p)).l = (x.rp (idn nw 0)).l ∧ (x.rp (idn nw p)).cl = (x.rp (idn nw 0)).l.length := by
  intro p hp
  have hl := h.lok hw hx hnw
  obtain ⟨h1, h2⟩ := Mu_zero hmu p hp
  have h3 := hl.la p hp
  have h4 := hl.cl p hp
  have e1 := (h.mb p hp).la
  have e2 := (h.mb p hp).cl
  have e3 := (h.mb 0 hw.r0).la
  have hlen : (x.rp (idn nw p)).l.length = (x.rp (idn nw 0)).l.length := by omega
  refine ⟨?_, by omega⟩
  rcases Nat.eq_zero_or_pos p with rfl | h0
  · rfl
  · have h5 := (hx.rp (idn nw p) (idn_lt hw hp)).pre (idn nw 0) (idn_lt hw hw.r0) (by rw [(h.mb p hp).cf, idn_int hw hp, idn_int hw hw.r0]; exact ⟨0, p, h0, mem_at hw.r0, mem_at hp⟩)
    exact h5.eq_of_length hlen
end
end Go.Proofs.YtecniafnihpjmaaGreatDoor

/- Chapter 24 (replica): turn by turn all becomes clean: the turns, and how they begin. No program here. -/
namespace Go.Proofs.YtecniafnihpjmaaGreatDoor
open Go.RowKit Go.Lap C
set_option linter.unusedVariables false
theorem nodup_len : ∀ (n : Nat) (l : List Int), l.Nodup → (∀ m ∈ l, 0 ≤ m ∧ m < n) → l.length ≤ n
  | 0, l, _, h => by
    cases l with
    | nil => exact Nat.le_refl _
    | cons x l => have := h x (List.mem_cons_self ..); omega
  | n + 1, l, hd, h => by
    by_cases hn : (n : Int) ∈ l
    · have h1 := nodup_len n (l.erase (n : Int)) (hd.erase _) (fun m hm => by
        have h2 := (List.Nodup.mem_erase_iff hd).1 hm
        have h3 := h m h2.2
        have h4 := h2.1
        omega)
      rw [List.length_erase_of_mem hn] at h1
      omega
    · have h1 := nodup_len n l hd (fun m hm => by
        have h3 := h m hm
        have h4 : m ≠ (n : Int) := fun e => hn (e ▸ hm)
        omega)
      omega
/-- k members have taken the newest configuration. -/
def Chn.adoptN (nw : Cfg) (x : Chn) : Nat → Chn
  | 0 => x
  | k + 1 => { x.adoptN nw k with rp := setD (x.adoptN nw k).rp (idn nw k) ((x.adoptN nw k).rp (idn nw k) |>.adopt nw).1 }
section
variable {n d p N : Nat} {nw : Cfg} {s s' : LS} {y : Rpl} {q : List LN} {x : Chn} {al : Nat → List LN}
theorem NwOk.len (hw : NwOk n nw) : nw.ms.length ≤ n := nodup_len n nw.ms hw.nd hw.bd
theorem NwOk.of (hx : ChOk n x) (hn : x.newest = nw) : NwOk n nw := by
  have hm := hx.cs.nwMem
  rw [hn] at hm
  have h1 := hx.cs.ok nw hm
  refine ⟨hx.cs.nd hm, h1.2, ?_, h1.1⟩
  have := (chk_parts h1.1).2.2.1
  omega
theorem Sim.adopt (hw : NwOk n nw) (hd : d < nw.ms.length) (hid : y.id = mem nw d) (hcf : y.cf.e ≤ nw.e) (heq : y.cf.e = nw.e → y.cf = nw) (hout : y.out = []) (hck : ∀ b ∈ y.l, chk b.l = 0) :
    ∃ s1 al, Sim nw d s1 (y.adopt nw).1 al ∧ (al = [] ∨ al = s1.ask d ∨ al = s1.tell d ++ s1.ask d) := by
  unfold Rpl.adopt
  by_cases h1 : chkC nw = false ∨ nw.e ≤ y.cf.e
  · rw [if_pos h1]
    have he : nw.e ≤ y.cf.e := h1.resolve_left (by rw [hw.ck]; decide)
    exact ⟨⟨fun _ => y.l.length, fun _ => y.cl⟩, [], ⟨hd, hid, heq (by omega), rfl, rfl, by rw [hout]; rfl, (fun nt hnt => by rw [hout] at hnt; cases hnt), hck⟩, .inl rfl⟩
  · rw [if_neg h1]
    dsimp only
    rw [if_neg (show ¬ placeC nw.ms y.id < 0 by rw [hid, place_mem hw hd]; omega)]
    have h0 : Sim nw d ⟨fun _ => y.l.length, fun _ => y.cl⟩ ({ y with cf := nw } : Rpl) [] := ⟨hd, hid, rfl, rfl, rfl, by rw [hout]; rfl, (fun nt hnt => by rw [hout] at hnt; cases hnt), hck⟩
    by_cases hr : (nextC nw y.id).2 = true
    · rw [if_pos hr]
      exact ⟨_, _, h0.ask hw, .inr (.inl rfl)⟩
    · rw [if_neg hr]
      exact ⟨_, _, (h0.cleaned hw _).ask hw, .inr (.inr rfl)⟩
theorem adoptN_at (hw : NwOk n nw) (x : Chn) : ∀ k, k ≤ nw.ms.length → (∀ p, p < k → (x.adoptN nw k).rp (idn nw p) = ((x.rp (idn nw p)).adopt nw).1) ∧ (∀ i, (∀ p, p < k → i ≠ idn nw p) → (x.adoptN nw k).rp i = x.rp i) ∧ (x.adoptN nw k).un = x.un ∧ (x.adoptN nw k).cs = x.cs
  | 0, _ => ⟨fun p hp => by omega, fun i _ => rfl, rfl, rfl⟩
  | k + 1, hk => by
    obtain ⟨h1, h2, h3, h4⟩ := adoptN_at hw x k (by omega)
    have hk0 := h2 (idn nw k) (fun p hp e => by have := idn_inj hw (by omega) (by omega) e; omega)
    refine ⟨fun p hp => ?_, fun i hi => ?_, h3, h4⟩
    · show setD (x.adoptN nw k).rp (idn nw k) _ (idn nw p) = _
      by_cases hpk : p = k
      · subst hpk; rw [setD_same, hk0]
      · rw [setD_ne _ _ (fun e => hpk (idn_inj hw (by omega) (by omega) e))]
        exact h1 p (by omega)
    · show setD (x.adoptN nw k).rp (idn nw k) _ i = _
      rw [setD_ne _ _ (hi k (Nat.lt_succ_self k))]
      exact h2 i (fun p hp => hi p (by omega))
theorem adoptN_ok (hx : ChOk n x) (hnw : x.newest = nw) : ∀ k, k ≤ nw.ms.length → ChOk n (x.adoptN nw k)
  | 0, _ => hx
  | k + 1, hk => by
    have hw := NwOk.of hx hnw
    have h1 := adoptN_ok hx hnw k (by omega)
    have h2 := (adoptN_at hw x k (by omega)).2.2.2
    have hkn := idn_lt hw (show k < nw.ms.length by omega)
    have hmem : nw ∈ (x.adoptN nw k).cs := by rw [h2, ← hnw]; exact hx.cs.nwMem
    exact h1.set_ hkn ((h1.rp _ hkn).adopt hkn h1.cs hmem).go
theorem adoptN_on (hon : OnOk n x) (hw : NwOk n nw) : ∀ k, k ≤ nw.ms.length → OnOk n (x.adoptN nw k)
  | 0, _ => hon
  | k + 1, hk => by
    have h1 := adoptN_on hon hw k (by omega)
    exact h1.set_ ((h1 _ (idn_lt hw (show k < nw.ms.length by omega))).adopt nw)
theorem tickN_cs (x : Chn) : ∀ k, (x.tickN nw k).cs = x.cs ∧ (x.tickN nw k).un = x.un
  | 0 => ⟨rfl, rfl⟩
  | k + 1 => tickN_cs x k
theorem tickN_ok (hx : ChOk n x) (hw : NwOk n nw) : ∀ k, k ≤ nw.ms.length → ChOk n (x.tickN nw k)
  | 0, _ => hx
  | k + 1, hk => by
    have h1 := tickN_ok hx hw k (by omega)
    have hkn := idn_lt hw (show k < nw.ms.length by omega)
    exact h1.set_ hkn ((h1.rp _ hkn).tick hkn).go
theorem tickN_on (hon : OnOk n x) (hw : NwOk n nw) : ∀ k, k ≤ nw.ms.length → OnOk n (x.tickN nw k)
  | 0, _ => hon
  | k + 1, hk => by
    have h1 := tickN_on hon hw k (by omega)
    exact h1.set_ (h1 _ (idn_lt hw (show k < nw.ms.length by omega))).tick
theorem ActB.set_ {M k : Nat} {r : Rpl} (h : ActB n M x) (hr : RpB M r) : ActB n M { x with rp := setD x.rp k r } := by
  refine ⟨fun y hy => ?_, h.2⟩
  show RpB M (setD x.rp k r y)
  by_cases hyk : y = k
  · subst hyk; rw [setD_same]; exact hr
  · rw [setD_ne _ _ hyk]; exact h.1 y hy
theorem adoptN_nb {M : Nat} (h : ActB n M x) (hw : NwOk n nw) : ∀ k, k ≤ nw.ms.length → ActB n M (x.adoptN nw k)
  | 0, _ => h
  | k + 1, hk => by
    have h1 := adoptN_nb h hw k (by omega)
    exact h1.set_ ((h1.1 _ (idn_lt hw (show k < nw.ms.length by omega))).adopt nw)
theorem tickN_nb {M : Nat} (h : ActB n M x) (hw : NwOk n nw) : ∀ k, k ≤ nw.ms.length → ActB n M (x.tickN nw k)
  | 0, _ => h
  | k + 1, hk => by
    have h1 := tickN_nb h hw k (by omega)
    exact h1.set_ (h1.1 _ (idn_lt hw (show k < nw.ms.length by omega))).tick
theorem ROn.ck {y : Rpl} (h : ROn y) : ∀ b ∈ y.l, chk b.l = 0 := fun b hb => by
  obtain ⟨k, hk⟩ := List.mem_iff_getElem?.1 hb
  exact (h.1 k b hk).2.1
/-- All members have taken the newest configuration. -/
theorem adopt_all (hx : ChOk n x) (hnw : x.newest = nw) (hon : OnOk n x) (hout : ∀ i, i < n → (x.rp i).out = []) (hun : x.un = []) :
    ∃ s al, CSim n nw (x.adoptN nw nw.ms.length) s [] al ∧ ∀ p, p < nw.ms.length → al p = [] ∨ al p = s.ask p ∨ al p = s.tell p ++ s.ask p := by
  have hw := NwOk.of hx hnw
  obtain ⟨h1, h2, h3, h4⟩ := adoptN_at hw x nw.ms.length (Nat.le_refl _)
  have hs : ∀ p, p < nw.ms.length → ∃ s1 al1, Sim nw p s1 ((x.adoptN nw nw.ms.length).rp (idn nw p)) al1 ∧ (al1 = [] ∨ al1 = s1.ask p ∨ al1 = s1.tell p ++ s1.ask p) := by
    intro p hp
    rw [h1 p hp]
    have hp2 := idn_lt hw hp
    have hr := hx.rp (idn nw p) hp2
    have hnm := hx.cs.nwMem
    rw [hnw] at hnm
    refine Sim.adopt hw hp (by rw [hr.id]; exact idn_int hw hp) ?_ (fun e => hx.cs.uniq hr.cf hnm e) (hout _ hp2) (hon _ hp2).ck
    obtain ⟨j, hj⟩ := List.mem_iff_getElem?.1 hr.cf
    have e1 := hx.cs.at_ _ _ hj
    have e2 := hx.cs.at_ _ _ hx.cs.nwAt
    rw [hnw] at e2
    have e3 := (List.getElem?_eq_some_iff.1 hj).1
    omega
  refine ⟨⟨fun p => ((x.adoptN nw nw.ms.length).rp (idn nw p)).l.length, fun p => ((x.adoptN nw nw.ms.length).rp (idn nw p)).cl⟩, fun p => ((x.adoptN nw nw.ms.length).rp (idn nw p)).out.map (absN nw), ⟨fun p hp => ?_, by rw [h3, hun]; rfl, (fun nt hnt => by rw [h3, hun] at hnt; cases hnt), (fun i hi hne => by rw [h2 i hne]; exact hout i hi)⟩, fun p hp => ?_⟩
  · obtain ⟨s1, al1, hs1, _⟩ := hs p hp
    have := hs1.other (s' := ⟨fun p => ((x.adoptN nw nw.ms.length).rp (idn nw p)).l.length, fun p => ((x.adoptN nw nw.ms.length).rp (idn nw p)).cl⟩) hs1.la hs1.cl
    exact { this with out := rfl }
  · obtain ⟨s1, al1, hs1, hal⟩ := hs p hp
    dsimp only
    rw [hs1.out]
    have ea : s1.ask p = LS.ask ⟨fun p => ((x.adoptN nw nw.ms.length).rp (idn nw p)).l.length, fun p => ((x.adoptN nw nw.ms.length).rp (idn nw p)).cl⟩ p := by unfold LS.ask; dsimp only; rw [hs1.la]
    have et : s1.tell p = LS.tell ⟨fun p => ((x.adoptN nw nw.ms.length).rp (idn nw p)).l.length, fun p => ((x.adoptN nw nw.ms.length).rp (idn nw p)).cl⟩ p := by unfold LS.tell; dsimp only; rw [hs1.cl]
    rw [← ea, ← et]
    exact hal
/-- The notes of a turn. -/
def turnT (nw : Cfg) (n : Nat) (x : Chn) : List LN := ((x.tickN nw nw.ms.length).outs n).map (absN nw)
theorem CSim.ticked (h : CSim n nw x s q al) (hw : NwOk n nw) : CSim n nw (x.tickN nw nw.ms.length) s q (fun p => if p < nw.ms.length then al p ++ tickA nw.ms.length s p else al p) := h.tickN hw _ (Nat.le_refl _)
theorem CSim.turned (h : CSim n nw x s q al) (hw : NwOk n nw) : CSim n nw ((x.tickN nw nw.ms.length).gather n) s ((q ++ turnT nw n x).take 300) (fun _ => []) := (h.ticked hw).gather hw
theorem CSim.turn (h : CSim n nw x s q (fun _ => [])) (hw : NwOk n nw) (hn : n ≤ 5) (hi : LInv N nw.ms.length (s, q)) :
    LInv N nw.ms.length (s, (q ++ turnT nw n x).take 300) ∧ (Mu N nw.ms.length s ≠ 0 → MM N nw.ms.length (LS.run nw.ms.length 400 (s, (q ++ turnT nw n x).take 300)) + 90 ≤ MM N nw.ms.length (s, q)) := by
  have ht := h.ticked hw
  have hok : LOk N nw.ms.length s := hi.ok
  have hT : ∀ a ∈ turnT nw n x, LNOk N nw.ms.length s a := fun a ha => by
    obtain ⟨p, hp, ha⟩ := ht.outs_of hw ha
    rw [if_pos hp, List.nil_append] at ha
    exact tickA_ok hok hp a ha
  refine ⟨⟨List.length_take_le _ _, hok, fun a ha => (List.mem_append.1 (List.mem_of_mem_take ha)).elim (hi.q a) (hT a)⟩, fun hmu => Go.Proofs.YtecniafnihpjmaaGreatDoor.turn hi hT ?_ ?_ (fun k h0 hk => ?_) (fun k h0 hk hc => ?_) hmu⟩
  · have h1 := ht.outs_wq hw (c := 22) (fun p hp vl hv => by rw [if_pos hp, List.nil_append]; exact tickA_wq hok hp vl hv) n (Nat.le_refl n) (vlq s.la q) (fun j => vlq_ge q s.la j)
    have h2 : n * 22 ≤ 5 * 22 := Nat.mul_le_mul_right _ hn
    exact Nat.le_trans h1 h2
  · have h1 := ht.outs_len hw (c := 7) (fun p hp => by rw [if_pos hp, List.nil_append]; exact tickA_len s _ p) n (Nat.le_refl n)
    have h2 : n * 7 ≤ 5 * 7 := Nat.mul_le_mul_right _ hn
    exact Nat.le_trans h1 (Nat.le_trans h2 (by decide))
  · refine ht.outs_in hw hk ?_
    rw [if_pos hk, List.nil_append]
    unfold tickA LS.ask
    rw [if_pos h0]
    exact List.mem_append_right _ (List.mem_singleton.2 rfl)
  · refine ht.outs_in hw hk ?_
    rw [if_pos hk, List.nil_append]
    unfold tickA LS.tell
    rw [if_pos hc, if_pos h0]
    exact List.mem_append_left _ (List.mem_append_right _ (List.mem_singleton.2 rfl))
theorem CSim.turn1 (h : CSim n nw x s [] al) (hw : NwOk n nw) (hn : n ≤ 5) (hok : LOk N nw.ms.length s) (hN : N ≤ 80) (hal : ∀ p, p < nw.ms.length → al p = [] ∨ al p = s.ask p ∨ al p = s.tell p ++ s.ask p) :
    LInv N nw.ms.length (s, ([] ++ turnT nw n x).take 300) ∧ MM N nw.ms.length (LS.run nw.ms.length 400 (s, ([] ++ turnT nw n x).take 300)) ≤ 10500 := by
  have ht := h.ticked hw
  have hT : ∀ a ∈ turnT nw n x, LNOk N nw.ms.length s a := fun a ha => by
    obtain ⟨p, hp, ha⟩ := ht.outs_of hw ha
    rw [if_pos hp] at ha
    rcases List.mem_append.1 ha with ha | ha
    · rcases hal p hp with e | e | e
      · rw [e] at ha; cases ha
      · rw [e] at ha; exact LNOk.ask hp a ha
      · rw [e] at ha
        exact (List.mem_append.1 ha).elim (LNOk.tell hp a) (LNOk.ask hp a)
    · exact tickA_ok hok hp a ha
  have hi : LInv N nw.ms.length (s, ([] ++ turnT nw n x).take 300) := ⟨List.length_take_le _ _, hok, fun a ha => hT a (by have := List.mem_of_mem_take ha; exact this)⟩
  refine ⟨hi, turn_first hi (Nat.le_trans hw.len hn) hN ?_⟩
  have h0 := wq_take ([] ++ turnT nw n x) s.la 300
  have h1 := ht.outs_wq hw (c := 34) (fun p hp vl hv => by
    rw [if_pos hp, wq_app]
    have h2 := tickA_wq hok hp (vlq vl (al p)) (fun j => Nat.le_trans (hv j) (vlq_ge _ _ _))
    have h3 : wq vl (al p) ≤ 12 := by
      rcases hal p hp with e | e | e
      · rw [e]; simp [wq]
      · rw [e]; have := wq_ask (s := s) vl p; omega
      · rw [e, wq_app]
        have := wq_tell (s := s) vl p
        have := wq_ask (s := s) (vlq vl (s.tell p)) p
        omega
    omega) n (Nat.le_refl n) s.la (fun j => Nat.le_refl _)
  have h2 : n * 34 ≤ 5 * 34 := Nat.mul_le_mul_right _ hn
  have h3 : wq s.la ([] ++ turnT nw n x) ≤ n * 34 := h1
  omega
/-- Behind t turns. -/
def TSt (n : Nat) (nw : Cfg) (N t : Nat) (x : Chn) : Prop :=
  (t = 0 ∧ N ≤ 80 ∧ ∃ s al, CSim n nw x s [] al ∧ LOk N nw.ms.length s ∧ ∀ p, p < nw.ms.length → al p = [] ∨ al p = s.ask p ∨ al p = s.tell p ++ s.ask p) ∨
  (1 ≤ t ∧ ∃ s q, CSim n nw x s q (fun _ => []) ∧ LInv N nw.ms.length (s, q) ∧ (Mu N nw.ms.length s = 0 ∨ MM N nw.ms.length (s, q) + 90 * (t - 1) ≤ 10500))
/-- In turn t, behind m notes. -/
def DSt (n : Nat) (nw : Cfg) (N t m : Nat) (x : Chn) : Prop :=
  ∃ s1 q1, CSim n nw x (LS.run nw.ms.length m (s1, q1)).1 (LS.run nw.ms.length m (s1, q1)).2 (fun _ => []) ∧ LInv N nw.ms.length (s1, q1) ∧
    ∀ x', CSim n nw x' (LS.run nw.ms.length 400 (s1, q1)).1 (LS.run nw.ms.length 400 (s1, q1)).2 (fun _ => []) → TSt n nw N (t + 1) x'
theorem TSt.start (hx : ChOk n x) (hnw : x.newest = nw) (hon : OnOk n x) (hout : ∀ i, i < n → (x.rp i).out = []) (hun : x.un = []) (hl : ∀ i, i < n → (x.rp i).l.length ≤ 80) : ∃ N, TSt n nw N 0 (x.adoptN nw nw.ms.length) := by
  have hw := NwOk.of hx hnw
  obtain ⟨s, al, hc, hal⟩ := adopt_all hx hnw hon hout hun
  have hx2 := adoptN_ok hx hnw nw.ms.length (Nat.le_refl _)
  have hnw2 : (x.adoptN nw nw.ms.length).newest = nw := by unfold Chn.newest; rw [(adoptN_at hw x _ (Nat.le_refl _)).2.2.2]; exact hnw
  have hok := hc.lok hw hx2 hnw2
  refine ⟨s.la 0, .inl ⟨rfl, ?_, s, al, hc, hok, hal⟩⟩
  rw [← (hc.mb 0 hw.r0).la, (adoptN_at hw x _ (Nat.le_refl _)).1 0 hw.r0]
  have h1 := hl _ (idn_lt hw hw.r0)
  have h2 : ((x.rp (idn nw 0)).adopt nw).1.l = (x.rp (idn nw 0)).l := by
    unfold Rpl.adopt
    split
    · rfl
    · dsimp only
      split
      · rfl
      · rw [ask_l]
        split
        · rfl
        · rw [cleaned_l]
  rw [h2]
  exact h1
theorem TSt.mk {t : Nat} (Y : LS × List LN) (ht : 1 ≤ t) (hc : CSim n nw x Y.1 Y.2 (fun _ => [])) (hi : LInv N nw.ms.length Y) (hm : Mu N nw.ms.length Y.1 = 0 ∨ MM N nw.ms.length Y + 90 * (t - 1) ≤ 10500) : TSt n nw N t x := by
  obtain ⟨s, q⟩ := Y
  exact .inr ⟨ht, s, q, hc, hi, hm⟩
theorem TSt.turn {t : Nat} (h : TSt n nw N t x) (hw : NwOk n nw) (hn : n ≤ 5) : DSt n nw N t 0 ((x.tickN nw nw.ms.length).gather n) := by
  rcases h with ⟨rfl, hN, s, al, hc, hok, hal⟩ | ⟨ht, s, q, hc, hi, hm⟩
  · obtain ⟨h1, h2⟩ := hc.turn1 hw hn hok hN hal
    have h3 := (h1.run 400).1
    have hX := hc.turned hw
    generalize List.take 300 ([] ++ turnT nw n x) = X at *
    refine ⟨s, X, hX, h1, ?_⟩
    generalize LS.run nw.ms.length 400 (s, X) = Y at *
    exact fun x' hx' => TSt.mk Y (by omega) hx' h3 (.inr (by omega))
  · obtain ⟨h1, h2⟩ := hc.turn hw hn hi
    have h3 := (h1.run 400).1
    have h4 := Mu_le (N := N) (r := nw.ms.length) (h1.run 400).2.1
    have hX := hc.turned hw
    generalize List.take 300 (q ++ turnT nw n x) = X at *
    refine ⟨s, X, hX, h1, ?_⟩
    generalize LS.run nw.ms.length 400 (s, X) = Y at *
    refine fun x' hx' => TSt.mk Y (by omega) hx' h3 ?_
    by_cases hmu : Mu N nw.ms.length s = 0
    · left
      dsimp only at h4
      omega
    · right
      have h5 := h2 hmu
      have h6 := hm.resolve_left hmu
      omega
theorem DSt.step {t m : Nat} (h : DSt n nw N t m x) (hw : NwOk n nw) (hne : x.un ≠ []) (st : Stp) (hk : st.kind = 1) (hat : st.at_ = 0) : DSt n nw N t (m + 1) (x.step n st) := by
  obtain ⟨s1, q1, hc, hi, hf⟩ := h
  refine ⟨s1, q1, ?_, hi, hf⟩
  rw [run_succ]
  have hi2 := (hi.run m).1
  revert hc hi2
  generalize LS.run nw.ms.length m (s1, q1) = Y
  obtain ⟨s2, q2⟩ := Y
  intro hc hi2
  cases q2 with
  | nil => exact absurd (List.map_eq_nil_iff.1 hc.un) hne
  | cons a q2 => exact hc.step hw (hi2.q a (List.mem_cons_self ..)) st hk hat
theorem DSt.stop {t m : Nat} (h : DSt n nw N t m x) (hm : m ≤ 400) (he : m = 400 ∨ x.un = []) : TSt n nw N (t + 1) x := by
  obtain ⟨s1, q1, hc, hi, hf⟩ := h
  refine hf x ?_
  rcases he with rfl | he
  · exact hc
  · have h0 : (LS.run nw.ms.length m (s1, q1)).2 = [] := by rw [← hc.un, he]; rfl
    rw [run_stop _ hm h0]
    exact hc
theorem TSt.done (h : TSt n nw N 120 x) (hx : ChOk n x) (hnw : x.newest = nw) : ∀ p, p < nw.ms.length → (x.rp (idn nw p)).l = (x.rp (idn nw 0)).l ∧ (x.rp (idn nw p)).cl = (x.rp (idn nw 0)).l.length := by
  have hw := NwOk.of hx hnw
  rcases h with ⟨h0, _⟩ | ⟨_, s, q, hc, hi, hm⟩
  · omega
  · have hmu : Mu N nw.ms.length s = 0 := by
      rcases hm with hm | hm
      · exact hm
      · omega
    have hN : s.la 0 = N := (show LOk N nw.ms.length s from hi.ok).hd
    exact hc.done hw hx hnw (by rw [hN]; exact hmu)
end
end Go.Proofs.YtecniafnihpjmaaGreatDoor
