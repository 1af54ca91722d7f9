/- Chapter 23 (config): the plain laws of reading a configuration: both read alike; what was put is read again. -/
import Derived.Test.YtinpbjknakncdaaDoorCfgQ
namespace Go.Proofs.YtinpbjknakncdaaDoor
open Go.RowKit Go.Lap
set_option linter.unusedVariables false

theorem countR_numL {bs : List UInt8} {most : Int} (h : (numR bs 0).2.2 = 0) (hm : ((numR bs 0).1 : Int) ≤ most) : countR bs 0 most = ((numR bs 0).1, (numR bs 0).2.1, 0) := by
  have hN : numR bs 0 = if (takeV bs).1 = 0 then ((takeV bs).2.1, (takeV bs).2.2, 0) else (0, bs, (takeV bs).1) := rfl
  by_cases ht : (takeV bs).1 = 0
  · rw [if_pos ht] at hN
    rw [hN] at hm ⊢
    unfold countR
    rw [if_pos ⟨rfl, ht, hm⟩]
  · rw [if_neg ht] at hN
    rw [hN] at h
    exact absurd h ht
theorem countR_badL {bs : List UInt8} {most : Int} (h : (numR bs 0).2.2 ≠ 0 ∨ most < ((numR bs 0).1 : Int)) : (countR bs 0 most).2.2 ≠ 0 := by
  have hN : numR bs 0 = if (takeV bs).1 = 0 then ((takeV bs).2.1, (takeV bs).2.2, 0) else (0, bs, (takeV bs).1) := rfl
  by_cases ht : (takeV bs).1 = 0
  · rw [if_pos ht] at hN
    rw [hN] at h
    have h2 : ¬ ((takeV bs).2.1 : Int) ≤ most := by
      rcases h with h | h
      · exact absurd rfl h
      · dsimp only at h
        omega
    unfold countR
    rw [if_neg (fun h3 => h2 h3.2.2)]
    simp [belowErr, ht]
  · unfold countR
    rw [if_neg (fun h3 => ht h3.2.1)]
    simp [belowErr, ht]
theorem countR_errL (bs : List UInt8) {err : Int} (most : Int) (h : err ≠ 0) : countR bs err most = (0, bs, err) := by
  unfold countR belowErr
  rw [if_neg (fun h1 => h h1.1), if_neg h]
theorem rdMs_err (bs : List UInt8) {err : Int} (h : err ≠ 0) : ∀ n, (rdMs n bs err).2 = (bs, err)
  | 0 => rfl
  | n + 1 => by
    show (rdMs n (countR bs err 63).2.1 (countR bs err 63).2.2).2 = _
    rw [countR_errL bs 63 h]
    exact rdMs_err bs h n
theorem rdMs_bad (bs : List UInt8) {err : Int} (h : err ≠ 0) (n : Nat) (x : Option Cfg) : (if endR (rdMs n bs err).2.1 (rdMs n bs err).2.2 = 0 then x else none) = none := by
  rw [rdMs_err bs h n, endR_err bs h, if_neg h]
theorem rdMs_succ (n : Nat) (bs : List UInt8) (err : Int) : rdMs (n + 1) bs err = (((countR bs err 63).1 : Int) :: (rdMs n (countR bs err 63).2.1 (countR bs err 63).2.2).1, (rdMs n (countR bs err 63).2.1 (countR bs err 63).2.2).2) := rfl
theorem finM_eq (e : Nat) : ∀ (n : Nat) (acc : List Int) (bs : List UInt8), (if endR (rdMs n bs 0).2.1 (rdMs n bs 0).2.2 = 0 then if chkC ⟨e, acc ++ (rdMs n bs 0).1⟩ = true then some (⟨e, acc ++ (rdMs n bs 0).1⟩ : Cfg) else none else none) = finM e acc n bs
  | 0, acc, bs => by simp [rdMs, finM, endR_zero]
  | n + 1, acc, bs => by
    rw [finM]
    by_cases hb : (numR bs 0).2.2 ≠ 0 ∨ (63 : Int) < ((numR bs 0).1 : Int)
    · have hc := countR_badL hb
      have hz : (if (numR bs 0).2.2 = 0 then if 63 < (numR bs 0).1 then none else finM e (acc ++ [((numR bs 0).1 : Int)]) n (numR bs 0).2.1 else none) = none := by
        rcases hb with hb | hb
        · rw [if_neg hb]
        · split
          · rw [if_pos (by omega)]
          · rfl
      rw [hz, rdMs_succ]
      exact rdMs_bad _ hc n _
    · have h1 : (numR bs 0).2.2 = 0 := Decidable.byContradiction fun h => hb (.inl h)
      have h2 : ¬ 63 < (numR bs 0).1 := fun h => hb (.inr (by omega))
      rw [if_pos h1, if_neg h2, rdMs_succ, countR_numL h1 (by omega), ← finM_eq e n]
      simp
/-- Both read alike. -/
theorem ofCf_ofRf (bs : List UInt8) : ofCf bs = ofRf bs := by
  unfold ofCf ofRf
  dsimp only
  by_cases h1 : (numR bs 0).2.2 = 0
  · rw [if_pos h1, h1]
    by_cases hb : (numR (numR bs 0).2.1 0).2.2 ≠ 0 ∨ (7 : Int) < ((numR (numR bs 0).2.1 0).1 : Int)
    · rw [rdMs_bad _ (countR_badL hb)]
      rcases hb with hb | hb
      · rw [if_neg hb]
      · split
        · rw [if_pos (by omega)]
        · rfl
    · have h2 : (numR (numR bs 0).2.1 0).2.2 = 0 := Decidable.byContradiction fun h => hb (.inl h)
      have h3 : ¬ 7 < (numR (numR bs 0).2.1 0).1 := fun h => hb (.inr (by omega))
      rw [if_pos h2, if_neg h3, countR_numL h2 (by omega), ← finM_eq]
      simp
  · rw [if_neg h1]
    have hc : (countR (numR bs 0).2.1 (numR bs 0).2.2 7).2.2 ≠ 0 := by rw [countR_errL _ _ h1]; exact h1
    exact rdMs_bad _ hc _ _
theorem rdMs_enc : ∀ l : List Int, (∀ n ∈ l, memB n = true) → rdMs l.length (encM l) 0 = (l, [], 0)
  | [], _ => rfl
  | x :: l, h => by
    have hx := h x (by simp)
    simp only [memB, Bool.and_eq_true, decide_eq_true_eq] at hx
    have hn : numR (encM (x :: l)) 0 = (x.toNat, encM l, 0) := numR_enc x.toNat (encM l) (by omega)
    have hc : countR (encM (x :: l)) 0 63 = (x.toNat, encM l, 0) := by
      have := countR_numL (bs := encM (x :: l)) (most := 63) (by rw [hn]) (by rw [hn]; dsimp only; omega)
      rw [this, hn]
    rw [List.length_cons, rdMs_succ, hc]
    dsimp only
    rw [rdMs_enc l (fun n hn => h n (by simp [hn]))]
    have : ((x.toNat : Nat) : Int) = x := by omega
    rw [this]
/-- What was put is read again. -/
theorem ofCf_enc {c : Cfg} (h : chkC c = true) : ofCf (encC c) = some c := by
  obtain ⟨_, h2, _, h4, h5, _⟩ := chk_parts h
  dsimp only [lastE] at h2
  obtain ⟨e, ms⟩ := c
  have hn : numR (encC ⟨e, ms⟩) 0 = (e, varB ms.length ++ encM ms, 0) := by
    show numR (varB e ++ varB ms.length ++ encM ms) 0 = _
    rw [List.append_assoc]
    exact numR_enc e _ (by dsimp only at h2; omega)
  have hn2 : numR (varB ms.length ++ encM ms) 0 = (ms.length, encM ms, 0) := numR_enc _ _ (by dsimp only at h4; omega)
  have hc : countR (varB ms.length ++ encM ms) 0 7 = (ms.length, encM ms, 0) := by
    have := countR_numL (bs := varB ms.length ++ encM ms) (most := 7) (by rw [hn2]) (by rw [hn2]; dsimp only at h4 ⊢; omega)
    rw [this, hn2]
  unfold ofCf
  dsimp only
  rw [hn]
  dsimp only
  rw [hc]
  dsimp only
  rw [rdMs_enc ms h5]
  dsimp only
  rw [if_pos ((endR_zero []).2 rfl), if_pos h]
end Go.Proofs.YtinpbjknakncdaaDoor
