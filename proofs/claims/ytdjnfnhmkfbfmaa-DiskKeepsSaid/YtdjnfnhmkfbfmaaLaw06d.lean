/- Chapter 6 (disk): plain laws: a crash that leaves all is a sync; what is not touched is the same. -/
import Derived.Test.YtdjnfnhmkfbfmaaLaw06b
namespace Go.Proofs.Ytdjnfnhmkfbfmaa
open Go.RowKit Go.Lap
set_option linter.unusedVariables false

def fullP (s : Sec) (p : Pd) : Sec := doP s p (full p)
/-- What a disk is kept to be. -/
structure Dk.Inv (D : Dk) : Prop where
  view : D.V = D.L.foldl fullP D.G
  len : ∀ a bs, Pd.wr a bs ∈ D.L → bs.length ≤ 512

theorem inv_new (n : Int) : (newD n).Inv := ⟨rfl, fun a bs h => by simp [newD] at h⟩
theorem inv_push {D : Dk} (h : D.Inv) (p : Pd) (hl : ∀ a bs, p = .wr a bs → bs.length ≤ 512) : (pushD D p).Inv := by
  refine ⟨?_, fun a bs hm => ?_⟩
  · show doP D.V p (full p) = (D.L ++ [p]).foldl fullP D.G
    rw [List.foldl_append, ← h.view]; rfl
  · rcases List.mem_append.1 (show Pd.wr a bs ∈ D.L ++ [p] from hm) with hm | hm
    · exact h.len a bs hm
    · simp at hm; exact hl a bs hm.symm
theorem inv_sync (D : Dk) : (syncD D).Inv := ⟨rfl, fun a bs h => by simp [syncD] at h⟩
theorem inv_crash (D : Dk) (l : List (Int × Int)) : (crashD D l).Inv := ⟨rfl, fun a bs h => by simp [crashD] at h⟩
theorem writeR_len {D : Dk} {a : Int} {n : Nat} (h : writeR D a n = 0) : n ≤ 512 ∧ 0 ≤ a ∧ a < D.size := by
  unfold writeR at h
  split at h
  · omega
  split at h
  · omega
  split at h <;> omega
theorem Acts.inv {k a r : Int} {D D' : Dk} (h : Acts k a D r D') (hi : D.Inv) : D'.Inv := by
  cases h with
  | write bs _ =>
    unfold writeD
    split
    · rename_i h0
      exact inv_push hi _ fun a' bs' e => by cases e; exact (writeR_len h0).1
    · exact hi
  | free _ =>
    unfold freeD
    split
    · exact inv_push hi _ fun a' bs' e => by cases e
    · exact hi
  | sync _ => exact inv_sync D
  | crash l _ => exact inv_crash D l
  | limit _ => exact ⟨hi.view, hi.len⟩
  | none _ _ => exact hi
theorem Acts.len {k a r : Int} {D D' : Dk} (h : Acts k a D r D') : D'.L.length ≤ D.L.length + 1 := by
  cases h with
  | write bs _ => unfold writeD; split <;> simp [pushD]
  | free _ => unfold freeD; split <;> simp [pushD]
  | sync _ => simp [syncD]
  | crash l _ => simp [crashD]
  | limit _ => simp
  | none _ _ => simp

/-- All survive. -/
def allS (m : Nat) : List (Int × Int) := (List.range m).map fun (i : Nat) => ((i : Int), (600 : Int))
theorem allS_snoc (m : Nat) : allS (m + 1) = allS m ++ [((m : Int), (600 : Int))] := by simp [allS, List.range_succ]
theorem allS_len (m : Nat) : (allS m).length = m := by simp [allS]
theorem lkS_append {l l' : List (Int × Int)} {i : Int} : lkS (l ++ l') i = (lkS l i).or (lkS l' i) := by
  induction l with
  | nil => simp [lkS]
  | cons x l ih =>
    obtain ⟨a, n⟩ := x
    simp only [List.cons_append, lkS]
    split
    · simp
    · exact ih
theorem lkS_all : ∀ (m i : Nat), i < m → lkS (allS m) (i : Int) = some 600
  | m + 1, i, h => by
    rw [allS_snoc, lkS_append]
    by_cases hi : i < m
    · rw [lkS_all m i hi]; rfl
    · obtain rfl : i = m := by omega
      cases hl : lkS (allS i) (i : Int) with
      | none => simp [lkS]
      | some n =>
        exfalso
        have : ∀ k, k ≤ i → lkS (allS k) (i : Int) = none := by
          intro k
          induction k with
          | zero => intro _; rfl
          | succ k ih =>
            intro hk
            rw [allS_snoc, lkS_append, ih (by omega)]
            simp [lkS]; omega
        rw [this i (Nat.le_refl _)] at hl
        cases hl
theorem wrB_all (old bs : List UInt8) (h : bs.length ≤ 512) : wrB old bs 600 = bs := by
  have : cutN6 600 bs.length = bs.length := by simp [cutN6]; omega
  unfold wrB
  rw [this]
  simp
theorem doP_all (s : Sec) (p : Pd) (h : ∀ a bs, p = .wr a bs → bs.length ≤ 512) : doP s p 600 = fullP s p := by
  cases p with
  | wr a bs =>
    have h1 := wrB_all ((s.f a).getD []) bs (h a bs rfl)
    have h2 := wrB_full ((s.f a).getD []) bs
    show s.put a _ = s.put a _
    rw [h1]
    show _ = s.put a (wrB _ bs (bs.length : Int))
    rw [h2]
  | fr a => rfl
theorem crashK_all (s : Sec) (L : List Pd) (left : Int → Option Int) (hl : ∀ a bs, Pd.wr a bs ∈ L → bs.length ≤ 512) (n : Nat) (h : ∀ i, i < n → left (i : Int) = some 600) :
    ∀ k, k ≤ n → k ≤ L.length → crashK s L left k = (L.take k).foldl fullP s
  | 0, _, _ => rfl
  | k + 1, hk, hkL => by
    have ih := crashK_all s L left hl n h k (by omega) (by omega)
    obtain ⟨p, hp⟩ : ∃ p, L[k]? = some p := ⟨_, List.getElem?_eq_getElem (by omega)⟩
    have hm := List.mem_of_getElem? hp
    rw [List.take_add_one, hp]
    simp only [crashK, hp, h k (by omega), ih, List.foldl_append, Option.toList, List.foldl_cons, List.foldl_nil]
    exact doP_all _ p fun a bs e => hl a bs (e ▸ hm)
/-- A crash that leaves all. -/
theorem crash_all {D : Dk} (h : D.Inv) : crashG D (allS D.L.length) = D.V := by
  unfold crashG
  rw [crashK_all D.G D.L _ h.len D.L.length (lkS_all _) _ (Nat.le_refl _) (Nat.le_refl _), List.take_length, ← h.view]
/-- A crash behind a sync. -/
theorem crash_sync (D : Dk) (l : List (Int × Int)) : crashD (syncD D) l = syncD D := rfl

/-- An act of those that write. -/
theorem Acts.wr {k a r : Int} {D D' : Dk} (h : Acts k a D r D') (hk : k = 0 ∨ k = 1) (hf : D.V.fine D.size) : (r ≠ 0 ∧ D' = D) ∨ (r = 0 ∧ 0 ≤ a ∧ ∃ p, p.at_ = a ∧ D' = pushD D p) := by
  cases h with
  | write bs _ =>
    by_cases h0 : writeR D a bs.length = 0
    · exact .inr ⟨h0, (writeR_len h0).2.1, _, rfl, if_pos h0⟩
    · exact .inl ⟨h0, if_neg h0⟩
  | free _ =>
    by_cases h0 : (D.V.f a).isSome = true
    · refine .inr ⟨if_pos h0, ?_, .fr a, rfl, if_pos h0⟩
      obtain ⟨bs, hb⟩ := Option.isSome_iff_exists.1 h0
      exact (hf a bs hb).1
    · exact .inl ⟨by unfold freeR; rw [if_neg h0]; decide, if_neg h0⟩
  | sync h => omega
  | crash l h => omega
  | limit h => omega
  | none h1 h2 => omega
/-- Behind a crash what no pending act touches is as it was. -/
theorem crashK_keep {s : Sec} {L : List Pd} (left : Int → Option Int) {k : Int} (h : ∀ p ∈ L, p.at_ ≠ k) : ∀ n, (crashK s L left n).f k = s.f k
  | 0 => rfl
  | n + 1 => by
    have ih := crashK_keep (s := s) left h n
    unfold crashK
    split
    · rename_i p m hp hm
      have hne := h p (List.mem_of_getElem? hp)
      cases p with
      | wr a bs =>
        show (if k = a then _ else _) = _
        rw [if_neg (fun e => hne e.symm)]
        exact ih
      | fr a =>
        show (if k = a then _ else _) = _
        rw [if_neg (fun e => hne e.symm)]
        exact ih
    · exact ih
theorem crash_keep {D : Dk} (l : List (Int × Int)) {k : Int} (h : ∀ p ∈ D.L, p.at_ ≠ k) : (crashD D l).V.f k = D.G.f k := crashK_keep _ h _
end Go.Proofs.Ytdjnfnhmkfbfmaa
