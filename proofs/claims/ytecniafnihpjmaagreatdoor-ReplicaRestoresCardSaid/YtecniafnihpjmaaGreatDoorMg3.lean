/- The parts CfgA, CfgB, joined. -/
import Derived.Lib.SplitLaws
import Derived.Lib.CountLaws
import Derived.Lib.AtoiAllCases
import Derived.Lib.ParseIntB
import Derived.Lib.ItoaNum
import Derived.Lib.Slices
import Derived.Lib.IndexLaws
/- Chapter 23 (config): plain laws on commands: decimal digits, what is parsed of them, a command's three words. -/
namespace Go.Proofs.YtecniafnihpjmaaGreatDoor.C
open Go.Lib
set_option linter.unusedVariables false

end Go.Proofs.YtecniafnihpjmaaGreatDoor.C

/- Chapter 23 (config): plain laws on configurations: which may be, removing, joining, folding commands. -/
namespace Go.Proofs.YtecniafnihpjmaaGreatDoor.C
open Go.Lib
set_option linter.unusedVariables false

structure Cfg where
  e : Nat
  ms : List Int
def lastE : Nat := 4611686018427387904
def memB (n : Int) : Bool := decide (0 ≤ n) && decide (n ≤ 63)
/-- May its members be? -/
def goodL : List Int → Bool
  | [] => true
  | n :: l => memB n && !l.contains n && goodL l
def chkC (c : Cfg) : Bool := decide (1 ≤ c.e) && decide (c.e ≤ lastE) && decide (1 ≤ c.ms.length) && decide (c.ms.length ≤ 7) && goodL c.ms
theorem good_iff : ∀ l : List Int, goodL l = true ↔ (∀ n ∈ l, memB n = true) ∧ l.Nodup
  | [] => by simp [goodL]
  | n :: l => by
    rw [goodL, Bool.and_eq_true, Bool.and_eq_true, good_iff l]
    simp only [List.mem_cons, List.nodup_cons, Bool.not_eq_true', List.contains_eq_mem, decide_eq_false_iff_not]
    constructor
    · rintro ⟨⟨a, b⟩, c, d⟩
      exact ⟨fun m hm => by rcases hm with rfl | hm; exact a; exact c m hm, b, d⟩
    · rintro ⟨a, b, c⟩
      exact ⟨⟨a n (.inl rfl), b⟩, fun m hm => a m (.inr hm), c⟩
theorem good_take {l : List Int} (k : Nat) (h : goodL l = true) : goodL (l.take k) = true := by
  rw [good_iff] at h ⊢
  exact ⟨fun n hn => h.1 n (List.mem_of_mem_take hn), h.2.sublist (List.take_sublist k l)⟩
theorem good_snoc {l : List Int} {n : Int} : goodL (l ++ [n]) = (goodL l && memB n && !l.contains n) := by
  rw [Bool.eq_iff_iff, Bool.and_eq_true, Bool.and_eq_true, good_iff, good_iff, List.nodup_append]
  simp only [List.mem_append, List.mem_singleton, Bool.not_eq_true', List.contains_eq_mem, decide_eq_false_iff_not]
  constructor
  · rintro ⟨a, b, _, c⟩
    exact ⟨⟨⟨fun m hm => a m (.inl hm), b⟩, a n (.inr rfl)⟩, fun hm => c n hm n rfl rfl⟩
  · rintro ⟨⟨⟨a, b⟩, c⟩, d⟩
    exact ⟨fun m hm => by rcases hm with hm | rfl; exact a m hm; exact c, b, by simp, fun x hx y hy => by rintro rfl; exact d (hy ▸ hx)⟩
theorem take_snocI {l : List Int} {k : Nat} {x : Int} (h : l[k]? = some x) : l.take (k + 1) = l.take k ++ [x] := by rw [List.take_add_one, h]; rfl
/-- One member more looked at. -/
theorem good_next {l : List Int} {k : Nat} {x : Int} (h : l[k]? = some x) : goodL (l.take (k + 1)) = (goodL (l.take k) && memB x && !(l.take k).contains x) := by rw [take_snocI h, good_snoc]
theorem good_fail {l : List Int} {k : Nat} {x : Int} (h : l[k]? = some x) (hf : memB x = false ∨ (l.take k).contains x = true) : goodL l = false := by
  cases e : goodL l with
  | false => rfl
  | true =>
    have h1 := good_take (k + 1) e
    rw [good_next h] at h1
    rcases hf with hf | hf <;> rw [hf] at h1 <;> simp at h1

/-- A node's place. -/
def placeC (l : List Int) (n : Int) : Int := idxOf l n
theorem idx_from : ∀ (l : List Int) (n : Int) (i : Nat), (n ∉ l ∧ idxFrom l n i = -1) ∨ ∃ k, l[k]? = some n ∧ n ∉ l.take k ∧ idxFrom l n i = ((i + k : Nat) : Int)
  | [], n, i => .inl ⟨by simp, rfl⟩
  | z :: l, n, i => by
    unfold idxFrom
    by_cases h : z = n
    · rw [if_pos h]
      exact .inr ⟨0, by simp [h], by simp, by simp⟩
    · rw [if_neg h]
      rcases idx_from l n (i + 1) with ⟨h1, h2⟩ | ⟨k, h1, h2, h3⟩
      · exact .inl ⟨by simp [h1]; exact fun e => h e.symm, h2⟩
      · refine .inr ⟨k + 1, by simpa using h1, ?_, by rw [h3]; congr 1; omega⟩
        simp only [List.take_succ_cons, List.mem_cons, not_or]
        exact ⟨fun e => h e.symm, h2⟩
theorem place_cases (l : List Int) (n : Int) : (n ∉ l ∧ placeC l n = -1) ∨ ∃ k, k < l.length ∧ l[k]? = some n ∧ n ∉ l.take k ∧ placeC l n = (k : Int) := by
  rcases idx_from l n 0 with h | ⟨k, h1, h2, h3⟩
  · exact .inl h
  · exact .inr ⟨k, (List.getElem?_eq_some_iff.1 h1).1, h1, h2, by unfold placeC idxOf; rw [h3]; simp⟩
theorem chk_parts {c : Cfg} (h : chkC c = true) : 1 ≤ c.e ∧ c.e ≤ lastE ∧ 1 ≤ c.ms.length ∧ c.ms.length ≤ 7 ∧ (∀ n ∈ c.ms, memB n = true) ∧ c.ms.Nodup := by
  simp only [chkC, Bool.and_eq_true, decide_eq_true_eq, good_iff] at h
  obtain ⟨⟨⟨⟨a, b⟩, d⟩, e⟩, f, g⟩ := h
  exact ⟨a, b, d, e, f, g⟩
theorem chk_bad {c : Cfg} (h : ¬ (1 ≤ c.e ∧ c.e ≤ lastE ∧ 1 ≤ c.ms.length ∧ c.ms.length ≤ 7)) : chkC c = false := by
  cases e : chkC c with
  | false => rfl
  | true => obtain ⟨a, b, d, f, _⟩ := chk_parts e; exact absurd ⟨a, b, d, f⟩ h
theorem chk_good {c : Cfg} (h1 : 1 ≤ c.e) (h2 : c.e ≤ lastE) (h3 : 1 ≤ c.ms.length) (h4 : c.ms.length ≤ 7) : chkC c = goodL c.ms := by simp [chkC, h1, h2, h3, h4]
end Go.Proofs.YtecniafnihpjmaaGreatDoor.C
