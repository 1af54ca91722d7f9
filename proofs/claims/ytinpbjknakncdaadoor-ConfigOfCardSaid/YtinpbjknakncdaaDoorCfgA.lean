/- Chapter 23 (config): plain laws on commands: decimal digits, what is parsed of them, a command's three words. -/
import Derived.Lib.SplitLaws
import Derived.Lib.CountLaws
import Derived.Lib.AtoiAllCases
import Derived.Lib.ParseIntB
import Derived.Lib.ItoaNum
import Derived.Lib.Slices
import Derived.Lib.IndexLaws
namespace Go.Proofs.YtinpbjknakncdaaDoor
open Go.Lib
set_option linter.unusedVariables false

/-- One digit more. -/
def digStep (M a : Nat) (c : UInt8) : NumEnd Nat := if 48 ≤ c.toNat ∧ c.toNat ≤ 57 then (if 1844674407370955162 ≤ a then .range else if M < a * 10 + (c.toNat - 48) then .range else .ok (a * 10 + (c.toNat - 48))) else .syntax
theorem parseM_snoc (M : Nat) (c : UInt8) : ∀ (l : List UInt8) (acc a : Nat), parseUintM M acc l = .ok a → parseUintM M acc (l ++ [c]) = digStep M a c
  | [], acc, a, h => by
    simp only [parseUintM] at h
    injection h with h
    subst h
    simp only [List.nil_append, parseUintM, digStep]
  | b :: l, acc, a, h => by
    simp only [parseUintM, List.cons_append] at h ⊢
    split at h
    · rename_i hb
      rw [if_pos hb]
      split at h
      · cases h
      · rename_i h1
        rw [if_neg h1]
        split at h
        · cases h
        · rename_i h2
          rw [if_neg h2]
          exact parseM_snoc M c l _ a h
    · cases h
theorem dig_val {d : Nat} (h : d < 10) : (UInt8.ofNat (48 + d)).toNat = 48 + d := by
  rw [UInt8.toNat_ofNat']
  omega
theorem parseM_dec (M : Nat) (hM : M ≤ 18446744073709551615) : ∀ u : Nat, u ≤ M → parseUintM M 0 (decDigits u) = .ok u := by
  intro u
  induction u using Nat.strongRecOn with
  | ind u ih =>
    intro hu
    by_cases h : u < 10
    · rw [decDigits_one h]
      simp only [parseUintM, dig_val h]
      rw [if_pos (by omega), if_neg (by omega), if_neg (by omega)]
      congr 1
      omega
    · rw [decDigits, dif_neg h, parseM_snoc M _ _ _ (u / 10) (ih (u / 10) (by omega) (by omega))]
      unfold digStep
      rw [dig_val (by omega), if_pos (by omega), if_neg (by omega), if_neg (by omega)]
      congr 1
      omega
theorem parse10_M : ∀ (l : List UInt8) (acc : Nat), parseUint10 acc l = parseUintM 18446744073709551615 acc l
  | [], _ => rfl
  | c :: l, acc => by
    simp only [parseUint10, parseUintM, parse10_M l]
    split <;> try rfl
/-- Decimal digits are bytes from 48 to 57, and at least one. -/
theorem dec_dig : ∀ (u : Nat) (c : UInt8), c ∈ decDigits u → 48 ≤ c.toNat ∧ c.toNat ≤ 57 := by
  intro u
  induction u using Nat.strongRecOn with
  | ind u ih =>
    intro c hc
    by_cases h : u < 10
    · rw [decDigits_one h, List.mem_singleton] at hc
      rw [hc, dig_val h]
      omega
    · rw [decDigits, dif_neg h, List.mem_append, List.mem_singleton] at hc
      rcases hc with hc | rfl
      · exact ih (u / 10) (by omega) c hc
      · rw [dig_val (by omega)]
        omega
theorem dec_ne (u : Nat) : decDigits u ≠ [] := by
  rw [decDigits]
  split <;> simp
theorem parseB_dec {u : Nat} (h : u < 18446744073709551616) : parseUintB 64 (decDigits u) = .ok u := by
  unfold parseUintB
  rw [if_neg (dec_ne u)]
  exact parseM_dec _ (by decide) u (by omega)
theorem atoi_dec {u : Nat} (h : u < 9223372036854775808) : atoiAll (decDigits u) = .ok (u : Int) := by
  cases e : decDigits u with
  | nil => exact absurd e (dec_ne u)
  | cons c r =>
    have hc := dec_dig u c (by rw [e]; simp)
    rw [atoiAll_plain c r (by omega) (by omega)]
    unfold parseMag
    rw [if_neg (by simp), ← e, parse10_M, parseM_dec _ (by omega) u (by omega)]
    unfold signless
    show (if 9223372036854775808 ≤ u then NumEnd.range else .ok (u : Int)) = _
    rw [if_neg (by omega)]

/-- A text is cut at its first space. -/
theorem occ_space {a : List UInt8} (ha : (32 : UInt8) ∉ a) (r : List UInt8) : index (a ++ 32 :: r) [32] = (a.length : Nat) := by
  refine index_first (by simp) (by simp [occAt]) ?_
  intro j hj
  unfold occAt
  rw [List.drop_append_of_le_length (by omega), List.drop_eq_getElem_cons hj]
  have : a[j] ≠ 32 := fun e => ha (e ▸ List.getElem_mem hj)
  show (32 == a[j] && List.isPrefixOf [] _) = false
  rw [show (32 == a[j]) = false from beq_eq_false_iff_ne.2 fun e => this e.symm]
  rfl
theorem split_hit {a : List UInt8} (ha : (32 : UInt8) ∉ a) (r : List UInt8) (k : Nat) : splitK [32] 0 (k + 1) (a ++ 32 :: r) = a :: splitK [32] 0 k r := by
  have h := occ_space ha r
  rw [splitK, h, if_neg (by simp)]
  simp
/-- The words of a text. -/
def wordsL (s : List UInt8) : List (List UInt8) := splitK [32] 0 (count s [32]) s
theorem words_three {a b c : List UInt8} (ha : (32 : UInt8) ∉ a) (hb : (32 : UInt8) ∉ b) (hc : (32 : UInt8) ∉ c) : wordsL (a ++ 32 :: (b ++ 32 :: c)) = [a, b, c] := by
  unfold wordsL
  have hn : count (a ++ 32 :: (b ++ 32 :: c)) [32] = 2 := by
    rw [count_one, List.count_append, List.count_cons_self, List.count_append, List.count_cons_self, List.count_eq_zero.2 ha, List.count_eq_zero.2 hb, List.count_eq_zero.2 hc]
  rw [hn, split_hit ha, split_hit hb]
  rfl

def joinL : List UInt8 := [106, 111, 105, 110]
def removeL : List UInt8 := [114, 101, 109, 111, 118, 101]
def wordL (j : Bool) : List UInt8 := if j then joinL else removeL
/-- A command. -/
def showL (j : Bool) (e n : Nat) : List UInt8 := wordL j ++ 32 :: (decDigits e ++ 32 :: decDigits n)
theorem word_free (j : Bool) : (32 : UInt8) ∉ wordL j := by cases j <;> decide
theorem dec_free (u : Nat) : (32 : UInt8) ∉ decDigits u := fun h => by have := dec_dig u _ h; simp at this
theorem words_show (j : Bool) (e n : Nat) : wordsL (showL j e n) = [wordL j, decDigits e, decDigits n] := words_three (word_free j) (dec_free e) (dec_free n)
theorem dec_inj {a b : Nat} (h : decDigits a = decDigits b) : a = b := by
  have ev : ∀ u, (decDigits u).foldl (fun s c => s * 10 + (c.toNat - 48)) 0 = u := by
    intro u
    induction u using Nat.strongRecOn with
    | ind u ih =>
      by_cases hu : u < 10
      · rw [decDigits_one hu]; simp only [List.foldl_cons, List.foldl_nil, dig_val hu]; omega
      · rw [decDigits, dif_neg hu, List.foldl_append, ih (u / 10) (by omega)]
        simp only [List.foldl_cons, List.foldl_nil, dig_val (show u % 10 < 10 by omega)]; omega
  rw [← ev a, ← ev b, h]
theorem word_inj {i j : Bool} (h : wordL i = wordL j) : i = j := by cases i <;> cases j <;> first | rfl | (exact absurd h (by decide))
theorem show_inj {i j : Bool} {e n e' n' : Nat} (h : showL i e n = showL j e' n') : i = j ∧ e = e' ∧ n = n' := by
  have := words_show i e n
  rw [h, words_show] at this
  injection this with h1 h2
  injection h2 with h2 h3
  injection h3 with h3 _
  exact ⟨(word_inj h1).symm, (dec_inj h2).symm, (dec_inj h3).symm⟩

/-- What the program makes of a command in a configuration's epoch: whether it joins, and the node. -/
def cmdP (e : Nat) (cmd : List UInt8) : Option (Bool × Int) :=
  match wordsL cmd with
  | [a, b, c] => if a = joinL ∨ a = removeL then (match parseUintB 64 b, atoiAll c with
      | .ok u, .ok v => if u = e ∧ showL (decide (a = joinL)) u (max v 0).toNat = cmd then some (decide (a = joinL), v) else none
      | _, _ => none) else none
  | _ => none
theorem cmdP_some {e : Nat} {cmd : List UInt8} {j : Bool} {v : Int} (h : cmdP e cmd = some (j, v)) : ∃ n : Nat, v = (n : Int) ∧ n < 9223372036854775808 ∧ cmd = showL j e n := by
  unfold cmdP at h
  split at h
  · rename_i a b c hw
    split at h
    · split at h
      · rename_i u v' hu hv
        split at h
        · rename_i hc
          obtain ⟨rfl, hs⟩ := hc
          injection h with h
          injection h with h1 h2
          subst h2
          have hb := atoiAll_bounds hv
          have h3 := words_show (decide (a = joinL)) u (max v' 0).toNat
          rw [hs, hw] at h3
          injection h3 with _ h3
          injection h3 with _ h3
          injection h3 with h3 _
          rw [h3, atoi_dec (by omega)] at hv
          injection hv with hv
          exact ⟨(max v' 0).toNat, by omega, by omega, by rw [← hs, h1]⟩
        · cases h
      · cases h
    · cases h
  · cases h
theorem cmdP_show {j : Bool} {e n : Nat} (he : e < 18446744073709551616) (hn : n < 9223372036854775808) : cmdP e (showL j e n) = some (j, (n : Int)) := by
  unfold cmdP
  rw [words_show]
  simp only [parseB_dec he, atoi_dec hn]
  have hj : decide (wordL j = joinL) = j := by cases j <;> decide
  have hor : wordL j = joinL ∨ wordL j = removeL := by cases j; exact .inr rfl; exact .inl rfl
  rw [if_pos hor, hj]
  simp
end Go.Proofs.YtinpbjknakncdaaDoor
