/- The parts CfgA, CfgB, joined. -/
import Derived.Lib.SplitLaws
import Derived.Lib.CountLaws
import Derived.Lib.AtoiAllCases
import Derived.Lib.ParseIntB
import Derived.Lib.ItoaNum
import Derived.Lib.Slices
import Derived.Lib.IndexLaws
/- Chapter 23 (config): plain laws on commands: decimal digits, what is parsed of them, a command's three words. -/
namespace Go.Proofs.YtecniafnihpjmaaGreatDoor.C
open Go.Lib
set_option linter.unusedVariables false

/-- One digit more. -/
def digStep (M a : Nat) (c : UInt8) : NumEnd Nat := if 48 ≤ c.toNat ∧ c.toNat ≤ 57 then (if 1844674407370955162 ≤ a then .range else if M < a * 10 + (c.toNat - 48) then .range else .ok (a * 10 + (c.toNat - 48))) else .syntax
theorem parseM_snoc (M : Nat) (c : UInt8) : ∀ (l : List UInt8) (acc a : Nat), parseUintM M acc l = .ok a → parseUintM M acc (l ++ [c]) = digStep M a c
  | [], acc, a, h => by
    simp only [parseUintM] at h
    injection h with h
    subst h
    simp only [List.nil_append, parseUintM, digStep]
  | b :: l, acc, a, h => by
    simp only [parseUintM, List.cons_append] at h ⊢
    split at h
    · rename_i hb
      rw [if_pos hb]
      split at h
      · cases h
      · rename_i h1
        rw [if_neg h1]
        split at h
        · cases h
        · rename_i h2
          rw [if_neg h2]
          exact parseM_snoc M c l _ a h
    · cases h
theorem dig_val {d : Nat} (h : d < 10) : (UInt8.ofNat (48 + d)).toNat = 48 + d := by
  rw [UInt8.toNat_ofNat']
  omega
theorem parseM_dec (M : Nat) (hM : M ≤ 18446744073709551615) : ∀ u : Nat, u ≤ M → parseUintM M 0 (decDigits u) = .ok u := by
  intro u
  induction u using Nat.strongRecOn with
  | ind u ih =>
    intro hu
    by_cases h : u < 10
    · rw [decDigits_one h]
      simp only [parseUintM, dig_val h]
      rw [if_pos (by omega), if_neg (by omega), if_neg (by omega)]
      congr 1
      omega
    · rw [decDigits, dif_neg h, parseM_snoc M _ _ _ (u / 10) (ih (u / 10) (by omega) (by omega))]
      unfold digStep
      rw [dig_val (by omega), if_pos (by omega), if_neg (by omega), if_neg (by omega)]
      congr 1
      omega
theorem parse10_M : ∀ (l : List UInt8) (acc : Nat), parseUint10 acc l = parseUintM 18446744073709551615 acc l
  | [], _ => rfl
  | c :: l, acc => by
    simp only [parseUint10, parseUintM, parse10_M l]
    split <;> try rfl
/-- Decimal digits are bytes from 48 to 57, and at least one. -/
theorem dec_dig : ∀ (u : Nat) (c : UInt8), c ∈ decDigits u → 48 ≤ c.toNat ∧ c.toNat ≤ 57 := by
  intro u
  induction u using Nat.strongRecOn with
  | ind u ih =>
    intro c hc
    by_cases h : u < 10
    · rw [decDigits_one h, List.mem_singleton] at hc
      rw [hc, dig_val h]
      omega
    · rw [decDigits, dif_neg h, List.mem_append, List.mem_singleton] at hc
      rcases hc with hc | rfl
      · exact ih (u / 10) (by omega) c hc
      · rw [dig_val (by omega)]
        omega
theorem dec_ne (u : Nat) : decDigits u ≠ [] := by
  rw [decDigits]
  split <;> simp
theorem parseB_dec {u : Nat} (h : u < 18446744073709551616) : parseUintB 64 (decDigits u) = .ok u := by
  unfold parseUintB
  rw [if_neg (dec_ne u)]
  exact parseM_dec _ (by decide) u (by omega)
theorem atoi_dec {u : Nat} (h : u < 9223372036854775808) : atoiAll (decDigits u) = .ok (u : Int) := by
  cases e : decDigits u with
  | nil => exact absurd e (dec_ne u)
  | cons c r =>
    have hc := dec_dig u c (by rw [e]; simp)
    rw [atoiAll_plain c r (by omega) (by omega)]
    unfold parseMag
    rw [if_neg (by simp), ← e, parse10_M, parseM_dec _ (by omega) u (by omega)]
    unfold signless
    show (if 9223372036854775808 ≤ u then NumEnd.range else .ok (u : Int)) = _
    rw [if_neg (by omega)]

/-- A text is cut at its first space. -/
theorem occ_space {a : List UInt8} (ha : (32 : UInt8) ∉ a) (r : List UInt8) : index (a ++ 32 :: r) [32] = (a.length : Nat) := by
  refine index_first (by simp) (by simp [occAt]) ?_
  intro j hj
  unfold occAt
  rw [List.drop_append_of_le_length (by omega), List.drop_eq_getElem_cons hj]
  have : a[j] ≠ 32 := fun e => ha (e ▸ List.getElem_mem hj)
  show (32 == a[j] && List.isPrefixOf [] _) = false
  rw [show (32 == a[j]) = false from beq_eq_false_iff_ne.2 fun e => this e.symm]
  rfl
theorem split_hit {a : List UInt8} (ha : (32 : UInt8) ∉ a) (r : List UInt8) (k : Nat) : splitK [32] 0 (k + 1) (a ++ 32 :: r) = a :: splitK [32] 0 k r := by
  have h := occ_space ha r
  rw [splitK, h, if_neg (by simp)]
  simp
/-- The words of a text. -/
def wordsL (s : List UInt8) : List (List UInt8) := splitK [32] 0 (count s [32]) s
theorem words_three {a b c : List UInt8} (ha : (32 : UInt8) ∉ a) (hb : (32 : UInt8) ∉ b) (hc : (32 : UInt8) ∉ c) : wordsL (a ++ 32 :: (b ++ 32 :: c)) = [a, b, c] := by
  unfold wordsL
  have hn : count (a ++ 32 :: (b ++ 32 :: c)) [32] = 2 := by
    rw [count_one, List.count_append, List.count_cons_self, List.count_append, List.count_cons_self, List.count_eq_zero.2 ha, List.count_eq_zero.2 hb, List.count_eq_zero.2 hc]
  rw [hn, split_hit ha, split_hit hb]
  rfl

def joinL : List UInt8 := [106, 111, 105, 110]
def removeL : List UInt8 := [114, 101, 109, 111, 118, 101]
def wordL (j : Bool) : List UInt8 := if j then joinL else removeL
/-- A command. -/
def showL (j : Bool) (e n : Nat) : List UInt8 := wordL j ++ 32 :: (decDigits e ++ 32 :: decDigits n)
theorem word_free (j : Bool) : (32 : UInt8) ∉ wordL j := by cases j <;> decide
theorem dec_free (u : Nat) : (32 : UInt8) ∉ decDigits u := fun h => by have := dec_dig u _ h; simp at this
theorem words_show (j : Bool) (e n : Nat) : wordsL (showL j e n) = [wordL j, decDigits e, decDigits n] := words_three (word_free j) (dec_free e) (dec_free n)
theorem dec_inj {a b : Nat} (h : decDigits a = decDigits b) : a = b := by
  have ev : ∀ u, (decDigits u).foldl (fun s c => s * 10 + (c.toNat - 48)) 0 = u := by
    intro u
    induction u using Nat.strongRecOn with
    | ind u ih =>
      by_cases hu : u < 10
      · rw [decDigits_one hu]; simp only [List.foldl_cons, List.foldl_nil, dig_val hu]; omega
      · rw [decDigits, dif_neg hu, List.foldl_append, ih (u / 10) (by omega)]
        simp only [List.foldl_cons, List.foldl_nil, dig_val (show u % 10 < 10 by omega)]; omega
  rw [← ev a, ← ev b, h]
theorem word_inj {i j : Bool} (h : wordL i = wordL j) : i = j := by cases i <;> cases j <;> first | rfl | (exact absurd h (by decide))
theorem show_inj {i j : Bool} {e n e' n' : Nat} (h : showL i e n = showL j e' n') : i = j ∧ e = e' ∧ n = n' := by
  have := words_show i e n
  rw [h, words_show] at this
  injection this with h1 h2
  injection h2 with h2 h3
  injection h3 with h3 _
  exact ⟨(word_inj h1).symm, (dec_inj h2).symm, (dec_inj h3).symm⟩

/-- What the program makes of a command in a configuration's epoch: whether it joins, and the node. -/
def cmdP (e : Nat) (cmd : List UInt8) : Option (Bool × Int) :=
  match wordsL cmd with
  | [a, b, c] => if a = joinL ∨ a = removeL then (match parseUintB 64 b, atoiAll c with
      | .ok u, .ok v => if u = e ∧ showL (decide (a = joinL)) u (max v 0).toNat = cmd then some (decide (a = joinL), v) else none
      | _, _ => none) else none
  | _ => none
theorem cmdP_some {e : Nat} {cmd : List UInt8} {j : Bool} {v : Int} (h : cmdP e cmd = some (j, v)) : ∃ n : Nat, v = (n : Int) ∧ n < 9223372036854775808 ∧ cmd = showL j e n := by
  unfold cmdP at h
  split at h
  · rename_i a b c hw
    split at h
    · split at h
      · rename_i u v' hu hv
        split at h
        · rename_i hc
          obtain ⟨rfl, hs⟩ := hc
          injection h with h
          injection h with h1 h2
          subst h2
          have hb := atoiAll_bounds hv
          have h3 := words_show (decide (a = joinL)) u (max v' 0).toNat
          rw [hs, hw] at h3
          injection h3 with _ h3
          injection h3 with _ h3
          injection h3 with h3 _
          rw [h3, atoi_dec (by omega)] at hv
          injection hv with hv
          exact ⟨(max v' 0).toNat, by omega, by omega, by rw [← hs, h1]⟩
        · cases h
      · cases h
    · cases h
  · cases h
theorem cmdP_show {j : Bool} {e n : Nat} (he : e < 18446744073709551616) (hn : n < 9223372036854775808) : cmdP e (showL j e n) = some (j, (n : Int)) := by
  unfold cmdP
  rw [words_show]
  simp only [parseB_dec he, atoi_dec hn]
  have hj : decide (wordL j = joinL) = j := by cases j <;> decide
  have hor : wordL j = joinL ∨ wordL j = removeL := by cases j; exact .inr rfl; exact .inl rfl
  rw [if_pos hor, hj]
  simp
end Go.Proofs.YtecniafnihpjmaaGreatDoor.C

/- Chapter 23 (config): plain laws on configurations: which may be, removing, joining, folding commands. -/
namespace Go.Proofs.YtecniafnihpjmaaGreatDoor.C
open Go.Lib
set_option linter.unusedVariables false

structure Cfg where
  e : Nat
  ms : List Int
def lastE : Nat := 4611686018427387904
def eForm : Int := 230
def eNode : Int := 231
def eOne : Int := 232
def eMany : Int := 233
def memB (n : Int) : Bool := decide (0 ≤ n) && decide (n ≤ 63)
/-- May its members be? -/
def goodL : List Int → Bool
  | [] => true
  | n :: l => memB n && !l.contains n && goodL l
def chkC (c : Cfg) : Bool := decide (1 ≤ c.e) && decide (c.e ≤ lastE) && decide (1 ≤ c.ms.length) && decide (c.ms.length ≤ 7) && goodL c.ms
theorem good_iff : ∀ l : List Int, goodL l = true ↔ (∀ n ∈ l, memB n = true) ∧ l.Nodup
  | [] => by simp [goodL]
  | n :: l => by
    rw [goodL, Bool.and_eq_true, Bool.and_eq_true, good_iff l]
    simp only [List.mem_cons, List.nodup_cons, Bool.not_eq_true', List.contains_eq_mem, decide_eq_false_iff_not]
    constructor
    · rintro ⟨⟨a, b⟩, c, d⟩
      exact ⟨fun m hm => by rcases hm with rfl | hm; exact a; exact c m hm, b, d⟩
    · rintro ⟨a, b, c⟩
      exact ⟨⟨a n (.inl rfl), b⟩, fun m hm => a m (.inr hm), c⟩
theorem good_take {l : List Int} (k : Nat) (h : goodL l = true) : goodL (l.take k) = true := by
  rw [good_iff] at h ⊢
  exact ⟨fun n hn => h.1 n (List.mem_of_mem_take hn), h.2.sublist (List.take_sublist k l)⟩
theorem good_snoc {l : List Int} {n : Int} : goodL (l ++ [n]) = (goodL l && memB n && !l.contains n) := by
  rw [Bool.eq_iff_iff, Bool.and_eq_true, Bool.and_eq_true, good_iff, good_iff, List.nodup_append]
  simp only [List.mem_append, List.mem_singleton, Bool.not_eq_true', List.contains_eq_mem, decide_eq_false_iff_not]
  constructor
  · rintro ⟨a, b, _, c⟩
    exact ⟨⟨⟨fun m hm => a m (.inl hm), b⟩, a n (.inr rfl)⟩, fun hm => c n hm n rfl rfl⟩
  · rintro ⟨⟨⟨a, b⟩, c⟩, d⟩
    exact ⟨fun m hm => by rcases hm with hm | rfl; exact a m hm; exact c, b, by simp, fun x hx y hy => by rintro rfl; exact d (hy ▸ hx)⟩
theorem take_snocI {l : List Int} {k : Nat} {x : Int} (h : l[k]? = some x) : l.take (k + 1) = l.take k ++ [x] := by rw [List.take_add_one, h]; rfl
/-- One member more looked at. -/
theorem good_next {l : List Int} {k : Nat} {x : Int} (h : l[k]? = some x) : goodL (l.take (k + 1)) = (goodL (l.take k) && memB x && !(l.take k).contains x) := by rw [take_snocI h, good_snoc]
theorem good_fail {l : List Int} {k : Nat} {x : Int} (h : l[k]? = some x) (hf : memB x = false ∨ (l.take k).contains x = true) : goodL l = false := by
  cases e : goodL l with
  | false => rfl
  | true =>
    have h1 := good_take (k + 1) e
    rw [good_next h] at h1
    rcases hf with hf | hf <;> rw [hf] at h1 <;> simp at h1

/-- A node's place. -/
def placeC (l : List Int) (n : Int) : Int := idxOf l n
theorem idx_from : ∀ (l : List Int) (n : Int) (i : Nat), (n ∉ l ∧ idxFrom l n i = -1) ∨ ∃ k, l[k]? = some n ∧ n ∉ l.take k ∧ idxFrom l n i = ((i + k : Nat) : Int)
  | [], n, i => .inl ⟨by simp, rfl⟩
  | z :: l, n, i => by
    unfold idxFrom
    by_cases h : z = n
    · rw [if_pos h]
      exact .inr ⟨0, by simp [h], by simp, by simp⟩
    · rw [if_neg h]
      rcases idx_from l n (i + 1) with ⟨h1, h2⟩ | ⟨k, h1, h2, h3⟩
      · exact .inl ⟨by simp [h1]; exact fun e => h e.symm, h2⟩
      · refine .inr ⟨k + 1, by simpa using h1, ?_, by rw [h3]; congr 1; omega⟩
        simp only [List.take_succ_cons, List.mem_cons, not_or]
        exact ⟨fun e => h e.symm, h2⟩
theorem place_cases (l : List Int) (n : Int) : (n ∉ l ∧ placeC l n = -1) ∨ ∃ k, k < l.length ∧ l[k]? = some n ∧ n ∉ l.take k ∧ placeC l n = (k : Int) := by
  rcases idx_from l n 0 with h | ⟨k, h1, h2, h3⟩
  · exact .inl h
  · exact .inr ⟨k, (List.getElem?_eq_some_iff.1 h1).1, h1, h2, by unfold placeC idxOf; rw [h3]; simp⟩
theorem place_neg {l : List Int} {n : Int} : placeC l n < 0 ↔ n ∉ l := by
  rcases place_cases l n with ⟨h1, h2⟩ | ⟨k, h1, h2, h3, h4⟩
  · exact ⟨fun _ => h1, fun _ => by omega⟩
  · exact ⟨fun h => by omega, fun h => absurd (List.mem_of_getElem? h2) h⟩

/-- What removing answers: a configuration, or why not. -/
def remC (c : Cfg) (n : Int) : Cfg × Int :=
  if chkC c = false ∨ c.e = lastE then (⟨0, []⟩, eForm)
  else if placeC c.ms n < 0 then (⟨0, []⟩, eNode)
  else if c.ms.length = 1 then (⟨0, []⟩, eOne)
  else (⟨c.e + 1, c.ms.eraseIdx (placeC c.ms n).toNat⟩, 0)
def joinC (c : Cfg) (n : Int) : Cfg × Int :=
  if chkC c = false ∨ c.e = lastE ∨ memB n = false then (⟨0, []⟩, eForm)
  else if 0 ≤ placeC c.ms n then (⟨0, []⟩, eNode)
  else if c.ms.length = 7 then (⟨0, []⟩, eMany)
  else (⟨c.e + 1, c.ms ++ [n]⟩, 0)
theorem erase_filter {l : List Int} (h : l.Nodup) {n : Int} {k : Nat} (hk : l[k]? = some n) : l.eraseIdx k = l.filter (fun m => decide (m ≠ n)) := by
  induction l generalizing k with
  | nil => simp at hk
  | cons z l ih =>
    obtain ⟨h1, h2⟩ := List.nodup_cons.1 h
    cases k with
    | zero =>
      simp only [List.getElem?_cons_zero, Option.some.injEq] at hk
      subst hk
      rw [List.eraseIdx_cons_zero, List.filter_cons_of_neg (by simp)]
      rw [List.filter_eq_self.2]
      intro m hm
      have : m ≠ z := fun e => h1 (e ▸ hm)
      simpa using this
    | succ k =>
      simp only [List.getElem?_cons_succ] at hk
      have hz : z ≠ n := fun e => h1 (e ▸ List.mem_of_getElem? hk)
      rw [List.eraseIdx_cons_succ, List.filter_cons_of_pos (by simpa using hz), ih h2 hk]
theorem chk_parts {c : Cfg} (h : chkC c = true) : 1 ≤ c.e ∧ c.e ≤ lastE ∧ 1 ≤ c.ms.length ∧ c.ms.length ≤ 7 ∧ (∀ n ∈ c.ms, memB n = true) ∧ c.ms.Nodup := by
  simp only [chkC, Bool.and_eq_true, decide_eq_true_eq, good_iff] at h
  obtain ⟨⟨⟨⟨a, b⟩, d⟩, e⟩, f, g⟩ := h
  exact ⟨a, b, d, e, f, g⟩
theorem chk_mk {c : Cfg} (h : 1 ≤ c.e ∧ c.e ≤ lastE ∧ 1 ≤ c.ms.length ∧ c.ms.length ≤ 7 ∧ (∀ n ∈ c.ms, memB n = true) ∧ c.ms.Nodup) : chkC c = true := by
  simp only [chkC, Bool.and_eq_true, decide_eq_true_eq, good_iff]
  obtain ⟨a, b, d, e, f, g⟩ := h
  exact ⟨⟨⟨⟨a, b⟩, d⟩, e⟩, f, g⟩
theorem chk_bad {c : Cfg} (h : ¬ (1 ≤ c.e ∧ c.e ≤ lastE ∧ 1 ≤ c.ms.length ∧ c.ms.length ≤ 7)) : chkC c = false := by
  cases e : chkC c with
  | false => rfl
  | true => obtain ⟨a, b, d, f, _⟩ := chk_parts e; exact absurd ⟨a, b, d, f⟩ h
theorem chk_good {c : Cfg} (h1 : 1 ≤ c.e) (h2 : c.e ≤ lastE) (h3 : 1 ≤ c.ms.length) (h4 : c.ms.length ≤ 7) : chkC c = goodL c.ms := by simp [chkC, h1, h2, h3, h4]
/-- Each member is asked for in turn: removing as the document does it. -/
theorem rem_filter {c : Cfg} {n : Int} (h : chkC c = true) (hn : ¬ placeC c.ms n < 0) : c.ms.eraseIdx (placeC c.ms n).toNat = c.ms.filter (fun m => decide (m ≠ n)) := by
  rcases place_cases c.ms n with ⟨h1, h2⟩ | ⟨k, h1, h2, h3, h4⟩
  · omega
  · rw [h4, Int.toNat_natCast]
    exact erase_filter (chk_parts h).2.2.2.2.2 h2
theorem rem_chk {c d : Cfg} {n : Int} (h : remC c n = (d, 0)) : chkC c = true ∧ chkC d = true ∧ d.e = c.e + 1 ∧ d.ms = c.ms.filter (fun m => decide (m ≠ n)) ∧ d.ms.length + 1 = c.ms.length := by
  unfold remC at h
  split at h
  · simp [eForm] at h
  · rename_i h0
    split at h
    · simp [eNode] at h
    · rename_i h1
      split at h
      · simp [eOne] at h
      · rename_i h2
        injection h with h _
        subst h
        have hc : chkC c = true := by simpa using fun e => h0 (.inl e)
        have hl : c.e ≠ lastE := fun e => h0 (.inr e)
        obtain ⟨a, b, d, e, f, g⟩ := chk_parts hc
        have hlen : (c.ms.eraseIdx (placeC c.ms n).toNat).length + 1 = c.ms.length := by
          rcases place_cases c.ms n with ⟨_, h⟩ | ⟨k, hk, _, _, h⟩
          · omega
          · rw [h, Int.toNat_natCast, List.length_eraseIdx_of_lt hk]; omega
        refine ⟨hc, chk_mk ⟨by show 1 ≤ c.e + 1; omega, by show c.e + 1 ≤ lastE; omega, by show 1 ≤ (List.eraseIdx _ _).length; omega, by show (List.eraseIdx _ _).length ≤ 7; omega, fun m hm => f m (List.mem_of_mem_eraseIdx hm), g.sublist (List.eraseIdx_sublist ..)⟩, rfl, rem_filter hc h1, hlen⟩
theorem join_chk {c d : Cfg} {n : Int} (h : joinC c n = (d, 0)) : chkC c = true ∧ chkC d = true ∧ d.e = c.e + 1 := by
  unfold joinC at h
  split at h
  · simp [eForm] at h
  · rename_i h0
    split at h
    · simp [eNode] at h
    · rename_i h1
      split at h
      · simp [eMany] at h
      · rename_i h2
        injection h with h _
        subst h
        have hc : chkC c = true := by simpa using fun e => h0 (.inl e)
        have hl : c.e ≠ lastE := fun e => h0 (.inr (.inl e))
        have hm : memB n = true := by simpa using fun e => h0 (.inr (.inr e))
        obtain ⟨a, b, d, e, f, g⟩ := chk_parts hc
        have hni : n ∉ c.ms := place_neg.1 (by omega)
        refine ⟨hc, chk_mk ⟨by show 1 ≤ c.e + 1; omega, by show c.e + 1 ≤ lastE; omega, by simp, by simp; omega, ?_, ?_⟩, rfl⟩
        · intro m hm'
          rcases List.mem_append.1 hm' with h | h
          · exact f m h
          · rw [List.mem_singleton.1 h]; exact hm
        · refine List.nodup_append.2 ⟨g, by simp, fun x hx y hy => ?_⟩
          rw [List.mem_singleton.1 hy]
          rintro rfl
          exact hni hx

/-- A command's answer, taken where it is none's. -/
def applyC (c : Cfg) (r : Cfg × Int) : Cfg := if r.2 = 0 then r.1 else c
def actC (c : Cfg) (j : Bool) (n : Int) : Cfg := applyC c (if j then joinC c n else remC c n)
def stepC (c : Cfg) (cmd : List UInt8) : Cfg := match cmdP c.e cmd with
  | some (j, n) => actC c j n
  | none => c
def foldC (c : Cfg) (l : List (List UInt8)) : Cfg := l.foldl stepC c
theorem act_far {c : Cfg} {j : Bool} {n : Int} (h : 63 < n) : actC c j n = c := by
  have hm : memB n = false := by simp [memB]; omega
  cases j with
  | true => simp [actC, joinC, hm, applyC, eForm]
  | false =>
    have h2 : (remC c n).2 ≠ 0 := by
      unfold remC
      split
      · simp [eForm]
      · rename_i h0
        have hc : chkC c = true := by simpa using fun e => h0 (.inl e)
        have : placeC c.ms n < 0 := place_neg.2 fun hn => by
          have := (chk_parts hc).2.2.2.2.1 n hn
          rw [hm] at this
          cases this
        rw [if_pos this]
        simp [eNode]
    show (if (remC c n).2 = 0 then (remC c n).1 else c) = c
    rw [if_neg h2]
/-- A command is none's: it is no node's below 64. -/
theorem step_none {c : Cfg} {cmd : List UInt8} (h : ∀ (j : Bool) (n : Nat), n < 64 → cmd ≠ showL j c.e n) : stepC c cmd = c := by
  unfold stepC
  cases e : cmdP c.e cmd with
  | none => rfl
  | some p =>
    obtain ⟨j, v⟩ := p
    obtain ⟨n, rfl, hn, hs⟩ := cmdP_some e
    rcases Nat.lt_or_ge n 64 with h64 | h64
    · exact absurd hs (h j n h64)
    · exact act_far (by omega)
theorem step_show {c : Cfg} {j : Bool} {n : Nat} (he : c.e < 18446744073709551616) (hn : n < 64) : stepC c (showL j c.e n) = actC c j n := by
  unfold stepC
  rw [cmdP_show he (by omega)]
theorem act_chk {c : Cfg} {j : Bool} {n : Int} (hc : chkC c = true) : chkC (actC c j n) = true ∧ (actC c j n = c ∨ (actC c j n).e = c.e + 1) := by
  unfold actC applyC
  cases j with
  | true =>
    simp only [if_true]
    split
    · rename_i h
      obtain ⟨_, a, b⟩ := join_chk (c := c) (d := (joinC c n).1) (n := n) (by rw [← h])
      exact ⟨a, .inr b⟩
    · exact ⟨hc, .inl rfl⟩
  | false =>
    simp only [Bool.false_eq_true, if_false]
    split
    · rename_i h
      obtain ⟨_, a, b, _⟩ := rem_chk (c := c) (d := (remC c n).1) (n := n) (by rw [← h])
      exact ⟨a, .inr b⟩
    · exact ⟨hc, .inl rfl⟩
theorem step_chk {c : Cfg} {cmd : List UInt8} (hc : chkC c = true) : chkC (stepC c cmd) = true ∧ (stepC c cmd = c ∨ (stepC c cmd).e = c.e + 1) := by
  unfold stepC
  split
  · exact act_chk hc
  · exact ⟨hc, .inl rfl⟩
end Go.Proofs.YtecniafnihpjmaaGreatDoor.C
