/- Chapter 23 (config): plain laws on commands: decimal digits, what is parsed of them, a command's three words. -/
import Derived.Lib.SplitLaws
import Derived.Lib.CountLaws
import Derived.Lib.AtoiAllCases
import Derived.Lib.ParseIntB
import Derived.Lib.ItoaNum
import Derived.Lib.Slices
import Derived.Lib.IndexLaws
namespace Go.Proofs.YtlhlcdjkacglnaaGreatDoor.C
open Go.Lib
set_option linter.unusedVariables false

/-- The words of a text. -/
def wordsL (s : List UInt8) : List (List UInt8) := splitK [32] 0 (count s [32]) s
def joinL : List UInt8 := [106, 111, 105, 110]
def removeL : List UInt8 := [114, 101, 109, 111, 118, 101]
def wordL (j : Bool) : List UInt8 := if j then joinL else removeL
/-- A command. -/
def showL (j : Bool) (e n : Nat) : List UInt8 := wordL j ++ 32 :: (decDigits e ++ 32 :: decDigits n)
/-- What the program makes of a command in a configuration's epoch: whether it joins, and the node. -/
def cmdP (e : Nat) (cmd : List UInt8) : Option (Bool × Int) :=
  match wordsL cmd with
  | [a, b, c] => if a = joinL ∨ a = removeL then (match parseUintB 64 b, atoiAll c with
      | .ok u, .ok v => if u = e ∧ showL (decide (a = joinL)) u (max v 0).toNat = cmd then some (decide (a = joinL), v) else none
      | _, _ => none) else none
  | _ => none
end Go.Proofs.YtlhlcdjkacglnaaGreatDoor.C
/- Chapter 23 (config): plain laws on configurations: which may be, removing, joining, folding commands. -/
namespace Go.Proofs.YtlhlcdjkacglnaaGreatDoor.C
open Go.Lib
set_option linter.unusedVariables false

structure Cfg where
  e : Nat
  ms : List Int
def lastE : Nat := 4611686018427387904
def eForm : Int := 230
def eNode : Int := 231
def eOne : Int := 232
def eMany : Int := 233
def memB (n : Int) : Bool := decide (0 ≤ n) && decide (n ≤ 63)
/-- May its members be? -/
def goodL : List Int → Bool
  | [] => true
  | n :: l => memB n && !l.contains n && goodL l
def chkC (c : Cfg) : Bool := decide (1 ≤ c.e) && decide (c.e ≤ lastE) && decide (1 ≤ c.ms.length) && decide (c.ms.length ≤ 7) && goodL c.ms
theorem good_iff : ∀ l : List Int, goodL l = true ↔ (∀ n ∈ l, memB n = true) ∧ l.Nodup
  | [] => by simp [goodL]
  | n :: l => by
    rw [goodL, Bool.and_eq_true, Bool.and_eq_true, good_iff l]
    simp only [List.mem_cons, List.nodup_cons, Bool.not_eq_true', List.contains_eq_mem, decide_eq_false_iff_not]
    constructor
    · rintro ⟨⟨a, b⟩, c, d⟩
      exact ⟨fun m hm => by rcases hm with rfl | hm; exact a; exact c m hm, b, d⟩
    · rintro ⟨a, b, c⟩
      exact ⟨⟨a n (.inl rfl), b⟩, fun m hm => a m (.inr hm), c⟩
theorem good_take {l : List Int} (k : Nat) (h : goodL l = true) : goodL (l.take k) = true := by
  rw [good_iff] at h ⊢
  exact ⟨fun n hn => h.1 n (List.mem_of_mem_take hn), h.2.sublist (List.take_sublist k l)⟩
theorem good_snoc {l : List Int} {n : Int} : goodL (l ++ [n]) = (goodL l && memB n && !l.contains n) := by
  rw [Bool.eq_iff_iff, Bool.and_eq_true, Bool.and_eq_true, good_iff, good_iff, List.nodup_append]
  simp only [List.mem_append, List.mem_singleton, Bool.not_eq_true', List.contains_eq_mem, decide_eq_false_iff_not]
  constructor
  · rintro ⟨a, b, _, c⟩
    exact ⟨⟨⟨fun m hm => a m (.inl hm), b⟩, a n (.inr rfl)⟩, fun hm => c n hm n rfl rfl⟩
  · rintro ⟨⟨⟨a, b⟩, c⟩, d⟩
    exact ⟨fun m hm => by rcases hm with hm | rfl; exact a m hm; exact c, b, by simp, fun x hx y hy => by rintro rfl; exact d (hy ▸ hx)⟩
theorem take_snocI {l : List Int} {k : Nat} {x : Int} (h : l[k]? = some x) : l.take (k + 1) = l.take k ++ [x] := by rw [List.take_add_one, h]; rfl
/-- One member more looked at. -/
theorem good_next {l : List Int} {k : Nat} {x : Int} (h : l[k]? = some x) : goodL (l.take (k + 1)) = (goodL (l.take k) && memB x && !(l.take k).contains x) := by rw [take_snocI h, good_snoc]
theorem good_fail {l : List Int} {k : Nat} {x : Int} (h : l[k]? = some x) (hf : memB x = false ∨ (l.take k).contains x = true) : goodL l = false := by
  cases e : goodL l with
  | false => rfl
  | true =>
    have h1 := good_take (k + 1) e
    rw [good_next h] at h1
    rcases hf with hf | hf <;> rw [hf] at h1 <;> simp at h1

/-- A node's place. -/
def placeC (l : List Int) (n : Int) : Int := idxOf l n
theorem idx_from : ∀ (l : List Int) (n : Int) (i : Nat), (n ∉ l ∧ idxFrom l n i = -1) ∨ ∃ k, l[k]? = some n ∧ n ∉ l.take k ∧ idxFrom l n i = ((i + k : Nat) : Int)
  | [], n, i => .inl ⟨by simp, rfl⟩
  | z :: l, n, i => by
    unfold idxFrom
    by_cases h : z = n
    · rw [if_pos h]
      exact .inr ⟨0, by simp [h], by simp, by simp⟩
    · rw [if_neg h]
      rcases idx_from l n (i + 1) with ⟨h1, h2⟩ | ⟨k, h1, h2, h3⟩
      · exact .inl ⟨by simp [h1]; exact fun e => h e.symm, h2⟩
      · refine .inr ⟨k + 1, by simpa using h1, ?_, by rw [h3]; congr 1; omega⟩
        simp only [List.take_succ_cons, List.mem_cons, not_or]
        exact ⟨fun e => h e.symm, h2⟩
theorem place_cases (l : List Int) (n : Int) : (n ∉ l ∧ placeC l n = -1) ∨ ∃ k, k < l.length ∧ l[k]? = some n ∧ n ∉ l.take k ∧ placeC l n = (k : Int) := by
  rcases idx_from l n 0 with h | ⟨k, h1, h2, h3⟩
  · exact .inl h
  · exact .inr ⟨k, (List.getElem?_eq_some_iff.1 h1).1, h1, h2, by unfold placeC idxOf; rw [h3]; simp⟩
theorem place_neg {l : List Int} {n : Int} : placeC l n < 0 ↔ n ∉ l := by
  rcases place_cases l n with ⟨h1, h2⟩ | ⟨k, h1, h2, h3, h4⟩
  · exact ⟨fun _ => h1, fun _ => by omega⟩
  · exact ⟨fun h => by omega, fun h => absurd (List.mem_of_getElem? h2) h⟩

/-- What removing answers: a configuration, or why not. -/
def remC (c : Cfg) (n : Int) : Cfg × Int :=
  if chkC c = false ∨ c.e = lastE then (⟨0, []⟩, eForm)
  else if placeC c.ms n < 0 then (⟨0, []⟩, eNode)
  else if c.ms.length = 1 then (⟨0, []⟩, eOne)
  else (⟨c.e + 1, c.ms.eraseIdx (placeC c.ms n).toNat⟩, 0)
def joinC (c : Cfg) (n : Int) : Cfg × Int :=
  if chkC c = false ∨ c.e = lastE ∨ memB n = false then (⟨0, []⟩, eForm)
  else if 0 ≤ placeC c.ms n then (⟨0, []⟩, eNode)
  else if c.ms.length = 7 then (⟨0, []⟩, eMany)
  else (⟨c.e + 1, c.ms ++ [n]⟩, 0)
theorem erase_filter {l : List Int} (h : l.Nodup) {n : Int} {k : Nat} (hk : l[k]? = some n) : l.eraseIdx k = l.filter (fun m => decide (m ≠ n)) := by
  induction l generalizing k with
  | nil => simp at hk
  | cons z l ih =>
    obtain ⟨h1, h2⟩ := List.nodup_cons.1 h
    cases k with
    | zero =>
      simp only [List.getElem?_cons_zero, Option.some.injEq] at hk
      subst hk
      rw [List.eraseIdx_cons_zero, List.filter_cons_of_neg (by simp)]
      rw [List.filter_eq_self.2]
      intro m hm
      have : m ≠ z := fun e => h1 (e ▸ hm)
      simpa using this
    | succ k =>
      simp only [List.getElem?_cons_succ] at hk
      have hz : z ≠ n := fun e => h1 (e ▸ List.mem_of_getElem? hk)
      rw [List.eraseIdx_cons_succ, List.filter_cons_of_pos (by simpa using hz), ih h2 hk]
theorem chk_parts {c : Cfg} (h : chkC c = true) : 1 ≤ c.e ∧ c.e ≤ lastE ∧ 1 ≤ c.ms.length ∧ c.ms.length ≤ 7 ∧ (∀ n ∈ c.ms, memB n = true) ∧ c.ms.Nodup := by
  simp only [chkC, Bool.and_eq_true, decide_eq_true_eq, good_iff] at h
  obtain ⟨⟨⟨⟨a, b⟩, d⟩, e⟩, f, g⟩ := h
  exact ⟨a, b, d, e, f, g⟩
theorem chk_mk {c : Cfg} (h : 1 ≤ c.e ∧ c.e ≤ lastE ∧ 1 ≤ c.ms.length ∧ c.ms.length ≤ 7 ∧ (∀ n ∈ c.ms, memB n = true) ∧ c.ms.Nodup) : chkC c = true := by
  simp only [chkC, Bool.and_eq_true, decide_eq_true_eq, good_iff]
  obtain ⟨a, b, d, e, f, g⟩ := h
  exact ⟨⟨⟨⟨a, b⟩, d⟩, e⟩, f, g⟩
theorem chk_bad {c : Cfg} (h : ¬ (1 ≤ c.e ∧ c.e ≤ lastE ∧ 1 ≤ c.ms.length ∧ c.ms.length ≤ 7)) : chkC c = false := by
  cases e : chkC c with
  | false => rfl
  | true => obtain ⟨a, b, d, f, _⟩ := chk_parts e; exact absurd ⟨a, b, d, f⟩ h
theorem chk_good {c : Cfg} (h1 : 1 ≤ c.e) (h2 : c.e ≤ lastE) (h3 : 1 ≤ c.ms.length) (h4 : c.ms.length ≤ 7) : chkC c = goodL c.ms := by simp [chkC, h1, h2, h3, h4]
/-- Each member is asked for in turn: removing as the document does it. -/
theorem rem_filter {c : Cfg} {n : Int} (h : chkC c = true) (hn : ¬ placeC c.ms n < 0) : c.ms.eraseIdx (placeC c.ms n).toNat = c.ms.filter (fun m => decide (m ≠ n)) := by
  rcases place_cases c.ms n with ⟨h1, h2⟩ | ⟨k, h1, h2, h3, h4⟩
  · omega
  · rw [h4, Int.toNat_natCast]
    exact erase_filter (chk_parts h).2.2.2.2.2 h2
theorem rem_chk {c d : Cfg} {n : Int} (h : remC c n = (d, 0)) : chkC c = true ∧ chkC d = true ∧ d.e = c.e + 1 ∧ d.ms = c.ms.filter (fun m => decide (m ≠ n)) ∧ d.ms.length + 1 = c.ms.length := by
  unfold remC at h
  split at h
  · simp [eForm] at h
  · rename_i h0
    split at h
    · simp [eNode] at h
    · rename_i h1
      split at h
      · simp [eOne] at h
      · rename_i h2
        injection h with h _
        subst h
        have hc : chkC c = true := by simpa using fun e => h0 (.inl e)
        have hl : c.e ≠ lastE := fun e => h0 (.inr e)
        obtain ⟨a, b, d, e, f, g⟩ := chk_parts hc
        have hlen : (c.ms.eraseIdx (placeC c.ms n).toNat).length + 1 = c.ms.length := by
          rcases place_cases c.ms n with ⟨_, h⟩ | ⟨k, hk, _, _, h⟩
          · omega
          · rw [h, Int.toNat_natCast, List.length_eraseIdx_of_lt hk]; omega
        refine ⟨hc, chk_mk ⟨by show 1 ≤ c.e + 1; omega, by show c.e + 1 ≤ lastE; omega, by show 1 ≤ (List.eraseIdx _ _).length; omega, by show (List.eraseIdx _ _).length ≤ 7; omega, fun m hm => f m (List.mem_of_mem_eraseIdx hm), g.sublist (List.eraseIdx_sublist ..)⟩, rfl, rem_filter hc h1, hlen⟩
theorem join_chk {c d : Cfg} {n : Int} (h : joinC c n = (d, 0)) : chkC c = true ∧ chkC d = true ∧ d.e = c.e + 1 := by
  unfold joinC at h
  split at h
  · simp [eForm] at h
  · rename_i h0
    split at h
    · simp [eNode] at h
    · rename_i h1
      split at h
      · simp [eMany] at h
      · rename_i h2
        injection h with h _
        subst h
        have hc : chkC c = true := by simpa using fun e => h0 (.inl e)
        have hl : c.e ≠ lastE := fun e => h0 (.inr (.inl e))
        have hm : memB n = true := by simpa using fun e => h0 (.inr (.inr e))
        obtain ⟨a, b, d, e, f, g⟩ := chk_parts hc
        have hni : n ∉ c.ms := place_neg.1 (by omega)
        refine ⟨hc, chk_mk ⟨by show 1 ≤ c.e + 1; omega, by show c.e + 1 ≤ lastE; omega, by simp, by simp; omega, ?_, ?_⟩, rfl⟩
        · intro m hm'
          rcases List.mem_append.1 hm' with h | h
          · exact f m h
          · rw [List.mem_singleton.1 h]; exact hm
        · refine List.nodup_append.2 ⟨g, by simp, fun x hx y hy => ?_⟩
          rw [List.mem_singleton.1 hy]
          rintro rfl
          exact hni hx

/-- A command's answer, taken where it is none's. -/
def applyC (c : Cfg) (r : Cfg × Int) : Cfg := if r.2 = 0 then r.1 else c
def actC (c : Cfg) (j : Bool) (n : Int) : Cfg := applyC c (if j then joinC c n else remC c n)
def stepC (c : Cfg) (cmd : List UInt8) : Cfg := match cmdP c.e cmd with
  | some (j, n) => actC c j n
  | none => c
def foldC (c : Cfg) (l : List (List UInt8)) : Cfg := l.foldl stepC c
theorem act_chk {c : Cfg} {j : Bool} {n : Int} (hc : chkC c = true) : chkC (actC c j n) = true ∧ (actC c j n = c ∨ (actC c j n).e = c.e + 1) := by
  unfold actC applyC
  cases j with
  | true =>
    simp only [if_true]
    split
    · rename_i h
      obtain ⟨_, a, b⟩ := join_chk (c := c) (d := (joinC c n).1) (n := n) (by rw [← h])
      exact ⟨a, .inr b⟩
    · exact ⟨hc, .inl rfl⟩
  | false =>
    simp only [Bool.false_eq_true, if_false]
    split
    · rename_i h
      obtain ⟨_, a, b, _⟩ := rem_chk (c := c) (d := (remC c n).1) (n := n) (by rw [← h])
      exact ⟨a, .inr b⟩
    · exact ⟨hc, .inl rfl⟩
theorem step_chk {c : Cfg} {cmd : List UInt8} (hc : chkC c = true) : chkC (stepC c cmd) = true ∧ (stepC c cmd = c ∨ (stepC c cmd).e = c.e + 1) := by
  unfold stepC
  split
  · exact act_chk hc
  · exact ⟨hc, .inl rfl⟩
end Go.Proofs.YtlhlcdjkacglnaaGreatDoor.C
