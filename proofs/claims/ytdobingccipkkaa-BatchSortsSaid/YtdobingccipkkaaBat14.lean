/- Chapter 5 (batch): the plain laws of bytes: what is read is what the document reads; put and read again. -/
import Derived.Test.YtdobingccipkkaaBat9
namespace Go.Proofs.Ytdobingccipkkaa
open Go.RowKit Go.Lap
set_option linter.unusedVariables false

theorem countR_err (bs : List UInt8) (most : Int) {err : Int} (h : err ≠ 0) : countR bs err most = (0, bs, err) := by
  unfold countR
  rw [if_neg (fun h1 => h h1.1)]
  unfold belowErr
  rw [if_neg h]
theorem rdW_err (bs : List UInt8) {err : Int} (h : err ≠ 0) : (rdW bs err).2 = (bs, err) := by
  unfold rdW
  simp only [textR_err bs h, flagR_err bs h]
  rw [if_neg (by decide)]
theorem rdWs_err (bs : List UInt8) {err : Int} (h : err ≠ 0) : ∀ n, (rdWs n bs err).2 = (bs, err)
  | 0 => rfl
  | n + 1 => by
    show (rdWs n (rdW bs err).2.1 (rdW bs err).2.2).2 = _
    rw [rdW_err bs h]
    exact rdWs_err bs h n

/-- The end of the reading, as the code does it. -/
def endC (c r s : Nat) (acc : List Wri) (ws : List Wri × List UInt8 × Int) : Option BatR := if endR ws.2.1 ws.2.2 = 0 then if chk (acc ++ ws.1) = 0 then some ⟨c, r, s, acc ++ ws.1⟩ else none else none
theorem endC_err (c r s : Nat) (acc : List Wri) {ws : List Wri × List UInt8 × Int} (h : ws.2.2 ≠ 0) : endC c r s acc ws = none := by
  unfold endC
  rw [endR_err _ h, if_neg h]
theorem fin_same (c r s : Nat) : ∀ (n : Nat) (acc : List Wri) (bs : List UInt8), endC c r s acc (rdWs n bs 0) = finR c r s acc n bs
  | 0, acc, bs => by
    unfold endC finR
    simp only [rdWs, List.append_nil]
    by_cases h : bs = []
    · rw [if_pos ((endR_zero bs).2 h), if_pos h]
    · rw [if_neg (fun e => h ((endR_zero bs).1 e)), if_neg h]
  | n + 1, acc, bs => by
    have hstep : endC c r s acc (rdWs (n + 1) bs 0) = endC c r s (acc ++ [(rdW bs 0).1]) (rdWs n (rdW bs 0).2.1 (rdW bs 0).2.2) := by
      unfold endC
      show (if endR (rdWs n (rdW bs 0).2.1 (rdW bs 0).2.2).2.1 (rdWs n (rdW bs 0).2.1 (rdW bs 0).2.2).2.2 = 0 then _ else _) = _
      simp only [rdWs, List.append_assoc, List.singleton_append]
      rfl
    have hbad : (rdW bs 0).2.2 ≠ 0 → endC c r s acc (rdWs (n + 1) bs 0) = none := fun h => by
      rw [hstep]
      exact endC_err _ _ _ _ (by rw [rdWs_err _ h]; exact h)
    show _ = (rdWR bs).bind fun p => finR c r s (acc ++ [p.1]) n p.2
    have e1 : rdW bs 0 = if (flagR (textR bs 0).2.1 (textR bs 0).2.2).1 = true then (⟨str (textR bs 0).1, str [], true⟩, (flagR (textR bs 0).2.1 (textR bs 0).2.2).2) else (⟨str (textR bs 0).1, str (textR (flagR (textR bs 0).2.1 (textR bs 0).2.2).2.1 (flagR (textR bs 0).2.1 (textR bs 0).2.2).2.2).1, false⟩, (textR (flagR (textR bs 0).2.1 (textR bs 0).2.2).2.1 (flagR (textR bs 0).2.1 (textR bs 0).2.2).2.2).2) := rfl
    unfold rdWR
    generalize hr1 : textR bs 0 = r1 at *
    obtain ⟨s1, b1, e⟩ := r1
    simp only at e1 ⊢
    by_cases h1 : e = 0
    case neg =>
      rw [if_neg h1]
      refine hbad ?_
      rw [e1, flagR_err _ h1, textR_err _ h1]
      simpa using h1
    subst h1
    rw [if_pos rfl]
    generalize hr2 : flagR b1 0 = r2 at *
    obtain ⟨yes, b2, e⟩ := r2
    simp only at e1 ⊢
    by_cases h2 : e = 0
    case neg =>
      rw [if_neg h2]
      refine hbad ?_
      rw [e1, textR_err _ h2]
      cases yes <;> simpa using h2
    subst h2
    rw [if_pos rfl]
    cases yes with
    | true =>
      rw [if_pos rfl] at e1 ⊢
      rw [hstep, e1]
      exact fin_same c r s n _ _
    | false =>
      rw [if_neg (by decide)] at e1 ⊢
      generalize hr3 : textR b2 0 = r3 at *
      obtain ⟨s3, b3, e⟩ := r3
      simp only at e1 ⊢
      by_cases h3 : e = 0
      case neg =>
        rw [if_neg h3]
        refine hbad ?_
        rw [e1]
        exact h3
      subst h3
      rw [if_pos rfl, hstep, e1]
      exact fin_same c r s n _ _

theorem getC_getR (bs : List UInt8) : getC bs = getR bs := by
  have e : getC bs = endC (numR bs 0).1 (numR (numR bs 0).2.1 (numR bs 0).2.2).1 (numR (numR (numR bs 0).2.1 (numR bs 0).2.2).2.1 (numR (numR bs 0).2.1 (numR bs 0).2.2).2.2).1 [] (rdWs (countR (numR (numR (numR bs 0).2.1 (numR bs 0).2.2).2.1 (numR (numR bs 0).2.1 (numR bs 0).2.2).2.2).2.1 (numR (numR (numR bs 0).2.1 (numR bs 0).2.2).2.1 (numR (numR bs 0).2.1 (numR bs 0).2.2).2.2).2.2 8).1 (countR (numR (numR (numR bs 0).2.1 (numR bs 0).2.2).2.1 (numR (numR bs 0).2.1 (numR bs 0).2.2).2.2).2.1 (numR (numR (numR bs 0).2.1 (numR bs 0).2.2).2.1 (numR (numR bs 0).2.1 (numR bs 0).2.2).2.2).2.2 8).2.1 (countR (numR (numR (numR bs 0).2.1 (numR bs 0).2.2).2.1 (numR (numR bs 0).2.1 (numR bs 0).2.2).2.2).2.1 (numR (numR (numR bs 0).2.1 (numR bs 0).2.2).2.1 (numR (numR bs 0).2.1 (numR bs 0).2.2).2.2).2.2 8).2.2) := rfl
  rw [e]
  clear e
  unfold getR
  generalize numR bs 0 = r1
  obtain ⟨n1, b1, e1⟩ := r1
  simp only
  by_cases h1 : e1 = 0
  case neg => rw [if_neg h1, numR_err _ h1, numR_err _ h1, countR_err _ _ h1]; exact endC_err _ _ _ _ h1
  subst h1
  rw [if_pos rfl]
  generalize numR b1 0 = r2
  obtain ⟨n2, b2, e2⟩ := r2
  simp only
  by_cases h2 : e2 = 0
  case neg => rw [if_neg h2, numR_err _ h2, countR_err _ _ h2]; exact endC_err _ _ _ _ h2
  subst h2
  rw [if_pos rfl]
  generalize numR b2 0 = r3
  obtain ⟨n3, b3, e3⟩ := r3
  simp only
  by_cases h3 : e3 = 0
  case neg => rw [if_neg h3, countR_err _ _ h3]; exact endC_err _ _ _ _ h3
  subst h3
  rw [if_pos rfl, countR_num]
  generalize numR b3 0 = r4
  obtain ⟨n4, b4, e4⟩ := r4
  simp only
  by_cases h4 : e4 = 0
  case neg => rw [if_neg h4, if_neg h4]; exact endC_err _ _ _ _ h4
  subst h4
  rw [if_pos rfl, if_pos rfl]
  by_cases h8 : 8 < n4
  · rw [if_pos h8, if_neg (by omega)]
    exact endC_err _ _ _ _ (by show (32 : Int) ≠ 0; decide)
  · rw [if_neg h8, if_pos (by omega)]
    exact fin_same _ _ _ _ _ _

theorem val_nil {s : ByteArray} (h : s.size = 0) : s = ⟨#[]⟩ := by
  obtain ⟨⟨l⟩⟩ := s
  cases l with
  | nil => rfl
  | cons x l => simp [ByteArray.size] at h

theorem rdWR_enc {x : Wri} (h : chk1 x = 0) (rest : List UInt8) : rdWR (encW x ++ rest) = some (x, rest) := by
  obtain ⟨h1, h2, h3, h4⟩ := chk1_ok h
  obtain ⟨key, val, gone⟩ := x
  simp only at h1 h2 h3 h4
  have e1 : encW ⟨key, val, gone⟩ ++ rest = varB key.size ++ key.data.toList ++ (varB (flagN gone) ++ ((if gone then [] else varB val.size ++ val.data.toList) ++ rest)) := by simp [encW]
  unfold rdWR
  rw [e1, textR_enc _ _ (by omega)]
  dsimp only
  rw [if_pos rfl, flagR_enc]
  dsimp only
  rw [if_pos rfl]
  cases gone with
  | true =>
    rw [if_pos rfl, str_data, val_nil (h4 rfl)]
    simp
  | false =>
    rw [if_neg (by decide)]
    have e2 : (if false = true then [] else varB val.size ++ val.data.toList) ++ rest = varB val.size ++ val.data.toList ++ rest := by simp
    rw [e2, textR_enc _ _ (by omega)]
    dsimp only
    rw [if_pos rfl, str_data, str_data]

theorem finR_enc (c r s : Nat) : ∀ (l acc : List Wri), (∀ x ∈ l, chk1 x = 0) → finR c r s acc l.length (l.flatMap encW) = if chk (acc ++ l) = 0 then some ⟨c, r, s, acc ++ l⟩ else none
  | [], acc, _ => by
    show (if ([] : List UInt8) = [] then _ else _) = _
    rw [if_pos rfl, List.append_nil]
  | x :: l, acc, h => by
    show (rdWR (encW x ++ l.flatMap encW)).bind _ = _
    rw [rdWR_enc (h x (by simp))]
    show finR c r s (acc ++ [x]) l.length (l.flatMap encW) = _
    rw [finR_enc c r s l (acc ++ [x]) (fun y hy => h y (by simp [hy])), List.append_assoc, List.singleton_append]

/-- What was put is read again. -/
theorem getR_enc {c r s : Nat} {l : List Wri} (hc : c < 18446744073709551616) (hr : r < 18446744073709551616) (hs : s < 18446744073709551616) (h : chk l = 0) : getR (encB c r s l) = some ⟨c, r, s, l⟩ := by
  obtain ⟨h1, h2, h3⟩ := chk_ok h
  have e : encB c r s l = varB c ++ (varB r ++ (varB s ++ (varB l.length ++ l.flatMap encW))) := by simp [encB, encH]
  unfold getR
  rw [e, numR_enc _ _ hc]
  dsimp only
  rw [if_pos rfl, numR_enc _ _ hr]
  dsimp only
  rw [if_pos rfl, numR_enc _ _ hs]
  dsimp only
  rw [if_pos rfl, numR_enc _ _ (by omega)]
  dsimp only
  rw [if_pos rfl, if_neg (by omega), finR_enc _ _ _ _ _ h3, List.nil_append, if_pos h]

theorem rdWR_back {bs rest : List UInt8} {x : Wri} (h : rdWR bs = some (x, rest)) : encW x ++ rest = bs := by
  unfold rdWR at h
  split at h
  case isFalse => cases h
  rename_i h1
  split at h
  case isFalse => cases h
  rename_i h2
  have k1 := textR_back h1
  have k2 := flagR_back h2
  split at h
  · rename_i hy
    cases h
    rw [hy] at k2
    have e : encW ⟨str (textR bs 0).1, ⟨#[]⟩, true⟩ = varB (textR bs 0).1.length ++ (textR bs 0).1 ++ varB (flagN true) := by simp [encW, str_size, str_list]
    rw [e, List.append_assoc, k2, k1.2]
  · rename_i hy
    have hy' : (flagR (textR bs 0).2.1 0).1 = false := by simpa using hy
    split at h
    case isFalse => cases h
    rename_i h3
    have k3 := textR_back h3
    cases h
    rw [hy'] at k2
    have e : ∀ t : List UInt8, encW ⟨str (textR bs 0).1, str t, false⟩ = varB (textR bs 0).1.length ++ (textR bs 0).1 ++ (varB (flagN false) ++ (varB t.length ++ t)) := fun t => by simp [encW, str_size, str_list]
    rw [e]
    simp only [List.append_assoc] at k1 k2 k3 ⊢
    rw [k3.2, k2, k1.2]

theorem finR_back (c r s : Nat) : ∀ (n : Nat) (acc : List Wri) (bs : List UInt8) (b : BatR), finR c r s acc n bs = some b → b.c = c ∧ b.r = r ∧ b.s = s ∧ chk b.l = 0 ∧ ∃ l, b.l = acc ++ l ∧ l.length = n ∧ l.flatMap encW = bs
  | 0, acc, bs, b, h => by
    have e : finR c r s acc 0 bs = if bs = [] then if chk acc = 0 then some ⟨c, r, s, acc⟩ else none else none := rfl
    rw [e] at h
    split at h
    case isFalse => cases h
    rename_i hb
    split at h
    case isFalse => cases h
    rename_i hc
    cases h
    exact ⟨rfl, rfl, rfl, hc, [], by simp, rfl, hb.symm⟩
  | n + 1, acc, bs, b, h => by
    have e : finR c r s acc (n + 1) bs = (rdWR bs).bind fun p => finR c r s (acc ++ [p.1]) n p.2 := rfl
    rw [e] at h
    obtain ⟨⟨x, rest⟩, hx, h⟩ := Option.bind_eq_some_iff.1 h
    obtain ⟨h1, h2, h3, h4, l, h5, h6, h7⟩ := finR_back c r s n _ _ _ h
    refine ⟨h1, h2, h3, h4, x :: l, by rw [h5]; simp, by simp [h6], ?_⟩
    rw [List.flatMap_cons, h7]
    exact rdWR_back hx

/-- What is read, put again, is what was read. -/
theorem getR_back {bs : List UInt8} {b : BatR} (h : getR bs = some b) : b.c < 18446744073709551616 ∧ b.r < 18446744073709551616 ∧ b.s < 18446744073709551616 ∧ chk b.l = 0 ∧ encB b.c b.r b.s b.l = bs := by
  unfold getR at h
  split at h
  case isFalse => cases h
  rename_i h1
  split at h
  case isFalse => cases h
  rename_i h2
  split at h
  case isFalse => cases h
  rename_i h3
  split at h
  case isFalse => cases h
  rename_i h4
  split at h
  case isTrue => cases h
  have k1 := numR_back h1
  have k2 := numR_back h2
  have k3 := numR_back h3
  have k4 := numR_back h4
  obtain ⟨g1, g2, g3, g4, l, g5, g6, g7⟩ := finR_back _ _ _ _ _ _ _ h
  rw [List.nil_append] at g5
  refine ⟨by rw [g1]; exact k1.1, by rw [g2]; exact k2.1, by rw [g3]; exact k3.1, g4, ?_⟩
  rw [g1, g2, g3, g5]
  show varB _ ++ varB _ ++ varB _ ++ varB l.length ++ l.flatMap encW = bs
  rw [g6, g7]
  simp only [List.append_assoc]
  rw [k4.2, k3.2, k2.2, k1.2]
end Go.Proofs.Ytdobingccipkkaa
