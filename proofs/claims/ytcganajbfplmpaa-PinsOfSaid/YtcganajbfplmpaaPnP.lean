/- Chapter 18 (pins): the names of bytes, by the code and by the document (plain laws). -/
import Derived.Test.YtcganajbfplmpaaPnOb
namespace Go.Proofs.Ytcganajbfplmpaa
open Go.RowKit Go.Lap
set_option linter.unusedVariables false

theorem lsS_nil (a : ByteArray) : lsS a (str []) = false := by
  unfold lsS
  rw [ByteArray.toList_eq, ByteArray.toList_eq]
  show Op.bytesLess a.data.toList [] = false
  cases a.data.toList <;> rfl
theorem textR_bad {bs : List UInt8} {err : Int} (h : (textR bs err).2.2 ≠ 0) : (textR bs err).1 = [] := by
  unfold textR at h ⊢
  split
  · rename_i h1
    rw [if_pos h1] at h
    split
    · rfl
    · rename_i h2; rw [if_neg h2] at h; exact absurd rfl h
  · rfl
theorem ofRounds_err : ∀ (n : Nat) (E : List Pnm) (last : ByteArray) (bs : List UInt8) (err : Int), err ≠ 0 → ∀ E' bs', ofRounds n E last bs err ≠ some (E', bs', 0)
  | 0, E, last, bs, err, h, E', bs' => by
    intro e
    injection e with e
    injection e with _ e
    injection e with _ e
    exact h e
  | n + 1, E, last, bs, err, h, E', bs' => by
    unfold ofRounds
    rw [textR_err bs h]
    dsimp only
    rw [if_neg (by rw [lsS_nil]; simp)]
    simp
theorem ofRounds_back : ∀ (n : Nat) (E : List Pnm) (last : ByteArray) (bs : List UInt8) (E' : List Pnm) (bs' : List UInt8), ofRounds n E last bs 0 = some (E', bs', 0) → (∀ y ∈ E, y.s = last ∨ lsS y.s last = true) →
    ∃ L, E' = E ++ L ∧ L.length = n ∧ bs = L.flatMap encN ++ bs'
  | 0, E, last, bs, E', bs', h, hl => by
    injection h with e
    injection e with e1 e
    injection e with e2 _
    exact ⟨[], by simp [e1], rfl, by simp [e2]⟩
  | n + 1, E, last, bs, E', bs', h, hl => by
    unfold ofRounds at h
    by_cases hc : lsS last (str (textR bs 0).1) = true ∧ pinErr E (str (textR bs 0).1) = 0
    · rw [if_pos hc] at h
      have h5 : (textR bs 0).2.2 = 0 := Decidable.byContradiction fun hn => by
        have := hc.1
        rw [textR_bad hn, lsS_nil] at this
        cases this
      obtain ⟨hb1, hb2⟩ := textR_back h5
      rw [h5] at h
      have h6 : (numR (textR bs 0).2.1 0).2.2 = 0 := Decidable.byContradiction fun hn => ofRounds_err n _ _ _ _ hn E' bs' h
      obtain ⟨hn1, hn2⟩ := numR_back h6
      rw [h6] at h
      have hlt : ∀ y ∈ E, lsS y.s (str (textR bs 0).1) = true := fun y hy => by
        rcases hl y hy with e | e
        · rw [e]; exact hc.1
        · exact lsS_trans e hc.1
      have hins := ins_last (x := ⟨str (textR bs 0).1, (numR (textR bs 0).2.1 0).1⟩) hlt
      dsimp only at hins
      rw [hins] at h
      obtain ⟨L, e1, e2, e3⟩ := ofRounds_back n _ _ _ E' bs' h (fun y hy => by
        rcases List.mem_append.1 hy with hy | hy
        · exact .inr (hlt y hy)
        · simp at hy; subst hy; exact .inl rfl)
      refine ⟨⟨str (textR bs 0).1, (numR (textR bs 0).2.1 0).1⟩ :: L, by rw [e1]; simp, by rw [List.length_cons, e2], ?_⟩
      have hen : encN ⟨str (textR bs 0).1, (numR (textR bs 0).2.1 0).1⟩ = varB (textR bs 0).1.length ++ (textR bs 0).1 ++ varB (numR (textR bs 0).2.1 0).1 := by
        unfold encN
        rw [str_size, str_list]
      rw [List.flatMap_cons, hen, List.append_assoc, ← e3, List.append_assoc, hn2, hb2]
    · rw [if_neg hc] at h; cases h
theorem countR_back {bs : List UInt8} (h : (countR bs 0 16).2.2 = 0) : bs = varB (countR bs 0 16).1 ++ (countR bs 0 16).2.1 := by
  unfold countR at h ⊢
  split
  · rename_i h1
    exact takeV_back h1.2.1
  · rename_i h1
    rw [if_neg h1] at h
    dsimp only at h
    exfalso
    unfold belowErr at h
    rw [if_pos rfl] at h
    split at h
    · cases h
    · rename_i h2; exact h2 h
theorem ofP_back {bs : List UInt8} {E : List Pnm} (h : ofP bs = some E) : bs = encE E := by
  unfold ofP ofEnd at h
  split at h
  · cases h
  · rename_i E1 bs1 err1 h1
    split at h
    · rename_i h2
      injection h with h
      subst h
      have he : err1 = 0 := by
        by_cases he : err1 = 0
        · exact he
        · rw [endR_err _ he] at h2; exact absurd h2 he
      subst he
      have hb := (endR_zero bs1).1 h2
      subst hb
      have h3 : (countR bs 0 16).2.2 = 0 := Decidable.byContradiction fun hn => ofRounds_err _ _ _ _ _ hn _ _ h1
      rw [h3] at h1
      obtain ⟨L, e1, e2, e3⟩ := ofRounds_back _ _ _ _ _ _ h1 (by simp)
      rw [List.nil_append] at e1
      subst e1
      have := countR_back h3
      rw [e3, List.append_nil] at this
      unfold encE
      rw [e2]
      exact this
    · cases h

/-- The document's reading: so many rounds, and the whole. -/
def lastOk (E : List Pnm) (s : ByteArray) : Bool := match E.getLast? with
  | none => true
  | some y => lsS y.s s
def rOfOk (E : List Pnm) (bs : List UInt8) : Prop := (textR bs 0).2.2 = 0 ∧ (numR (textR bs 0).2.1 0).2.2 = 0 ∧ ¬ (str (textR bs 0).1).size < 1 ∧ ¬ 32 < (str (textR bs 0).1).size ∧ lastOk E (str (textR bs 0).1) = true
instance (E : List Pnm) (bs : List UInt8) : Decidable (rOfOk E bs) := by unfold rOfOk; exact inferInstance
def rOfRounds : Nat → List Pnm → List UInt8 → Option (List Pnm × List UInt8)
  | 0, E, bs => some (E, bs)
  | n + 1, E, bs => if rOfOk E bs then rOfRounds n (E ++ [⟨str (textR bs 0).1, (numR (textR bs 0).2.1 0).1⟩]) (numR (textR bs 0).2.1 0).2.1 else none
def rOf (bs : List UInt8) : Option (List Pnm × List UInt8) := if (numR bs 0).2.2 = 0 ∧ (numR bs 0).1 ≤ 16 then rOfRounds (numR bs 0).1 [] (numR bs 0).2.1 else none

theorem lastOk_all {E : List Pnm} {s : ByteArray} (hs : SrtE E) (h : lastOk E s = true) : ∀ y ∈ E, lsS y.s s = true := by
  intro y hy
  unfold lastOk at h
  have hne : E ≠ [] := fun e => by rw [e] at hy; cases hy
  rw [List.getLast?_eq_some_getLast hne] at h
  dsimp only at h
  have he : E = E.dropLast ++ [E.getLast hne] := (List.dropLast_concat_getLast hne).symm
  rw [he] at hs hy
  rcases List.mem_append.1 hy with hy | hy
  · exact lsS_trans ((List.pairwise_append.1 hs).2.2 y hy _ (List.mem_singleton.2 rfl)) h
  · rw [List.mem_singleton] at hy; subst hy; exact h
theorem lastOk_of {E : List Pnm} {s : ByteArray} (h : ∀ y ∈ E, lsS y.s s = true) : lastOk E s = true := by
  unfold lastOk
  cases hl : E.getLast? with
  | none => rfl
  | some y => exact h y (List.mem_of_getLast? hl)
theorem rOfRounds_back : ∀ (n : Nat) (E : List Pnm) (bs : List UInt8) (E' : List Pnm) (bs' : List UInt8), rOfRounds n E bs = some (E', bs') → SrtE E → (∀ x ∈ E, 0 < x.s.size ∧ x.s.size ≤ 32 ∧ okU x.n) →
    SrtE E' ∧ (∀ x ∈ E', 0 < x.s.size ∧ x.s.size ≤ 32 ∧ okU x.n) ∧ ∃ L, E' = E ++ L ∧ L.length = n ∧ bs = L.flatMap encN ++ bs'
  | 0, E, bs, E', bs', h, hs, hm => by
    injection h with e
    injection e with e1 e2
    subst e1 e2
    exact ⟨hs, hm, [], by simp, rfl, by simp⟩
  | n + 1, E, bs, E', bs', h, hs, hm => by
    unfold rOfRounds at h
    by_cases hc : rOfOk E bs
    · rw [if_pos hc] at h
      obtain ⟨h5, h6, h1, h32, hlo⟩ := hc
      obtain ⟨hb1, hb2⟩ := textR_back h5
      obtain ⟨hn1, hn2⟩ := numR_back h6
      have hlt := lastOk_all hs hlo
      obtain ⟨g1, g2, L, e1, e2, e3⟩ := rOfRounds_back n _ _ E' bs' h (List.pairwise_append.2 ⟨hs, List.pairwise_singleton _ _, fun y hy z hz => by rw [List.mem_singleton] at hz; subst hz; exact hlt y hy⟩) (fun y hy => by
        rcases List.mem_append.1 hy with hy | hy
        · exact hm y hy
        · rw [List.mem_singleton] at hy; subst hy; exact ⟨by dsimp only; omega, by dsimp only; omega, okU_of hn1⟩)
      refine ⟨g1, g2, ⟨str (textR bs 0).1, (numR (textR bs 0).2.1 0).1⟩ :: L, by rw [e1]; simp, by rw [List.length_cons, e2], ?_⟩
      have hen : encN ⟨str (textR bs 0).1, (numR (textR bs 0).2.1 0).1⟩ = varB (textR bs 0).1.length ++ (textR bs 0).1 ++ varB (numR (textR bs 0).2.1 0).1 := by
        unfold encN
        rw [str_size, str_list]
      rw [List.flatMap_cons, hen, List.append_assoc, ← e3, List.append_assoc, hn2, hb2]
    · rw [if_neg hc] at h; cases h
theorem rOfRounds_enc (rest : List UInt8) : ∀ (L E : List Pnm), SrtE (E ++ L) → (∀ x ∈ L, 0 < x.s.size ∧ x.s.size ≤ 32 ∧ okU x.n) → rOfRounds L.length E (L.flatMap encN ++ rest) = some (E ++ L, rest)
  | [], E, hs, hm => by simp [rOfRounds]
  | x :: L, E, hs, hm => by
    have hx := hm x List.mem_cons_self
    have hEx : ∀ y ∈ E, lsS y.s x.s = true := fun y hy => (List.pairwise_append.1 hs).2.2 y hy x List.mem_cons_self
    have he : (x :: L).flatMap encN ++ rest = varB x.s.size ++ x.s.data.toList ++ (varB x.n ++ (L.flatMap encN ++ rest)) := by
      rw [List.flatMap_cons]
      unfold encN
      simp only [List.append_assoc]
    have hst : rOfRounds (x :: L).length E ((x :: L).flatMap encN ++ rest) = rOfRounds (L.length + 1) E ((x :: L).flatMap encN ++ rest) := rfl
    rw [hst, he]
    unfold rOfRounds
    have ht := textR_enc x.s (varB x.n ++ (L.flatMap encN ++ rest)) (by omega)
    have hn := numR_enc x.n (L.flatMap encN ++ rest) (okU_lt hx.2.2)
    have hok : rOfOk E (varB x.s.size ++ x.s.data.toList ++ (varB x.n ++ (L.flatMap encN ++ rest))) := by
      unfold rOfOk
      rw [ht]
      dsimp only
      rw [hn, str_data]
      exact ⟨rfl, rfl, by omega, by omega, lastOk_of hEx⟩
    rw [if_pos hok, ht]
    dsimp only
    rw [hn, str_data]
    have ih := rOfRounds_enc rest L (E ++ [x]) (by simpa using hs) (fun y hy => hm y (List.mem_cons_of_mem _ hy))
    have hxx : (⟨x.s, x.n⟩ : Pnm) = x := rfl
    rw [hxx]
    dsimp only
    rw [ih]
    simp
theorem rOf_enc {E : List Pnm} (h : GoodE E) : rOf (encE E) = some (E, []) := by
  unfold rOf encE
  have hl := h.len
  rw [numR_enc E.length _ (by omega)]
  dsimp only
  rw [if_pos ⟨rfl, hl⟩]
  have := rOfRounds_enc [] E [] (by simpa using h.srt) h.nm
  simpa using this
/-- What the document reads, the code reads; and it is its bytes. -/
theorem rOf_ofP {bs : List UInt8} {E : List Pnm} (h : rOf bs = some (E, [])) : ofP bs = some E ∧ bs = encE E := by
  unfold rOf at h
  split at h
  · rename_i h1
    obtain ⟨hn1, hn2⟩ := numR_back h1.1
    obtain ⟨g1, g2, L, e1, e2, e3⟩ := rOfRounds_back _ _ _ _ _ h List.Pairwise.nil (by simp)
    rw [List.nil_append] at e1
    subst e1
    have hb : bs = encE E := by
      unfold encE
      rw [List.append_nil] at e3
      rw [e2, ← e3]
      exact hn2.symm
    refine ⟨?_, hb⟩
    rw [hb]
    exact ofP_enc ⟨g1, by omega, g2⟩
  · cases h
theorem ofP_rOf {bs : List UInt8} {E : List Pnm} (hE : GoodE E) (h : ofP bs = some E) : rOf bs = some (E, []) := by
  rw [ofP_back h]
  exact rOf_enc hE
end Go.Proofs.Ytcganajbfplmpaa
