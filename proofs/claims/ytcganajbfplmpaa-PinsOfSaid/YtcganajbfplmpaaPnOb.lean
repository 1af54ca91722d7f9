/- Chapter 18 (pins): the names' bytes are read back (plain laws). -/
import Derived.Test.YtcganajbfplmpaaPnO
namespace Go.Proofs.Ytcganajbfplmpaa
open Go.RowKit Go.Lap
set_option linter.unusedVariables false

theorem ins_last : ∀ {E : List Pnm} {x : Pnm}, (∀ y ∈ E, lsS y.s x.s = true) → insP E x.s x.n = E ++ [x]
  | [], x, _ => rfl
  | y :: E, x, h => by
    have h1 := h y List.mem_cons_self
    unfold insP
    rw [if_neg (by rw [lsS_asymm h1]; simp), ins_last fun z hz => h z (List.mem_cons_of_mem _ hz)]
    rfl
theorem pinErr_good {E : List Pnm} {x : Pnm} (h : ∀ y ∈ E, lsS y.s x.s = true) (hl : E.length < 16) (h0 : 0 < x.s.size) (h32 : x.s.size ≤ 32) : pinErr E x.s = 0 := by
  have hn : lookE E x.s = none := lookE_none.2 fun y hy => lsS_ne (h y hy)
  unfold pinErr pinR
  rw [if_neg (by rw [hn]; rintro (h | h | h) <;> first | cases h | omega), if_neg (by omega)]
theorem lsS_empty {s : ByteArray} (h : 0 < s.size) : lsS ⟨#[]⟩ s = true := by
  unfold lsS
  rw [ByteArray.toList_eq, ByteArray.toList_eq]
  obtain ⟨⟨l⟩⟩ := s
  cases l with
  | nil => simp [ByteArray.size] at h
  | cons b l => rfl
theorem ofRounds_enc (rest : List UInt8) : ∀ (L E : List Pnm) (last : ByteArray), GoodE (E ++ L) → (∀ x, L.head? = some x → lsS last x.s = true) →
    ofRounds L.length E last (L.flatMap encN ++ rest) 0 = some (E ++ L, rest, 0)
  | [], E, last, hg, hh => by simp [ofRounds]
  | x :: L, E, last, hg, hh => by
    obtain ⟨hs, hl, hm⟩ := hg
    have hx := hm x (by simp)
    have hEx : ∀ y ∈ E, lsS y.s x.s = true := fun y hy => (List.pairwise_append.1 hs).2.2 y hy x List.mem_cons_self
    have hlen : E.length < 16 := by rw [List.length_append, List.length_cons] at hl; omega
    have he : (x :: L).flatMap encN ++ rest = varB x.s.size ++ x.s.data.toList ++ (varB x.n ++ (L.flatMap encN ++ rest)) := by
      rw [List.flatMap_cons]
      unfold encN
      simp only [List.append_assoc]
    have hst : ofRounds (x :: L).length E last ((x :: L).flatMap encN ++ rest) 0 = ofRounds (L.length + 1) E last ((x :: L).flatMap encN ++ rest) 0 := rfl
    rw [hst, he]
    unfold ofRounds
    rw [textR_enc x.s _ (by omega)]
    dsimp only
    rw [str_data, numR_enc x.n _ (okU_lt hx.2.2)]
    dsimp only
    rw [if_pos ⟨hh x rfl, pinErr_good hEx hlen hx.1 hx.2.1⟩, ins_last hEx]
    have ih := ofRounds_enc rest L (E ++ [x]) x.s ⟨by simpa using hs, by simpa using hl, by simpa using hm⟩ (fun y hy => by
      have hp := (List.pairwise_append.1 hs).2.1
      refine (List.pairwise_cons.1 hp).1 y ?_
      cases L with
      | nil => cases hy
      | cons z L => cases hy; exact List.mem_cons_self)
    rw [ih]
    simp
theorem countR_enc (n : Nat) (rest : List UInt8) (h : n ≤ 16) : countR (varB n ++ rest) 0 16 = (n, rest, 0) := by
  unfold countR
  rw [takeV_varB n rest (by omega)]
  dsimp only
  rw [if_pos ⟨rfl, rfl, by omega⟩]
theorem ofP_enc {E : List Pnm} (h : GoodE E) : ofP (encE E) = some E := by
  unfold ofP encE
  rw [countR_enc _ _ h.len]
  dsimp only
  have := ofRounds_enc [] E [] ⟨#[]⟩ (by simpa using h) (fun x hx => lsS_empty (h.nm x (by cases E with | nil => cases hx | cons y E => cases hx; exact List.mem_cons_self)).1)
  rw [List.append_nil] at this
  rw [this]
  show (if endR [] 0 = 0 then some ([] ++ E) else none) = some E
  rw [if_pos (by decide)]
  rfl
theorem floor_noK {E : List Pnm} {K : List Lse} {last t : Nat} (ht : ∀ x ∈ K, x.u ≤ t) : floorP E (expK K t) last = floorP E [] last := by
  have : expK K t = [] := by
    unfold expK
    rw [List.filter_eq_nil_iff]
    intro x hx
    have := ht x hx
    simp; omega
  rw [this]
end Go.Proofs.Ytcganajbfplmpaa
