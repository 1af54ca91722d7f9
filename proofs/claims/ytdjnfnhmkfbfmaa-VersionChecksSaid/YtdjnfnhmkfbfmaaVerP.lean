/- Plain facts on versions: cutting, trimming, reading (chapter 16). -/
import Derived.Test.YtdjnfnhmkfbfmaaVer3
namespace Go.Proofs.Ytdjnfnhmkfbfmaa
open Go.RowKit Go.Lap
set_option linter.unusedVariables false

theorem cut_is {l : List Ver} (hr : Rise l) (a : Int) : Cut l a (cutN l a) :=
  ⟨cutN_le l a, fun i x hx hi => cut_lt l a i x hx hi, fun i x hx hi => by
    rcases Int.lt_or_le a x.at_ with h | h
    · exact h
    · have := (cut_iff hr hx).1 h; omega⟩
theorem rise_drop {l : List Ver} (hr : Rise l) (f : Nat) : Rise (l.drop f) := by
  intro i x y hx hy
  rw [List.getElem?_drop] at hx hy
  exact hr (f + i) x y hx (by rw [← hy]; congr 1)
theorem cut_drop {l : List Ver} (hr : Rise l) (a : Int) (f : Nat) (hf : f ≤ cutN l a) : cutN (l.drop f) a = cutN l a - f := by
  have h := cut_is hr a
  refine (Cut.eq ⟨by rw [List.length_drop]; have := h.1; omega, fun i x hx hi => ?_, fun i x hx hi => ?_⟩).symm
  · rw [List.getElem?_drop] at hx
    exact h.2.1 (f + i) x hx (by omega)
  · rw [List.getElem?_drop] at hx
    exact h.2.2 (f + i) x hx (by omega)
theorem cut_mono {l : List Ver} (hr : Rise l) {a b : Int} (hab : a ≤ b) : cutN l a ≤ cutN l b := by
  rcases Nat.lt_or_ge (cutN l b) (cutN l a) with h | h
  · have hl := cutN_le l a
    have hx := List.getElem?_eq_getElem (l := l) (i := cutN l b) (by omega)
    have h1 := cut_lt l a _ _ hx h
    have h2 := cut_ge l b _ hx
    omega
  · exact h

/-- What first is, by cases. -/
theorem first_cases (l : List Ver) (a : Int) :
    (firstN l a = cutN l a ∧ (cutN l a = 0 ∨ ∃ x, l[cutN l a - 1]? = some x ∧ x.gone = true)) ∨
    (firstN l a + 1 = cutN l a ∧ ∃ x, l[firstN l a]? = some x ∧ x.gone = false) := by
  have hle := cutN_le l a
  unfold firstN
  by_cases h0 : cutN l a = 0
  · simp [h0]
  · obtain ⟨x, hx⟩ : ∃ x, l[cutN l a - 1]? = some x := ⟨_, List.getElem?_eq_getElem (by omega)⟩
    simp only [h0, if_false, hx]
    cases hg : x.gone with
    | true => left; exact ⟨rfl, .inr ⟨x, rfl, hg⟩⟩
    | false => right; refine ⟨by simp; omega, x, by simpa using hx, hg⟩
theorem first_le_cut (l : List Ver) (a : Int) : firstN l a ≤ cutN l a := by
  rcases first_cases l a with h | h <;> omega

theorem atV_drop {l : List Ver} (hr : Rise l) {from_ a : Int} (hfa : from_ ≤ a) : atV (trimL l from_) (cutN (trimL l from_) a) = atV l (cutN l a) := by
  have h1 := first_le_cut l from_
  have h2 := cut_mono hr hfa
  have hle := cutN_le l a
  unfold trimL
  rw [cut_drop hr a _ (by omega)]
  by_cases he : cutN l a = firstN l from_
  · rw [he, Nat.sub_self]
    rcases first_cases l from_ with ⟨hf, h0 | ⟨x, hx, hg⟩⟩ | ⟨hf, _⟩
    · rw [hf, h0]; rfl
    · rw [hf]
      unfold atV
      by_cases hz : cutN l from_ = 0
      · simp [hz]
      · simp [hz, hx, hg]
    · omega
  · unfold atV
    rw [if_neg (by omega), if_neg (by omega), List.getElem?_drop, show firstN l from_ + (cutN l a - firstN l from_ - 1) = cutN l a - 1 from by omega]

theorem first_drop {l : List Ver} (hr : Rise l) {from_ more : Int} (h : from_ ≤ more) : firstN l from_ + firstN (trimL l from_) more = firstN l more := by
  have h1 := first_le_cut l from_
  have h2 := cut_mono hr h
  have hle := cutN_le l more
  have hc := cut_drop hr more (firstN l from_) (by omega)
  unfold trimL
  by_cases he : cutN l more = firstN l from_
  · have hz : cutN (l.drop (firstN l from_)) more = 0 := by rw [hc]; omega
    have hfz : firstN (l.drop (firstN l from_)) more = 0 := by unfold firstN; rw [if_pos (by simpa [firstN] using hz)]
    rw [hfz]
    have hcc : cutN l from_ = cutN l more := by omega
    rcases first_cases l from_ with ⟨hf, h0 | ⟨x, hx, hg⟩⟩ | ⟨hf, _⟩
    · have : cutN l more = 0 := by omega
      have : firstN l more = 0 := by unfold firstN; rw [if_pos this]
      omega
    · rw [hcc] at hx
      by_cases hz0 : cutN l more = 0
      · have : firstN l more = 0 := by unfold firstN; rw [if_pos hz0]
        omega
      · have : firstN l more = cutN l more := by simp [firstN, hz0, hx, hg]
        omega
    · omega
  · obtain ⟨x, hx⟩ : ∃ x, l[cutN l more - 1]? = some x := ⟨_, List.getElem?_eq_getElem (by omega)⟩
    have hx' : (l.drop (firstN l from_))[cutN l more - firstN l from_ - 1]? = some x := by
      rw [List.getElem?_drop, ← hx]; congr 1; omega
    have e1 : firstN l more = if x.gone then cutN l more else cutN l more - 1 := by simp [firstN, show ¬ cutN l more = 0 from by omega, hx]
    have e2 : firstN (l.drop (firstN l from_)) more = if x.gone then cutN l more - firstN l from_ else cutN l more - firstN l from_ - 1 := by
      generalize l.drop (firstN l from_) = t at *
      have e : firstN t more = if cutN t more = 0 then 0 else match t[cutN t more - 1]? with | some x => if x.gone then cutN t more else cutN t more - 1 | none => cutN t more := rfl
      rw [e, hc, if_neg (by omega), hx']
    rw [e1, e2]
    split <;> omega

theorem trim_trim {l : List Ver} (hr : Rise l) {from_ more : Int} (h : from_ ≤ more) : trimL (trimL l from_) more = trimL l more := by
  have := first_drop hr h
  unfold trimL at *
  rw [List.drop_drop, this]
theorem trim_rise {l : List Ver} (hr : Rise l) (a : Int) : Rise (trimL l a) := rise_drop hr _
theorem trim_len (l : List Ver) (a : Int) : (trimL l a).length ≤ l.length := by simp [trimL]
theorem dead_len (l : List Ver) (a : Int) : (l.take (firstN l a)).length + (trimL l a).length = l.length := by
  have := firstN_le l a
  simp [trimL]; omega

/-- Of what is left only the first one may be not behind the timestamp, and it is not gone. -/
theorem trim_old {l : List Ver} (hr : Rise l) {from_ : Int} {i : Nat} {x : Ver} (hx : (trimL l from_)[i]? = some x) (h : x.at_ ≤ from_) : i = 0 ∧ x.gone = false := by
  unfold trimL at hx
  rw [List.getElem?_drop] at hx
  have h1 := (cut_iff hr hx).1 h
  rcases first_cases l from_ with ⟨hf, _⟩ | ⟨hf, y, hy, hg⟩
  · omega
  · have : i = 0 := by omega
    subst this
    rw [Nat.add_zero, hy] at hx
    cases hx
    exact ⟨rfl, hg⟩
/-- Each that is left is seen at its own timestamp, or at the one from which on it is trimmed. -/
theorem trim_seen {l : List Ver} (hr : Rise l) {from_ : Int} {i : Nat} {x : Ver} (hx : (trimL l from_)[i]? = some x) :
    atV (trimL l from_) (cutN (trimL l from_) (if x.at_ < from_ then from_ else x.at_)) = if x.gone then (⟨#[]⟩, 161) else (x.val, 0) := by
  have ht := trim_rise hr from_
  have hle : x.at_ ≤ (if x.at_ < from_ then from_ else x.at_) := by split <;> omega
  have h1 := (cut_iff ht hx).1 hle
  have h2 : cutN (trimL l from_) (if x.at_ < from_ then from_ else x.at_) = i + 1 := by
    rcases Nat.lt_or_ge (i + 1) (cutN (trimL l from_) (if x.at_ < from_ then from_ else x.at_)) with hgt | hge
    · exfalso
      have hl := cutN_le (trimL l from_) (if x.at_ < from_ then from_ else x.at_)
      have hy := List.getElem?_eq_getElem (l := trimL l from_) (i := i + 1) (by omega)
      have h3 := cut_lt _ _ _ _ hy hgt
      have h4 := ht i _ _ hx hy
      split at h3
      · have := trim_old hr hy h3
        omega
      · omega
    · omega
  rw [h2]
  unfold atV
  simp [hx]
end Go.Proofs.Ytdjnfnhmkfbfmaa
