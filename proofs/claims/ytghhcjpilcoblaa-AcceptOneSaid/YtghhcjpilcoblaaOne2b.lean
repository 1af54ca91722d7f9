/- Chapter 20 (accept), the law AcceptOne: a proposal's cells by name; what a step makes of memory and of what has happened. -/
import Derived.Test.YtghhcjpilcoblaaOne2
namespace Go.Proofs.Ytghhcjpilcoblaa
open Go.RowKit Go.Lap Go.Lap.Pax
set_option linter.unusedVariables false

theorem pmE_fr (x : PM) {a : Nat} (h : a < 8) : (pmE x)[3 + a]? = some (.bool (x.fr a)) := by
  match a, h with
  | 0, _ => rfl
  | 1, _ => rfl
  | 2, _ => rfl
  | 3, _ => rfl
  | 4, _ => rfl
  | 5, _ => rfl
  | 6, _ => rfl
  | 7, _ => rfl
theorem pmE_by (x : PM) {a : Nat} (h : a < 8) : (pmE x)[11 + a]? = some (.bool (x.by_ a)) := by
  match a, h with
  | 0, _ => rfl
  | 1, _ => rfl
  | 2, _ => rfl
  | 3, _ => rfl
  | 4, _ => rfl
  | 5, _ => rfl
  | 6, _ => rfl
  | 7, _ => rfl
theorem pmE_setfr (x : PM) {a : Nat} (h : a < 8) : pmE { x with fr := upd x.fr a true } = (pmE x).set (3 + a) (.bool true) := by
  match a, h with
  | 0, _ => simp [pmE, upd]
  | 1, _ => simp [pmE, upd]
  | 2, _ => simp [pmE, upd]
  | 3, _ => simp [pmE, upd]
  | 4, _ => simp [pmE, upd]
  | 5, _ => simp [pmE, upd]
  | 6, _ => simp [pmE, upd]
  | 7, _ => simp [pmE, upd]
theorem pmE_setby (x : PM) {a : Nat} (h : a < 8) : pmE { x with by_ := upd x.by_ a true } = (pmE x).set (11 + a) (.bool true) := by
  match a, h with
  | 0, _ => simp [pmE, upd]
  | 1, _ => simp [pmE, upd]
  | 2, _ => simp [pmE, upd]
  | 3, _ => simp [pmE, upd]
  | 4, _ => simp [pmE, upd]
  | 5, _ => simp [pmE, upd]
  | 6, _ => simp [pmE, upd]
  | 7, _ => simp [pmE, upd]
theorem pmE_setpv (x : PM) (A : Option Addr) (ln cp : Nat) : pmE { x with A := A, ln := ln, cp := cp } = (pmE x).set 2 (.slice A ln cp) := rfl
theorem pmE_setval (x : PM) (v : ByteArray) : pmE { x with val := v } = (pmE x).set 19 (.string v) := rfl
theorem pmE_sethas (x : PM) : pmE { x with has := true } = (pmE x).set 20 (.bool true) := rfl
theorem upd_upd {α : Type} (f : Nat → α) (k : Nat) (x y : α) : upd (upd f k x) k y = upd f k y := by
  funext j
  unfold upd
  split <;> rfl
theorem prepS_pp (s : St) (k p : Nat) : (prepS s k p).pp = s.pp := by unfold prepS; split <;> rfl
theorem prepS_p (s : St) (k p P : Nat) (hp : p < P) (h : ∀ j, (s.ac j).p ≤ P) : ∀ j, ((prepS s k p).ac j).p ≤ P := by
  intro j
  unfold prepS
  split
  · dsimp only
    by_cases hj : j = k
    · subst hj; rw [upd_same]; exact hp
    · rw [upd_ne _ _ hj]; exact h j
  · exact h j
theorem accS_p (s : St) (k p P : Nat) (hp : p < P) (h : ∀ j, (s.ac j).p ≤ P) : ∀ j, ((accS s k p).ac j).p ≤ P := by
  intro j
  unfold accS
  dsimp only
  by_cases hj : j = k
  · subst hj; rw [upd_same]; exact hp
  · rw [upd_ne _ _ hj]; exact h j
theorem accS_v (s : St) (k p : Nat) (h : ∀ i, (s.pp i).val.size ≤ 1000) : ∀ i, ((accS s k p).pp i).val.size ≤ 1000 := by
  intro i
  unfold accS
  dsimp only
  by_cases hi : i = p
  · subst hi; rw [upd_same]; exact h i
  · rw [upd_ne _ _ hi]; exact h i
/-- A chosen value is one of those that were there. -/
theorem best_size {n : Nat} {s : St} (h : Inv n s) (hv : ∀ i, (s.pp i).val.size ≤ 1000) (p : Nat) {own : ByteArray} (ho : own.size ≤ 1000) : (bestV own (s.pp p).prom).size ≤ 1000 := by
  unfold bestV
  rcases bestA_is own (s.pp p).prom with ⟨h1, _⟩ | ⟨y, h1, h2, _⟩
  · rw [h1]; exact ho
  · rw [h1]
    obtain ⟨ya, yv⟩ := y
    have := (h.f3 p ya yv h2).2.2
    dsimp only
    rw [this]
    exact hv ya
section
variable {w wx : World} {n ab pb pc : Nat} {g : Nat → Nat} {L : List PM} {s : St}
/-- Who has promised is marked. -/
theorem OM.mark (h : OM w wx n ab pb pc g L s) {p a : Nat} {y : PM} (hy : L[p]? = some y) (ha : a < 8) :
    OM w (wx.setCell ⟨pb, p * 21 + 3 + a, none⟩ (.bool true)) n ab pb pc g (L.set p { y with fr := upd y.fr a true }) { s with pp := upd s.pp p { s.pp p with fr := upd (s.pp p).fr a true } } := by
  have hm := (h.row p y hy).1
  have := h.setP (j := 3 + a) hy (by omega) (pmE_setfr y ha) rfl (q := { s.pp p with fr := upd (s.pp p).fr a true }) ⟨hm.r, hm.n, by dsimp only; rw [hm.fr], hm.by_, hm.val, hm.has⟩ rfl
  rw [← Nat.add_assoc] at this
  exact this
/-- Who has accepted is marked. -/
theorem OM.markBy (h : OM w wx n ab pb pc g L s) {p a : Nat} {y : PM} (hy : L[p]? = some y) (ha : a < 8) :
    OM w (wx.setCell ⟨pb, p * 21 + 11 + a, none⟩ (.bool true)) n ab pb pc g (L.set p { y with by_ := upd y.by_ a true }) { s with pp := upd s.pp p { s.pp p with by_ := upd (s.pp p).by_ a true } } := by
  have hm := (h.row p y hy).1
  have := h.setP (j := 11 + a) hy (by omega) (pmE_setby y ha) rfl (q := { s.pp p with by_ := upd (s.pp p).by_ a true }) ⟨hm.r, hm.n, hm.fr, by dsimp only; rw [hm.by_], hm.val, hm.has⟩ rfl
  rw [← Nat.add_assoc] at this
  exact this
/-- A value, and that it is there. -/
theorem OM.value (h : OM w wx n ab pb pc g L s) {p : Nat} {y : PM} (hy : L[p]? = some y) (v : ByteArray) :
    OM w (wx.setCell ⟨pb, p * 21 + 19, none⟩ (.string v)) n ab pb pc g (L.set p { y with val := v }) { s with pp := upd s.pp p { s.pp p with val := v } } := by
  have hm := (h.row p y hy).1
  exact h.setP (j := 19) hy (by omega) (pmE_setval y v) rfl (q := { s.pp p with val := v }) ⟨hm.r, hm.n, hm.fr, hm.by_, rfl, hm.has⟩ rfl
theorem OM.there (h : OM w wx n ab pb pc g L s) {p : Nat} {y : PM} (hy : L[p]? = some y) :
    OM w (wx.setCell ⟨pb, p * 21 + 20, none⟩ (.bool true)) n ab pb pc g (L.set p { y with has := true }) { s with pp := upd s.pp p { s.pp p with has := true } } := by
  have hm := (h.row p y hy).1
  exact h.setP (j := 20) hy (by omega) (pmE_sethas y) rfl (q := { s.pp p with has := true }) ⟨hm.r, hm.n, hm.fr, hm.by_, hm.val, rfl⟩ rfl
end
/-- Accept, in these words. -/
def AccPost (w : World) (n ab pb pc : Nat) (g : Nat → Nat) (L : List PM) (s : St) (a p : Nat) (v : ByteArray) (wx : World) (e : Ending) (w' : World) : Prop :=
  e = .returned (.bool (decide ((s.ac a).p ≤ p + 1))) ∧ OM w w' n ab pb pc g L (if (s.ac a).p ≤ p + 1 then { s with ac := upd s.ac a ⟨p + 1, some (p, v)⟩ } else s)
theorem acceptO {w wx : World} {n ab pb pc : Nat} {g : Nat → Nat} {L : List PM} {s : St} {a p : Nat} (h : OM w wx n ab pb pc g L s) (ha : a < n) (v : ByteArray) :
    Calls Try.prog 17 #[.pointer (some ⟨g a, 0, none⟩), .agg #[.int .u64 ((balR (p + 1) : Nat) : Int), .int .u64 ((balN (p + 1) : Nat) : Int)], .string v] wx (AccPost w n ab pb pc g L s a p v wx) := by
  have hac := (h.ac a ha).1
  have hl := bal_less (p + 1) (s.ac a).p
  by_cases hle : (s.ac a).p ≤ p + 1
  · rw [decide_eq_false (by omega)] at hl
    refine (accept_yes _ _ _ _ _ _ _ _ _ v wx hac hl).mono ?_
    rintro e w' ⟨rfl, hu, ha'⟩
    refine ⟨by rw [decide_eq_true hle], ?_⟩
    rw [if_pos hle]
    exact h.setAc ha hu (a' := ⟨p + 1, some (p, v)⟩) ha'
  · rw [decide_eq_true (by omega)] at hl
    refine (accept_no _ _ _ _ _ _ _ _ _ v wx hac hl).mono ?_
    rintro e w' ⟨rfl, hn⟩
    refine ⟨by rw [decide_eq_false hle], ?_⟩
    rw [if_neg hle]
    exact h.new hn
end Go.Proofs.Ytghhcjpilcoblaa
