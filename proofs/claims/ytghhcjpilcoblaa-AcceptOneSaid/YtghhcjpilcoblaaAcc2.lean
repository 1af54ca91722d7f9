/- Contracts of the reference's Choose, and of the law's own example. -/
import Derived.Test.YtghhcjpilcoblaaAcc
namespace Go.Proofs.Ytghhcjpilcoblaa
open Go.RowKit Go.Lap

/-- What the reference's place tells of the best promise so far. -/
def AtIs (own : ByteArray) (l : List Pro) (k : Nat) (a : Int) : Prop :=
  (a = -1 ∧ (Pro.best own (l.take k)).has = false ∧ (Pro.best own (l.take k)).v = own) ∨
  ∃ j : Nat, j < k ∧ a = (j : Int) ∧ l[j]? = some (Pro.best own (l.take k)) ∧ (Pro.best own (l.take k)).has = true

theorem AtIs.start (own : ByteArray) (l : List Pro) : AtIs own l 0 (-1) := .inl ⟨rfl, rfl, rfl⟩
theorem AtIs.same {own : ByteArray} {l : List Pro} {k : Nat} {a : Int} {x : Pro} (h : AtIs own l k a) (hx : l[k]? = some x) (hb : betterB (Pro.best own (l.take k)).has (Pro.best own (l.take k)).r (Pro.best own (l.take k)).n x.has x.r x.n = false) : AtIs own l (k + 1) a := by
  unfold AtIs at h ⊢
  have e := Pro.best_snoc own l k x hx
  rw [e]
  have : (Pro.best own (l.take k)).take x = Pro.best own (l.take k) := by unfold Pro.take; rw [hb]; rfl
  rw [this]
  rcases h with h | ⟨j, hj, h⟩
  · exact .inl h
  · exact .inr ⟨j, by omega, h⟩
theorem AtIs.moved {own : ByteArray} {l : List Pro} {k : Nat} {x : Pro} (hx : l[k]? = some x) (hb : betterB (Pro.best own (l.take k)).has (Pro.best own (l.take k)).r (Pro.best own (l.take k)).n x.has x.r x.n = true) (hh : x.has = true) : AtIs own l (k + 1) (k : Int) := by
  unfold AtIs
  have e := Pro.best_snoc own l k x hx
  rw [e]
  have : (Pro.best own (l.take k)).take x = x := by unfold Pro.take; rw [hb]; rfl
  rw [this]
  exact .inr ⟨k, by omega, rfl, hx, hh⟩

end Go.Proofs.Ytghhcjpilcoblaa
