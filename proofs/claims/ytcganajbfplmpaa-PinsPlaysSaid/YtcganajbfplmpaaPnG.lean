/- Chapter 18 (pins): the code's pins beside the document's. -/
import Derived.Test.YtcganajbfplmpaaPnF
import Derived.Test.YtcganajbfplmpaaLaw18b
namespace Go.Proofs.Ytcganajbfplmpaa
open Go.RowKit Go.Lap
set_option linter.unusedVariables false

theorem slUpdK {α : Type} {w w' : World} {S : Nat → Prop} {size : Nat} {enc : α → List Value} {v : Value} {l : List α} (h : SlIn w size enc v l) (hu : Upd S w w') (hne : ∀ x, enc x ≠ [])
    (hS : ∀ k, S k → ∀ o u, w.cell? ⟨k, o, none⟩ = some u → ∀ x ∈ l, u ∉ enc x) : SlIn w' size enc v l := by
  obtain ⟨A, c, hv, hc, hor⟩ := h
  refine ⟨A, c, hv, hc, ?_⟩
  rcases hor with hor | ⟨b, off, hA, hb, hcell⟩
  · exact .inl hor
  · by_cases h0 : l = []
    · exact .inl h0
    · refine .inr ⟨b, off, hA, Nat.lt_of_lt_of_le hb hu.size, ?_⟩
      obtain ⟨y, l', rfl⟩ : ∃ y l', l = y :: l' := by cases l with | nil => exact absurd rfl h0 | cons y l' => exact ⟨y, l', rfl⟩
      obtain ⟨u0, us, hu0⟩ : ∃ u us, enc y = u :: us := by cases h1 : enc y with | nil => exact absurd h1 (hne y) | cons u us => exact ⟨u, us, rfl⟩
      have hc0 := hcell 0 y rfl 0 u0 (by rw [hu0]; rfl)
      have hSb : ¬ S b := fun hs => hS b hs _ _ hc0 y List.mem_cons_self (by rw [hu0]; exact List.mem_cons_self)
      intro k x hx j u hju
      have := hcell k x hx j u hju
      unfold World.cell? at this ⊢
      dsimp only at this ⊢
      rw [hu.block b hb hSb]
      exact this
theorem PSt.maps {w : World} {p nm lm : Nat} {E : List Pnm} {K : List Lse} (h : PSt w p nm lm E K) : ∀ k, PnF p nm lm k → ∀ o u, w.cell? ⟨k, o, none⟩ = some u → ∃ b, u = .map b := by
  rintro k (rfl | rfl | rfl) o u hu
  · rw [h.at_.blk.cell o] at hu
    match o, hu with
    | 0, hu => cases hu; exact ⟨_, rfl⟩
    | 1, hu => cases hu; exact ⟨_, rfl⟩
  · obtain ⟨D, ⟨es, clock, hb, _⟩, _⟩ := h.at_.na
    simp [World.cell?, hb] at hu
  · obtain ⟨D, ⟨es, clock, hb, _⟩, _⟩ := h.at_.le
    simp [World.cell?, hb] at hu
theorem pnC_map (x : Pnm) (b : Option Nat) : (Value.map b) ∉ pnC x := by simp [pnC]
theorem lsC_map (x : Lse) (b : Option Nat) : (Value.map b) ∉ lsC x := by simp [lsC]
theorem pnC_sl (x : Pnm) (A : Option Addr) (n c : Nat) : (Value.slice A n c) ∉ pnC x := by simp [pnC]
theorem lsC_sl (x : Lse) (A : Option Addr) (n c : Nat) : (Value.slice A n c) ∉ lsC x := by simp [lsC]
/-- The code's pins and the document's, side by side. -/
structure PlRel (w wx : World) (p nm lm g : Nat) (v1 v2 : Value) (E : List Pnm) (K : List Lse) : Prop where
  n : New w wx
  s : PSt wx p nm lm E K
  b : Blk wx g 70 #[v1, v2]
  e : SlIn wx 2 pnC v1 E
  k : SlIn wx 3 lsC v2 K
section
variable {w wx wy : World} {p nm lm g : Nat} {v1 v2 : Value} {E : List Pnm} {K : List Lse}
theorem PlRel.new (h : PlRel w wx p nm lm g v1 v2 E K) (hn : New wx wy) : PlRel w wy p nm lm g v1 v2 E K := ⟨h.n.trans hn, h.s.new hn, h.b.new hn, h.e.new hn, h.k.new hn⟩
theorem slGK {α : Type} {size : Nat} {enc : α → List Value} {v : Value} {l : List α} {a b : Value} (h : SlIn wx size enc v l) (hb : Blk wx g 70 #[a, b]) (ha : ∃ A n c, a = .slice A n c) (hb' : ∃ A n c, b = .slice A n c) (hu : Upd (· = g) wx wy) (hne : ∀ x, enc x ≠ []) (hsl : ∀ x A n c, (Value.slice A n c) ∉ enc x) : SlIn wy size enc v l := by
  obtain ⟨A, n, c, rfl⟩ := ha
  obtain ⟨A', n', c', rfl⟩ := hb'
  refine slUpdK h hu hne ?_
  rintro k rfl o u hc x _ hx
  rw [hb.cell o] at hc
  match o, hc with
  | 0, hc => cases hc; exact hsl _ _ _ _ hx
  | 1, hc => cases hc; exact hsl _ _ _ _ hx
/-- The document's pins are stored; then the code acts. -/
theorem PlRel.act {u1 u2 : Value} {E' : List Pnm} {K' : List Lse} (h : PlRel w wx p nm lm g v1 v2 E K) (h1 : SlIn wx 2 pnC u1 E') (h2 : SlIn wx 3 lsC u2 K') (hg : w.heap.size ≤ g) (hgF : ¬ PnF p nm lm g) :
    New w ((wx.setCell ⟨g, 0, none⟩ u1).setCell ⟨g, 1, none⟩ u2) ∧ PSt ((wx.setCell ⟨g, 0, none⟩ u1).setCell ⟨g, 1, none⟩ u2) p nm lm E K ∧ Blk ((wx.setCell ⟨g, 0, none⟩ u1).setCell ⟨g, 1, none⟩ u2) g 70 #[u1, u2] ∧
      SlIn ((wx.setCell ⟨g, 0, none⟩ u1).setCell ⟨g, 1, none⟩ u2) 2 pnC u1 E' ∧ SlIn ((wx.setCell ⟨g, 0, none⟩ u1).setCell ⟨g, 1, none⟩ u2) 3 lsC u2 K' := by
  have hU : Upd (· = g) wx ((wx.setCell ⟨g, 0, none⟩ u1).setCell ⟨g, 1, none⟩ u2) := ((Upd.refl _ wx).setIn 0 _).setIn 1 _
  refine ⟨h.n.upd hU (fun i hi => by omega), h.s.upd hU (fun k hk e => hgF (e ▸ hk)), (h.b.set_ 0 u1).set_ 1 u2, ?_, ?_⟩
  · exact slGK h1 h.b (pnShape h.e) (lsShape h.k) hU (fun x => by simp [pnC]) pnC_sl
  · exact slGK h2 h.b (pnShape h.e) (lsShape h.k) hU (fun x => by simp [lsC]) lsC_sl
theorem slPK {α : Type} {size : Nat} {enc : α → List Value} {v : Value} {l : List α} (h : SlIn wx size enc v l) (hs : PSt wx p nm lm E K) (hu : Upd (PnF p nm lm) wx wy) (hne : ∀ x, enc x ≠ []) (hm : ∀ x b, (Value.map b) ∉ enc x) : SlIn wy size enc v l := by
  refine slUpdK h hu hne ?_
  intro k hk o u hc x _ hx
  obtain ⟨b, rfl⟩ := hs.maps k hk o u hc
  exact hm _ _ hx
end
end Go.Proofs.Ytcganajbfplmpaa
