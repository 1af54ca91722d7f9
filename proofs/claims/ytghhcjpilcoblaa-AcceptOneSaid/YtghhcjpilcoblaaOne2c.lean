/- Chapter 20 (accept), the law AcceptOne: what a step makes of what has happened, whole; how many promises there are. -/
import Derived.Test.YtghhcjpilcoblaaOne2b
namespace Go.Proofs.Ytghhcjpilcoblaa
open Go.RowKit Go.Lap Go.Lap.Pax
set_option linter.unusedVariables false

theorem cnt_le (f : Nat → Bool) : ∀ m, cnt f m ≤ m
  | 0 => Nat.le_refl _
  | m + 1 => by
    have := cnt_le f m
    unfold cnt
    cases f m <;> simp <;> omega
theorem cnt_same (f : Nat → Bool) {a : Nat} : ∀ m, m ≤ a → cnt (upd f a true) m = cnt f m
  | 0, _ => rfl
  | m + 1, h => by
    have := cnt_same f m (show m ≤ a by omega)
    unfold cnt
    rw [this, upd_ne _ _ (show m ≠ a by omega)]
theorem cnt_more (f : Nat → Bool) {a : Nat} (hf : f a = false) : ∀ m, a < m → cnt (upd f a true) m = cnt f m + 1
  | 0, h => absurd h (by omega)
  | m + 1, h => by
    by_cases ha : a = m
    · subst ha
      have := cnt_same f a (Nat.le_refl a)
      unfold cnt
      rw [this, upd_same, hf]
      rfl
    · have := cnt_more f hf m (by omega)
      unfold cnt
      rw [this, upd_ne _ _ (show m ≠ a from fun e => ha e.symm)]
      cases f m <;> simp
/-- Nothing is too long, nobody promises too much. -/
structure Sz (P : Nat) (s : St) : Prop where
  v : ∀ i, (s.pp i).val.size ≤ 1000
  p : ∀ k, (s.ac k).p ≤ P
  l : ∀ i, (s.pp i).prom.length ≤ cnt (s.pp i).fr 8
def markS (s : St) (a p : Nat) : St := { s with pp := upd s.pp p { s.pp p with fr := upd (s.pp p).fr a true } }
def puS (s : St) (p : Nat) (q : Option (Nat × ByteArray)) : St := { s with pp := upd s.pp p { s.pp p with prom := (s.pp p).prom ++ [q] } }
def valS (s : St) (p : Nat) (own : ByteArray) : St := { s with pp := upd s.pp p (setV (s.pp p) (bestV own (s.pp p).prom)) }
theorem puS_mark (s : St) (a p : Nat) (q : Option (Nat × ByteArray)) : puS (markS s a p) p q = { s with pp := upd s.pp p (addP (s.pp p) a q) } := by
  unfold puS markS addP
  dsimp only
  rw [upd_upd, upd_same]
/-- Prepare's whole step. -/
theorem promised {n P : Nat} {s : St} {a p : Nat} (hI : Inv n s) (hS : Sz P s) (ha : a < n) (ha8 : a < 8) (hp : p < P) (hle : (s.ac a).p ≤ p + 1) (hh : (s.pp p).has = false) (hf : (s.pp p).fr a = false) :
    Inv n (puS (markS (prepS s a p) a p) p (s.ac a).a) ∧ Sz P (puS (markS (prepS s a p) a p) p (s.ac a).a) := by
  have hpp := prepS_pp s a p
  have hac : (prepS s a p).ac a = ⟨p + 1, (s.ac a).a⟩ := by unfold prepS; rw [if_pos hle]; dsimp only; rw [upd_same]
  rw [puS_mark]
  have h1 := (hI.prep a p).add (k := a) (p := p) ha (by rw [hpp]; exact hh) (by rw [hac]; exact Nat.le_refl _) (by rw [hac]; exact Nat.le_refl _)
  rw [hac] at h1
  refine ⟨h1, ⟨fun i => ?_, prepS_p s a p P hp hS.p, fun i => ?_⟩⟩
  · dsimp only
    by_cases hi : i = p
    · subst hi; rw [upd_same, hpp]; exact hS.v i
    · rw [upd_ne _ _ hi, hpp]; exact hS.v i
  · dsimp only
    by_cases hi : i = p
    · subst hi
      rw [upd_same, hpp]
      have := hS.l i
      unfold addP
      dsimp only
      rw [cnt_more _ hf 8 ha8, List.length_append]
      simpa using this
    · rw [upd_ne _ _ hi, hpp]; exact hS.l i
theorem valued {n P : Nat} {s : St} {p : Nat} {own : ByteArray} (hI : Inv n s) (hS : Sz P s) (hh : (s.pp p).has = false) (hq : n / 2 + 1 ≤ cnt (s.pp p).fr 8) (ho : own.size ≤ 1000) : Inv n (valS s p own) ∧ Sz P (valS s p own) := by
  refine ⟨hI.val hh hq own, ⟨fun i => ?_, hS.p, fun i => ?_⟩⟩
  · unfold valS
    dsimp only
    by_cases hi : i = p
    · subst hi; rw [upd_same]; exact best_size hI hS.v i ho
    · rw [upd_ne _ _ hi]; exact hS.v i
  · unfold valS
    dsimp only
    by_cases hi : i = p
    · subst hi; rw [upd_same]; exact hS.l i
    · rw [upd_ne _ _ hi]; exact hS.l i
theorem Sz.prep {P : Nat} {s : St} {a p : Nat} (hS : Sz P s) (hp : p < P) : Sz P (prepS s a p) :=
  ⟨fun i => by rw [prepS_pp]; exact hS.v i, prepS_p s a p P hp hS.p, fun i => by rw [prepS_pp]; exact hS.l i⟩
theorem taken {n P : Nat} {s : St} {a p : Nat} (hI : Inv n s) (hS : Sz P s) (ha : a < n) (hp : p < P) (hh : (s.pp p).has = true) (hle : (s.ac a).p ≤ p + 1) : Inv n (accS s a p) ∧ Sz P (accS s a p) := by
  refine ⟨hI.acc ha hh hle, ⟨accS_v s a p hS.v, accS_p s a p P hp hS.p, fun i => ?_⟩⟩
  unfold accS
  dsimp only
  by_cases hi : i = p
  · subst hi; rw [upd_same]; exact hS.l i
  · rw [upd_ne _ _ hi]; exact hS.l i
section
variable {w wx : World} {n ab pb pc : Nat} {g : Nat → Nat} {L : List PM} {s : St}
theorem OM.put (h : OM w wx n ab pb pc g L s) {p : Nat} {y : PM} {q : Option (Nat × ByteArray)} (hy : L[p]? = some y) {A9 : Option Addr} {n9 c9 : Nat} {w9 : World}
    (ho9 : Owns w9 w.heap.size 45 4 Pro.enc (.slice A9 n9 c9) ((s.pp p).prom.map proOf ++ [proOf q])) (hg : wx.grownBy w9 y.pv.ownBlock) (hb : (Value.slice A9 n9 c9).ownBlock = y.pv.ownBlock ∨ (Value.slice A9 n9 c9).ownBlock = some wx.heap.size) :
    OM w (w9.setCell ⟨pb, p * 21 + 2, none⟩ (.slice A9 n9 c9)) n ab pb pc g (L.set p { y with A := A9, ln := n9, cp := c9 }) (puS s p q) := by
  have hm := (h.row p y hy).1
  exact h.addR (x' := { y with A := A9, ln := n9, cp := c9 }) (c := { s.pp p with prom := (s.pp p).prom ++ [q] }) hy hg ho9 hb rfl ⟨hm.r, hm.n, hm.fr, hm.by_, hm.val, hm.has⟩ rfl
theorem OM.pbGrown (h : OM w wx n ab pb pc g L s) {p : Nat} {y : PM} (hy : L[p]? = some y) {w9 : World} (hg : wx.grownBy w9 y.pv.ownBlock) : pb < w9.heap.size ∧ (∀ i, w9.frozen? ⟨pb, i, none⟩ = false) ∧ ∀ i, w9.cell? ⟨pb, i, none⟩ = wx.cell? ⟨pb, i, none⟩ := by
  obtain ⟨cs, hpb⟩ : ∃ cs, Blk wx pb 36 cs := by
    rcases h.pbo.2 with h2 | ⟨g, cap, cur, hv, _, hh, _⟩
    · cases h2.1
    · cases hv; exact ⟨cur, hh⟩
  have hne : y.pv.ownBlock ≠ some pb := Owns.ne_blk (h.row p y hy).2 hpb (by decide)
  have h9 := hpb.grown hg (fun e => hne e.symm)
  exact ⟨h9.lt, h9.frozen, fun i => by rw [h9.cell i, hpb.cell i]⟩
/-- A chosen value is stored. -/
theorem OM.chosen (h : OM w wx n ab pb pc g L s) {p : Nat} {y : PM} (hy : L[p]? = some y) (own : ByteArray) :
    OM w ((wx.setCell ⟨pb, p * 21 + 19, none⟩ (.string (bestV own (s.pp p).prom))).setCell ⟨pb, p * 21 + 20, none⟩ (.bool true)) n ab pb pc g ((L.set p { y with val := bestV own (s.pp p).prom }).set p { y with val := bestV own (s.pp p).prom, has := true }) (valS s p own) := by
  have hl := (List.getElem?_eq_some_iff.1 hy).1
  have h1 := (h.value hy (bestV own (s.pp p).prom)).there (p := p) (y := { y with val := bestV own (s.pp p).prom }) (by rw [List.getElem?_set, if_pos rfl, if_pos hl])
  dsimp only at h1
  rw [upd_upd, upd_same] at h1
  exact h1
end
theorem OM.say {w wx : World} {n ab pb pc : Nat} {g : Nat → Nat} {L : List PM} {s : St} (h : OM w wx n ab pb pc g L s) (b : Bool) (c : ByteArray) : OM w wx n ab pb pc g L { s with any := b, ch := c } :=
  ⟨h.nw, h.abk, h.abw, h.ac, h.inj, h.pbo, h.row, h.dj⟩
theorem Sz.say {P : Nat} {s : St} (h : Sz P s) (b : Bool) (c : ByteArray) : Sz P { s with any := b, ch := c } := ⟨h.v, h.p, h.l⟩
def Aft32 (w : World) (n ab pb pc : Nat) (g : Nat → Nat) (L : List PM) (s : St) (p : Nat) (y : PM) (q : Option (Nat × ByteArray)) (wx : World) : Prop :=
  ∃ (A9 : Option Addr) (n9 c9 : Nat), OM w wx n ab pb pc g (L.set p { y with A := A9, ln := n9, cp := c9 }) (puS s p q)
end Go.Proofs.Ytghhcjpilcoblaa
