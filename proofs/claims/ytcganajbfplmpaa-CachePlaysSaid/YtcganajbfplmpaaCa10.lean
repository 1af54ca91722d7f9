/- Chapter 11 (cache): Get, Drop, Dirty, on the row of entries; what each number has. -/
import Derived.Test.YtcganajbfplmpaaCa9
namespace Go.Proofs.Ytcganajbfplmpaa
open Go.RowKit Go.Lap Go.Sort Go.Shelf
set_option linter.unusedVariables false

/-- What a number has. -/
def fnd (E : List Ent) (id : Int) : Option Ent := E.find? fun x => decide (x.id = id)
def clE (x : Ent) : Ent := ⟨x.id, x.b, false⟩
def idsOk (E : List Ent) : Prop := (E.map (·.id)).Nodup
section
variable {w w' : World} {F : Nat → Prop} {c room : Nat} {E : List Ent}
theorem CSt.ids (h : CSt w F c room E) : idsOk E := by
  obtain ⟨mb, l, hc, rfl, _⟩ := h
  unfold idsOk
  rw [List.map_map]
  exact hc.ids
theorem CSt.len (h : CSt w F c room E) : E.length ≤ room ∧ 1 ≤ room ∧ room ≤ 1024 := by
  obtain ⟨mb, l, hc, _, _, _, h1, h2, h3⟩ := h
  exact ⟨h1, h2, h3⟩
theorem CSt.wf (h : CSt w F c room E) : ∀ e ∈ E, (Lit.int .i64 e.id).wf = true := by
  obtain ⟨mb, l, hc, _, _, h1, _⟩ := h
  exact h1
theorem CSt.ltG (h : CSt w F c room E) : CSt w (fun k => F k ∧ k < w.heap.size) c room E := by
  obtain ⟨mb, l, hc, h1, h2, h3⟩ := h
  exact ⟨mb, l, hc, h1, fun k hk => ⟨h2 k hk, hc.ltS k hk⟩, h3⟩

set_option maxRecDepth 100000 in
set_option maxHeartbeats 4000000 in
theorem get_miss {mb : Nat} {r : Int} {l : List Nd} (w : World) (h : CaAt w c r mb l) (id : Int) (hid : (Lit.int .i64 id).wf = true) (hm : mapF l id = none) :
    Calls Try.prog 15 #[.pointer (some ⟨c, 0, none⟩), .int .i64 id] w fun e w' => e = .returned (.tuple #[.string ⟨#[]⟩, .int .i64 111]) ∧ w' = w := by
  obtain ⟨c0, c1, c2, c3, c4, cz⟩ := caF h.ring.ca
  go_enter Try.func15, Try.ntmps15
  go_wp2_with (at_lookup; refine wpList_mp_ok keyInt rfl _ _ 86 87 rfl Try.underlying86 (zeroN _) rfl h.map id hid rfl ?_; rw [hm]; dsimp only [Option.getD, Option.isSome])
  go_ret2
  exact ⟨rfl, rfl⟩
def getR : Option Ent → Value
  | some x => .tuple #[.string x.b, .int .i64 0]
  | none => .tuple #[.string ⟨#[]⟩, .int .i64 111]
theorem getE_none {id : Int} (h : fnd E id = none) : getE E id = E := by
  unfold getE
  unfold fnd at h
  rw [h]
/-- Get. -/
theorem get_c (w : World) (h : CSt w F c room E) (id : Int) (hid : (Lit.int .i64 id).wf = true) :
    Calls Try.prog 15 #[.pointer (some ⟨c, 0, none⟩), .int .i64 id] w fun e w' => e = .returned (getR (fnd E id)) ∧ CSt w' F c room (getE E id) ∧ Upd F w w' := by
  cases hf : fnd E id with
  | some x => exact get_is w h id hid hf
  | none =>
    rw [getE_none hf]
    have hh := h
    obtain ⟨mb, l, hc, rfl, h3⟩ := hh
    have hm : mapF l id = none := by
      unfold fnd at hf
      rw [find_ent] at hf
      unfold mapF
      rw [Option.map_eq_none_iff] at hf ⊢
      exact hf
    refine (get_miss w hc id hid hm).mono ?_
    rintro e w' ⟨rfl, rfl⟩
    exact ⟨rfl, h, Upd.refl _ _⟩
/-- Drop. -/
theorem drop_c (w : World) (h : CSt w F c room E) {v : Value} {ids : List Int} (hs : SlIn w 1 iE v ids) (hl : ids.length ≤ 100000) (hwf : ∀ x ∈ ids, (Lit.int .i64 x).wf = true) (hF : ∀ b off n cp, v = .slice (some ⟨b, off, none⟩) n cp → ¬ F b) :
    Calls Try.prog 17 #[.pointer (some ⟨c, 0, none⟩), v] w fun e w' => e = .returned (.int .i64 ((dropE E ids).2 : Int)) ∧ CSt w' F c room (dropE E ids).1 ∧ Upd F w w' := by
  obtain ⟨mb, l, hc, rfl, h2, h3, h4, h5⟩ := h
  refine (drop_nd w hc hs hl hwf (fun b off n cp e hk => hF b off n cp e (h2 b hk))).mono ?_
  rintro e w' ⟨l', rfl, hc', hE, hS, hle, hu⟩
  have hsub : ∀ (ids : List Int) (p : List Ent × Nat) x, x ∈ (ids.foldl dropS p).1 → x ∈ p.1 := by
    intro ids
    induction ids with
    | nil => intro p x hx; exact hx
    | cons y ids ih => intro p x hx; exact List.mem_of_mem_eraseIdx (ih (dropS p y) x hx)
  refine ⟨rfl, ⟨mb, l', hc', hE, fun k hk => h2 k (hS k hk), fun e he => h3 e (hsub ids _ e he), ?_, h5⟩, hu.mono fun k _ hk => h2 k hk⟩
  rw [← hE, List.length_map]
  rw [List.length_map] at h4
  omega
/-- What Dirty tells. -/
def DirtyC (w : World) (F : Nat → Prop) (c room : Nat) (E : List Ent) (e : Ending) (w' : World) : Prop :=
  ∃ (u : Value) (D : List Ent), e = .returned u ∧ SlIn w' 3 entC u D ∧ D.Perm (E.filter (·.d)) ∧ (D.Pairwise fun x y => x.id < y.id) ∧ (∀ k, u.ownBlock = some k → w.heap.size ≤ k) ∧ CSt w' F c room (E.map clE) ∧ Upd F w w'
theorem dirty_c (w : World) (h : CSt w F c room E) : Calls Try.prog 20 #[.pointer (some ⟨c, 0, none⟩)] w (DirtyC w F c room E) := by
  obtain ⟨mb, l, hc, rfl, h2, h3, h4, h5⟩ := h
  refine (dirty_any w hc (by rw [List.length_map] at h4; omega)).mono ?_
  rintro e w' ⟨u, D, rfl, g1, g2, g3, g4, g5, g6⟩
  refine ⟨u, D, rfl, g1, ?_, g3, g4, ⟨mb, l.map cl1, g5, by rw [List.map_map, List.map_map]; rfl, fun k hk => h2 k ?_, ?_, ?_, h5⟩, g6.mono fun k _ hk => h2 k hk⟩
  · rw [show (l.map Nd.ent).filter (·.d) = (l.filter (·.d)).map Nd.ent by rw [List.filter_map]; rfl]
    exact g2
  · have := (CaS_clr (c := c) (mb := mb) (l := l) (k := l.length) (Nat.le_refl _) k).1
    rw [clr_all] at this
    exact this hk
  · intro e he
    obtain ⟨y, hy, rfl⟩ := List.mem_map.1 he
    exact h3 y hy
  · rw [List.length_map]; exact h4
end
end Go.Proofs.Ytcganajbfplmpaa
