/- Chapter 6 (disk): what a disk is, in plain words and in memory. -/
import Derived.Test.YtdjnfnhmkfbfmaaRows
import Derived.Test.YtdjnfnhmkfbfmaaMp2
import Derived.Test.YtdjnfnhmkfbfmaaProg
import Derived.Deep.RegionHeld3
import Derived.Deep.DeepCutAuto
import Derived.Deep.QuietTactic
import Derived.BigQuiet
namespace Go.Lap
open Go Go.RowKit
section
variable {w w' : World} {S : Nat → Prop} {v : Value}
theorem Owns.upd {α : Type} {base e size : Nat} {enc : α → List Value} {l : List α} (h : Owns w base e size enc v l) (hu : Upd S w w') (hS : ∀ k, v.ownBlock = some k → ¬ S k) : Owns w' base e size enc v l := by
  refine ⟨h.1, ?_⟩
  rcases h.2 with h2 | ⟨g, cap, cur, rfl, hg, hh, r⟩
  · exact .inl h2
  · exact .inr ⟨g, cap, cur, rfl, hg, Blk.upd (t := e) (cs := cur) hh hu (hS g rfl), r⟩
theorem Owns.blkOf {α : Type} {base e size : Nat} {enc : α → List Value} {l : List α} (h : Owns w base e size enc v l) {k : Nat} (hk : v.ownBlock = some k) : ∃ cs, Blk w k e cs := by
  rcases h.2 with h2 | ⟨g, cap, cur, rfl, hg, hh, r⟩
  · rw [h2.1] at hk; cases hk
  · cases hk
    exact ⟨cur, hh⟩
theorem MpAt.noBlk {P : Program} {kt : TypeId} {κ : Type} {lit : κ → Lit} {ok : κ → Prop} {b m : Nat} {f : κ → Option Value} (h : MpAt P kt lit ok w b m f) {t : TypeId} {cs : Array Value} : ¬ Blk w b t cs := by
  obtain ⟨D, ⟨es, clock, hb, _⟩, _⟩ := h
  intro hB
  unfold Blk at hB
  rw [hb] at hB
  cases hB
end
end Go.Lap
namespace Go.Proofs.Ytdjnfnhmkfbfmaa
open Go.RowKit Go.Lap
set_option linter.unusedVariables false

/-- A byte as a cell. -/
def byE (b : UInt8) : List Value := [.int .u8 (b.toNat : Int)]
theorem byEOk : Enc byE 1 := fun _ => ⟨rfl, by simp [byE, Value.oneCell']⟩
theorem byTy : SlTy Try.prog 63 5 (.int .u8 0) 1 1 := ⟨Try.underlying63, by kernel_rfl, rfl, by decide⟩

/-- Sectors: what each has, and how many there are. -/
structure Sec where
  f : Int → Option (List UInt8)
  n : Nat
def Sec.put (s : Sec) (k : Int) (bs : List UInt8) : Sec := ⟨fun j => if j = k then some bs else s.f j, if (s.f k).isSome then s.n else s.n + 1⟩
def Sec.del (s : Sec) (k : Int) : Sec := ⟨fun j => if j = k then none else s.f j, if (s.f k).isSome then s.n - 1 else s.n⟩
def Sec.none : Sec := ⟨fun _ => .none, 0⟩

/-- What is pending. -/
inductive Pd where
  | wr (at_ : Int) (bs : List UInt8)
  | fr (at_ : Int)
def Pd.at_ : Pd → Int
  | .wr a _ => a
  | .fr a => a
/-- So many bytes of a write over what was there. -/
def cutN6 (n : Int) (len : Nat) : Nat := min (max n 0).toNat len
def wrB (old bs : List UInt8) (n : Int) : List UInt8 := bs.take (cutN6 n bs.length) ++ (if cutN6 n bs.length < bs.length ∧ cutN6 n bs.length < old.length then old.drop (cutN6 n bs.length) else [])
def doP (s : Sec) (p : Pd) (n : Int) : Sec :=
  match p with
  | .wr a bs => s.put a (wrB ((s.f a).getD []) bs n)
  | .fr a => s.del a
def full (p : Pd) : Int := match p with | .wr _ bs => (bs.length : Int) | .fr _ => 0

/-- A disk. -/
structure Dk where
  size : Int
  limit : Int
  V : Sec
  G : Sec
  L : List Pd

abbrev okI (n : Int) : Prop := (Lit.int .i64 n).wf = true
abbrev litI (n : Int) : Lit := .int .i64 n
theorem keyD : KeyI Try.prog 3 (fun n : Int => .int .i64 n) litI okI := keyII Try.underlying3

/-- The sectors in a map. -/
def SecM (w : World) (mb : Nat) (s : Sec) : Prop :=
  ∃ f, MpAt Try.prog 3 litI okI w mb s.n f ∧ ∀ k, okI k → (f k = .none ∧ s.f k = .none) ∨ ∃ v bs, f k = some v ∧ s.f k = some bs ∧ Owns w 0 5 1 byE v bs
/-- All in range, none too long. -/
def Sec.fine (s : Sec) (size : Int) : Prop := ∀ k bs, s.f k = some bs → 0 ≤ k ∧ k < size ∧ bs.length ≤ 512

/-- A function that waits. -/
structure Fv where
  f : Nat
  cs : Array Value
def fvE (x : Fv) : List Value := [.func (.func x.f) #[] x.cs]
theorem fvEOk : Enc fvE 1 := fun _ => ⟨rfl, by simp [fvE, Value.oneCell']⟩
theorem fvTy : SlTy Try.prog 88 98 (.nilFunc) 1 8 := ⟨Try.underlying88, by kernel_rfl, rfl, by decide⟩
def PdIn (w : World) (x : Fv) : Pd → Prop
  | .wr a bs => ∃ g1 g2 u, x = ⟨56, #[.pointer (some ⟨g1, 0, none⟩), .pointer (some ⟨g2, 0, none⟩)]⟩ ∧ Blk w g1 63 #[u] ∧ Owns w 0 5 1 byE u bs ∧ Blk w g2 3 #[.int .i64 a] ∧ bs.length ≤ 512
  | .fr a => ∃ g, x = ⟨57, #[.pointer (some ⟨g, 0, none⟩)]⟩ ∧ Blk w g 3 #[.int .i64 a]

/-- The blocks of a disk that may turn. -/
def DkF (d vm gm : Nat) (u : Value) (k : Nat) : Prop := k = d ∨ k = vm ∨ k = gm ∨ u.ownBlock = some k
structure DkAt (w : World) (d vm gm : Nat) (u : Value) (D : Dk) : Prop where
  blk : Blk w d 90 #[.int .i64 D.size, .int .i64 D.limit, .map (some vm), .map (some gm), u]
  vw : SecM w vm D.V
  gr : SecM w gm D.G
  pd : ∃ xs, Owns w 0 98 1 fvE u xs ∧ xs.length = D.L.length ∧ ∀ (i : Nat) x p, xs[i]? = some x → D.L[i]? = some p → PdIn w x p
  ne : vm ≠ gm
  sz : 1 ≤ D.size ∧ D.size ≤ 65536
  lm : okI D.limit
  vf : D.V.fine D.size
  gf : D.G.fine D.size
  pf : ∀ p ∈ D.L, 0 ≤ p.at_ ∧ p.at_ < D.size

section
variable {w w' : World} {S : Nat → Prop} {d vm gm mb : Nat} {u v : Value} {D : Dk} {s : Sec} {bs : List UInt8}
/-- What may turn: a map, or a block of these types. -/
def Turns (w : World) (S : Nat → Prop) : Prop := ∀ k, S k → ∀ t cs, Blk w k t cs → t ≠ 5 ∧ t ≠ 3 ∧ t ≠ 63
theorem SecM.lt (h : SecM w mb s) : mb < w.heap.size := let ⟨_, h1, _⟩ := h; h1.lt
theorem SecM.noBlk (h : SecM w mb s) {t : TypeId} {cs : Array Value} : ¬ Blk w mb t cs := let ⟨_, h1, _⟩ := h; h1.noBlk
theorem SecM.upd (h : SecM w mb s) (hu : Upd S w w') (hm : ¬ S mb) (hT : Turns w S) : SecM w' mb s := by
  obtain ⟨f, h1, h2⟩ := h
  refine ⟨f, h1.upd hu hm, fun k hk => (h2 k hk).imp id ?_⟩
  rintro ⟨v, bs, e1, e2, ho⟩
  exact ⟨v, bs, e1, e2, ho.upd hu fun k hk hS => by
    obtain ⟨cs, hb⟩ := ho.blkOf hk
    exact (hT k hS _ _ hb).1 rfl⟩
theorem PdIn.upd {x : Fv} {p : Pd} (h : PdIn w x p) (hu : Upd S w w') (hT : Turns w S) : PdIn w' x p := by
  cases p with
  | wr a bs =>
    obtain ⟨g1, g2, u, rfl, h1, h2, h3, h4⟩ := h
    exact ⟨g1, g2, u, rfl, h1.upd hu (fun hS => (hT _ hS _ _ h1).2.2 rfl), h2.upd hu (fun k hk hS => by
      obtain ⟨cs, hb⟩ := h2.blkOf hk
      exact (hT k hS _ _ hb).1 rfl), h3.upd hu (fun hS => (hT _ hS _ _ h3).2.1 rfl), h4⟩
  | fr a =>
    obtain ⟨g, rfl, h1⟩ := h
    exact ⟨g, rfl, h1.upd hu (fun hS => (hT _ hS _ _ h1).2.1 rfl)⟩
theorem turns_none (w : World) : Turns w fun _ => False := fun _ h => h.elim
theorem SecM.new (h : SecM w mb s) (hn : New w w') : SecM w' mb s := h.upd (Upd.new (S := fun _ => False) hn) (fun h => h) (turns_none w)
theorem PdIn.new {x : Fv} {p : Pd} (h : PdIn w x p) (hn : New w w') : PdIn w' x p := h.upd (Upd.new (S := fun _ => False) hn) (turns_none w)
/-- The blocks of a disk that may turn are no bytes. -/
theorem DkAt.turns (h : DkAt w d vm gm u D) : Turns w (DkF d vm gm u) := by
  intro k hk t cs hb
  have key : ∀ {t' : TypeId} {cs' : Array Value}, Blk w k t' cs' → t' ≠ 5 → t' ≠ 3 → t' ≠ 63 → t ≠ 5 ∧ t ≠ 3 ∧ t ≠ 63 := fun hb' h1 h2 h3 => by
    have e : t = _ := Decidable.byContradiction fun hne => hb.ne_ hb' hne rfl
    subst e
    exact ⟨h1, h2, h3⟩
  rcases hk with rfl | rfl | rfl | hk
  · exact key h.blk (by decide) (by decide) (by decide)
  · exact absurd hb h.vw.noBlk
  · exact absurd hb h.gr.noBlk
  · obtain ⟨xs, ho, _⟩ := h.pd
    obtain ⟨cs', hb'⟩ := ho.blkOf hk
    exact key hb' (by decide) (by decide) (by decide)
/-- Another disk's act. -/
theorem DkAt.upd (h : DkAt w d vm gm u D) (hu : Upd S w w') (hS : ∀ k, DkF d vm gm u k → ¬ S k) (hT : Turns w S) : DkAt w' d vm gm u D := by
  obtain ⟨h1, h2, h3, ⟨xs, h4, h5, h6⟩, h7, h8, h9, h10, h11, h12⟩ := h
  exact ⟨h1.upd hu (hS _ (.inl rfl)), h2.upd hu (hS _ (.inr (.inl rfl))) hT, h3.upd hu (hS _ (.inr (.inr (.inl rfl)))) hT,
    ⟨xs, h4.upd hu (fun k hk => hS _ (.inr (.inr (.inr hk)))), h5, fun i x p hx hp => (h6 i x p hx hp).upd hu hT⟩, h7, h8, h9, h10, h11, h12⟩
theorem DkAt.new (h : DkAt w d vm gm u D) (hn : New w w') : DkAt w' d vm gm u D := h.upd (Upd.new (S := fun _ => False) hn) (fun _ _ h => h) (turns_none w)
theorem DkAt.lt (h : DkAt w d vm gm u D) : ∀ k, DkF d vm gm u k → k < w.heap.size := by
  intro k hk
  rcases hk with rfl | rfl | rfl | hk
  · exact h.blk.lt
  · exact h.vw.lt
  · exact h.gr.lt
  · obtain ⟨xs, ho, _⟩ := h.pd
    exact (ho.lt k hk).2

theorem nodup_lt : ∀ (n : Nat) (l : List Int), l.Nodup → (∀ x ∈ l, 0 ≤ x ∧ x < (n : Int)) → l.length ≤ n
  | 0, [], _, _ => Nat.le_refl _
  | 0, x :: _, _, h => by have := h x (by simp); omega
  | n + 1, l, hn, h => by
    have h1 := nodup_lt n (l.erase (n : Int)) (hn.erase _) (fun x hx => by
      have h2 := (List.Nodup.mem_erase_iff hn).1 hx
      have h3 := h x h2.2
      have := h2.1
      omega)
    have := List.length_erase (a := (n : Int)) (l := l)
    split at this <;> omega
theorem SecM.count (h : SecM w mb s) {z : Int} (hf : s.fine z) (hz : z ≤ 65536) : s.n ≤ 65536 := by
  obtain ⟨f, h1, h2⟩ := h
  obtain ⟨l, g1, g2, g3, g4⟩ := h1.keys keyD
  rw [← g2]
  refine nodup_lt 65536 l g1 fun x hx => ?_
  have hok := g3 x hx
  have hs := (g4 x hok).2 hx
  rcases h2 x hok with h | ⟨v, bs, e1, e2, _⟩
  · rw [h.1] at hs; cases hs
  · have := hf x bs e2
    omega
/-- The sectors that two maps hold are as many where they are the same. -/
theorem SecM.n_eq {w₂ : World} {mb₂ : Nat} {s₂ : Sec} (h : SecM w mb s) (h₂ : SecM w₂ mb₂ s₂) (he : ∀ k, okI k → s.f k = s₂.f k) : s.n = s₂.n := by
  obtain ⟨f, h1, h2⟩ := h
  obtain ⟨f₂, g1, g2⟩ := h₂
  refine h1.count keyD g1 fun k hk => ?_
  have he' := he k hk
  rcases h2 k hk with h | ⟨v, bs, e1, e2, _⟩ <;> rcases g2 k hk with g | ⟨v₂, bs₂, e3, e4, _⟩
  · rw [h.1, g.1]
  · rw [h.2, e4] at he'; cases he'
  · rw [g.2, e2] at he'; cases he'
  · rw [e1, e3]; rfl
end
end Go.Proofs.Ytdjnfnhmkfbfmaa
