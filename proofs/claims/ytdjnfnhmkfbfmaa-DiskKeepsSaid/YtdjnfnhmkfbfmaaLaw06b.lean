/- Chapter 6 (disk): a disk whatever its blocks; the laws' own example. -/
import Derived.Test.YtdjnfnhmkfbfmaaLaw06
namespace Go.Proofs.Ytdjnfnhmkfbfmaa
open Go.RowKit Go.Lap
set_option linter.unusedVariables false

/-- F, and what is new. -/
def Grw (F : Nat → Prop) (w w' : World) (k : Nat) : Prop := F k ∨ (w.heap.size ≤ k ∧ k < w'.heap.size)
/-- The disk at d, its blocks in F. -/
def DSt (w : World) (F : Nat → Prop) (d : Nat) (D : Dk) : Prop := ∃ vm gm u, DkAt w d vm gm u D ∧ ∀ k, DkF d vm gm u k → F k
def DUp (F : Nat → Prop) (w w' : World) : Prop := ∃ S, Upd S w w' ∧ (∀ k, S k → F k) ∧ Turns w S
def DRes (w : World) (F : Nat → Prop) (d : Nat) (D' : Dk) (w' : World) : Prop := DSt w' (Grw F w w') d D' ∧ DUp F w w'

section
variable {w w' : World} {F G : Nat → Prop} {d c : Nat} {D C : Dk}
theorem DUp.upd (h : DUp F w w') : Upd F w w' := let ⟨_, h1, h2, _⟩ := h; h1.mono fun k _ hk => h2 k hk
theorem DSt.other (h : DSt w G c C) (hu : DUp F w w') (hd : ∀ k, G k → ¬ F k) : DSt w' G c C := by
  obtain ⟨vm, gm, u, h1, h2⟩ := h
  obtain ⟨S, g1, g2, g3⟩ := hu
  exact ⟨vm, gm, u, h1.upd g1 (fun k hk hS => hd k (h2 k hk) (g2 k hS)) g3, h2⟩
theorem DSt.new (h : DSt w F d D) (hn : New w w') : DSt w' F d D := let ⟨vm, gm, u, h1, h2⟩ := h; ⟨vm, gm, u, h1.new hn, h2⟩
theorem DSt.mono (h : DSt w F d D) (hF : ∀ k, F k → G k) : DSt w G d D := let ⟨vm, gm, u, h1, h2⟩ := h; ⟨vm, gm, u, h1, fun k hk => hF k (h2 k hk)⟩
theorem DSt.ltG (h : DSt w F d D) : DSt w (fun k => F k ∧ k < w.heap.size) d D := let ⟨vm, gm, u, h1, h2⟩ := h; ⟨vm, gm, u, h1, fun k hk => ⟨h2 k hk, h1.lt k hk⟩⟩
theorem DkAt.res {vm gm : Nat} {u : Value} (h : DkAt w d vm gm u D) (hF : ∀ k, DkF d vm gm u k → F k) {D' : Dk} (hp : DkPost w d vm gm u D' w') : DRes w F d D' w' := by
  obtain ⟨vm', gm', u', h1, h2, h3⟩ := hp
  exact ⟨⟨vm', gm', u', h1, fun k hk => (h2 k hk).imp (hF k) (fun hw => ⟨hw, h1.lt k hk⟩)⟩, _, h3, hF, h.turns⟩

theorem new_s (n : Int) (w : World) (h1 : 1 ≤ n) (h2 : n ≤ 65536) : Calls Try.prog 28 #[.int .i64 n] w fun e w' => ∃ d, e = .returned (.tuple #[.pointer (some ⟨d, 0, none⟩), .int .i64 0]) ∧ DSt w' (fun k => w.heap.size ≤ k) d (newD n) ∧ New w w' := by
  refine (dnew_ok n w h1 h2).mono ?_
  rintro e w1 ⟨d, vm, gm, u, rfl, h3, h4, h5⟩
  exact ⟨d, rfl, ⟨vm, gm, u, h3, h4⟩, h5⟩
theorem sync_s (w : World) (h : DSt w F d D) : Calls Try.prog 32 #[.pointer (some ⟨d, 0, none⟩)] w fun e w' => e = .returned (.tuple #[]) ∧ DRes w F d (syncD D) w' := by
  obtain ⟨vm, gm, u, h1, h2⟩ := h
  exact (dsync w h1).mono fun e w' he => ⟨he.1, h1.res h2 he.2⟩
theorem crash_s (w : World) (h : DSt w F d D) {v : Value} {l : List (Int × Int)} (hs : SlIn w 2 svE v l) (hl : l.length ≤ 100000) (hw : ∀ x ∈ l, okI x.1 ∧ okI x.2) (hL : D.L.length ≤ 100000) : Calls Try.prog 34 #[.pointer (some ⟨d, 0, none⟩), v] w fun e w' => e = .returned (.tuple #[]) ∧ DRes w F d (crashD D l) w' := by
  obtain ⟨vm, gm, u, h1, h2⟩ := h
  exact (dcrash w h1 hs hl hw hL).mono fun e w' he => ⟨he.1, h1.res h2 he.2⟩
theorem write_s (w : World) (h : DSt w F d D) (a : Int) (ha : okI a) {v : Value} {bs : List UInt8} (hs : SlIn w 1 byE v bs) (hb : bs.length ≤ 1000000000) (hl : D.L.length ≤ 100000) : Calls Try.prog 47 #[.pointer (some ⟨d, 0, none⟩), .int .i64 a, v] w fun e w' => e = .returned (.int .i64 (writeR D a bs.length)) ∧ DRes w F d (writeD D a bs) w' := by
  obtain ⟨vm, gm, u, h1, h2⟩ := h
  exact (dwrite w h1 a ha hs hb hl).mono fun e w' he => ⟨he.1, h1.res h2 he.2⟩
theorem readN_s (w : World) (h : DSt w F d D) (a : Int) (ha : okI a) (hD : D.V.f a = none) : Calls Try.prog 33 #[.pointer (some ⟨d, 0, none⟩), .int .i64 a] w fun e w' => e = .returned (.tuple #[.slice none 0 0, .int .i64 61]) ∧ New w w' := by
  obtain ⟨vm, gm, u, h1, h2⟩ := h
  exact dread_none w h1 a ha hD
theorem readS_s (w : World) (h : DSt w F d D) (a : Int) (ha : okI a) {bs : List UInt8} (hD : D.V.f a = some bs) : Calls Try.prog 33 #[.pointer (some ⟨d, 0, none⟩), .int .i64 a] w fun e w' => ∃ v, e = .returned (.tuple #[v, .int .i64 0]) ∧ SlIn w' 1 byE v bs ∧ New w w' := by
  obtain ⟨vm, gm, u, h1, h2⟩ := h
  exact (dread_some w h1 a ha hD).mono fun e w' ⟨v, h1, h2, h3⟩ => ⟨v, h1, Owns.slIn byEOk h2, h3⟩
theorem used_s (w : World) (h : DSt w F d D) : Calls Try.prog 37 #[.pointer (some ⟨d, 0, none⟩)] w fun e w' => e = .returned (.int .i64 (D.V.n : Int)) ∧ w' = w := by
  obtain ⟨vm, gm, u, h1, h2⟩ := h
  exact dused w h1
theorem pend_s (w : World) (h : DSt w F d D) : Calls Try.prog 35 #[.pointer (some ⟨d, 0, none⟩)] w fun e w' => e = .returned (.int .i64 (D.L.length : Int)) ∧ w' = w := by
  obtain ⟨vm, gm, u, h1, h2⟩ := h
  exact dpending w h1
theorem copy_s (w : World) (h : DSt w F d D) (hl : D.L.length ≤ 100000) : Calls Try.prog 36 #[.pointer (some ⟨d, 0, none⟩)] w fun e w' => ∃ c, e = .returned (.pointer (some ⟨c, 0, none⟩)) ∧ DSt w' (fun k => w.heap.size ≤ k) c D ∧ New w w' := by
  obtain ⟨vm, gm, u, h1, h2⟩ := h
  refine (dcopy w h1 hl).mono ?_
  rintro e w1 ⟨c, vm, gm, u, rfl, h3, h4, h5⟩
  exact ⟨c, rfl, ⟨vm, gm, u, h3, h4⟩, h5⟩
theorem do_s (a : Ac) (w : World) (h : DSt w F d D) (ha : a.fine w) (hL : D.L.length ≤ 100000) : Calls Try.prog 30 #[.pointer (some ⟨d, 0, none⟩), .agg #[.int .i64 a.kind, .int .i64 a.at_, .string a.b, a.u]] w fun e w' => ∃ r D', e = .returned (.int .i64 r) ∧ DRes w F d D' w' ∧ Acts a.kind a.at_ D r D' := by
  obtain ⟨vm, gm, u, h1, h2⟩ := h
  refine (do6_any a w h1 ha hL).mono ?_
  rintro e w1 ⟨r, D', rfl, h3, h4⟩
  exact ⟨r, D', rfl, h1.res h2 h3, h4⟩
end

/-- One disk alone, all of it new since w0. -/
def DB (w0 w : World) (d : Nat) (D : Dk) : Prop := DSt w (fun k => w0.heap.size ≤ k) d D ∧ New w0 w
theorem DB.step {w0 w w' : World} {d : Nat} {D D' : Dk} (h : DB w0 w d D) (hr : DRes w (fun k => w0.heap.size ≤ k) d D' w') : DB w0 w' d D' :=
  ⟨hr.1.mono fun k hk => hk.elim id fun h1 => Nat.le_trans h.2.size h1.1, h.2.upd hr.2.upd fun k hk => hk⟩
theorem DB.new {w0 w w' : World} {d : Nat} {D : Dk} (h : DB w0 w d D) (hn : New w w') : DB w0 w' d D := ⟨h.1.new hn, h.2.trans hn⟩

theorem made_bytes (w : World) (bs : List UInt8) (z : Nat × Nat) : SlIn (w.alloc (.cells (bs.map (fun b => Value.int .u8 (b.toNat : Int))).toArray 5 z)) 1 byE (.slice (some ⟨w.heap.size, 0, none⟩) bs.length bs.length) bs := by
  refine ⟨_, _, rfl, Nat.le_refl _, .inr ⟨w.heap.size, 0, rfl, by simp, ?_⟩⟩
  intro k x hk j u hj
  have hj0 : j = 0 := by
    have := (List.getElem?_eq_some_iff.1 hj).1
    simp [byE] at this
    exact this
  subst hj0
  simp [byE] at hj
  have hb : (w.alloc (.cells (bs.map (fun b => Value.int .u8 (b.toNat : Int))).toArray 5 z)).heap[w.heap.size]? = some (.cells (bs.map (fun b => Value.int .u8 (b.toNat : Int))).toArray 5 z) := by
    show (w.heap.push _)[w.heap.size]? = _
    simp
  rw [show 0 + k * 1 + 0 = k by omega]
  unfold World.cell?
  simp only [hb]
  simp [hk, hj]
end Go.Proofs.Ytdjnfnhmkfbfmaa
