/- Chapter 22 (decree): a node in memory. -/
import Derived.Test.YtlhlcdjkacglnaaGreatDoorJk9
import Derived.Test.YtlhlcdjkacglnaaGreatDoorJk6
import Derived.Test.YtlhlcdjkacglnaaGreatDoorJk1
import Derived.Deep.RegionHeld3
import Derived.Deep.QuietTactic
import Derived.BigQuiet
namespace Go.Proofs.YtlhlcdjkacglnaaGreatDoor.D
open Go.RowKit Go.Lap
set_option linter.unusedVariables false

def litU (s : Nat) : Lit := .int .u64 (s : Int)
def okU (s : Nat) : Prop := (Lit.int .u64 (s : Int)).wf = true
def litI (s : Int) : Lit := .int .i64 s
def okI (s : Int) : Prop := (Lit.int .i64 s).wf = true
theorem keyS64 : KeyB Tryz.prog 22 (fun n : Nat => .int .u64 (n : Int)) litU okU := keyU Tryz.underlying22
theorem keyI64 : KeyB Tryz.prog 3 (fun n : Int => .int .i64 n) litI okI := keyI Tryz.underlying3
theorem okU_lt {n : Nat} (h : n < 18446744073709551616) : okU n := by unfold okU; simp [Lit.wf, IntKind.min, IntKind.max, IntKind.signed, IntKind.bits]; omega
theorem okI_lt {n : Int} (h : -9223372036854775808 ≤ n) (h2 : n ≤ 9223372036854775807) : okI n := by unfold okI; simp [Lit.wf, IntKind.min, IntKind.max, IntKind.signed, IntKind.bits]; omega
abbrev MpU (w : World) (b m : Nat) (f : Nat → Option Value) : Prop := MpAt Tryz.prog 22 litU okU w b m f
abbrev MpI (w : World) (b m : Nat) (f : Int → Option Value) : Prop := MpAt Tryz.prog 3 litI okI w b m f
theorem Blk.ne_map {P : Program} {kt : TypeId} {κ : Type} {lit : κ → Lit} {ok : κ → Prop} {w : World} {g b m : Nat} {t : TypeId} {cs : Array Value} {f : κ → Option Value} (h : Blk w g t cs) (hm : MpAt P kt lit ok w b m f) : g ≠ b := by
  rintro rfl
  obtain ⟨D, ⟨es, clock, hb, _⟩, _⟩ := hm
  unfold Blk at h
  rw [h] at hb
  cases hb
theorem Row.ne_map {α : Type} {enc : α → List Value} {size base : Nat} {e : TypeId} {v : Value} {l : List α} {P : Program} {kt : TypeId} {κ : Type} {lit : κ → Lit} {ok : κ → Prop} {w : World} {b m : Nat} {f : κ → Option Value} (h : Row w base e size enc v l) (hm : MpAt P kt lit ok w b m f) : v.ownBlock ≠ some b := by
  intro hk
  rcases h with ⟨rfl, _⟩ | ⟨g, off, cap, cur, rfl, _, hh, _⟩
  · cases hk
  · cases hk; exact Blk.ne_map hh hm rfl

/-- An acceptor in memory. -/
abbrev AcrAt (w : World) (g : Nat) (a : Acr) : Prop := AccAt w g a.r a.n a.h a.ar a.an a.v
def acV (ac : Nat → Option Acr) (ab : Nat → Nat) (s : Nat) : Option Value := (ac s).map fun _ => .pointer (some ⟨ab s, 0, none⟩)
def lgV (lg : Nat → Option ByteArray) (s : Nat) : Option Value := (lg s).map Value.string
/-- A node's acceptors. -/
structure AcsAt (w : World) (F : Nat → Prop) (am B : Nat) (ab : Nat → Nat) (ac : Nat → Option Acr) : Prop where
  mp : ∃ m, m ≤ B ∧ MpU w am m (acV ac ab)
  at_ : ∀ s a, ac s = some a → AcrAt w (ab s) a ∧ F (ab s)
  inj : ∀ s t, ac s ≠ none → ac t ≠ none → ab s = ab t → s = t
def LgAt (w : World) (lm B : Nat) (lg : Nat → Option ByteArray) : Prop := ∃ m, m ≤ B ∧ MpU w lm m (lgV lg)
def setV (l : List Int) (k : Int) : Option Value := if k ∈ l then some (.bool true) else none
/-- A proposal's blocks. -/
structure PrL where
  pb : Nat
  fm : Nat
  bm : Nat
  qv : Value
structure PrsAt (w : World) (F : Nat → Prop) (am lm : Nat) (L : PrL) (p : Prs) : Prop where
  blk : Blk w L.pb 208 #[.int .u64 (p.s : Int), .int .u64 (p.r : Int), .int .u64 (p.n : Int), L.qv, .map (some L.fm), .map (some L.bm), .string p.v, .bool p.ch]
  row : Row w 0 211 4 Pro.enc L.qv p.pm
  fm : MpI w L.fm p.fr.length (setV p.fr)
  bm : MpI w L.bm p.by_.length (setV p.by_)
  n1 : L.fm ≠ L.bm
  n2 : L.fm ≠ am ∧ L.fm ≠ lm
  n3 : L.bm ≠ am ∧ L.bm ≠ lm
  f1 : F L.pb ∧ F L.fm ∧ F L.bm
  f2 : ∀ k, L.qv.ownBlock = some k → F k
def NwAt (w : World) (F : Nat → Prop) (am lm : Nat) (pw : Value) (nw : Option Prs) : Prop :=
  match nw with
  | none => pw = .pointer none
  | some p => ∃ L : PrL, pw = .pointer (some ⟨L.pb, 0, none⟩) ∧ PrsAt w F am lm L p
/-- A node's blocks. -/
structure NdL where
  am : Nat
  lm : Nat
  ab : Nat → Nat
  pv : Value
  pw : Value
structure NdAt (w : World) (F : Nat → Prop) (nb : Nat) (id : Int) (B : Nat) (L : NdL) (x : Nod) : Prop where
  blk : Blk w nb 187 #[.int .i64 id, .map (some L.am), .map (some L.lm), .int .u64 (x.rd : Int), L.pv, L.pw]
  ac : AcsAt w F L.am B L.ab x.ac
  lg : LgAt w L.lm B x.lg
  pe : Row w 0 9 1 sEnc L.pv x.pe
  nw : NwAt w F L.am L.lm L.pw x.nw
  n1 : L.am ≠ L.lm
  f1 : F nb ∧ F L.am ∧ F L.lm
  f2 : ∀ k, L.pv.ownBlock = some k → F k
section
variable {w w' : World} {S F G : Nat → Prop} {am lm nb B : Nat} {ab : Nat → Nat} {ac : Nat → Option Acr} {lg : Nat → Option ByteArray} {id : Int} {L : NdL} {x : Nod}
theorem AcsAt.upd (h : AcsAt w F am B ab ac) (hu : Upd S w w') (h1 : ¬ S am) (hS : ∀ k, F k → ¬ S k) : AcsAt w' F am B ab ac := by
  obtain ⟨m, hm, hmp⟩ := h.mp
  exact ⟨⟨m, hm, hmp.upd hu h1⟩, fun s a ha => ⟨(h.at_ s a ha).1.upd hu (hS _ (h.at_ s a ha).2), (h.at_ s a ha).2⟩, h.inj⟩
theorem AcsAt.mono (h : AcsAt w F am B ab ac) (hF : ∀ k, F k → G k) : AcsAt w G am B ab ac := ⟨h.mp, fun s a ha => ⟨(h.at_ s a ha).1, hF _ (h.at_ s a ha).2⟩, h.inj⟩
theorem LgAt.upd (h : LgAt w lm B lg) (hu : Upd S w w') (hS : ¬ S lm) : LgAt w' lm B lg := by
  obtain ⟨m, hm, hmp⟩ := h
  exact ⟨m, hm, hmp.upd hu hS⟩
theorem PrsAt.upd {L : PrL} {p : Prs} (h : PrsAt w F am lm L p) (hu : Upd S w w') (hS : ∀ k, F k → ¬ S k) : PrsAt w' F am lm L p :=
  ⟨h.blk.upd hu (hS _ h.f1.1), h.row.upd hu (fun k hk => hS k (h.f2 k hk)), h.fm.upd hu (hS _ h.f1.2.1), h.bm.upd hu (hS _ h.f1.2.2), h.n1, h.n2, h.n3, h.f1, h.f2⟩
theorem PrsAt.mono {L : PrL} {p : Prs} (h : PrsAt w F am lm L p) (hF : ∀ k, F k → G k) : PrsAt w G am lm L p := { h with f1 := ⟨hF _ h.f1.1, hF _ h.f1.2.1, hF _ h.f1.2.2⟩, f2 := fun k hk => hF k (h.f2 k hk) }
theorem NwAt.upd {pw : Value} {nw : Option Prs} (h : NwAt w F am lm pw nw) (hu : Upd S w w') (hS : ∀ k, F k → ¬ S k) : NwAt w' F am lm pw nw := by
  cases nw with
  | none => exact h
  | some p => obtain ⟨L, h1, h2⟩ := h; exact ⟨L, h1, h2.upd hu hS⟩
theorem NwAt.mono {pw : Value} {nw : Option Prs} (h : NwAt w F am lm pw nw) (hF : ∀ k, F k → G k) : NwAt w G am lm pw nw := by
  cases nw with
  | none => exact h
  | some p => obtain ⟨L, h1, h2⟩ := h; exact ⟨L, h1, h2.mono hF⟩
theorem NdAt.upd (h : NdAt w F nb id B L x) (hu : Upd S w w') (hS : ∀ k, F k → ¬ S k) : NdAt w' F nb id B L x :=
  ⟨h.blk.upd hu (hS _ h.f1.1), h.ac.upd hu (hS _ h.f1.2.1) hS, h.lg.upd hu (hS _ h.f1.2.2), h.pe.upd hu (fun k hk => hS k (h.f2 k hk)), h.nw.upd hu hS, h.n1, h.f1, h.f2⟩
theorem NdAt.new (h : NdAt w F nb id B L x) (hn : New w w') : NdAt w' F nb id B L x := h.upd (S := fun _ => False) (Upd.new hn) (fun _ _ x => x)
theorem NdAt.mono {C : Nat} (h : NdAt w F nb id B L x) (hF : ∀ k, F k → G k) (hB : B ≤ C) : NdAt w G nb id C L x :=
  ⟨h.blk, { h.ac.mono hF with mp := let ⟨m, h1, h2⟩ := h.ac.mp; ⟨m, Nat.le_trans h1 hB, h2⟩ }, let ⟨m, h1, h2⟩ := h.lg; ⟨m, Nat.le_trans h1 hB, h2⟩, h.pe, h.nw.mono hF, h.n1, ⟨hF _ h.f1.1, hF _ h.f1.2.1, hF _ h.f1.2.2⟩, fun k hk => hF k (h.f2 k hk)⟩
theorem Blk6F {w : World} {g t : Nat} {a b c d e f : Value} (h : Blk w g t #[a, b, c, d, e, f]) : g < w.heap.size ∧ w.cell? ⟨g, 0, none⟩ = some a ∧ w.cell? ⟨g, 1, none⟩ = some b ∧ w.cell? ⟨g, 2, none⟩ = some c ∧ w.cell? ⟨g, 3, none⟩ = some d ∧ w.cell? ⟨g, 4, none⟩ = some e ∧
    w.cell? ⟨g, 5, none⟩ = some f ∧ (∀ i, w.frozen? ⟨g, i, none⟩ = false) := ⟨h.lt, h.cell 0, h.cell 1, h.cell 2, h.cell 3, h.cell 4, h.cell 5, h.frozen⟩
theorem zeroS (w : World) : (zeroValue 9).run Tryz.prog w = .ok (.string ⟨#[]⟩) w := by kernel_rfl
theorem lgV_get (lg : Nat → Option ByteArray) (s : Nat) : (lgV lg s).getD (.string ⟨#[]⟩) = .string ((lg s).getD E0) := by unfold lgV; cases lg s <;> rfl
theorem lgV_some (lg : Nat → Option ByteArray) (s : Nat) : (lgV lg s).isSome = (lg s).isSome := by unfold lgV; cases lg s <;> rfl
set_option maxRecDepth 100000 in
set_option maxHeartbeats 2000000 in
theorem nfirst (h : NdAt w F nb id B L x) {s : Nat} (hf : IsFirst x.lg s) (hs : s ≤ 1000000000000) :
    Calls Tryz.prog 109 #[.pointer (some ⟨nb, 0, none⟩)] w fun e w' => e = .returned (.int .u64 (s : Int)) ∧ w' = w := by
  obtain ⟨g0, c0, c1, c2, c3, c4, c5, cz⟩ := Blk6F h.blk
  obtain ⟨m, _, hmp⟩ := h.lg
  have HM := Lib.hid hmp
  have HF := Lib.hid hf
  clear h hf hmp
  go_enter Tryz.func109, Tryz.ntmps109
  go_wp2_with fail
  go_loop [3] (fun i => ∃ k : Nat, k ≤ s ∧ i = .int .u64 (k : Int)) (fun i => s - (intOf i).toNat)
  case atStart => exact ⟨0, Nat.zero_le _, rfl⟩
  case round =>
    obtain ⟨k, hk, rfl⟩ := hrel
    have hv := lgV_get x.lg k
    have hi := lgV_some x.lg k
    by_cases hks : k = s
    · subst hks
      rw [HF.out.no] at hi
      go_wp2_with (at_lookup; refine wpList_mp_ok keyS64 rfl _ _ 184 9 rfl Tryz.underlying184 (zeroS _) rfl HM.out k (okU_lt (by omega)) rfl ?_; rw [hv, hi])
      go_ret
      exact ⟨rfl, rfl⟩
    · have hlt : k < s := by omega
      rw [HF.out.yes k hlt] at hi
      clear hks
      go_wp2_with (at_lookup; refine wpList_mp_ok keyS64 rfl _ _ 184 9 rfl Tryz.underlying184 (zeroS _) rfl HM.out k (okU_lt (by omega)) rfl ?_; rw [hv, hi])
      go_round
      case rel => exact ⟨k + 1, by omega, by go_num⟩
      case measure => simp [intOf]; omega
end
end Go.Proofs.YtlhlcdjkacglnaaGreatDoor.D
/- Chapter 22 (decree): a node's acceptor; what is known; a message of the proposal. -/
namespace Go.Proofs.YtlhlcdjkacglnaaGreatDoor.D
open Go.RowKit Go.Lap
set_option linter.unusedVariables false
section
variable {w w' w'' : World} {S F G : Nat → Prop} {am lm nb B : Nat} {ab : Nat → Nat} {ac : Nat → Option Acr} {lg : Nat → Option ByteArray} {id : Int} {L : NdL} {x : Nod}
/-- More blocks: new ones alone. -/
def Gro (F F' : Nat → Prop) (w w' : World) : Prop := ∀ k, F' k → F k ∨ (w.heap.size ≤ k ∧ k < w'.heap.size)
end
end Go.Proofs.YtlhlcdjkacglnaaGreatDoor.D
/- Chapter 22 (decree): what a node says that is asked. Printed by genDn5.py. -/
namespace Go.Proofs.YtlhlcdjkacglnaaGreatDoor.D
open Go.RowKit Go.Lap
set_option linter.unusedVariables false
section
variable {w w' w'' : World} {S F G : Nat → Prop} {am lm nb B : Nat} {ab : Nat → Nat} {ac : Nat → Option Acr} {lg : Nat → Option ByteArray} {id : Int} {L : NdL} {x : Nod}
theorem Blk4F {w : World} {g t : Nat} {a b c d : Value} (h : Blk w g t #[a, b, c, d]) : g < w.heap.size ∧ w.cell? ⟨g, 0, none⟩ = some a ∧ w.cell? ⟨g, 1, none⟩ = some b ∧ w.cell? ⟨g, 2, none⟩ = some c ∧ w.cell? ⟨g, 3, none⟩ = some d ∧ (∀ i, w.frozen? ⟨g, i, none⟩ = false) := ⟨h.lt, h.cell 0, h.cell 1, h.cell 2, h.cell 3, h.frozen⟩
end
end Go.Proofs.YtlhlcdjkacglnaaGreatDoor.D
