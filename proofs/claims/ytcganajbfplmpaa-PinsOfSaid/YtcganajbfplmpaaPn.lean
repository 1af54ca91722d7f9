/- Chapter 18 (pins): what pins are in memory; New, Find, Drop, Pin. -/
import Derived.Test.YtcganajbfplmpaaMp2
import Derived.Test.YtcganajbfplmpaaCa4
namespace Go.Proofs.Ytcganajbfplmpaa
open Go.RowKit Go.Lap
set_option linter.unusedVariables false

abbrev okS (s : ByteArray) : Prop := s.size ≤ maxLen
abbrev litS (s : ByteArray) : Lit := .string s.data.toList
theorem keyS : KeyI Try.prog 9 (fun s : ByteArray => .string s) litS okS := keySI Try.underlying9
abbrev okU (n : Nat) : Prop := (Lit.int .u64 (n : Int)).wf = true
abbrev litU (n : Nat) : Lit := .int .u64 (n : Int)
theorem keyN : KeyI Try.prog 55 (fun n : Nat => .int .u64 (n : Int)) litU okU := keyUI Try.underlying55
theorem zeroU (w : World) : (zeroValue 55).run Try.prog w = .ok (.int .u64 0) w := by kernel_rfl
theorem zeroL (w : World) : (zeroValue 137).run Try.prog w = .ok (.agg #[.int .u64 0, .int .u64 0]) w := by kernel_rfl

def valN (g : ByteArray → Option Nat) (s : ByteArray) : Option Value := (g s).map fun n => .int .u64 (n : Int)
def valL (g : Nat → Option (Nat × Nat)) (n : Nat) : Option Value := (g n).map fun x => .agg #[.int .u64 (x.1 : Int), .int .u64 (x.2 : Int)]
/-- Pins: what each name has, what each reader has, and how many there are. -/
structure PnAt (w : World) (p nm lm : Nat) (N : ByteArray → Option Nat) (nn : Nat) (L : Nat → Option (Nat × Nat)) (ln : Nat) : Prop where
  blk : Blk w p 102 #[.map (some nm), .map (some lm)]
  na : MpAt Try.prog 9 litS okS w nm nn (valN N)
  le : MpAt Try.prog 55 litU okU w lm ln (valL L)
  n1 : nm ≠ p
  n2 : lm ≠ p
  n3 : nm ≠ lm
def PnF (p nm lm k : Nat) : Prop := k = p ∨ k = nm ∨ k = lm
theorem Blk2P {w : World} {g t : Nat} {a b : Value} (h : Blk w g t #[a, b]) : g < w.heap.size ∧ w.cell? ⟨g, 0, none⟩ = some a ∧ w.cell? ⟨g, 1, none⟩ = some b ∧ (∀ i, w.frozen? ⟨g, i, none⟩ = false) := ⟨h.lt, h.cell 0, h.cell 1, h.frozen⟩
section
variable {w w' : World} {S : Nat → Prop} {p nm lm nn ln : Nat} {N : ByteArray → Option Nat} {L : Nat → Option (Nat × Nat)}
theorem PnAt.upd (h : PnAt w p nm lm N nn L ln) (hu : Upd S w w') (hS : ∀ k, PnF p nm lm k → ¬ S k) : PnAt w' p nm lm N nn L ln :=
  ⟨h.blk.upd hu (hS _ (.inl rfl)), h.na.upd hu (hS _ (.inr (.inl rfl))), h.le.upd hu (hS _ (.inr (.inr rfl))), h.n1, h.n2, h.n3⟩
theorem PnAt.new (h : PnAt w p nm lm N nn L ln) (hn : New w w') : PnAt w' p nm lm N nn L ln := h.upd (S := fun _ => False) (Upd.new hn) (fun _ _ h => h)
theorem valN_get (N : ByteArray → Option Nat) (s : ByteArray) : (valN N s).getD (.int .u64 0) = .int .u64 (((N s).getD 0 : Nat) : Int) := by
  unfold valN
  cases N s <;> rfl
theorem valN_some (N : ByteArray → Option Nat) (s : ByteArray) : (valN N s).isSome = (N s).isSome := by
  unfold valN
  cases N s <;> rfl

set_option maxHeartbeats 1000000 in
theorem pfind (w : World) (h : PnAt w p nm lm N nn L ln) (s : ByteArray) (hs : okS s) :
    Calls Try.prog 31 #[.pointer (some ⟨p, 0, none⟩), .string s] w fun e w' => e = .returned (.tuple #[.int .u64 (((N s).getD 0 : Nat) : Int), .int .i64 (if (N s).isSome then 0 else 180)]) ∧ w' = w := by
  obtain ⟨d0, d1, d2, dz⟩ := Blk2P h.blk
  have hv := valN_get N s
  have hi := valN_some N s
  cases hN : N s with
  | none =>
    rw [hN] at hv hi
    go_enter Try.func31, Try.ntmps31
    go_wp2_with (at_lookup; refine wpList_mp_ok keyS.toKeyB rfl _ _ 99 55 rfl Try.underlying99 (zeroU _) rfl h.na s hs rfl ?_; rw [hv, hi]; dsimp only [Option.isSome])
    go_ret2
    exact ⟨rfl, rfl⟩
  | some n =>
    rw [hN] at hv hi
    go_enter Try.func31, Try.ntmps31
    go_wp2_with (at_lookup; refine wpList_mp_ok keyS.toKeyB rfl _ _ 99 55 rfl Try.underlying99 (zeroU _) rfl h.na s hs rfl ?_; rw [hv, hi]; dsimp only [Option.isSome, Option.getD])
    go_ret2
    exact ⟨rfl, rfl⟩
end
end Go.Proofs.Ytcganajbfplmpaa
