/- Chapter 18 (pins): New, Drop, Pin. -/
import Derived.Test.YtcganajbfplmpaaPn
namespace Go.Proofs.Ytcganajbfplmpaa
open Go.RowKit Go.Lap
set_option linter.unusedVariables false

theorem growP {w w' : World} {b : Nat} (h : w.grownBy w' (some b)) : Upd (· = b) w w' := ⟨h.os, h.tape, h.output, h.size, fun i hi hn => h.block i hi (by simpa using hn)⟩
def delN (N : ByteArray → Option Nat) (s : ByteArray) (k : ByteArray) : Option Nat := if k = s then none else N k
def putN (N : ByteArray → Option Nat) (s : ByteArray) (n : Nat) (k : ByteArray) : Option Nat := if k = s then some n else N k
section
variable {w w' : World} {S : Nat → Prop} {p nm lm nn ln : Nat} {N : ByteArray → Option Nat} {L : Nat → Option (Nat × Nat)}
def PDropPost (w : World) (p nm lm nn ln : Nat) (N : ByteArray → Option Nat) (L : Nat → Option (Nat × Nat)) (s : ByteArray) (e : Ending) (w' : World) : Prop :=
  e = .returned (.int .i64 (if (N s).isSome then 0 else 180)) ∧ PnAt w' p nm lm (delN N s) (if (N s).isSome then nn - 1 else nn) L ln ∧ Upd (PnF p nm lm) w w'
set_option maxHeartbeats 1000000 in
theorem pdrop (w : World) (h : PnAt w p nm lm N nn L ln) (s : ByteArray) (hs : okS s) :
    Calls Try.prog 48 #[.pointer (some ⟨p, 0, none⟩), .string s] w (PDropPost w p nm lm nn ln N L s) := by
  obtain ⟨d0, d1, d2, dz⟩ := Blk2P h.blk
  have hv := valN_get N s
  have hi := valN_some N s
  have HP := Lib.hid h
  unfold PDropPost
  cases hN : N s with
  | none =>
    rw [hN] at hv hi
    have HE := Lib.hid (show delN N s = N from funext fun k => by unfold delN; split <;> simp_all)
    go_enter Try.func48, Try.ntmps48
    go_wp2_with (at_lookup; refine wpList_mp_ok keyS.toKeyB rfl _ _ 99 55 rfl Try.underlying99 (zeroU _) rfl h.na s hs rfl ?_; rw [hv, hi]; dsimp only [Option.isSome])
    go_ret
    exact ⟨rfl, by rw [HE.out]; exact HP.out, Upd.refl _ _⟩
  | some n =>
    rw [hN] at hv hi
    have HI := Lib.hid hi
    have HE := Lib.hid (show valN (delN N s) = fun j => if j = s then none else valN N j from funext fun k => by unfold valN delN; split <;> rfl)
    go_enter Try.func48, Try.ntmps48
    go_wp2_with (first | (at_lookup; refine wpList_mp_ok keyS.toKeyB rfl _ _ 99 55 rfl Try.underlying99 (zeroU _) rfl h.na s hs rfl ?_; rw [hv, hi]; dsimp only [Option.isSome, Option.getD]) | (at_delete; refine wpList_mp_del keyS.toKeyB rfl _ _ 99 55 rfl Try.underlying99 rfl h.na s hs rfl ?_; intro w5 hm5 hg5))
    go_ret
    have hU := growP hg5
    rw [HI.out] at hm5
    refine ⟨rfl, ⟨HP.out.blk.upd hU (fun e => HP.out.n1 e.symm), by rw [HE.out]; exact hm5, HP.out.le.upd hU (fun e => HP.out.n3 e.symm), HP.out.n1, HP.out.n2, HP.out.n3⟩, hU.mono fun k _ hk => .inr (.inl hk)⟩

def pinR (N : ByteArray → Option Nat) (nn : Nat) (s : ByteArray) : Int := if (N s).isSome = true ∨ s.size = 0 ∨ 32 < s.size then 180 else if 16 ≤ nn then 182 else 0
def PPinPost (w : World) (p nm lm nn ln : Nat) (N : ByteArray → Option Nat) (L : Nat → Option (Nat × Nat)) (s : ByteArray) (n : Nat) (e : Ending) (w' : World) : Prop :=
  e = .returned (.int .i64 (pinR N nn s)) ∧ PnAt w' p nm lm (if pinR N nn s = 0 then putN N s n else N) (if pinR N nn s = 0 then nn + 1 else nn) L ln ∧ Upd (PnF p nm lm) w w'
theorem emptyS (s : ByteArray) : s.toList.isEmpty = decide (s.size = 0) := by
  rw [ByteArray.toList_eq]
  obtain ⟨⟨l⟩⟩ := s
  cases l <;> simp [ByteArray.size]
theorem size0 {s : ByteArray} : s.size = 0 ↔ s = ⟨#[]⟩ := by
  constructor
  · intro h
    obtain ⟨a⟩ := s
    have : a = #[] := Array.size_eq_zero_iff.1 h
    rw [this]
  · rintro rfl; rfl
set_option maxRecDepth 100000 in
set_option maxHeartbeats 4000000 in
theorem ppin (w : World) (h : PnAt w p nm lm N nn L ln) (s : ByteArray) (hs : okS s) (n : Nat) (hnn : nn ≤ 1000) :
    Calls Try.prog 44 #[.pointer (some ⟨p, 0, none⟩), .string s, .int .u64 (n : Int)] w (PPinPost w p nm lm nn ln N L s n) := by
  obtain ⟨d0, d1, d2, dz⟩ := Blk2P h.blk
  have hv := valN_get N s
  have hi := valN_some N s
  have HP := Lib.hid h
  have hlen := mpLen h.na Try.underlying99 3
  have stay : ∀ (r : Int), pinR N nn s = r → r ≠ 0 → ∀ e, e = Ending.returned (.int .i64 r) → PPinPost w p nm lm nn ln N L s n e w := fun r hr h0 e he => ⟨by rw [he, hr], by rw [if_neg (by rw [hr]; exact h0), if_neg (by rw [hr]; exact h0)]; exact HP.out, Upd.refl _ _⟩
  have STAY := Lib.hid stay
  clear stay
  cases hN : N s with
  | some m =>
    rw [hN] at hv hi
    have HR := Lib.hid (show pinR N nn s = 180 from if_pos (.inl (by rw [hN]; rfl)))
    clear hN
    go_enter Try.func44, Try.ntmps44
    go_wp2_with (at_lookup; refine wpList_mp_ok keyS.toKeyB rfl _ _ 99 55 rfl Try.underlying99 (zeroU _) rfl h.na s hs rfl ?_; rw [hv, hi]; dsimp only [Option.isSome, Option.getD])
    go_ret
    exact STAY.out _ HR.out (by decide) _ rfl
  | none =>
    rw [hN] at hv hi
    by_cases h0 : s = ⟨#[]⟩
    · have h0c : s.toList.isEmpty = true := by rw [emptyS, decide_eq_true (size0.2 h0)]
      have HR := Lib.hid (show pinR N nn s = 180 from if_pos (.inr (.inl (size0.2 h0))))
      clear hN
      go_enter Try.func44, Try.ntmps44
      go_wp2_with (at_lookup; refine wpList_mp_ok keyS.toKeyB rfl _ _ 99 55 rfl Try.underlying99 (zeroU _) rfl h.na s hs rfl ?_; rw [hv, hi]; dsimp only [Option.isSome, Option.getD])
      go_ret
      exact STAY.out _ HR.out (by decide) _ rfl
    · have h0c : s.toList.isEmpty = false := by rw [emptyS, decide_eq_false (fun h => h0 (size0.1 h))]
      by_cases h32 : 32 < s.size
      · have HR := Lib.hid (show pinR N nn s = 180 from if_pos (.inr (.inr h32)))
        have h32' : (32 : Int) < (s.size : Int) := by omega
        clear hN
        go_enter Try.func44, Try.ntmps44
        go_wp2_with (at_lookup; refine wpList_mp_ok keyS.toKeyB rfl _ _ 99 55 rfl Try.underlying99 (zeroU _) rfl h.na s hs rfl ?_; rw [hv, hi]; dsimp only [Option.isSome, Option.getD])
        go_ret
        exact STAY.out _ HR.out (by decide) _ rfl
      · have h32' : ¬ (32 : Int) < (s.size : Int) := by omega
        have hpr : pinR N nn s = if 16 ≤ nn then 182 else 0 := if_neg (by
          rintro (h | h | h)
          · rw [hN] at h; cases h
          · exact h0 (size0.1 h)
          · exact h32 h)
        by_cases h16 : 16 ≤ nn
        · have HR := Lib.hid (show pinR N nn s = 182 by rw [hpr, if_pos h16])
          have h16' : (16 : Int) ≤ (nn : Int) := by omega
          clear hN hpr
          go_enter Try.func44, Try.ntmps44
          go_wp2_with (at_lookup; refine wpList_mp_ok keyS.toKeyB rfl _ _ 99 55 rfl Try.underlying99 (zeroU _) rfl h.na s hs rfl ?_; rw [hv, hi]; dsimp only [Option.isSome, Option.getD])
          go_ret
          exact STAY.out _ HR.out (by decide) _ rfl
        · have HR := Lib.hid (show pinR N nn s = 0 by rw [hpr, if_neg h16])
          have h16' : ¬ (16 : Int) ≤ (nn : Int) := by omega
          have HI := Lib.hid hi
          have HE := Lib.hid (show valN (putN N s n) = fun j => if j = s then some (.int .u64 (n : Int)) else valN N j from funext fun k => by unfold valN putN; split <;> rfl)
          have HMX := Lib.hid (show nn < maxLen by unfold maxLen; omega)
          clear hN hpr
          go_enter Try.func44, Try.ntmps44
          go_wp2_with (first | (at_lookup; refine wpList_mp_ok keyS.toKeyB rfl _ _ 99 55 rfl Try.underlying99 (zeroU _) rfl h.na s hs rfl ?_; rw [hv, hi]; dsimp only [Option.isSome, Option.getD]) | (at_mapUpdate; refine wpList_mp_put keyS.toKeyB rfl _ _ _ 99 55 rfl Try.underlying99 rfl h.na HMX.out s hs rfl _ rfl ?_; intro w5 hm5 hg5))
          go_ret
          have hU := growP hg5
          rw [HI.out] at hm5
          exact ⟨by rw [HR.out]; rfl, ⟨HP.out.blk.upd hU (fun e => HP.out.n1 e.symm), by rw [if_pos HR.out, if_pos HR.out, HE.out]; exact hm5, HP.out.le.upd hU (fun e => HP.out.n3 e.symm), HP.out.n1, HP.out.n2, HP.out.n3⟩, hU.mono fun k _ hk => .inr (.inl hk)⟩
end
end Go.Proofs.Ytcganajbfplmpaa
