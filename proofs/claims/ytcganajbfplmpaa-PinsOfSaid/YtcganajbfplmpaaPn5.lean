/- Chapter 18 (pins): Expire. -/
import Derived.Test.YtcganajbfplmpaaPn4
import Derived.Test.YtcganajbfplmpaaMp2
namespace Go.Proofs.Ytcganajbfplmpaa
open Go.RowKit Go.Lap
set_option linter.unusedVariables false

def expL (L : Nat → Option (Nat × Nat)) (t : Nat) (k : Nat) : Option (Nat × Nat) := match L k with
  | some x => if x.2 ≤ t then none else some x
  | none => none
section
variable {w w' : World} {S : Nat → Prop} {p nm lm nn ln : Nat} {N : ByteArray → Option Nat} {L : Nat → Option (Nat × Nat)}
theorem valL_at {L : Nat → Option (Nat × Nat)} {k : Nat} {v : Value} (h : valL L k = some v) : ∃ x : Nat × Nat, L k = some x ∧ v = .agg #[.int .u64 (x.1 : Int), .int .u64 (x.2 : Int)] := by
  unfold valL at h
  cases hL : L k with
  | none => rw [hL] at h; cases h
  | some x => rw [hL] at h; cases h; exact ⟨x, rfl, rfl⟩
/-- The leases in the midst of Expire: those that have been seen are as they will be. -/
def MidL (L M : Nat → Option (Nat × Nat)) (t : Nat) (left : Nat → Bool) : Prop := ∀ k, okU k → M k = if left k then L k else expL L t k
def PExpPost (w : World) (p nm lm nn ln : Nat) (N : ByteArray → Option Nat) (L : Nat → Option (Nat × Nat)) (t : Nat) (e : Ending) (w' : World) : Prop :=
  ∃ l', l' ≤ ln ∧ e = .returned (.int .i64 ((ln : Int) - (l' : Int))) ∧ PnAt w' p nm lm N nn (expL L t) l' ∧ Upd (PnF p nm lm) w w'
set_option maxRecDepth 100000 in
set_option maxHeartbeats 4000000 in
theorem pexpire (w : World) (h : PnAt w p nm lm N nn L ln) (t : Nat) (hln : ln ≤ 1000) :
    Calls Try.prog 36 #[.pointer (some ⟨p, 0, none⟩), .int .u64 (t : Int)] w (PExpPost w p nm lm nn ln N L t) := by
  obtain ⟨d0, d1, d2, dz⟩ := Blk2P h.blk
  have hlen := mpLen h.le Try.underlying100 3
  have hle := h.le
  have HP := Lib.hid h
  go_enter Try.func36, Try.ntmps36
  go_wp2_with (at_range; refine wpList_mp_range keyN.toKeyB rfl _ _ 137 rfl Try.underlying100 rfl hle ?_; intro w0 hrg0 hN0 hs0)
  go_frame
  generalize hr : w.heap.size = r at hrg0 ⊢
  have HR := Lib.hid hr
  have hpr := HP.out.blk.lt
  have hlr := HP.out.le.lt
  have hnr := HP.out.na.lt
  rw [hr] at hpr hlr hnr
  have HV := Lib.hid (And.intro hpr (And.intro hlr hnr))
  clear hr hpr hlr hnr hlen hle d0 d1 d2 dz h hs0
  go_loopw [6, 7] (fun _ _ wr => ∃ (cnt m : Nat) (left : Nat → Bool) (M : Nat → Option (Nat × Nat)), MpRg Try.prog 55 litU okU wr lm r m (valL M) left cnt ∧ MidL L M t left ∧ m ≤ ln ∧ PnAt wr p nm lm N nn M m ∧ Upd (PnF p nm lm) w wr) (fun _ _ wr => wr.rangeLeft lm r)
  case atStart =>
    refine ⟨_, ln, _, L, hrg0, fun k hk => ?_, Nat.le_refl _, HP.out.new hN0, Upd.new hN0⟩
    show L k = if (valL L k).isSome = true then L k else expL L t k
    simp only [valL_some]
    unfold expL
    cases hL : L k with
    | none => rfl
    | some x => rfl
  case round =>
    obtain ⟨cnt, m, left, M, hrg, hmid, hml, hPM, hU⟩ := hrel
    obtain ⟨d0, d1, d2, dz⟩ := Blk2P hPM.blk
    have hlen := mpLen hPM.le Try.underlying100 3
    have hle := hrg.left_eq
    have HLE := Lib.hid hle
    have HM := Lib.hid hmid
    have HU := Lib.hid hU
    have HPM := Lib.hid hPM
    clear hmid hle hPM hU
    go_wp2_with (at_next; refine wpList_mp_next keyN rfl _ rfl rfl hrg ?_ ?_)
    · intro h0 hl
      go_wp2_with fail
      go_ret
      have hfin : PnAt _ p nm lm N nn (expL L t) m := ⟨HPM.out.blk, HPM.out.na, HPM.out.le.congr fun k hk => by
        show valL M k = valL (expL L t) k
        unfold valL
        rw [HM.out k hk, hl k hk]; rfl, HPM.out.n1, HPM.out.n2, HPM.out.n3⟩
      exact ⟨m, hml, rfl, hfin, HU.out⟩
    · intro x v w1 cnt1 hx hlx hfx hrg1 hlt hu1 hsz1 hen
      obtain ⟨y, hMy, rfl⟩ := valL_at hfx
      obtain ⟨ya, yu⟩ := y
      dsimp only at hen ⊢
      have hU1 : Upd (PnF p nm lm) w w1 := HU.out.trans hu1 (fun i hi e => by have := HR.out; omega)
      have hP1 : PnAt w1 p nm lm N nn M m := HPM.out.upd hu1 (fun k hk e => by
        subst e
        rcases hk with rfl | rfl | rfl
        · exact absurd HV.out.1 (Nat.lt_irrefl _)
        · exact absurd HV.out.2.2 (Nat.lt_irrefl _)
        · exact absurd HV.out.2.1 (Nat.lt_irrefl _))
      have HU1 := Lib.hid hU1
      have HP1 := Lib.hid hP1
      have HHX := Lib.hid hx
      have HLX := Lib.hid hlx
      have HMY := Lib.hid hMy
      have hsz : r < w1.heap.size := hrg1.lt
      clear hU1 hP1 hx hlx hfx hMy hrg hsz1
      have hBz := Blk.mk_new w1 137 #[.int .u64 0, .int .u64 0]
      have hB := Blk.mk_new w1 137 #[.int .u64 (ya : Int), .int .u64 (yu : Int)]
      obtain ⟨z0, z1, z2, zz⟩ := Blk2P hBz
      obtain ⟨q0, q1, q2, qz⟩ := Blk2P hB
      have hN := (New.refl w1).alloc (.cells #[.int .u64 (ya : Int), .int .u64 (yu : Int)] 137)
      have HP2 := Lib.hid (HP1.out.new hN)
      obtain ⟨e0, e1, e2, ez⟩ := Blk2P HP2.out.blk
      have hrg2 := hrg1.upd (Upd.new (S := fun _ => False) hN) (fun h => h) (fun h => h)
      have HN := Lib.hid hN
      clear hBz hB hN
      by_cases ht : yu ≤ t
      · have ht' : (yu : Int) ≤ (t : Int) := by omega
        go_wp2_with (at_delete; refine wpList_mp_rdel keyN rfl _ _ 100 137 rfl Try.underlying100 rfl hrg2 x HHX.out rfl ?_; intro w5 cnt5 hrg5 hc5 hg5)
        have hU5 := growP hg5
        have hsx : (valL M x).isSome = true := by rw [valL_some, HMY.out]; rfl
        rw [hsx] at hrg5
        have hve : (fun j => if j = x then none else valL M j) = valL (fun j => if j = x then none else M j) := by
          funext j; by_cases hj : j = x <;> simp [valL, hj]
        rw [hve] at hrg5
        have hrg6 : MpRg Try.prog 55 litU okU w5 lm r (m - 1) (valL fun j => if j = x then none else M j) _ cnt5 := hrg5
        have hm5 := hrg6.at
        go_roundw
        case rel =>
          refine ⟨_, _, _, _, _, _, _, _, _, _, _, _, _, _, _, _, ?_, rfl⟩
          refine ⟨cnt5, m - 1, _, _, hrg6, fun k hk => ?_, by omega, ⟨HP2.out.blk.upd hU5 (fun e => HP2.out.n2 e.symm), HP2.out.na.upd hU5 (fun e => HP2.out.n3 e), hm5, HP2.out.n1, HP2.out.n2, HP2.out.n3⟩, (HU1.out.trans (Upd.new (S := fun _ => False) HN.out) (fun _ _ h => h.elim)).trans hU5 (fun i hi e => .inr (.inr e))⟩
          dsimp only
          by_cases hkx : k = x
          · subst hkx
            have := HM.out k hk
            rw [HLX.out, if_pos rfl, HMY.out] at this
            simp [expL, ← this, ht]
          · rw [if_neg hkx, HM.out k hk]
            simp [hkx]
        case measure =>
          rw [hrg6.left_eq, HLE.out]
          omega
      · have ht' : ¬ (yu : Int) ≤ (t : Int) := by omega
        go_wp2_with fail
        go_roundw
        case rel =>
          refine ⟨cnt1, m, _, M, hrg2, fun k hk => ?_, hml, HP2.out, HU1.out.trans (Upd.new (S := fun _ => False) HN.out) (fun _ _ h => h.elim)⟩
          dsimp only
          by_cases hkx : k = x
          · subst hkx
            have := HM.out k hk
            rw [HLX.out, if_pos rfl, HMY.out] at this
            simp [expL, ← this, ht, HMY.out]
          · rw [HM.out k hk]
            simp [hkx]
        case measure =>
          rw [hrg2.left_eq, HLE.out]
          exact hlt
end
end Go.Proofs.Ytcganajbfplmpaa
