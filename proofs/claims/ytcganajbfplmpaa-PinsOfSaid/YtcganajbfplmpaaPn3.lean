/- Chapter 18 (pins): Lease. -/
import Derived.Test.YtcganajbfplmpaaPn2
namespace Go.Proofs.Ytcganajbfplmpaa
open Go.RowKit Go.Lap
set_option linter.unusedVariables false

def putL (L : Nat → Option (Nat × Nat)) (r a u : Nat) (k : Nat) : Option (Nat × Nat) := if k = r then some (a, u) else L k
def leaseR (L : Nat → Option (Nat × Nat)) (ln r a : Nat) : Int := match L r with
  | some x => if x.1 = a then 0 else 181
  | none => if 16 ≤ ln then 182 else 0
section
variable {w w' : World} {S : Nat → Prop} {p nm lm nn ln : Nat} {N : ByteArray → Option Nat} {L : Nat → Option (Nat × Nat)}
theorem valL_get (L : Nat → Option (Nat × Nat)) (r : Nat) : (valL L r).getD (.agg #[.int .u64 0, .int .u64 0]) = .agg #[.int .u64 ((((L r).getD (0, 0)).1 : Nat) : Int), .int .u64 ((((L r).getD (0, 0)).2 : Nat) : Int)] := by
  unfold valL
  cases L r <;> rfl
theorem valL_some (L : Nat → Option (Nat × Nat)) (r : Nat) : (valL L r).isSome = (L r).isSome := by
  unfold valL
  cases L r <;> rfl
def PLeasePost (w : World) (p nm lm nn ln : Nat) (N : ByteArray → Option Nat) (L : Nat → Option (Nat × Nat)) (r a u : Nat) (e : Ending) (w' : World) : Prop :=
  e = .returned (.int .i64 (leaseR L ln r a)) ∧ PnAt w' p nm lm N nn (if leaseR L ln r a = 0 then putL L r a u else L) (if leaseR L ln r a = 0 ∧ (L r).isSome = false then ln + 1 else ln) ∧ Upd (PnF p nm lm) w w'
set_option maxRecDepth 100000 in
set_option maxHeartbeats 4000000 in
theorem please (w : World) (h : PnAt w p nm lm N nn L ln) (r a u : Nat) (hr : okU r) (hln : ln ≤ 1000) :
    Calls Try.prog 45 #[.pointer (some ⟨p, 0, none⟩), .int .u64 (r : Int), .int .u64 (a : Int), .int .u64 (u : Int)] w (PLeasePost w p nm lm nn ln N L r a u) := by
  have hv := valL_get L r
  have hi := valL_some L r
  have HP := Lib.hid h
  have HLE := Lib.hid (show valL (putL L r a u) = fun j => if j = r then some (.agg #[.int .u64 (a : Int), .int .u64 (u : Int)]) else valL L j from funext fun k => by unfold valL putL; split <;> rfl)
  cases hL : L r with
  | some x =>
    obtain ⟨xa, xu⟩ := x
    replace hv : (valL L r).getD (.agg #[.int .u64 0, .int .u64 0]) = .agg #[.int .u64 (xa : Int), .int .u64 (xu : Int)] := by rw [valL_get, hL]; rfl
    replace hi : (valL L r).isSome = true := by rw [valL_some, hL]; rfl
    have hBz := Blk.mk_new w 137 #[.int .u64 0, .int .u64 0]
    obtain ⟨z0, z1, z2, zz⟩ := Blk2P hBz
    have hB := Blk.mk_new w 137 #[.int .u64 (xa : Int), .int .u64 (xu : Int)]
    obtain ⟨q0, q1, q2, qz⟩ := Blk2P hB
    have hN := (New.refl w).alloc (.cells #[.int .u64 (xa : Int), .int .u64 (xu : Int)] 137)
    have H5 := Lib.hid (h.new hN)
    have HN := Lib.hid hN
    obtain ⟨d0, d1, d2, dz⟩ := Blk2P h.blk
    obtain ⟨e0, e1, e2, ez⟩ := Blk2P (h.new hN).blk
    have HMX := Lib.hid (show ln < maxLen by unfold maxLen; omega)
    have HI := Lib.hid hi
    have HLL := Lib.hid hL
    clear hB hBz hN hL
    by_cases ha : xa = a
    · have HR := Lib.hid (show leaseR L ln r a = 0 by unfold leaseR; rw [HLL.out]; exact if_pos ha)
      subst ha
      go_enter Try.func45, Try.ntmps45
      go_wp2_with (first | (at_lookup; refine wpList_mp_ok keyN.toKeyB rfl _ _ 100 137 rfl Try.underlying100 (zeroL _) rfl h.le r hr rfl ?_; rw [hv, hi]) | (at_mapUpdate; refine wpList_mp_put keyN.toKeyB rfl _ _ _ 100 137 rfl Try.underlying100 rfl H5.out.le HMX.out r hr rfl _ rfl ?_; intro w5 hm5 hg5))
      go_ret
      have hU := growP hg5
      rw [HI.out] at hm5
      exact ⟨by rw [HR.out]; rfl, ⟨H5.out.blk.upd hU (fun e => H5.out.n2 e.symm), H5.out.na.upd hU (fun e => H5.out.n3 e), by rw [if_pos HR.out, HLE.out, if_neg (by rw [HLL.out]; simp)]; exact hm5, H5.out.n1, H5.out.n2, H5.out.n3⟩, (Upd.new HN.out).trans hU (fun k _ hk => .inr (.inr hk))⟩
    · have HR := Lib.hid (show leaseR L ln r a = 181 by unfold leaseR; rw [HLL.out]; exact if_neg ha)
      have ha' : ¬ (xa : Int) = (a : Int) := by omega
      have ha'' : ((xa : Int) != (a : Int)) = true := by simpa using ha'
      go_enter Try.func45, Try.ntmps45
      go_wp2_with (at_lookup; refine wpList_mp_ok keyN.toKeyB rfl _ _ 100 137 rfl Try.underlying100 (zeroL _) rfl h.le r hr rfl ?_; rw [hv, hi])
      go_ret
      exact ⟨by rw [HR.out]; rfl, by rw [HR.out]; exact H5.out, Upd.new HN.out⟩
  | none =>
    replace hv : (valL L r).getD (.agg #[.int .u64 0, .int .u64 0]) = .agg #[.int .u64 0, .int .u64 0] := by rw [valL_get, hL]; rfl
    replace hi : (valL L r).isSome = false := by rw [valL_some, hL]; rfl
    have hBz := Blk.mk_new w 137 #[.int .u64 0, .int .u64 0]
    obtain ⟨z0, z1, z2, zz⟩ := Blk2P hBz
    have hN := (New.refl w).alloc (.cells #[.int .u64 0, .int .u64 0] 137)
    have H5 := Lib.hid (h.new hN)
    have HN := Lib.hid hN
    obtain ⟨d0, d1, d2, dz⟩ := Blk2P h.blk
    obtain ⟨e0, e1, e2, ez⟩ := Blk2P (h.new hN).blk
    have hlen := mpLen (h.new hN).le Try.underlying100 3
    have HMX := Lib.hid (show ln < maxLen by unfold maxLen; omega)
    have HI := Lib.hid hi
    have HLL := Lib.hid hL
    clear hBz hN hL
    by_cases h16 : 16 ≤ ln
    · have HR := Lib.hid (show leaseR L ln r a = 182 by unfold leaseR; rw [HLL.out]; exact if_pos h16)
      have h16' : (16 : Int) ≤ (ln : Int) := by omega
      go_enter Try.func45, Try.ntmps45
      go_wp2_with (at_lookup; refine wpList_mp_ok keyN.toKeyB rfl _ _ 100 137 rfl Try.underlying100 (zeroL _) rfl h.le r hr rfl ?_; rw [hv, hi])
      go_ret
      exact ⟨by rw [HR.out]; rfl, by rw [HR.out]; exact H5.out, Upd.new HN.out⟩
    · have HR := Lib.hid (show leaseR L ln r a = 0 by unfold leaseR; rw [HLL.out]; exact if_neg h16)
      have h16' : ¬ (16 : Int) ≤ (ln : Int) := by omega
      go_enter Try.func45, Try.ntmps45
      go_wp2_with (first | (at_lookup; refine wpList_mp_ok keyN.toKeyB rfl _ _ 100 137 rfl Try.underlying100 (zeroL _) rfl h.le r hr rfl ?_; rw [hv, hi]) | (at_mapUpdate; refine wpList_mp_put keyN.toKeyB rfl _ _ _ 100 137 rfl Try.underlying100 rfl H5.out.le HMX.out r hr rfl _ rfl ?_; intro w5 hm5 hg5))
      go_ret
      have hU := growP hg5
      rw [HI.out] at hm5
      exact ⟨by rw [HR.out]; rfl, ⟨H5.out.blk.upd hU (fun e => H5.out.n2 e.symm), H5.out.na.upd hU (fun e => H5.out.n3 e), by rw [if_pos HR.out, HLE.out, if_pos ⟨HR.out, by rw [HLL.out]; rfl⟩]; exact hm5, H5.out.n1, H5.out.n2, H5.out.n3⟩, (Upd.new HN.out).trans hU (fun k _ hk => .inr (.inr hk))⟩
end
end Go.Proofs.Ytcganajbfplmpaa
