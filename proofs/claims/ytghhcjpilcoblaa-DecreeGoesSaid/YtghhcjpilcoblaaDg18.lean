/- Chapter 22 (decree), the laws: what the chapter's example fixes. -/
import Derived.Test.YtghhcjpilcoblaaDg17
namespace Go.Proofs.Ytghhcjpilcoblaa
open Go.RowKit Go.Lap
set_option linter.unusedVariables false
def xB : ByteArray := ⟨#[120]⟩
def gP : Gm := Gm.zero.propose 0 xB
def gA : Gm := gP.tick 3 0
def gZ : Gm := runG 3 100 gA
set_option maxRecDepth 100000 in
theorem gP_pe : (gP.nd 0).pe.length = 1 := by decide +kernel
set_option maxRecDepth 100000 in
theorem gA_len : gA.bg.length = 5 := by decide +kernel
set_option maxRecDepth 100000 in
theorem gZ_bg : gZ.bg.length = 0 := by decide +kernel
set_option maxRecDepth 100000 in
theorem gZ_pe : (gZ.nd 0).pe.length = 0 := by decide +kernel
set_option maxRecDepth 100000 in
theorem gZ_log0 : (gZ.nd 0).log = [xB] := by decide +kernel
set_option maxRecDepth 100000 in
theorem gZ_log1 : (gZ.nd 1).log = [xB] := by decide +kernel
set_option maxRecDepth 100000 in
theorem gZ_log2 : (gZ.nd 2).log = [xB] := by decide +kernel
theorem gZ_log {i : Nat} (hi : i < 3) : (gZ.nd i).log = [xB] := by
  match i, hi with
  | 0, _ => exact gZ_log0
  | 1, _ => exact gZ_log1
  | 2, _ => exact gZ_log2
section
variable {w W : World} {F : Nat → Prop} {gp : Nat}
theorem st_new (n : Nat) (h1 : 1 ≤ n) (h7 : n ≤ 7) (w : World) : Calls Try.prog 18 #[.int .i64 (n : Int)] w (fun e w' => ∃ gp, e = .returned (.tuple #[.pointer (some ⟨gp, 0, none⟩), .int .i64 0]) ∧ GSt (fun j => w.heap.size ≤ j) w' n 1 gp Gm.zero ∧ New w w') := by
  refine (gnew n h1 h7 w).mono ?_
  rintro e w' ⟨gp, L, rfl, h1, h2, h3⟩
  exact ⟨gp, rfl, ⟨L, h1, h2, fun j hj => Nat.le_trans h3.size hj, GmOk.zero⟩, h3⟩
theorem a_prop (h : GSt F W 3 1 gp Gm.zero) : Calls Try.prog 20 #[.pointer (some ⟨gp, 0, none⟩), .int .i64 0, .string ⟨#[120]⟩] W (fun e w' => e = .returned (.int .i64 0) ∧ GSt F w' 3 2 gp gP ∧ Upd F W w') := by
  have hv : 1 ≤ xB.size ∧ xB.size ≤ 64 := by decide
  have hi : inN 3 0 := by decide
  refine (st_propose h (by omega) 0 xB).mono ?_
  rintro e w' ⟨rfl, h2, hu⟩
  rw [show proposeG 3 Gm.zero 0 xB = gP from if_pos ⟨hi, hv⟩] at h2
  rw [show proposeR 3 0 xB = 0 by unfold proposeR; rw [if_pos hi, if_pos hv]]
  exact ⟨rfl, h2, hu⟩
theorem a_pend (h : GSt F W 3 2 gp gP) : Calls Try.prog 24 #[.pointer (some ⟨gp, 0, none⟩), .int .i64 0] W (fun e w' => e = .returned (.int .i64 1) ∧ w' = W) := by
  have hi : inN 3 0 := by decide
  refine (st_pending h 0).mono ?_
  rintro e w' ⟨rfl, rfl⟩
  rw [show pendR 3 gP 0 = 1 by unfold pendR; rw [if_pos hi, show (0 : Int).toNat = 0 from rfl, gP_pe]; rfl]
  exact ⟨rfl, rfl⟩
theorem a_tick (h : GSt F W 3 2 gp gP) : Calls Try.prog 21 #[.pointer (some ⟨gp, 0, none⟩), .int .i64 0] W (fun e w' => e = .returned (.int .i64 0) ∧ GSt F w' 3 3 gp gA ∧ Upd F W w') := by
  have hi : inN 3 0 := by decide
  refine (st_tick h (by omega) (by omega) 0).mono ?_
  rintro e w' ⟨rfl, h2, hu⟩
  rw [show tickG 3 gP 0 = gA from if_pos hi] at h2
  rw [show tickR 3 0 = 0 from if_pos hi]
  exact ⟨rfl, h2, hu⟩
theorem a_under (h : GSt F W 3 3 gp gA) : Calls Try.prog 27 #[.pointer (some ⟨gp, 0, none⟩)] W (fun e w' => e = .returned (.int .i64 5) ∧ w' = W) := by
  refine (st_under h).mono ?_
  rintro e w' ⟨rfl, rfl⟩
  rw [gA_len]
  exact ⟨rfl, rfl⟩
theorem a_run (h : GSt F W 3 3 gp gA) : Calls Try.prog 25 #[.pointer (some ⟨gp, 0, none⟩), .int .i64 100] W (fun e w' => e = .returned (.tuple #[]) ∧ GSt F w' 3 103 gp gZ ∧ Upd F W w') := st_run h (by omega) 100 (by omega)
theorem a_log (h : GSt F W 3 103 gp gZ) {i : Nat} (hi : i < 3) : Calls Try.prog 23 #[.pointer (some ⟨gp, 0, none⟩), .int .i64 (i : Int)] W (LogPost W [xB]) := by
  have := st_log h (by omega) (i : Int)
  rw [show logR 3 gZ (i : Int) = [xB] by unfold logR; rw [if_pos (show inN 3 (i : Int) from ⟨by omega, by omega⟩), Int.toNat_natCast]; exact gZ_log hi] at this
  exact this
theorem a_pend2 (h : GSt F W 3 103 gp gZ) : Calls Try.prog 24 #[.pointer (some ⟨gp, 0, none⟩), .int .i64 0] W (fun e w' => e = .returned (.int .i64 0) ∧ w' = W) := by
  have hi : inN 3 0 := by decide
  refine (st_pending h 0).mono ?_
  rintro e w' ⟨rfl, rfl⟩
  rw [show pendR 3 gZ 0 = 0 by unfold pendR; rw [if_pos hi, show (0 : Int).toNat = 0 from rfl, gZ_pe]; rfl]
  exact ⟨rfl, rfl⟩
theorem a_under2 (h : GSt F W 3 103 gp gZ) : Calls Try.prog 27 #[.pointer (some ⟨gp, 0, none⟩)] W (fun e w' => e = .returned (.int .i64 0) ∧ w' = W) := by
  refine (st_under h).mono ?_
  rintro e w' ⟨rfl, rfl⟩
  rw [gZ_bg]
  exact ⟨rfl, rfl⟩
set_option maxRecDepth 100000 in
set_option maxHeartbeats 4000000 in
theorem awake22 (w : World) : Calls Try.prog 19 #[] w fun e w' => e = .returned (.bool true) ∧ New w w' := by
  have HN := Lib.hid (st_new 3 (by omega) (by omega) w)
  go_enter Try.func19, Try.ntmps19
  go_wp2_with (go_at_call 18; refine HN.out.mono ?_; rintro e w1 ⟨gp, rfl, h1, hn1⟩; have H1 := Lib.hid h1; have HN1 := Lib.hid hn1; clear h1 hn1)
  refine (a_prop H1.out).mono ?_
  rintro e w2 ⟨rfl, h2, hu2⟩
  have H2 := Lib.hid h2
  have HN2 := Lib.hid (HN1.out.upd hu2 fun _ h => h)
  clear h2 hu2
  go_wp2_with (go_at_call 24; refine (a_pend H2.out).mono ?_; rintro e wq ⟨rfl, hwq⟩; subst wq)
  refine (a_tick H2.out).mono ?_
  rintro e w3 ⟨rfl, h3, hu3⟩
  have H3 := Lib.hid h3
  have HN3 := Lib.hid (HN2.out.upd hu3 fun _ h => h)
  clear h3 H2 hu3
  go_wp2_with (go_at_call 27; refine (a_under H3.out).mono ?_; rintro e wq ⟨rfl, hwq⟩; subst wq)
  refine (a_run H3.out).mono ?_
  rintro e w4 ⟨rfl, h4, hu4⟩
  have H4 := Lib.hid h4
  have HN4 := Lib.hid (HN3.out.upd hu4 fun _ h => h)
  clear h4 H3 H1 HN hu4
  go_wp2_with fail
  go_loopw [3] (fun i wr => ∃ k : Nat, k ≤ 3 ∧ i = .int .i64 (k : Int) ∧ New w4 wr) (fun i _ => 3 - (intOf i).toNat)
  case atStart => exact ⟨0, Nat.zero_le _, rfl, New.refl _⟩
  case round =>
    obtain ⟨k, hk, rfl, hn⟩ := hrel
    have HS := Lib.hid (H4.out.new hn)
    have HW := Lib.hid hn
    clear hn
    by_cases hlt : k < 3
    · have hlt' : (k : Int) < (3 : Int) := by omega
      have HL := Lib.hid (a_log HS.out hlt)
      go_wp2_with (go_at_call 23; refine HL.out.mono ?_; rintro e w5 ⟨v, rfl, h5, hn5⟩)
      have HV := Lib.hid ((h5.slIn sEncOk).new ((New.refl w5).alloc (.cells #[.string ⟨#[120]⟩] 9)))
      have HX := Lib.hid (SlIn.one (x := xB) (Blk.mk_new w5 9 #[.string ⟨#[120]⟩]) sEncOk rfl)
      have HS5 := Lib.hid (hn5.alloc (.cells #[.string ⟨#[120]⟩] 9))
      clear h5 hn5
      refine (same22 HV.out HX.out (by decide) (by decide)).mono ?_
      rintro e w6 ⟨rfl, hn6⟩
      have hd : decide ([xB] = [xB]) = true := decide_eq_true rfl
      rw [hd]
      have HR := Lib.hid ((HW.out.trans HS5.out).trans hn6)
      clear hd hn6
      go_wp2_with fail
      go_roundw
      case rel => exact ⟨k + 1, by omega, by go_num, HR.out⟩
      case measure => simp [intOf]; omega
    · have hlt' : ¬ (k : Int) < (3 : Int) := by omega
      go_wp2_with (first | (go_at_call 24; refine (a_pend2 HS.out).mono ?_; rintro e wq ⟨rfl, hwq⟩; subst wq) | (go_at_call 27; refine (a_under2 HS.out).mono ?_; rintro e wq ⟨rfl, hwq⟩; subst wq))
      go_ret
      exact ⟨rfl, HN4.out.trans HW.out⟩
end
end Go.Proofs.Ytghhcjpilcoblaa
