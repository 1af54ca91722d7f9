/- The contract of accept.Of (chapter 20). -/
import Derived.Test.YtghhcjpilcoblaaAccC
import Derived.Test.YtghhcjpilcoblaaCodeQ
import Derived.Deep.RegionHeld3
import Derived.Deep.DeepCutAuto
import Derived.Deep.QuietTactic
import Derived.BigQuiet
namespace Go.Proofs.Ytghhcjpilcoblaa
open Go.RowKit Go.Lap
set_option linter.unusedVariables false

/-- An acceptor as it is read. -/
structure AccV where
  pr : Nat
  pn : Nat
  h : Bool
  ar : Nat
  an : Nat
  v : List UInt8

/-- The acceptor of bytes, as the code reads it. -/
def ofC (bs : List UInt8) : Option AccV :=
  let r1 := numR bs 0
  let r2 := numR r1.2.1 r1.2.2
  let r3 := flagR r2.2.1 r2.2.2
  if r3.1 = true then
    let r4 := numR r3.2.1 r3.2.2
    let r5 := numR r4.2.1 r4.2.2
    let r6 := textR r5.2.1 r5.2.2
    if endR r6.2.1 r6.2.2 = 0 then if lessB r1.1 r2.1 r4.1 r5.1 = false then some ⟨r1.1, r2.1, true, r4.1, r5.1, r6.1⟩ else none else none
  else if endR r3.2.1 r3.2.2 = 0 then some ⟨r1.1, r2.1, false, 0, 0, []⟩ else none

def OfPost (w : World) (r : Option AccV) (e : Ending) (w' : World) : Prop := New w w' ∧
  ((r = none ∧ e = .returned (.tuple #[.pointer none, .int .i64 200])) ∨ ∃ a g, r = some a ∧ e = .returned (.tuple #[.pointer (some ⟨g, 0, none⟩), .int .i64 0]) ∧ w.heap.size ≤ g ∧ AccAt w' g a.pr a.pn a.h a.ar a.an (str a.v))

theorem lessB_zero (a b : Nat) : lessB a b 0 0 = false := by simp [lessB]

set_option maxRecDepth 100000 in
set_option maxHeartbeats 4000000 in
theorem accOf_any (bs : List UInt8) (v : Value) (w : World) (hb : bs.length ≤ 100000000) (hs : SlIn w 1 bEnc v bs) :
    Calls Try.prog 11 #[v] w (OfPost w (ofC bs)) := by
  obtain ⟨sA, sn, sc, rfl⟩ := hs.shape
  go_enter Try.func11, Try.ntmps11
  go_wp2_with fail
  refine (read_any bs _ w (by omega) hs).mono ?_
  rintro e w1 ⟨g, u1, rfl, hg1, _, hr1, hn1⟩
  go_wp2_with fail
  refine (rnum_any g u1 bs 0 w1 hr1 (by omega)).mono ?_
  rintro e w2 ⟨u2, rfl, hr2, hu2, hf2⟩
  have hN2 := RdAt.step hn1 hg1 hu2
  have hl1 := numR_lenE bs 0
  generalize hE1 : numR bs 0 = r1 at *
  have HE1 := Lib.hid hE1
  obtain ⟨n1, b1, e1⟩ := r1
  simp only at hr2 hl1 ⊢
  clear hE1 hr1 hu2 hf2 hn1 hs
  go_wp2_with fail
  refine (rnum_any g u2 b1 e1 w2 hr2 (by omega)).mono ?_
  rintro e w3 ⟨u3, rfl, hr3, hu3, hf3⟩
  have hN3 := RdAt.step hN2 hg1 hu3
  have hl2 := numR_lenE b1 e1
  generalize hE2 : numR b1 e1 = r2 at *
  have HE2 := Lib.hid hE2
  obtain ⟨n2, b2, e2⟩ := r2
  simp only at hr3 hl2 ⊢
  clear hE2 hr2 hu3 hf3 hN2
  have hO3 := Off.start hr3 (p := w3.heap.size) (Nat.le_refl _)
  have hg3 := hr3.1.lt
  have hA3 : AccAt (w3.alloc (.cells #[.int .u64 (n1 : Int), .int .u64 (n2 : Int), .bool false, .int .u64 0, .int .u64 0, .string ⟨#[]⟩] 73)) w3.heap.size n1 n2 false 0 0 (str []) := Blk.mk_new w3 _ _
  have hr3a := hr3.new ((New.refl w3).alloc (.cells #[.int .u64 (n1 : Int), .int .u64 (n2 : Int), .bool false, .int .u64 0, .int .u64 0, .string ⟨#[]⟩] 73))
  have hN3a := hN3.alloc (.cells #[.int .u64 (n1 : Int), .int .u64 (n2 : Int), .bool false, .int .u64 0, .int .u64 0, .string ⟨#[]⟩] 73)
  go_wp2_with fail
  refine (rflag_any g u3 b2 e2 _ hr3a (by omega)).mono ?_
  rintro e w4 ⟨u4, rfl, hr4, hu4, hf4⟩
  have hN4 := RdAt.step hN3a hg1 hu4
  have hl3 := flagR_lenE b2 e2
  have hA4 := hA3.upd hu4 (by omega)
  have hO4 := hO3.read hf4 (by simp) hl3
  generalize hE3 : flagR b2 e2 = r3 at *
  have HE3 := Lib.hid hE3
  obtain ⟨yes, b3, e3⟩ := r3
  simp only at hr4 hl3 hO4 ⊢
  have hpg : g ≠ w3.heap.size := by omega
  have hpw : w.heap.size ≤ w3.heap.size := hN3.size
  generalize w3.heap.size = p at *
  clear hE3 hr3 hr3a hu4 hf4 hA3 hN3a hN3 hO3 hg3
  cases yes with
  | false =>
    have hfin : ofC bs = if endR b3 e3 = 0 then some ⟨n1, n2, false, 0, 0, []⟩ else none := by
      unfold ofC
      simp only [HE1.out, HE2.out, HE3.out]
      rfl
    have HF := Lib.hid hfin
    clear hfin HE1 HE2 HE3
    obtain ⟨hp, a0, a1, a2, a3, a4, a5, az⟩ := hA4.facts
    have hrD : RdAt w4.drew g u4 b3 e3 := hr4.new (New.refl w4).drew
    have hbl3 : b3.length ≤ 1000000000 := by omega
    have hlz := lessB_zero n1 n2
    have hC : ∀ wx, New w4 wx → Calls Try.prog 36 #[.pointer (some ⟨g, 0, none⟩)] wx fun e w' => e = .returned (.int .i64 (endR b3 e3)) ∧ wx = w' := fun wx hx => end_any g u4 b3 e3 wx (hr4.new hx) hbl3
    generalize endR b3 e3 = ee at hC HF
    have HC := Lib.hid hC
    clear hC
    by_cases hend : ee = 0
    · subst hend
      rw [if_pos rfl] at HF
      go_wp2_with fail
      go_region_held3 (fun w' => Held w4 w') (first | exact Held.of (New.refl _).drew | exact Held.step (by assumption) (by assumption))
        (first | (go_at_call 36; refine (HC.out _ (New.refl w4).drew).mono ?_; rintro e wb ⟨rfl, rfl⟩) | (go_at_call 37; refine (less_any _ _ _ _ _).mono ?_; rw [hlz]; rintro e wb ⟨rfl, hnb⟩))
      have hH := (show Held w4 wb by assumption)
      go_wp2_with fail
      go_ret2
      exact ⟨hN4.trans hH.1, .inr ⟨_, p, HF.out, rfl, hpw, hA4.new hH.1⟩⟩
    · have hne : ((ee : Int) != 0) = true := by simpa using hend
      have hne2 : ((ee : Int) == 0) = false := by simpa using hend
      rw [if_neg hend] at HF
      clear hend
      go_wp2_with fail
      go_quiet ((go_at_call 36; exact Calls.quiet_of_same ((HC.out _ ((New.refl w4).drewN _)).mono fun _ _ h => ⟨h.1, h.2.symm⟩)))
      go_wp2_with fail
      go_ret2
      exact ⟨hN4.drewN _, .inl ⟨HF.out, rfl⟩⟩
  | true =>
    go_wp2_with fail
    refine (rnum_any g u4 b3 e3 w4 hr4 (by omega)).mono ?_
    rintro e w5 ⟨u5, rfl, hr5, hu5, hf5⟩
    have hp4 := Blk.lt hA4
    have hN5 := RdAt.step hN4 hg1 hu5
    have hl4 := numR_lenE b3 e3
    have hA5 := hA4.upd hu5 (fun h => hpg h.symm)
    have hO5 := hO4.read hf5 hp4 hl4
    generalize hE4 : numR b3 e3 = r4 at *
    have HE4 := Lib.hid hE4
    obtain ⟨n4, b4, e4⟩ := r4
    simp only at hr5 hl4 hO5 ⊢
    clear hE4 hr4 hu5 hf5 hA4 hN4 hO4
    go_wp2_with fail
    refine (rnum_any g u5 b4 e4 w5 hr5 (by omega)).mono ?_
    rintro e w6 ⟨u6, rfl, hr6, hu6, hf6⟩
    have hp5 := Blk.lt hA5
    have hN6 := RdAt.step hN5 hg1 hu6
    have hl5 := numR_lenE b4 e4
    have hA6 := hA5.upd hu6 (fun h => hpg h.symm)
    have hO6 := hO5.read hf6 hp5 hl5
    generalize hE5 : numR b4 e4 = r5 at *
    have HE5 := Lib.hid hE5
    obtain ⟨n5, b5, e5⟩ := r5
    simp only at hr6 hl5 hO6 ⊢
    clear hE5 hr5 hu6 hf6 hA5 hN5 hO5 hp4
    go_wp2_with fail
    refine (rtext_any g u6 b5 e5 w6 hr6 (by omega)).mono ?_
    rintro e w7 ⟨u7, rfl, hr7, hu7, hf7⟩
    have hp6 := Blk.lt hA6
    have hN7 := RdAt.step hN6 hg1 hu7
    have hl6 := textR_lenE b5 e5
    have hA7 := hA6.upd hu7 (fun h => hpg h.symm)
    have hO7 := hO6.read hf7 hp6 hl6
    generalize hE6 : textR b5 e5 = r6 at *
    have HE6 := Lib.hid hE6
    obtain ⟨s6, b6, e6⟩ := r6
    simp only at hr7 hl6 hO7 ⊢
    have hfin : ofC bs = if endR b6 e6 = 0 then if lessB n1 n2 n4 n5 = false then some ⟨n1, n2, true, n4, n5, s6⟩ else none else none := by
      unfold ofC
      simp only [HE1.out, HE2.out, HE3.out, HE4.out, HE5.out, HE6.out]
      rfl
    have HF := Lib.hid hfin
    clear hE6 hr6 hu7 hf7 hA6 hN6 hO6 hp5 hp6 hfin HE1 HE2 HE3 HE4 HE5 HE6
    obtain ⟨hp, a0, a1, a2, a3, a4, a5, az⟩ := hA7.facts
    have hbl6 : b6.length ≤ 1000000000 := by omega
    have hA8 : AccAt ((((w7.setCell ⟨p, 2, none⟩ (.bool true)).setCell ⟨p, 3, none⟩ (.int .u64 (n4 : Int))).setCell ⟨p, 4, none⟩ (.int .u64 (n5 : Int))).setCell ⟨p, 5, none⟩ (.string (str s6))) p n1 n2 true n4 n5 (str s6) := (((Blk.set_ hA7 2 (.bool true)).set_ 3 (.int .u64 (n4 : Int))).set_ 4 (.int .u64 (n5 : Int))).set_ 5 (.string (str s6))
    have hu8 : Upd (· = p) w7 ((((w7.setCell ⟨p, 2, none⟩ (.bool true)).setCell ⟨p, 3, none⟩ (.int .u64 (n4 : Int))).setCell ⟨p, 4, none⟩ (.int .u64 (n5 : Int))).setCell ⟨p, 5, none⟩ (.string (str s6))) := ((((Upd.refl _ w7).setIn 2 _).setIn 3 _).setIn 4 _).setIn 5 _
    have hr8 := hr7.off hO7 hu8 hpg (fun k hk => hk)
    have hN8 := hN7.upd hu8 (fun k hk => by omega)
    go_upto_region 5 with fail
    generalize (((w7.setCell ⟨p, 2, none⟩ (.bool true)).setCell ⟨p, 3, none⟩ (.int .u64 (n4 : Int))).setCell ⟨p, 4, none⟩ (.int .u64 (n5 : Int))).setCell ⟨p, 5, none⟩ (.string (str s6)) = w8 at *
    clear hp a0 a1 a2 a3 a4 a5 az hu8 hr7 hO7 hA7 hN7
    obtain ⟨hp, a0, a1, a2, a3, a4, a5, az⟩ := hA8.facts
    have hC : ∀ wx, New w8 wx → Calls Try.prog 36 #[.pointer (some ⟨g, 0, none⟩)] wx fun e w' => e = .returned (.int .i64 (endR b6 e6)) ∧ wx = w' := fun wx hx => end_any g u7 b6 e6 wx (hr8.new hx) hbl6
    generalize endR b6 e6 = ee at hC HF
    have HC := Lib.hid hC
    clear hC
    by_cases hend : ee = 0
    · subst hend
      rw [if_pos rfl] at HF
      have hL : ∀ wx, Calls Try.prog 37 #[.agg #[.int .u64 (n1 : Int), .int .u64 (n2 : Int)], .agg #[.int .u64 (n4 : Int), .int .u64 (n5 : Int)]] wx fun e w' => e = .returned (.bool (lessB n1 n2 n4 n5)) ∧ New wx w' := fun wx => less_any _ _ _ _ wx
      generalize lessB n1 n2 n4 n5 = lb at hL HF
      have HL := Lib.hid hL
      clear hL
      cases lb with
      | false =>
        rw [if_pos rfl] at HF
        go_region_held3 (fun w' => Held w8 w') (first | exact Held.of (New.refl _).drew | exact Held.step (by assumption) (by assumption))
          (first | (go_at_call 36; refine (HC.out _ (New.refl w8).drew).mono ?_; rintro e wb ⟨rfl, rfl⟩) | (go_at_call 37; refine (HL.out _).mono ?_; rintro e wb ⟨rfl, hnb⟩))
        have hH := (show Held w8 wb by assumption)
        go_wp2_with fail
        go_ret2
        exact ⟨hN8.trans hH.1, .inr ⟨_, p, HF.out, rfl, hpw, hA8.new hH.1⟩⟩
      | true =>
        rw [if_neg (by decide)] at HF
        go_region_held3 (fun w' => Held w8 w') (first | exact Held.of (New.refl _).drew | exact Held.step (by assumption) (by assumption))
          (first | (go_at_call 36; refine (HC.out _ (New.refl w8).drew).mono ?_; rintro e wb ⟨rfl, rfl⟩) | (go_at_call 37; refine (HL.out _).mono ?_; rintro e wb ⟨rfl, hnb⟩))
        have hH := (show Held w8 wb by assumption)
        go_wp2_with fail
        go_ret2
        exact ⟨hN8.trans hH.1, .inl ⟨HF.out, rfl⟩⟩
    · have hne : ((ee : Int) != 0) = true := by simpa using hend
      have hne2 : ((ee : Int) == 0) = false := by simpa using hend
      rw [if_neg hend] at HF
      clear hend
      go_quiet ((go_at_call 36; exact Calls.quiet_of_same ((HC.out _ ((New.refl w8).drewN _)).mono fun _ _ h => ⟨h.1, h.2.symm⟩)))
      go_wp2_with fail
      go_ret2
      exact ⟨hN8.drewN _, .inl ⟨HF.out, rfl⟩⟩
end Go.Proofs.Ytghhcjpilcoblaa
