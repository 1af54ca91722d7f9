/- Chapter 19 (judge): Load, New. Printed by genRpJ3.py. -/
import Derived.Test.YtlhlcdjkacglnaaGreatDoorJk1
import Derived.Test.YtlhlcdjkacglnaaGreatDoorJk12
import Derived.Test.YtlhlcdjkacglnaaGreatDoorJk11
namespace Go.Proofs.YtlhlcdjkacglnaaGreatDoor
open Go.RowKit Go.Lap C
set_option linter.unusedVariables false
section
variable {w w' W wa : World} {S : Nat → Prop} {B a c r s q : Nat} {L : JdL} {j : Jd} {x : BtV} {sl : Value}
def LoadPost (w : World) (B : Nat) (L : JdL) (j : Jd) (b : Btc) (e : Ending) (w' : World) : Prop := e = .returned (.tuple #[.int .u64 (((if chk b.l = 0 then j.la + 1 else 0 : Nat)) : Int), .int .i64 (j.load b).2]) ∧ JdAt w' (B + 10) L (j.load b).1 ∧ Upd (JdF L) w w'
theorem load_bad {b : Btc} (h : chk b.l ≠ 0) : j.load b = (j, chk b.l) := by unfold Jd.load; rw [if_pos h]
set_option maxRecDepth 100000 in
set_option maxHeartbeats 8000000 in
theorem jload (h : JdAt w B L j) (hb : BtAt w x) (hB : B ≤ 100000000) :
    Calls Tryz.prog 182 #[.pointer (some ⟨L.jb, 0, none⟩), x.val] w (LoadPost w B L j x.b) := by
  obtain ⟨⟨c, r, s, l⟩, A, cap⟩ := x
  have HBT := Lib.hid hb
  obtain ⟨hsl, hoc, hor, hos, hol⟩ := hb
  dsimp only [BtV.val, BtV.sl, batV] at hsl hoc hor hos hol ⊢
  have hN := (New.refl w).alloc (.cells #[.int .u64 (c : Int), .int .u64 (r : Int), .int .u64 (s : Int), .slice A l.length cap] 82)
  have hM := Blk.mk_new w 82 #[.int .u64 (c : Int), .int .u64 (r : Int), .int .u64 (s : Int), .slice A l.length cap]
  have hla := h.la
  have hjlt := h.blk.lt
  have HJ := Lib.hid h
  have HN := Lib.hid hN
  have HM := Lib.hid hM
  have HSL := Lib.hid (hsl.slIn.new hN)
  obtain ⟨q0, q1, q2, q3, q4, qz⟩ := Blk4F hM
  have HLT := Lib.hid h.lt
  clear h hN hM hsl
  go_enter Tryz.func182, Tryz.ntmps182
  go_upto_region 1 with fail
  generalize w.alloc (.cells #[.int .u64 (c : Int), .int .u64 (r : Int), .int .u64 (s : Int), .slice A l.length cap] 82) = W at *
  go_wp2_with fail
  refine (check_any c r s _ l W (by omega) HSL.out).mono ?_
  rintro e4 w4 ⟨rfl, hn4⟩
  have HN4 := Lib.hid (HN.out.trans hn4)
  have HM4 := Lib.hid (HM.out.new hn4)
  have HJ4 := Lib.hid (HJ.out.new HN4.out)
  have HB4 := Lib.hid (HBT.out.new HN4.out)
  clear q0 q1 q2 q3 q4 qz hn4 HN HM
  obtain ⟨q0, q1, q2, q3, q4, qz⟩ := Blk4F HM4.out
  by_cases hck : chk l = 0
  case neg =>
    have HF := Lib.hid (load_bad (j := j) (b := ⟨c, r, s, l⟩) hck)
    have HCK : Hid (¬ chk l = 0) := Lib.hid hck
    go_wp2_with fail
    go_ret2
    refine ⟨?_, ?_, Upd.new HN4.out⟩
    · rw [HF.out, if_neg HCK.out]; rfl
    · rw [HF.out]; exact HJ4.out.mono (by omega)
  case pos =>
    have hky := chk_key hck
    have HKY := Lib.hid hky
    have HCK := Lib.hid hck
    obtain ⟨f0, f1, f2, f3, fz⟩ := Blk3J HJ4.out.blk
    obtain ⟨y, hy⟩ : ∃ y, y = j.la := ⟨_, rfl⟩
    have hl3 : decide (9223372036854775807 ≤ y) = false := decide_eq_false (by omega)
    have hl4 : decide ((9223372036854775807 : Int) ≤ (y : Int)) = false := decide_eq_false (by omega)
    obtain ⟨t, ht⟩ : ∃ t, t = j.la + 1 := ⟨_, rfl⟩
    have hcm := jcommit HJ4.out HB4.out HKY.out (by omega)
    rw [← ht] at hcm
    have HT := Lib.hid ht
    clear hky ht
    rw [hck]
    have HB0 : Hid (B ≤ 100000000 ∧ j.la ≤ B) := Lib.hid ⟨hB, hla⟩
    rw [← hy] at f1
    clear hB hla hy
    go_wp2_with fail
    obtain ⟨hB, hla⟩ := HB0.out
    refine hcm.mono ?_
    rintro e w7 ⟨rfl, hj7, hu7⟩
    have hm7 := HM4.out.upd hu7 (fun hk => by have := HLT.out _ hk; omega)
    have HJ7 := Lib.hid hj7
    have HM7 := Lib.hid hm7
    have HU7 : Hid (Upd (JdF L) w w7) := Lib.hid ((Upd.new (S := JdF L) HN4.out).trans hu7 (fun _ _ h => h))
    clear q0 q1 q2 q3 q4 qz f0 f1 f2 f3 fz hcm hu7 hl3 hl4
    obtain ⟨q0, q1, q2, q3, q4, qz⟩ := Blk4F hm7
    obtain ⟨f0, f1, f2, f3, fz⟩ := Blk3J hj7.blk
    obtain ⟨m, hm, hmp⟩ := HJ7.out.sn
    have HMP := Lib.hid hmp
    have HSNE : Hid ((j.commit ⟨c, r, s, l⟩).sn = j.sn) := Lib.hid rfl
    have HLK : Hid (∀ wq, New w7 wq → (Instr.lookup 276 (.map (some L.sm)) (.int .u64 (c : Int)) true).run Tryz.prog wq = .ok (.tuple #[.agg (toldV (j.sn c)), .bool (j.sn c).isSome]) wq) := Lib.hid fun wq hq => by
      have := mpGetOkR keyU64.toKeyB (HMP.out.new hq) Tryz.underlying276 (zeroTold _) c (okU_lt hoc)
      rw [snV_get, snV_some] at this
      exact this
    clear hm7 hj7 hm hmp
    go_upto_region 7 with fail
    go_cut [8, 9] (fun s8 s9 wx => ∃ a8, s8 = .pointer (some ⟨a8, 0, none⟩) ∧ s9 = .bool (j.sn c).isSome ∧ w7.heap.size ≤ a8 ∧ Blk wx a8 306 (toldV (j.sn c)) ∧ New w7 wx)
    case first =>
      obtain ⟨t0, t1, t2, hT⟩ := told_lit (j.sn c)
      have HTT := Lib.hid hT
      rw [hT] at HLK
      have hlk0 := HLK.out w7.drew (New.refl w7).drew
      clear hT
      refine wp_region_held_drew (S := fun w' => Held w7 w' ∧ (Instr.lookup 276 (.map (some L.sm)) (.int .u64 (c : Int)) true).run Tryz.prog w' = .ok (.tuple #[.agg #[.int .u64 (t0 : Int), .int .u64 (t1 : Int), .int .i64 t2], .bool (j.sn c).isSome]) w') (by kernel_rfl) (⟨Held.of (New.refl w7).drew, hlk0⟩) (fun hHeld => ?_)
      refine tkN (i := 0) rfl ?_
      try simp only [Act.put, sA, sZ, sS]
      refine tkN (i := 1) rfl ?_
      try simp only [Act.put, sA, sZ, sS]
      refine tkN (i := 2) rfl ?_
      try simp only [Act.put, sA, sZ, sS]
      refine tkN (i := 3) rfl ?_
      try simp only [Act.put, sA, sZ, sS]
      refine tkN (i := 4) rfl ?_
      try simp only [Act.put, sA, sZ, sS]
      refine tkN (i := 5) rfl ?_
      try simp only [Act.put, sA, sZ, sS]
      refine tkN (i := 6) rfl ?_
      try simp only [Act.put, sA, sZ, sS]
      refine tkN (i := 7) rfl ?_
      try simp only [Act.put, sA, sZ, sS]
      refine tkN (i := 8) rfl ?_
      try simp only [Act.put, sA, sZ, sS]
      refine tkN (i := 9) rfl ?_
      try simp only [Act.put, sA, sZ, sS]
      refine stN (i := 10) rfl (fun K hK => ?_)
      go_simp
      refine hK.out _ _ ?_ (fun hHeld => ?_)
      · exact ⟨Held.of (((New.refl w7).alloc _).drew), HLK.out _ (((New.refl w7).alloc _).drew)⟩
      clear hK K
      try simp only [Act.put, sA, sZ, sS]
      refine stN (i := 11) rfl (fun K hK => ?_)
      go_simp
      refine hK.out _ _ ?_ (fun hHeld => ?_)
      · exact ⟨Held.of (((New.refl w7).alloc _).drew), HLK.out _ (((New.refl w7).alloc _).drew)⟩
      clear hK K
      try simp only [Act.put, sA, sZ, sS]
      refine tkN (i := 12) rfl ?_
      try simp only [Act.put, sA, sZ, sS]
      refine wpAnyH_done (by kernel_rfl) ?_ _
      clear hHeld
      go_wp2_with fail
      go_meet
      exact ⟨w7.heap.size, rfl, rfl, Nat.le_refl _, by rw [HTT.out]; exact (Blk.mk_new w7 306 #[.int .u64 (t0 : Int), .int .u64 (t1 : Int), .int .i64 t2]).drew, (((New.refl w7).alloc _).drew)⟩
    case rest =>
      obtain ⟨a8, rfl, rfl, hl8, hB8, hnc⟩ := hcut
      have HMC := Lib.hid (HM7.out.new hnc)
      have HJC := Lib.hid (HJ7.out.new hnc)
      have HUC : Hid (Upd (JdF L) w wc) := Lib.hid (HU7.out.transNew hnc)
      clear q0 q1 q2 q3 q4 qz f0 f1 f2 f3 fz HLK HMP HM4 HJ4 HSL HBT HM7 HJ7 hnc
      obtain ⟨q0, q1, q2, q3, q4, qz⟩ := Blk4F HMC.out
      have hlw : w.heap.size < wc.heap.size := q0
      cases hsn : j.sn c with
      | none =>
        rw [hsn] at hB8
        have HB8 := Lib.hid hB8
        obtain ⟨u0, u1, u2, u3, uz⟩ := Blk3J hB8
        dsimp only [Option.isSome]
        have hF : j.load ⟨c, r, s, l⟩ = ({ j.commit ⟨c, r, s, l⟩ with sn := setD (j.commit ⟨c, r, s, l⟩).sn c (some (r, ⟨t, 0⟩)) }, 0) := by
          unfold Jd.load
          dsimp only
          rw [if_neg (by rw [HCK.out]; decide), if_neg (by unfold maxT; omega), hsn, HT.out]
          rfl
        have HF := Lib.hid hF
        clear hF hsn hB8
        obtain ⟨m, hm, hmp, hnext⟩ := (HJC.out.new (New.refl wc).drew).setSn (okU_lt hoc) r ⟨t, 0⟩
        obtain ⟨w9, hrun, hm9, hu9⟩ := mpPutR keyU64.toKeyB hmp Tryz.underlying276 (by unfold maxLen; omega) c (okU_lt hoc) (.agg #[.int .u64 (r : Int), .int .u64 (t : Int), .int .i64 0])
        have HJ9 := Lib.hid (hnext w9 hm9 hu9)
        have hsm : L.sm < w.heap.size := HLT.out _ (.inr (.inr rfl))
        have k1 := keepR hu9 (show L.jb < wc.drew.heap.size from HJC.out.blk.lt) (fun e => Blk.ne_map (HJC.out.new (New.refl wc).drew).blk hmp e)
        have k2 := keepR hu9 (show w.heap.size < wc.drew.heap.size from hlw) (fun e => by omega)
        have HU9 : Hid (Upd (JdF L) w w9) := Lib.hid (HUC.out.trans ((Upd.refl (JdF L) wc).drew.trans hu9 (fun i _ e => .inr (.inr e))) (fun _ _ h => h))
        obtain ⟨f0, f1, f2, f3, fz⟩ := Blk3J HJC.out.blk
        clear hm hmp hnext hm9 hu9 hsm
        go_upto_region 9 with fail
        refine wp_region_held_drew (S := fun w' => (∀ o, w'.cell? ⟨L.jb, o, none⟩ = wc.cell? ⟨L.jb, o, none⟩) ∧ (∀ o, w'.cell? ⟨w.heap.size, o, none⟩ = wc.cell? ⟨w.heap.size, o, none⟩)) (by kernel_rfl) (⟨fun _ => rfl, fun _ => rfl⟩) (fun hHeld => ?_)
        refine tkN (i := 0) rfl ?_
        try simp only [Act.put, sA, sZ, sS]
        refine tkN (i := 1) rfl ?_
        try simp only [Act.put, sA, sZ, sS]
        refine tkN (i := 2) rfl ?_
        try simp only [Act.put, sA, sZ, sS]
        refine tkN (i := 3) rfl ?_
        try simp only [Act.put, sA, sZ, sS]
        refine tkN (i := 4) rfl ?_
        try simp only [Act.put, sA, sZ, sS]
        refine tkN (i := 5) rfl ?_
        try simp only [Act.put, sA, sZ, sS]
        refine tkN (i := 6) rfl ?_
        try simp only [Act.put, sA, sZ, sS]
        refine tkN (i := 7) rfl ?_
        try simp only [Act.put, sA, sZ, sS]
        refine tkN (i := 8) rfl ?_
        try simp only [Act.put, sA, sZ, sS]
        refine tkN (i := 9) rfl ?_
        try simp only [Act.put, sA, sZ, sS]
        refine tkN (i := 10) rfl ?_
        try simp only [Act.put, sA, sZ, sS]
        refine stN (i := 11) rfl (fun K hK => ?_)
        go_simp
        refine hK.out _ _ ?_ (fun hHeld => ?_)
        · exact ⟨k1, k2⟩
        clear hK K
        try simp only [Act.put, sA, sZ, sS]
        refine wpAnyH_done (by kernel_rfl) ?_ _
        clear hHeld hrun k1 k2
        go_wp2_with fail
        go_ret2
        refine ⟨?_, ?_, HU9.out⟩
        · rw [HF.out, if_pos HCK.out, ← HT.out]
          try rfl
        · rw [HF.out]; exact HJ9.out.mono (by omega)
      | some qv =>
        obtain ⟨qn, vd⟩ := qv
        rw [hsn] at hB8
        have HB8 := Lib.hid hB8
        obtain ⟨u0, u1, u2, u3, uz⟩ := Blk3J hB8
        dsimp only [Option.isSome]
        by_cases hlt : r < qn
        · have hF : j.load ⟨c, r, s, l⟩ = (j.commit ⟨c, r, s, l⟩, 0) := by
            unfold Jd.load
            dsimp only
            rw [if_neg (by rw [HCK.out]; decide), if_neg (by unfold maxT; omega), hsn]
            dsimp only
            rw [if_pos hlt]
          have HF := Lib.hid hF
          have hge : decide (qn ≤ r) = false := decide_eq_false (by omega)
          clear hF hsn hB8 hlt
          go_wp2_with fail
          go_ret2
          refine ⟨?_, ?_, HUC.out⟩
          · rw [HF.out, if_pos HCK.out, ← HT.out]
            try rfl
          · rw [HF.out]; exact HJC.out.mono (by omega)
        · have hF : j.load ⟨c, r, s, l⟩ = ({ j.commit ⟨c, r, s, l⟩ with sn := setD (j.commit ⟨c, r, s, l⟩).sn c (some (r, ⟨t, 0⟩)) }, 0) := by
            unfold Jd.load
            dsimp only
            rw [if_neg (by rw [HCK.out]; decide), if_neg (by unfold maxT; omega), hsn, HT.out]
            dsimp only
            rw [if_neg hlt]
            rfl
          have HF := Lib.hid hF
          have hge : decide (qn ≤ r) = true := decide_eq_true (by omega)
          clear hF hsn hB8 hlt
          obtain ⟨m, hm, hmp, hnext⟩ := (HJC.out.new (New.refl wc).drew).setSn (okU_lt hoc) r ⟨t, 0⟩
          obtain ⟨w9, hrun, hm9, hu9⟩ := mpPutR keyU64.toKeyB hmp Tryz.underlying276 (by unfold maxLen; omega) c (okU_lt hoc) (.agg #[.int .u64 (r : Int), .int .u64 (t : Int), .int .i64 0])
          have HJ9 := Lib.hid (hnext w9 hm9 hu9)
          have hsm : L.sm < w.heap.size := HLT.out _ (.inr (.inr rfl))
          have k1 := keepR hu9 (show L.jb < wc.drew.heap.size from HJC.out.blk.lt) (fun e => Blk.ne_map (HJC.out.new (New.refl wc).drew).blk hmp e)
          have k2 := keepR hu9 (show w.heap.size < wc.drew.heap.size from hlw) (fun e => by omega)
          have HU9 : Hid (Upd (JdF L) w w9) := Lib.hid (HUC.out.trans ((Upd.refl (JdF L) wc).drew.trans hu9 (fun i _ e => .inr (.inr e))) (fun _ _ h => h))
          obtain ⟨f0, f1, f2, f3, fz⟩ := Blk3J HJC.out.blk
          clear hm hmp hnext hm9 hu9 hsm
          go_upto_region 9 with fail
          refine wp_region_held_drew (S := fun w' => (∀ o, w'.cell? ⟨L.jb, o, none⟩ = wc.cell? ⟨L.jb, o, none⟩) ∧ (∀ o, w'.cell? ⟨w.heap.size, o, none⟩ = wc.cell? ⟨w.heap.size, o, none⟩)) (by kernel_rfl) (⟨fun _ => rfl, fun _ => rfl⟩) (fun hHeld => ?_)
          refine tkN (i := 0) rfl ?_
          try simp only [Act.put, sA, sZ, sS]
          refine tkN (i := 1) rfl ?_
          try simp only [Act.put, sA, sZ, sS]
          refine tkN (i := 2) rfl ?_
          try simp only [Act.put, sA, sZ, sS]
          refine tkN (i := 3) rfl ?_
          try simp only [Act.put, sA, sZ, sS]
          refine tkN (i := 4) rfl ?_
          try simp only [Act.put, sA, sZ, sS]
          refine tkN (i := 5) rfl ?_
          try simp only [Act.put, sA, sZ, sS]
          refine tkN (i := 6) rfl ?_
          try simp only [Act.put, sA, sZ, sS]
          refine tkN (i := 7) rfl ?_
          try simp only [Act.put, sA, sZ, sS]
          refine tkN (i := 8) rfl ?_
          try simp only [Act.put, sA, sZ, sS]
          refine tkN (i := 9) rfl ?_
          try simp only [Act.put, sA, sZ, sS]
          refine tkN (i := 10) rfl ?_
          try simp only [Act.put, sA, sZ, sS]
          refine stN (i := 11) rfl (fun K hK => ?_)
          go_simp
          refine hK.out _ _ ?_ (fun hHeld => ?_)
          · exact ⟨k1, k2⟩
          clear hK K
          try simp only [Act.put, sA, sZ, sS]
          refine wpAnyH_done (by kernel_rfl) ?_ _
          clear hHeld hrun k1 k2
          go_wp2_with fail
          go_ret2
          refine ⟨?_, ?_, HU9.out⟩
          · rw [HF.out, if_pos HCK.out, ← HT.out]
            try rfl
          · rw [HF.out]; exact HJ9.out.mono (by omega)
def JNewPost (w : World) (e : Ending) (w' : World) : Prop := ∃ L : JdL, e = .returned (.pointer (some ⟨L.jb, 0, none⟩)) ∧ JdAt w' 0 L Jd.zero ∧ (∀ k, JdF L k → w.heap.size ≤ k) ∧ New w w'
set_option maxHeartbeats 2000000 in
theorem jnew (w : World) : Calls Tryz.prog 132 #[.int .u64 0] w (JNewPost w) := by
  have hmk := @run_makeMap Tryz.prog
  have hw0 := MpAt.made Tryz.prog 9 litS okS w
  have hN1 := (New.refl w).alloc (.map #[] 0)
  have hs0 := MpAt.made Tryz.prog 22 litU okU (w.alloc (.map #[] 0))
  rw [World.size_alloc] at hs0
  have hN2 := hN1.alloc (.map #[] 0)
  have hw1 := hw0.new ((New.refl _).alloc (.map #[] 0))
  have HN2 := Lib.hid hN2
  have HW1 := Lib.hid hw1
  have HS0 := Lib.hid hs0
  clear hw0 hN1 hs0 hN2 hw1
  go_enter Tryz.func132, Tryz.ntmps132
  go_wp2_with fail
  go_ret
  refine ⟨⟨w.heap.size + 1 + 1, w.heap.size, w.heap.size + 1⟩, rfl, ?_, ?_, HN2.out.alloc _⟩
  · have hb := Blk.mk_new ((w.alloc (.map #[] 0)).alloc (.map #[] 0)) 278 #[.int .u64 0, .map (some w.heap.size), .map (some (w.heap.size + 1))]
    rw [World.size_alloc, World.size_alloc] at hb
    have hn := (New.refl ((w.alloc (.map #[] 0)).alloc (.map #[] 0))).alloc (.cells #[.int .u64 0, .map (some w.heap.size), .map (some (w.heap.size + 1))] 278)
    exact ⟨hb, ⟨0, Nat.le_refl _, HW1.out.new hn⟩, ⟨0, Nat.le_refl _, HS0.out.new hn⟩, (by dsimp only; omega), Nat.le_refl _⟩
  · rintro k (rfl | rfl | rfl) <;> dsimp only <;> omega
end
end Go.Proofs.YtlhlcdjkacglnaaGreatDoor
/- Chapter 24 (replica): forwarded. Printed by genRpV.py. -/
namespace Go.Proofs.YtlhlcdjkacglnaaGreatDoor
open Go.RowKit Go.Lap C
set_option linter.unusedVariables false
set_option linter.unusedSimpArgs false
section
variable {w w' W wa : World} {S : Nat → Prop} {rp B D : Nat} {L : RpL} {x x' : Rpl} {b : BtV}
/-- The row of batches turns. -/
theorem RpAt.setL (h : RpAt w rp B L x) {v : Value} {o : List Btc} (ho : BtRow wa 0 v o) (hl : o.length ≤ B + 1) (hg : w.grownBy wa L.lv.ownBlock) :
    RpAt (wa.setCell ⟨rp, 4, none⟩ v) rp (B + 1) { L with lv := v } { x with l := o } := by
  obtain ⟨qs, _, hqs, _⟩ := h.out
  obtain ⟨ps, _, hps, _⟩ := h.l
  have hu : Upd (fun k => L.lv.ownBlock = some k) w wa := (Upd.refl _ w).grown hg (fun k _ e => e)
  have hrn : ¬ L.lv.ownBlock = some rp := fun e => hps.ne_blk h.blk (by decide) e
  have hW : Off w 34 (fun k => L.lv.ownBlock = some k) := Off.row hps (by decide)
  have hI : Off w 3 (fun k => L.lv.ownBlock = some k) := Off.row hps (by decide)
  have hb : Blk wa rp _ _ := h.blk.upd hu hrn
  have hu2 : Upd (· = rp) wa (wa.setCell ⟨rp, 4, none⟩ v) := (Upd.refl _ wa).setIn 4 v
  have hjn : ∀ k, JdF L.jl k → ¬ L.lv.ownBlock = some k := by
    obtain ⟨m, _, hm⟩ := h.j.wh
    obtain ⟨n, _, hn⟩ := h.j.sn
    rintro k (rfl | rfl | rfl) e
    · exact hps.ne_blk h.j.blk (by decide) e
    · exact Row.ne_map hps hm e
    · exact Row.ne_map hps hn e
  have hjr : ∀ k, JdF L.jl k → ¬ k = rp := by
    obtain ⟨m, _, hm⟩ := h.j.wh
    obtain ⟨n, _, hn⟩ := h.j.sn
    rintro k (rfl | rfl | rfl) e
    · exact Blk.ne_ h.j.blk h.blk (by decide) e
    · exact Blk.ne_map h.blk hm e.symm
    · exact Blk.ne_map h.blk hn e.symm
  have hlo : ∀ k, L.ov.ownBlock = some k → ¬ L.lv.ownBlock = some k := fun k hk e => Row.ne_row hps hqs (by decide) e hk
  have hlr : ∀ k, L.ov.ownBlock = some k → ¬ k = rp := fun k hk e => hqs.ne_blk h.blk (by decide) (e ▸ hk)
  have hvr : ∀ k, v.ownBlock = some k → ¬ k = rp := fun k hk e => by
    obtain ⟨us, _, hus, _⟩ := ho
    exact hus.ne_blk hb (by decide) (e ▸ hk)
  have hWr : Off wa 34 (· = rp) := Off.blk hb (by decide)
  have hIr : Off wa 3 (· = rp) := Off.blk hb (by decide)
  exact ⟨hb.set_ 4 v, (h.cf.upd hu hI).upd hu2 hIr, h.cl7, h.ce, ((h.j.upd hu hjn).upd hu2 hjr).mono (Nat.le_succ B), ho.upd hu2 hvr hWr, (h.out.upd hu hlo hW).upd hu2 hlr hWr, hl, Nat.le_succ_of_le h.ol, Nat.le_succ_of_le h.cl⟩
/-- The judge turns. -/
theorem RpAt.setJ (h : RpAt w rp B L x) {C : Nat} {j : Jd} (hj : JdAt wa C L.jl j) (hu : Upd (JdF L.jl) w wa) (hC : B ≤ C) : RpAt wa rp C L { x with j := j } := by
  obtain ⟨qs, _, hqs, _⟩ := h.out
  obtain ⟨ps, _, hps, _⟩ := h.l
  obtain ⟨m, _, hm⟩ := h.j.wh
  obtain ⟨n, _, hn⟩ := h.j.sn
  have hr : ¬ JdF L.jl rp := by
    rintro (e | e | e)
    · exact Blk.ne_ h.blk h.j.blk (by decide) e
    · exact Blk.ne_map h.blk hm e
    · exact Blk.ne_map h.blk hn e
  have hrow : ∀ {α : Type} {e s b : Nat} {enc : α → List Value} {v : Value} {l : List α}, Row w b e s enc v l → e ≠ 278 → ∀ k, v.ownBlock = some k → ¬ JdF L.jl k := by
    intro α e s b enc v l hR hne k hk hj
    rcases hj with rfl | rfl | rfl
    · exact hR.ne_blk h.j.blk hne hk
    · exact Row.ne_map hR hm hk
    · exact Row.ne_map hR hn hk
  exact ⟨h.blk.upd hu hr, h.cf.upd hu (h.j.off (by decide)), h.cl7, h.ce, hj, h.l.upd hu (hrow hps (by decide)) (h.j.off (by decide)), h.out.upd hu (hrow hqs (by decide)) (h.j.off (by decide)), Nat.le_trans h.ll hC, Nat.le_trans h.ol hC, Nat.le_trans h.cl hC⟩
theorem RpAt.rp_jd (h : RpAt w rp B L x) : ¬ JdF L.jl rp := by
  obtain ⟨m, _, hm⟩ := h.j.wh
  obtain ⟨n, _, hn⟩ := h.j.sn
  rintro (e | e | e)
  · exact Blk.ne_ h.blk h.j.blk (by decide) e
  · exact Blk.ne_map h.blk hm e
  · exact Blk.ne_map h.blk hn e
set_option maxRecDepth 100000 in
set_option maxHeartbeats 16000000 in
theorem rforwarded (h : RpAt w rp B L x) (n : NtV) (hv : BtAt w n.v) (hB : B ≤ 9000000) :
    Calls Tryz.prog 133 #[.pointer (some ⟨rp, 0, none⟩), n.val] w (fun e w' => e = .returned (.tuple #[]) ∧ RpPost w rp (B + 20) L (x.forwarded n.nt) w') := by
  have hll : x.la ≤ B := h.ll
  have hN := (New.refl w).alloc (.cells n.cells 177)
  have hR := h.new hN
  have HR := Lib.hid hR
  have HN := Lib.hid hN
  have HX := Lib.hid (Blk.mk_new w 177 n.cells)
  have HV := Lib.hid (hv.new hN)
  have HSZ := Lib.hid h.lt
  obtain ⟨a0, a1, a2, a3, a4, a5, a6, a7, a8, a9, az⟩ := nt_facts HX.out
  obtain ⟨g0, c0, c1, c2, c3, c4, c5, c6, cz⟩ := hR.facts
  have hwl : IntKind.u64.wrap ((x.la : Int) + 1) = (x.la : Int) + 1 := IntWalk.u64_in _ (by omega)
  have HFW : Hid (x.forwarded n.nt = if n.t = x.la + 1 then if chk n.v.b.l ≠ 0 then x else ({ x with j := (x.j.load n.v.b).1 } : Rpl).added n.v.b else if x.la < n.t then x.ask else if n.t ≤ x.cl then x.tell else x) := Lib.hid rfl
  clear h hv hN hR
  obtain ⟨nk, nfr, nds, nep, nt, ⟨⟨c, r, s, l⟩, A, cap⟩⟩ := n
  unfold NtV.val BtV.sl
  dsimp only [NtV.cells, BtV.sl] at *
  go_enter Tryz.func133, Tryz.ntmps133
  go_upto_region 1 with fail
  generalize w.alloc _ = W at *
  by_cases h1 : nt = x.la + 1
  case neg =>
    have hd1 : ((nt : Int) == (x.la : Int) + 1) = false := beq_eq_false_iff_ne.2 (by omega)
    by_cases h2 : x.la < nt
    case pos =>
      have HF : Hid (x.forwarded (NtV.nt ⟨nk, nfr, nds, nep, nt, ⟨⟨c, r, s, l⟩, A, cap⟩⟩) = x.ask) := Lib.hid (by rw [HFW.out, if_neg h1, if_pos h2])
      have hd2 : decide (x.la < nt) = true := decide_eq_true h2
      clear h1 h2
      refine wp_region_held_drew (S := fun w' => w' = W.drew) (by kernel_rfl) (rfl) (fun hHeld => ?_)
      refine tkN (i := 0) rfl ?_
      try simp only [Act.put, sA, sZ, sS]
      refine tkN (i := 1) rfl ?_
      try simp only [Act.put, sA, sZ, sS]
      refine tkN (i := 2) rfl ?_
      try simp only [Act.put, sA, sZ, sS]
      refine stN (i := 3) rfl (fun K hK => ?_)
      go_simp
      refine (rlast (HR.out.new ((New.refl W).drew)) (by omega)).mono ?_
      rintro e w6 ⟨rfl, rfl⟩
      refine hK.out _ _ ?_ (fun hHeld => ?_)
      · exact rfl
      clear hK K
      try simp only [Act.put, sA, sZ, sS]
      refine tkN (i := 4) rfl ?_
      try simp only [Act.put, sA, sZ, sS]
      refine tkN (i := 5) rfl ?_
      try simp only [Act.put, sA, sZ, sS]
      refine tkN (i := 6) rfl ?_
      try simp only [Act.put, sA, sZ, sS]
      refine wpAnyH_done (by kernel_rfl) ?_ _
      clear hHeld
      go_upto_region 6 with fail
      refine wp_region_held_drew (S := fun w' => w' = W.drew.drew) (by kernel_rfl) (rfl) (fun hHeld => ?_)
      refine tkN (i := 0) rfl ?_
      try simp only [Act.put, sA, sZ, sS]
      refine tkN (i := 1) rfl ?_
      try simp only [Act.put, sA, sZ, sS]
      refine tkN (i := 2) rfl ?_
      try simp only [Act.put, sA, sZ, sS]
      refine stN (i := 3) rfl (fun K hK => ?_)
      go_simp
      refine (rlast (HR.out.new ((New.refl W).drew.drew)) (by omega)).mono ?_
      rintro e w6 ⟨rfl, rfl⟩
      refine hK.out _ _ ?_ (fun hHeld => ?_)
      · exact rfl
      clear hK K
      try simp only [Act.put, sA, sZ, sS]
      refine tkN (i := 4) rfl ?_
      try simp only [Act.put, sA, sZ, sS]
      refine tkN (i := 5) rfl ?_
      try simp only [Act.put, sA, sZ, sS]
      refine wpAnyH_done (by kernel_rfl) ?_ _
      clear hHeld
      go_wp2_with fail
      refine (rask (HR.out.new (New.refl W).drew.drew) (by omega)).mono ?_
      rintro e w5 ⟨rfl, hp⟩
      go_wp2_with fail
      go_end0
      exact ⟨rfl, by rw [HF.out]; exact (RpPost.pre HN.out.drew.drew hp).mono (by omega)⟩
    case neg =>
      have hd2 : decide (x.la < nt) = false := decide_eq_false h2
      by_cases h3 : nt ≤ x.cl
      case pos =>
        have HF : Hid (x.forwarded (NtV.nt ⟨nk, nfr, nds, nep, nt, ⟨⟨c, r, s, l⟩, A, cap⟩⟩) = x.tell) := Lib.hid (by rw [HFW.out, if_neg h1, if_neg h2, if_pos h3])
        have hd3 : decide (nt ≤ x.cl) = true := decide_eq_true h3
        clear h1 h2 h3
        refine wp_region_held_drew (S := fun w' => w' = W.drew) (by kernel_rfl) (rfl) (fun hHeld => ?_)
        refine tkN (i := 0) rfl ?_
        try simp only [Act.put, sA, sZ, sS]
        refine tkN (i := 1) rfl ?_
        try simp only [Act.put, sA, sZ, sS]
        refine tkN (i := 2) rfl ?_
        try simp only [Act.put, sA, sZ, sS]
        refine stN (i := 3) rfl (fun K hK => ?_)
        go_simp
        refine (rlast (HR.out.new ((New.refl W).drew)) (by omega)).mono ?_
        rintro e w6 ⟨rfl, rfl⟩
        refine hK.out _ _ ?_ (fun hHeld => ?_)
        · exact rfl
        clear hK K
        try simp only [Act.put, sA, sZ, sS]
        refine tkN (i := 4) rfl ?_
        try simp only [Act.put, sA, sZ, sS]
        refine tkN (i := 5) rfl ?_
        try simp only [Act.put, sA, sZ, sS]
        refine tkN (i := 6) rfl ?_
        try simp only [Act.put, sA, sZ, sS]
        refine wpAnyH_done (by kernel_rfl) ?_ _
        clear hHeld
        go_upto_region 6 with fail
        refine wp_region_held_drew (S := fun w' => w' = W.drew.drew) (by kernel_rfl) (rfl) (fun hHeld => ?_)
        refine tkN (i := 0) rfl ?_
        try simp only [Act.put, sA, sZ, sS]
        refine tkN (i := 1) rfl ?_
        try simp only [Act.put, sA, sZ, sS]
        refine tkN (i := 2) rfl ?_
        try simp only [Act.put, sA, sZ, sS]
        refine stN (i := 3) rfl (fun K hK => ?_)
        go_simp
        refine (rlast (HR.out.new ((New.refl W).drew.drew)) (by omega)).mono ?_
        rintro e w6 ⟨rfl, rfl⟩
        refine hK.out _ _ ?_ (fun hHeld => ?_)
        · exact rfl
        clear hK K
        try simp only [Act.put, sA, sZ, sS]
        refine tkN (i := 4) rfl ?_
        try simp only [Act.put, sA, sZ, sS]
        refine tkN (i := 5) rfl ?_
        try simp only [Act.put, sA, sZ, sS]
        refine wpAnyH_done (by kernel_rfl) ?_ _
        clear hHeld
        go_upto_region 8 with fail
        refine wp_region_held_drew (S := fun w' => w' = W.drew.drew.drew) (by kernel_rfl) (rfl) (fun hHeld => ?_)
        refine tkN (i := 0) rfl ?_
        try simp only [Act.put, sA, sZ, sS]
        refine tkN (i := 1) rfl ?_
        try simp only [Act.put, sA, sZ, sS]
        refine tkN (i := 2) rfl ?_
        try simp only [Act.put, sA, sZ, sS]
        refine tkN (i := 3) rfl ?_
        try simp only [Act.put, sA, sZ, sS]
        refine tkN (i := 4) rfl ?_
        try simp only [Act.put, sA, sZ, sS]
        refine tkN (i := 5) rfl ?_
        try simp only [Act.put, sA, sZ, sS]
        refine tkN (i := 6) rfl ?_
        try simp only [Act.put, sA, sZ, sS]
        refine tkN (i := 7) rfl ?_
        try simp only [Act.put, sA, sZ, sS]
        refine wpAnyH_done (by kernel_rfl) ?_ _
        clear hHeld
        go_wp2_with fail
        refine (rtell (HR.out.new (New.refl W).drew.drew.drew) (by omega)).mono ?_
        rintro e w5 ⟨rfl, hp⟩
        go_wp2_with fail
        go_end0
        exact ⟨rfl, by rw [HF.out]; exact (RpPost.pre HN.out.drew.drew.drew hp).mono (by omega)⟩
      case neg =>
        have HF : Hid (x.forwarded (NtV.nt ⟨nk, nfr, nds, nep, nt, ⟨⟨c, r, s, l⟩, A, cap⟩⟩) = x) := Lib.hid (by rw [HFW.out, if_neg h1, if_neg h2, if_neg h3])
        have hd3 : decide (nt ≤ x.cl) = false := decide_eq_false h3
        clear h1 h2 h3
        refine wp_region_held_drew (S := fun w' => w' = W.drew) (by kernel_rfl) (rfl) (fun hHeld => ?_)
        refine tkN (i := 0) rfl ?_
        try simp only [Act.put, sA, sZ, sS]
        refine tkN (i := 1) rfl ?_
        try simp only [Act.put, sA, sZ, sS]
        refine tkN (i := 2) rfl ?_
        try simp only [Act.put, sA, sZ, sS]
        refine stN (i := 3) rfl (fun K hK => ?_)
        go_simp
        refine (rlast (HR.out.new ((New.refl W).drew)) (by omega)).mono ?_
        rintro e w6 ⟨rfl, rfl⟩
        refine hK.out _ _ ?_ (fun hHeld => ?_)
        · exact rfl
        clear hK K
        try simp only [Act.put, sA, sZ, sS]
        refine tkN (i := 4) rfl ?_
        try simp only [Act.put, sA, sZ, sS]
        refine tkN (i := 5) rfl ?_
        try simp only [Act.put, sA, sZ, sS]
        refine tkN (i := 6) rfl ?_
        try simp only [Act.put, sA, sZ, sS]
        refine wpAnyH_done (by kernel_rfl) ?_ _
        clear hHeld
        go_upto_region 6 with fail
        refine wp_region_held_drew (S := fun w' => w' = W.drew.drew) (by kernel_rfl) (rfl) (fun hHeld => ?_)
        refine tkN (i := 0) rfl ?_
        try simp only [Act.put, sA, sZ, sS]
        refine tkN (i := 1) rfl ?_
        try simp only [Act.put, sA, sZ, sS]
        refine tkN (i := 2) rfl ?_
        try simp only [Act.put, sA, sZ, sS]
        refine stN (i := 3) rfl (fun K hK => ?_)
        go_simp
        refine (rlast (HR.out.new ((New.refl W).drew.drew)) (by omega)).mono ?_
        rintro e w6 ⟨rfl, rfl⟩
        refine hK.out _ _ ?_ (fun hHeld => ?_)
        · exact rfl
        clear hK K
        try simp only [Act.put, sA, sZ, sS]
        refine tkN (i := 4) rfl ?_
        try simp only [Act.put, sA, sZ, sS]
        refine tkN (i := 5) rfl ?_
        try simp only [Act.put, sA, sZ, sS]
        refine wpAnyH_done (by kernel_rfl) ?_ _
        clear hHeld
        go_upto_region 8 with fail
        refine wp_region_held_drew (S := fun w' => w' = W.drew.drew.drew) (by kernel_rfl) (rfl) (fun hHeld => ?_)
        refine tkN (i := 0) rfl ?_
        try simp only [Act.put, sA, sZ, sS]
        refine tkN (i := 1) rfl ?_
        try simp only [Act.put, sA, sZ, sS]
        refine tkN (i := 2) rfl ?_
        try simp only [Act.put, sA, sZ, sS]
        refine tkN (i := 3) rfl ?_
        try simp only [Act.put, sA, sZ, sS]
        refine tkN (i := 4) rfl ?_
        try simp only [Act.put, sA, sZ, sS]
        refine tkN (i := 5) rfl ?_
        try simp only [Act.put, sA, sZ, sS]
        refine tkN (i := 6) rfl ?_
        try simp only [Act.put, sA, sZ, sS]
        refine tkN (i := 7) rfl ?_
        try simp only [Act.put, sA, sZ, sS]
        refine wpAnyH_done (by kernel_rfl) ?_ _
        clear hHeld
        go_wp2_with fail
        go_end0
        exact ⟨rfl, by rw [HF.out]; exact (RpPost.new HR.out (New.refl W).drew.drew.drew |> RpPost.pre HN.out).mono (by omega)⟩
  case pos =>
    have hd1 : ((nt : Int) == (x.la : Int) + 1) = true := beq_iff_eq.2 (by omega)
    by_cases hck : chk l = 0
    case neg =>
      have HF : Hid (x.forwarded (NtV.nt ⟨nk, nfr, nds, nep, nt, ⟨⟨c, r, s, l⟩, A, cap⟩⟩) = x) := Lib.hid (by rw [HFW.out, if_pos h1, if_pos hck])
      clear h1
      refine wp_region_held_drew (S := fun w' => w' = W.drew) (by kernel_rfl) (rfl) (fun hHeld => ?_)
      refine tkN (i := 0) rfl ?_
      try simp only [Act.put, sA, sZ, sS]
      refine tkN (i := 1) rfl ?_
      try simp only [Act.put, sA, sZ, sS]
      refine tkN (i := 2) rfl ?_
      try simp only [Act.put, sA, sZ, sS]
      refine stN (i := 3) rfl (fun K hK => ?_)
      go_simp
      refine (rlast (HR.out.new ((New.refl W).drew)) (by omega)).mono ?_
      rintro e w6 ⟨rfl, rfl⟩
      refine hK.out _ _ ?_ (fun hHeld => ?_)
      · exact rfl
      clear hK K
      try simp only [Act.put, sA, sZ, sS]
      refine tkN (i := 4) rfl ?_
      try simp only [Act.put, sA, sZ, sS]
      refine tkN (i := 5) rfl ?_
      try simp only [Act.put, sA, sZ, sS]
      refine tkN (i := 6) rfl ?_
      try simp only [Act.put, sA, sZ, sS]
      refine wpAnyH_done (by kernel_rfl) ?_ _
      clear hHeld
      go_wp2_with fail
      refine (check_any c r s _ l W.drew (by have := HV.out.ok.l; dsimp only at this; omega) (HV.out.sl.slIn.new (New.refl W).drew)).mono ?_
      rintro e w5 ⟨rfl, hn5⟩
      have HN5 := Lib.hid (HN.out.drew.trans hn5)
      have HR5 := Lib.hid (HR.out.new ((New.refl W).drew.trans hn5))
      go_wp2_with fail
      refine bodyPost_ret (results_none rfl _ _ _) rfl ?_
      exact ⟨rfl, by rw [HF.out]; exact (RpPost.pre HN5.out (RpPost.refl HR5.out)).mono (by omega)⟩
    case pos =>
      have HF : Hid (x.forwarded (NtV.nt ⟨nk, nfr, nds, nep, nt, ⟨⟨c, r, s, l⟩, A, cap⟩⟩) = ({ x with j := (x.j.load ⟨c, r, s, l⟩).1 } : Rpl).added ⟨c, r, s, l⟩) := Lib.hid (by rw [HFW.out, if_pos h1, if_neg (by rw [hck]; decide)])
      clear h1
      refine wp_region_held_drew (S := fun w' => w' = W.drew) (by kernel_rfl) (rfl) (fun hHeld => ?_)
      refine tkN (i := 0) rfl ?_
      try simp only [Act.put, sA, sZ, sS]
      refine tkN (i := 1) rfl ?_
      try simp only [Act.put, sA, sZ, sS]
      refine tkN (i := 2) rfl ?_
      try simp only [Act.put, sA, sZ, sS]
      refine stN (i := 3) rfl (fun K hK => ?_)
      go_simp
      refine (rlast (HR.out.new ((New.refl W).drew)) (by omega)).mono ?_
      rintro e w6 ⟨rfl, rfl⟩
      refine hK.out _ _ ?_ (fun hHeld => ?_)
      · exact rfl
      clear hK K
      try simp only [Act.put, sA, sZ, sS]
      refine tkN (i := 4) rfl ?_
      try simp only [Act.put, sA, sZ, sS]
      refine tkN (i := 5) rfl ?_
      try simp only [Act.put, sA, sZ, sS]
      refine tkN (i := 6) rfl ?_
      try simp only [Act.put, sA, sZ, sS]
      refine wpAnyH_done (by kernel_rfl) ?_ _
      clear hHeld
      go_wp2_with fail
      refine (check_any c r s _ l W.drew (by have := HV.out.ok.l; dsimp only at this; omega) (HV.out.sl.slIn.new (New.refl W).drew)).mono ?_
      rintro e w5 ⟨rfl, hn5⟩
      rw [hck]
      have HN5 := Lib.hid (HN.out.drew.trans hn5)
      have HR5 := Lib.hid (HR.out.new ((New.refl W).drew.trans hn5))
      have HV5 := Lib.hid (HV.out.new ((New.refl W).drew.trans hn5))
      have HX5 := Lib.hid (HX.out.new ((New.refl W).drew.trans hn5))
      clear hn5 a0 a1 a2 a3 a4 a5 a6 a7 a8 a9 az g0 c0 c1 c2 c3 c4 c5 c6 cz
      obtain ⟨a0, a1, a2, a3, a4, a5, a6, a7, a8, a9, az⟩ := nt_facts (n := ⟨nk, nfr, nds, nep, nt, ⟨⟨c, r, s, l⟩, A, cap⟩⟩) HX5.out
      obtain ⟨g0, c0, c1, c2, c3, c4, c5, c6, cz⟩ := HR5.out.facts
      dsimp only [BtV.sl] at a1 a2 a3 a4 a5 a6 a7 a8 a9
      go_upto_region 3 with fail
      refine wp_region_held_drew (S := fun w' => (∀ o, w'.cell? ⟨w.heap.size, o, none⟩ = w5.cell? ⟨w.heap.size, o, none⟩) ∧ (∀ o, w'.cell? ⟨rp, o, none⟩ = w5.cell? ⟨rp, o, none⟩)) (by kernel_rfl) (⟨fun _ => rfl, fun _ => rfl⟩) (fun hHeld => ?_)
      refine tkN (i := 0) rfl ?_
      try simp only [Act.put, sA, sZ, sS]
      refine tkN (i := 1) rfl ?_
      try simp only [Act.put, sA, sZ, sS]
      refine tkN (i := 2) rfl ?_
      try simp only [Act.put, sA, sZ, sS]
      refine tkN (i := 3) rfl ?_
      try simp only [Act.put, sA, sZ, sS]
      refine tkN (i := 4) rfl ?_
      try simp only [Act.put, sA, sZ, sS]
      refine tkN (i := 5) rfl ?_
      try simp only [Act.put, sA, sZ, sS]
      refine stN (i := 6) rfl (fun K hK => ?_)
      go_simp
      refine (jload (x := ⟨⟨c, r, s, l⟩, A, cap⟩) (HR5.out.j.new (New.refl w5).drew) (HV5.out.new (New.refl w5).drew) (by omega)).mono ?_
      rintro e wj hpj
      obtain ⟨rfl, hj7, hu7⟩ := hpj
      have hujW : Upd (JdF L.jl) w5 wj := (Upd.refl (JdF L.jl) w5).drew.trans hu7 (fun _ _ h => h)
      have hjw := HR5.out.setJ hj7 hujW (by omega)
      have hnj : ¬ JdF L.jl w.heap.size := fun hk => by have := HSZ.out _ (.inr (.inl hk)); omega
      have hx7 := HX5.out.upd hujW hnj
      have hnr : ¬ JdF L.jl rp := HR5.out.rp_jd
      refine hK.out _ _ ?_ (fun hHeld => ?_)
      · exact ⟨fun o => keepR hujW HX5.out.lt hnj o, fun o => keepR hujW HR5.out.blk.lt hnr o⟩
      clear hK K
      try simp only [Act.put, sA, sZ, sS]
      refine wpAnyH_done (by kernel_rfl) ?_ _
      clear hHeld hj7 hu7
      have HJW := Lib.hid hjw
      have HX7 := Lib.hid hx7
      have HV7 := Lib.hid (HV5.out.upd hujW (HR5.out.j.off (by decide)))
      have HU7 : Hid (Upd (RpF rp L) w wj) := Lib.hid ((Upd.new (S := RpF rp L) HN5.out).trans hujW (fun _ _ h => .inr (.inl h)))
      clear hjw hx7 hnj hujW hnr
      generalize hx1 : ({ x with j := (x.j.load ⟨c, r, s, l⟩).1 } : Rpl) = x1 at *
      have hxl : x1.l = x.l := by rw [← hx1]
      clear g0 c0 c1 c2 c3 c4 c5 c6 cz a0 a1 a2 a3 a4 a5 a6 a7 a8 a9 az
      obtain ⟨g0, c0, c1, c2, c3, c4, c5, c6, cz⟩ := HJW.out.facts
      obtain ⟨a0, a1, a2, a3, a4, a5, a6, a7, a8, a9, az⟩ := nt_facts (n := ⟨nk, nfr, nds, nep, nt, ⟨⟨c, r, s, l⟩, A, cap⟩⟩) HX7.out
      dsimp only [BtV.sl] at a1 a2 a3 a4 a5 a6 a7 a8 a9
      have HBR : Hid (¬ w.heap.size = rp) := Lib.hid (fun e => by have := HSZ.out rp (.inl rfl); omega)
      go_upto_region 4 with fail
      have K0_0 := a6
      have K0_1 := a7
      have K0_2 := a8
      have K0_3 := a9
      refine wp_region_held_drew (S := fun w' => w'.cell? ⟨w.heap.size, 5, none⟩ = some (.int .u64 (c : Int)) ∧ w'.cell? ⟨w.heap.size, 6, none⟩ = some (.int .u64 (r : Int)) ∧ w'.cell? ⟨w.heap.size, 7, none⟩ = some (.int .u64 (s : Int)) ∧ w'.cell? ⟨w.heap.size, 8, none⟩ = some (.slice A l.length cap)) (by kernel_rfl) (⟨K0_0, K0_1, K0_2, K0_3⟩) (fun hHeld => ?_)
      refine tkN (i := 0) rfl ?_
      try simp only [Act.put, sA, sZ, sS]
      refine tkN (i := 1) rfl ?_
      try simp only [Act.put, sA, sZ, sS]
      refine tkN (i := 2) rfl ?_
      try simp only [Act.put, sA, sZ, sS]
      refine tkN (i := 3) rfl ?_
      try simp only [Act.put, sA, sZ, sS]
      refine tkN (i := 5) rfl ?_
      try simp only [Act.put, sA, sZ, sS]
      refine tkN (i := 6) rfl ?_
      try simp only [Act.put, sA, sZ, sS]
      refine wpAnyH_ready (rs := [4, 7]) (by kernel_rfl) (by simp) ?_
      refine rdN rfl (fun K hK => ?_) (rdN rfl (fun K hK => ?_) AllReadyH.nil)
      · go_simp
        refine hK.out _ _ ?_ (fun hHeld => ?_)
        · exact hHeld
        clear hK K
        try simp only [Act.put, sA, sZ, sS]
        refine stN (i := 7) rfl (fun K hK => ?_)
        go_simp
        refine (copied_any (HV7.out.new (New.refl wj).drew)).mono ?_
        rintro e w5 ⟨y, rfl, hyb, hy5, hn5⟩
        obtain ⟨⟨yc, yr, ys, yl⟩, yA, ycap⟩ := y
        dsimp only at hyb
        cases hyb
        dsimp only [BtV.val, BtV.sl, batV]
        have hn5W : New wj w5 := (New.refl wj).drew.trans hn5
        have HR5 := Lib.hid (HJW.out.new hn5W)
        have HY5 := Lib.hid hy5
        have HN5 := Lib.hid hn5W
        have HX5 := Lib.hid (HX7.out.new hn5W)
        obtain ⟨G0, C0, C1, C2, C3, C4, C5, C6, CZ⟩ := HR5.out.facts
        clear hy5 hn5
        have K0_0 := HX5.out.cell 5
        have K0_1 := HX5.out.cell 6
        have K0_2 := HX5.out.cell 7
        have K0_3 := HX5.out.cell 8
        (try dsimp only [NtV.cells] at K0_0 K0_1 K0_2 K0_3)
        refine hK.out _ _ ?_ (fun hHeld => ?_)
        · exact ⟨K0_0, K0_1, K0_2, K0_3⟩
        clear hK K
        try simp only [Act.put, sA, sZ, sS]
        refine stN (i := 8) rfl (fun K hK => ?_)
        go_simp
        have hn6 := (New.refl w5).alloc (.cells #[.int .u64 (c : Int), .int .u64 (r : Int), .int .u64 (s : Int), .slice yA l.length ycap] 82)
        have HP6 := Lib.hid (Blk.mk_new w5 82 #[.int .u64 (c : Int), .int .u64 (r : Int), .int .u64 (s : Int), .slice yA l.length ycap])
        have HR6 := Lib.hid (HR5.out.new hn6)
        have HY6 := Lib.hid (HY5.out.new hn6)
        have HN6 := Lib.hid (HN5.out.trans hn6)
        have HX6 := Lib.hid (HX5.out.new hn6)
        clear hn6 K0_0 K0_1 K0_2 K0_3
        generalize w5.alloc (.cells #[.int .u64 (c : Int), .int .u64 (r : Int), .int .u64 (s : Int), .slice yA l.length ycap] 82) = w6 at *
        obtain ⟨G0, C0, C1, C2, C3, C4, C5, C6, CZ⟩ := HR6.out.facts
        have K0_0 := HX6.out.cell 5
        have K0_1 := HX6.out.cell 6
        have K0_2 := HX6.out.cell 7
        have K0_3 := HX6.out.cell 8
        (try dsimp only [NtV.cells] at K0_0 K0_1 K0_2 K0_3)
        refine hK.out _ _ ?_ (fun hHeld => ?_)
        · exact ⟨K0_0, K0_1, K0_2, K0_3⟩
        clear hK K
        try simp only [Act.put, sA, sZ, sS]
        refine stN (i := 9) rfl (fun K hK => ?_)
        obtain ⟨qs, hqs, hrow, hqa⟩ := HR6.out.l
        have HQS := Lib.hid hqs
        have HQA := Lib.hid hqa
        have HROW := Lib.hid hrow
        have hql : qs.length ≤ (B + 10) := by have := HR6.out.ll; rw [← hqs, List.length_map] at this; exact this
        refine step_appR (m := [(⟨⟨c, r, s, l⟩, yA, ycap⟩ : BtV)]) btTy BtV.encOk rfl (.tmp 26) (.tmp 30) rfl rfl rfl hrow (SlIn.one HP6.out BtV.encOk rfl) (by simp; unfold maxLen; omega) (by simp; omega) (Nat.zero_le _) ?_
        intro v7 w7 h7 hg7 hv7
        have hou : Upd (fun i => L.lv.ownBlock = some i) w6 w7 := (Upd.refl _ w6).grown hg7 (fun i _ e => e)
        have hrn : ¬ L.lv.ownBlock = some rp := fun e => hrow.ne_blk HR6.out.blk (by decide) e
        have hbn : ¬ L.lv.ownBlock = some w.heap.size := fun e => hrow.ne_blk HX6.out (by decide) e
        have hcr := fun o => keepR hou G0 hrn o
        have HX7 := Lib.hid (HX6.out.upd hou hbn)
        have HYR : Hid (BtRow w7 0 v7 (x1.l ++ [⟨c, r, s, l⟩])) := Lib.hid ⟨qs ++ [(⟨⟨c, r, s, l⟩, yA, ycap⟩ : BtV)], by rw [List.map_append, HQS.out]; rfl, h7, fun p hp => (List.mem_append.1 hp).elim (fun hp => (HQA.out p hp).upd hou (Off.row HROW.out (by decide))) (fun hp => by rw [List.mem_singleton.1 hp]; exact HY6.out.upd hou (Off.row HROW.out (by decide)))⟩
        have hfz : ∀ i, w7.frozen? ⟨rp, i, none⟩ = false := (HR6.out.blk.upd hou hrn).frozen
        obtain ⟨A7, n7, c7, hs7⟩ := h7.shp
        have HS7 := Lib.hid hs7
        have HG7 := Lib.hid hg7
        have HV7 := Lib.hid hv7
        have HOU := Lib.hid hou
        rw [hs7]
        have E4 := (hcr 4).trans C4
        have gl : rp < w7.heap.size := Nat.lt_of_lt_of_le G0 hou.size
        clear hqs hqa hrow h7 hg7 hv7 hou hrn hbn hcr hql hs7 K0_0 K0_1 K0_2 K0_3
        have K0_0 := HX7.out.cell 5
        have K0_1 := HX7.out.cell 6
        have K0_2 := HX7.out.cell 7
        have K0_3 := HX7.out.cell 8
        (try dsimp only [NtV.cells] at K0_0 K0_1 K0_2 K0_3)
        refine hK.out _ _ ?_ (fun hHeld => ?_)
        · exact ⟨K0_0, K0_1, K0_2, K0_3⟩
        clear hK K
        try simp only [Act.put, sA, sZ, sS]
        refine tkN (i := 10) rfl ?_
        try simp only [Act.put, sA, sZ, sS]
        refine tkN (i := 11) rfl ?_
        try simp only [Act.put, sA, sZ, sS]
        refine stN (i := 12) rfl (fun K hK => ?_)
        go_simp
        have I0 := cell_far (u := .slice A7 n7 c7) (i := 4) K0_0 HBR.out
        have I1 := cell_far (u := .slice A7 n7 c7) (i := 4) K0_1 HBR.out
        have I2 := cell_far (u := .slice A7 n7 c7) (i := 4) K0_2 HBR.out
        have I3 := cell_far (u := .slice A7 n7 c7) (i := 4) K0_3 HBR.out
        refine hK.out _ _ ?_ (fun hHeld => ?_)
        · exact ⟨I0, I1, I2, I3⟩
        clear hK K
        try simp only [Act.put, sA, sZ, sS]
        refine wpAnyH_done (by kernel_rfl) ?_ _
        clear hHeld
        have H8 : Hid (RpAt (w7.setCell ⟨rp, 4, none⟩ (.slice A7 n7 c7)) rp ((B + 10) + 1) { L with lv := .slice A7 n7 c7 } { x1 with l := x1.l ++ [⟨c, r, s, l⟩] }) := Lib.hid (by
          have := HR6.out.setL HYR.out (by have := HR6.out.ll; rw [List.length_append, List.length_singleton]; omega) HG7.out
          rw [HS7.out] at this
          exact this)
        have H8K : Hid (∀ i, RpF rp { L with lv := .slice A7 n7 c7 } i → RpF rp L i ∨ wj.heap.size ≤ i) := Lib.hid (by
          rintro i (hi | hi | hi | hi)
          · exact .inl (.inl hi)
          · exact .inl (.inr (.inl hi))
          · rw [← HS7.out] at hi
            exact HV7.out.elim (fun e => .inl (.inr (.inr (.inl (e ▸ hi))))) (fun e => .inr (by rw [e] at hi; cases hi; exact HN6.out.size))
          · exact .inl (.inr (.inr (.inr hi))))
        have H8U : Hid (Upd (RpF rp L) wj (w7.setCell ⟨rp, 4, none⟩ (.slice A7 n7 c7))) := Lib.hid ((((Upd.new (S := RpF rp L) HN6.out)).trans HOU.out (fun i _ hi => .inr (.inr (.inl hi)))).setCell (p := ⟨rp, 4, none⟩) (fun _ => .inl rfl) _)
        clear E4 gl hfz
        go_wp2_with fail
        refine (radded H8.out (b := ⟨c, r, s, l⟩) (m := x1.l.length) (by simp) (by simp) (by omega)).mono ?_
        rintro e w9 ⟨rfl, hp⟩
        go_wp2_with fail
        go_end0
        exact ⟨rfl, by rw [HF.out]; exact (RpPost.trans H8.out (fun i hi => (H8K.out i hi).imp (fun h => h) (fun h => Nat.le_trans HU7.out.size h)) (HU7.out.trans H8U.out (fun _ _ h => h)) hp).mono (by omega)⟩
      · go_simp
        refine (copied_any (HV7.out.new (New.refl wj).drew)).mono ?_
        rintro e w5 ⟨y, rfl, hyb, hy5, hn5⟩
        obtain ⟨⟨yc, yr, ys, yl⟩, yA, ycap⟩ := y
        dsimp only at hyb
        cases hyb
        dsimp only [BtV.val, BtV.sl, batV]
        have hn5W : New wj w5 := (New.refl wj).drew.trans hn5
        have HR5 := Lib.hid (HJW.out.new hn5W)
        have HY5 := Lib.hid hy5
        have HN5 := Lib.hid hn5W
        have HX5 := Lib.hid (HX7.out.new hn5W)
        obtain ⟨G0, C0, C1, C2, C3, C4, C5, C6, CZ⟩ := HR5.out.facts
        clear hy5 hn5
        have K0_0 := HX5.out.cell 5
        have K0_1 := HX5.out.cell 6
        have K0_2 := HX5.out.cell 7
        have K0_3 := HX5.out.cell 8
        (try dsimp only [NtV.cells] at K0_0 K0_1 K0_2 K0_3)
        refine hK.out _ _ ?_ (fun hHeld => ?_)
        · exact ⟨K0_0, K0_1, K0_2, K0_3⟩
        clear hK K
        try simp only [Act.put, sA, sZ, sS]
        refine wpAnyH_ready (rs := [4, 8]) (by kernel_rfl) (by simp) ?_
        refine rdN rfl (fun K hK => ?_) (rdN rfl (fun K hK => ?_) AllReadyH.nil)
        · go_simp
          refine hK.out _ _ ?_ (fun hHeld => ?_)
          · exact hHeld
          clear hK K
          try simp only [Act.put, sA, sZ, sS]
          refine stN (i := 8) rfl (fun K hK => ?_)
          go_simp
          have hn6 := (New.refl w5).alloc (.cells #[.int .u64 (c : Int), .int .u64 (r : Int), .int .u64 (s : Int), .slice yA l.length ycap] 82)
          have HP6 := Lib.hid (Blk.mk_new w5 82 #[.int .u64 (c : Int), .int .u64 (r : Int), .int .u64 (s : Int), .slice yA l.length ycap])
          have HR6 := Lib.hid (HR5.out.new hn6)
          have HY6 := Lib.hid (HY5.out.new hn6)
          have HN6 := Lib.hid (HN5.out.trans hn6)
          have HX6 := Lib.hid (HX5.out.new hn6)
          clear hn6 K0_0 K0_1 K0_2 K0_3
          generalize w5.alloc (.cells #[.int .u64 (c : Int), .int .u64 (r : Int), .int .u64 (s : Int), .slice yA l.length ycap] 82) = w6 at *
          obtain ⟨G0, C0, C1, C2, C3, C4, C5, C6, CZ⟩ := HR6.out.facts
          have K0_0 := HX6.out.cell 5
          have K0_1 := HX6.out.cell 6
          have K0_2 := HX6.out.cell 7
          have K0_3 := HX6.out.cell 8
          (try dsimp only [NtV.cells] at K0_0 K0_1 K0_2 K0_3)
          refine hK.out _ _ ?_ (fun hHeld => ?_)
          · exact ⟨K0_0, K0_1, K0_2, K0_3⟩
          clear hK K
          try simp only [Act.put, sA, sZ, sS]
          refine stN (i := 9) rfl (fun K hK => ?_)
          obtain ⟨qs, hqs, hrow, hqa⟩ := HR6.out.l
          have HQS := Lib.hid hqs
          have HQA := Lib.hid hqa
          have HROW := Lib.hid hrow
          have hql : qs.length ≤ (B + 10) := by have := HR6.out.ll; rw [← hqs, List.length_map] at this; exact this
          refine step_appR (m := [(⟨⟨c, r, s, l⟩, yA, ycap⟩ : BtV)]) btTy BtV.encOk rfl (.tmp 26) (.tmp 30) rfl rfl rfl hrow (SlIn.one HP6.out BtV.encOk rfl) (by simp; unfold maxLen; omega) (by simp; omega) (Nat.zero_le _) ?_
          intro v7 w7 h7 hg7 hv7
          have hou : Upd (fun i => L.lv.ownBlock = some i) w6 w7 := (Upd.refl _ w6).grown hg7 (fun i _ e => e)
          have hrn : ¬ L.lv.ownBlock = some rp := fun e => hrow.ne_blk HR6.out.blk (by decide) e
          have hbn : ¬ L.lv.ownBlock = some w.heap.size := fun e => hrow.ne_blk HX6.out (by decide) e
          have hcr := fun o => keepR hou G0 hrn o
          have HX7 := Lib.hid (HX6.out.upd hou hbn)
          have HYR : Hid (BtRow w7 0 v7 (x1.l ++ [⟨c, r, s, l⟩])) := Lib.hid ⟨qs ++ [(⟨⟨c, r, s, l⟩, yA, ycap⟩ : BtV)], by rw [List.map_append, HQS.out]; rfl, h7, fun p hp => (List.mem_append.1 hp).elim (fun hp => (HQA.out p hp).upd hou (Off.row HROW.out (by decide))) (fun hp => by rw [List.mem_singleton.1 hp]; exact HY6.out.upd hou (Off.row HROW.out (by decide)))⟩
          have hfz : ∀ i, w7.frozen? ⟨rp, i, none⟩ = false := (HR6.out.blk.upd hou hrn).frozen
          obtain ⟨A7, n7, c7, hs7⟩ := h7.shp
          have HS7 := Lib.hid hs7
          have HG7 := Lib.hid hg7
          have HV7 := Lib.hid hv7
          have HOU := Lib.hid hou
          rw [hs7]
          have E4 := (hcr 4).trans C4
          have gl : rp < w7.heap.size := Nat.lt_of_lt_of_le G0 hou.size
          clear hqs hqa hrow h7 hg7 hv7 hou hrn hbn hcr hql hs7 K0_0 K0_1 K0_2 K0_3
          have K0_0 := HX7.out.cell 5
          have K0_1 := HX7.out.cell 6
          have K0_2 := HX7.out.cell 7
          have K0_3 := HX7.out.cell 8
          (try dsimp only [NtV.cells] at K0_0 K0_1 K0_2 K0_3)
          refine hK.out _ _ ?_ (fun hHeld => ?_)
          · exact ⟨K0_0, K0_1, K0_2, K0_3⟩
          clear hK K
          try simp only [Act.put, sA, sZ, sS]
          refine tkN (i := 10) rfl ?_
          try simp only [Act.put, sA, sZ, sS]
          refine tkN (i := 11) rfl ?_
          try simp only [Act.put, sA, sZ, sS]
          refine stN (i := 12) rfl (fun K hK => ?_)
          go_simp
          have I0 := cell_far (u := .slice A7 n7 c7) (i := 4) K0_0 HBR.out
          have I1 := cell_far (u := .slice A7 n7 c7) (i := 4) K0_1 HBR.out
          have I2 := cell_far (u := .slice A7 n7 c7) (i := 4) K0_2 HBR.out
          have I3 := cell_far (u := .slice A7 n7 c7) (i := 4) K0_3 HBR.out
          refine hK.out _ _ ?_ (fun hHeld => ?_)
          · exact ⟨I0, I1, I2, I3⟩
          clear hK K
          try simp only [Act.put, sA, sZ, sS]
          refine wpAnyH_done (by kernel_rfl) ?_ _
          clear hHeld
          have H8 : Hid (RpAt (w7.setCell ⟨rp, 4, none⟩ (.slice A7 n7 c7)) rp ((B + 10) + 1) { L with lv := .slice A7 n7 c7 } { x1 with l := x1.l ++ [⟨c, r, s, l⟩] }) := Lib.hid (by
            have := HR6.out.setL HYR.out (by have := HR6.out.ll; rw [List.length_append, List.length_singleton]; omega) HG7.out
            rw [HS7.out] at this
            exact this)
          have H8K : Hid (∀ i, RpF rp { L with lv := .slice A7 n7 c7 } i → RpF rp L i ∨ wj.heap.size ≤ i) := Lib.hid (by
            rintro i (hi | hi | hi | hi)
            · exact .inl (.inl hi)
            · exact .inl (.inr (.inl hi))
            · rw [← HS7.out] at hi
              exact HV7.out.elim (fun e => .inl (.inr (.inr (.inl (e ▸ hi))))) (fun e => .inr (by rw [e] at hi; cases hi; exact HN6.out.size))
            · exact .inl (.inr (.inr (.inr hi))))
          have H8U : Hid (Upd (RpF rp L) wj (w7.setCell ⟨rp, 4, none⟩ (.slice A7 n7 c7))) := Lib.hid ((((Upd.new (S := RpF rp L) HN6.out)).trans HOU.out (fun i _ hi => .inr (.inr (.inl hi)))).setCell (p := ⟨rp, 4, none⟩) (fun _ => .inl rfl) _)
          clear E4 gl hfz
          go_wp2_with fail
          refine (radded H8.out (b := ⟨c, r, s, l⟩) (m := x1.l.length) (by simp) (by simp) (by omega)).mono ?_
          rintro e w9 ⟨rfl, hp⟩
          go_wp2_with fail
          go_end0
          exact ⟨rfl, by rw [HF.out]; exact (RpPost.trans H8.out (fun i hi => (H8K.out i hi).imp (fun h => h) (fun h => Nat.le_trans HU7.out.size h)) (HU7.out.trans H8U.out (fun _ _ h => h)) hp).mono (by omega)⟩
        · go_simp
          have hn6 := (New.refl w5).alloc (.cells #[.int .u64 (c : Int), .int .u64 (r : Int), .int .u64 (s : Int), .slice yA l.length ycap] 82)
          have HP6 := Lib.hid (Blk.mk_new w5 82 #[.int .u64 (c : Int), .int .u64 (r : Int), .int .u64 (s : Int), .slice yA l.length ycap])
          have HR6 := Lib.hid (HR5.out.new hn6)
          have HY6 := Lib.hid (HY5.out.new hn6)
          have HN6 := Lib.hid (HN5.out.trans hn6)
          have HX6 := Lib.hid (HX5.out.new hn6)
          clear hn6 K0_0 K0_1 K0_2 K0_3
          generalize w5.alloc (.cells #[.int .u64 (c : Int), .int .u64 (r : Int), .int .u64 (s : Int), .slice yA l.length ycap] 82) = w6 at *
          obtain ⟨G0, C0, C1, C2, C3, C4, C5, C6, CZ⟩ := HR6.out.facts
          have K0_0 := HX6.out.cell 5
          have K0_1 := HX6.out.cell 6
          have K0_2 := HX6.out.cell 7
          have K0_3 := HX6.out.cell 8
          (try dsimp only [NtV.cells] at K0_0 K0_1 K0_2 K0_3)
          refine hK.out _ _ ?_ (fun hHeld => ?_)
          · exact ⟨K0_0, K0_1, K0_2, K0_3⟩
          clear hK K
          try simp only [Act.put, sA, sZ, sS]
          refine stN (i := 4) rfl (fun K hK => ?_)
          go_simp
          refine hK.out _ _ ?_ (fun hHeld => ?_)
          · exact hHeld
          clear hK K
          try simp only [Act.put, sA, sZ, sS]
          refine stN (i := 9) rfl (fun K hK => ?_)
          obtain ⟨qs, hqs, hrow, hqa⟩ := HR6.out.l
          have HQS := Lib.hid hqs
          have HQA := Lib.hid hqa
          have HROW := Lib.hid hrow
          have hql : qs.length ≤ (B + 10) := by have := HR6.out.ll; rw [← hqs, List.length_map] at this; exact this
          refine step_appR (m := [(⟨⟨c, r, s, l⟩, yA, ycap⟩ : BtV)]) btTy BtV.encOk rfl (.tmp 26) (.tmp 30) rfl rfl rfl hrow (SlIn.one HP6.out BtV.encOk rfl) (by simp; unfold maxLen; omega) (by simp; omega) (Nat.zero_le _) ?_
          intro v7 w7 h7 hg7 hv7
          have hou : Upd (fun i => L.lv.ownBlock = some i) w6 w7 := (Upd.refl _ w6).grown hg7 (fun i _ e => e)
          have hrn : ¬ L.lv.ownBlock = some rp := fun e => hrow.ne_blk HR6.out.blk (by decide) e
          have hbn : ¬ L.lv.ownBlock = some w.heap.size := fun e => hrow.ne_blk HX6.out (by decide) e
          have hcr := fun o => keepR hou G0 hrn o
          have HX7 := Lib.hid (HX6.out.upd hou hbn)
          have HYR : Hid (BtRow w7 0 v7 (x1.l ++ [⟨c, r, s, l⟩])) := Lib.hid ⟨qs ++ [(⟨⟨c, r, s, l⟩, yA, ycap⟩ : BtV)], by rw [List.map_append, HQS.out]; rfl, h7, fun p hp => (List.mem_append.1 hp).elim (fun hp => (HQA.out p hp).upd hou (Off.row HROW.out (by decide))) (fun hp => by rw [List.mem_singleton.1 hp]; exact HY6.out.upd hou (Off.row HROW.out (by decide)))⟩
          have hfz : ∀ i, w7.frozen? ⟨rp, i, none⟩ = false := (HR6.out.blk.upd hou hrn).frozen
          obtain ⟨A7, n7, c7, hs7⟩ := h7.shp
          have HS7 := Lib.hid hs7
          have HG7 := Lib.hid hg7
          have HV7 := Lib.hid hv7
          have HOU := Lib.hid hou
          rw [hs7]
          have E4 := (hcr 4).trans C4
          have gl : rp < w7.heap.size := Nat.lt_of_lt_of_le G0 hou.size
          clear hqs hqa hrow h7 hg7 hv7 hou hrn hbn hcr hql hs7 K0_0 K0_1 K0_2 K0_3
          have K0_0 := HX7.out.cell 5
          have K0_1 := HX7.out.cell 6
          have K0_2 := HX7.out.cell 7
          have K0_3 := HX7.out.cell 8
          (try dsimp only [NtV.cells] at K0_0 K0_1 K0_2 K0_3)
          refine hK.out _ _ ?_ (fun hHeld => ?_)
          · exact ⟨K0_0, K0_1, K0_2, K0_3⟩
          clear hK K
          try simp only [Act.put, sA, sZ, sS]
          refine tkN (i := 10) rfl ?_
          try simp only [Act.put, sA, sZ, sS]
          refine tkN (i := 11) rfl ?_
          try simp only [Act.put, sA, sZ, sS]
          refine stN (i := 12) rfl (fun K hK => ?_)
          go_simp
          have I0 := cell_far (u := .slice A7 n7 c7) (i := 4) K0_0 HBR.out
          have I1 := cell_far (u := .slice A7 n7 c7) (i := 4) K0_1 HBR.out
          have I2 := cell_far (u := .slice A7 n7 c7) (i := 4) K0_2 HBR.out
          have I3 := cell_far (u := .slice A7 n7 c7) (i := 4) K0_3 HBR.out
          refine hK.out _ _ ?_ (fun hHeld => ?_)
          · exact ⟨I0, I1, I2, I3⟩
          clear hK K
          try simp only [Act.put, sA, sZ, sS]
          refine wpAnyH_done (by kernel_rfl) ?_ _
          clear hHeld
          have H8 : Hid (RpAt (w7.setCell ⟨rp, 4, none⟩ (.slice A7 n7 c7)) rp ((B + 10) + 1) { L with lv := .slice A7 n7 c7 } { x1 with l := x1.l ++ [⟨c, r, s, l⟩] }) := Lib.hid (by
            have := HR6.out.setL HYR.out (by have := HR6.out.ll; rw [List.length_append, List.length_singleton]; omega) HG7.out
            rw [HS7.out] at this
            exact this)
          have H8K : Hid (∀ i, RpF rp { L with lv := .slice A7 n7 c7 } i → RpF rp L i ∨ wj.heap.size ≤ i) := Lib.hid (by
            rintro i (hi | hi | hi | hi)
            · exact .inl (.inl hi)
            · exact .inl (.inr (.inl hi))
            · rw [← HS7.out] at hi
              exact HV7.out.elim (fun e => .inl (.inr (.inr (.inl (e ▸ hi))))) (fun e => .inr (by rw [e] at hi; cases hi; exact HN6.out.size))
            · exact .inl (.inr (.inr (.inr hi))))
          have H8U : Hid (Upd (RpF rp L) wj (w7.setCell ⟨rp, 4, none⟩ (.slice A7 n7 c7))) := Lib.hid ((((Upd.new (S := RpF rp L) HN6.out)).trans HOU.out (fun i _ hi => .inr (.inr (.inl hi)))).setCell (p := ⟨rp, 4, none⟩) (fun _ => .inl rfl) _)
          clear E4 gl hfz
          go_wp2_with fail
          refine (radded H8.out (b := ⟨c, r, s, l⟩) (m := x1.l.length) (by simp) (by simp) (by omega)).mono ?_
          rintro e w9 ⟨rfl, hp⟩
          go_wp2_with fail
          go_end0
          exact ⟨rfl, by rw [HF.out]; exact (RpPost.trans H8.out (fun i hi => (H8K.out i hi).imp (fun h => h) (fun h => Nat.le_trans HU7.out.size h)) (HU7.out.trans H8U.out (fun _ _ h => h)) hp).mono (by omega)⟩
end
end Go.Proofs.YtlhlcdjkacglnaaGreatDoor
