/- The parts RpX, RpY, RpZ, joined. -/
import Derived.Test.YtecniafnihpjmaaGreatDoorTk
import Derived.Test.YtecniafnihpjmaaGreatDoorMg8
import Derived.Laws.EntriesVeiled
/- Chapter 24 (replica): Fold of no commands, Adopt, Tick, Out, Clean, Config. Printed by genRpX.py. -/
namespace Go.Proofs.YtecniafnihpjmaaGreatDoor
open Go.RowKit Go.Lap C
set_option linter.unusedVariables false
set_option linter.unusedSimpArgs false
section
variable {w w' W wa : World} {S : Nat → Prop} {rp B D : Nat} {L : RpL} {x x' : Rpl} {b : BtV}
def FoldPost (w : World) (c : Cfg) (e : Ending) (w' : World) : Prop := ∃ A n, e = .returned (.agg #[.int .u64 (c.e : Int), .slice A c.ms.length n]) ∧ TSl w' 3 1 iEnc (.slice A c.ms.length n) c.ms ∧ New w w'
set_option maxRecDepth 100000 in
set_option maxHeartbeats 4000000 in
theorem fold0 (c : Cfg) {v : Value} (hl : c.ms.length ≤ 1000) (hs : SlIn w 1 iEnc v c.ms) :
    Calls Tryz.prog 53 #[.agg #[.int .u64 (c.e : Int), v], .slice none 0 0] w (FoldPost w c) := by
  obtain ⟨e, ms⟩ := c
  dsimp only at *
  obtain ⟨A, m, cap, rfl⟩ := hs.shape
  have hN := ((New.refl w).alloc (.cells #[.int .u64 (e : Int), .slice A m cap] 25)).alloc (.cells #[.int .u64 0, .slice none 0 0] 25)
  have hM := (Blk.mk_new w 25 #[.int .u64 (e : Int), .slice A m cap]).alloc (.cells #[.int .u64 0, .slice none 0 0] 25)
  have hZ := Blk.mk_new (w.alloc (.cells #[.int .u64 (e : Int), .slice A m cap] 25)) 25 #[.int .u64 0, .slice none 0 0]
  rw [World.size_alloc] at hZ
  have HS := Lib.hid (hs.new hN)
  have HN := Lib.hid hN
  have HM := Lib.hid hM
  have HZ := Lib.hid hZ
  obtain ⟨q0, q1, q2, qz⟩ := Blk2F hM
  obtain ⟨z0, z1, z2, zz⟩ := Blk2F hZ
  clear hN hM hZ hs
  go_enter Tryz.func53, Tryz.ntmps53
  go_upto_region 1 with fail
  generalize (w.alloc _).alloc _ = W at *
  go_wp2_with fail
  refine (clone_any _ ms W (by omega) HS.out).mono ?_
  rintro e2 w2 ⟨u, rfl, hu, hn2⟩
  have ht := Row.tsl iEncOk (Owns.row hu)
  obtain ⟨A2, c2, rfl⟩ := ht.shape
  have hm2 := HM.out.new hn2
  have hz2 := HZ.out.new hn2
  have hu3 : Upd (· = w.heap.size) w2 (w2.setCell ⟨w.heap.size, 1, none⟩ (.slice A2 ms.length c2)) := (Upd.refl _ w2).setIn 1 _
  have hm3 := hm2.set_ 1 (.slice A2 ms.length c2)
  have hz3 := hz2.upd hu3 (by omega)
  have HT3 := Lib.hid (ht.upd hu3 (Off.blk hm2 (by decide)))
  have HZ3 := Lib.hid hz3
  have HN3 : Hid (New w (w2.setCell ⟨w.heap.size, 1, none⟩ (.slice A2 ms.length c2))) := Lib.hid ((HN.out.trans hn2).upd hu3 (fun i e => by omega))
  clear q0 q1 q2 qz z0 z1 z2 zz
  obtain ⟨q0, q1, q2, qz⟩ := Blk2F hm2
  obtain ⟨p0, p1, p2, pz⟩ := Blk2F hm3
  obtain ⟨z0, z1, z2, zz⟩ := Blk2F hz3
  clear hu ht hm2 hz2 hu3 hm3 hz3 hn2
  go_upto_region 2 with fail
  clear q0 q1 q2 qz
  generalize w2.setCell ⟨w.heap.size, 1, none⟩ (.slice A2 ms.length c2) = w3 at *
  go_wp2_with fail
  go_loopw [12] (fun i wr => i = .int .i64 0 ∧ wr = w3) (fun _ _ => 0)
  case atStart => exact ⟨rfl, rfl⟩
  case round =>
    obtain ⟨rfl, rfl⟩ := hrel
    go_wp2_with fail
    have hu4 : Upd (· = w.heap.size + 1) wr ((wr.setCell ⟨w.heap.size + 1, 0, none⟩ (.int .u64 (e : Int))).setCell ⟨w.heap.size + 1, 1, none⟩ (.slice A2 ms.length c2)) := ((Upd.refl _ wr).setIn 0 _).setIn 1 _
    exact bodyPost_ret (v := .agg #[.int .u64 (e : Int), .slice A2 ms.length c2]) (by simp [results, Tryz.results53, go_sem, z1, z2]) rfl ⟨A2, c2, rfl, HT3.out.upd hu4 (Off.blk HZ3.out (by decide)), HN3.out.upd hu4 (fun i e => by omega)⟩
/-- The configuration turns. -/
theorem RpAt.setCf (h : RpAt w rp B L x) (c : Cfg) {A : Option Addr} {n : Nat} (hc : TSl w 3 1 iEnc (.slice A c.ms.length n) c.ms) (hl : c.ms.length ≤ 1000) (he : c.e < big) :
    RpAt ((w.setCell ⟨rp, 1, none⟩ (.int .u64 (c.e : Int))).setCell ⟨rp, 2, none⟩ (.slice A c.ms.length n)) rp B { L with cv := .slice A c.ms.length n } { x with cf := c } ∧ Upd (RpF rp L) w ((w.setCell ⟨rp, 1, none⟩ (.int .u64 (c.e : Int))).setCell ⟨rp, 2, none⟩ (.slice A c.ms.length n)) := by
  have hu : Upd (· = rp) w ((w.setCell ⟨rp, 1, none⟩ (.int .u64 (c.e : Int))).setCell ⟨rp, 2, none⟩ (.slice A c.ms.length n)) := ((Upd.refl _ w).setIn 1 _).setIn 2 _
  obtain ⟨ps, _, hps, _⟩ := h.l
  obtain ⟨qs, _, hqs, _⟩ := h.out
  have hWr : Off w 97 (· = rp) := Off.blk h.blk (by decide)
  have hIr : Off w 3 (· = rp) := Off.blk h.blk (by decide)
  exact ⟨⟨(h.blk.set_ 1 _).set_ 2 _, hc.upd hu hIr, hl, he, h.j.upd hu (fun k hk e => h.rp_jd (e ▸ hk)), h.l.upd hu (fun k hk e => hps.ne_blk h.blk (by decide) (e ▸ hk)) hWr, h.out.upd hu (fun k hk e => hqs.ne_blk h.blk (by decide) (e ▸ hk)) hWr, h.ll, h.ol, h.cl⟩, hu.mono (fun _ _ e => .inl e)⟩
set_option maxHeartbeats 2000000 in
theorem rclean (h : RpAt w rp B L x) : Calls Tryz.prog 19 #[.pointer (some ⟨rp, 0, none⟩)] w fun e w' => e = .returned (.int .u64 (x.cl : Int)) ∧ w' = w := by
  obtain ⟨g0, c0, c1, c2, c3, c4, c5, c6, cz⟩ := h.facts
  clear h
  go_enter Tryz.func19, Tryz.ntmps19
  go_wp2_with fail
  go_ret
  exact ⟨rfl, rfl⟩
set_option maxHeartbeats 2000000 in
theorem rconfig (h : RpAt w rp B L x) : Calls Tryz.prog 38 #[.pointer (some ⟨rp, 0, none⟩)] w (FoldPost w x.cf) := by
  have hN := (New.refl w).alloc (.cells #[.int .u64 0, .slice none 0 0] 25)
  have hZ := Blk.mk_new w 25 #[.int .u64 0, .slice none 0 0]
  have hR := h.new hN
  have HR := Lib.hid hR
  have HN := Lib.hid hN
  have HZ := Lib.hid hZ
  obtain ⟨g0, c0, c1, c2, c3, c4, c5, c6, cz⟩ := hR.facts
  clear h hN hZ hR
  go_enter Tryz.func38, Tryz.ntmps38
  go_upto_region 1 with fail
  generalize w.alloc _ = W at *
  go_wp2_with fail
  refine (fold0 x.cf HR.out.cl7 HR.out.cf.slIn).mono ?_
  rintro e w2 ⟨A, n, rfl, ht, hn2⟩
  obtain ⟨z0, z1, z2, zz⟩ := Blk2F (HZ.out.new hn2)
  go_wp2_with fail
  have hu4 : Upd (· = w.heap.size) w2 ((w2.setCell ⟨w.heap.size, 0, none⟩ (.int .u64 (x.cf.e : Int))).setCell ⟨w.heap.size, 1, none⟩ (.slice A x.cf.ms.length n)) := ((Upd.refl _ w2).setIn 0 _).setIn 1 _
  exact bodyPost_ret (v := .agg #[.int .u64 (x.cf.e : Int), .slice A x.cf.ms.length n]) (by simp [results, Tryz.results38, go_sem, z1, z2]) rfl ⟨A, n, rfl, ht.upd hu4 (Off.blk (HZ.out.new hn2) (by decide)), (HN.out.trans hn2).upd hu4 (fun i e => by omega)⟩
/-- What is sent leaves the replica. -/
def OutPost (w : World) (rp B : Nat) (L : RpL) (x : Rpl) (e : Ending) (w' : World) : Prop := e = .returned L.ov ∧ RpAt w' rp B { L with ov := .slice none 0 0 } { x with out := [] } ∧ Upd (· = rp) w w' ∧ NtRow w' 0 L.ov x.out
set_option maxHeartbeats 2000000 in
theorem rout (h : RpAt w rp B L x) : Calls Tryz.prog 22 #[.pointer (some ⟨rp, 0, none⟩)] w (OutPost w rp B L x) := by
  obtain ⟨g0, c0, c1, c2, c3, c4, c5, c6, cz⟩ := h.facts
  have hu : Upd (· = rp) w (w.setCell ⟨rp, 6, none⟩ (.slice none 0 0)) := (Upd.refl _ w).setIn 6 _
  have hf : RpAt (w.setCell ⟨rp, 6, none⟩ (.slice none 0 0)) rp B { L with ov := .slice none 0 0 } { x with out := [] } ∧ NtRow (w.setCell ⟨rp, 6, none⟩ (.slice none 0 0)) 0 L.ov x.out := by
    obtain ⟨ps, _, hps, _⟩ := h.l
    obtain ⟨qs, _, hqs, _⟩ := h.out
    have hWr : Off w 97 (· = rp) := Off.blk h.blk (by decide)
    have hIr : Off w 3 (· = rp) := Off.blk h.blk (by decide)
    exact ⟨⟨h.blk.set_ 6 _, h.cf.upd hu hIr, h.cl7, h.ce, h.j.upd hu (fun k hk e => h.rp_jd (e ▸ hk)), h.l.upd hu (fun k hk e => hps.ne_blk h.blk (by decide) (e ▸ hk)) hWr, NtRow.nil _ _, h.ll, Nat.zero_le _, h.cl⟩, h.out.upd hu (fun k hk e => hqs.ne_blk h.blk (by decide) (e ▸ hk)) hWr⟩
  have HF := Lib.hid hf
  clear h hf
  go_enter Tryz.func22, Tryz.ntmps22
  go_wp2_with fail
  go_ret
  exact ⟨rfl, HF.out.1, hu, HF.out.2⟩
set_option maxRecDepth 100000 in
set_option maxHeartbeats 8000000 in
theorem rtick (h : RpAt w rp B L x) (hB : B ≤ 1000000) :
    Calls Tryz.prog 28 #[.pointer (some ⟨rp, 0, none⟩)] w (fun e w' => e = .returned (.tuple #[]) ∧ RpPost w rp (B + 10) L x.tick w') := by
  have HR := Lib.hid h
  obtain ⟨g0, c0, c1, c2, c3, c4, c5, c6, cz⟩ := h.facts
  have hcl := h.cl
  clear h
  cases hbf : nextC x.cf x.id with
  | mk y ok =>
  cases ok with
  | false =>
    have HF : Hid (x.tick = (if 0 < x.cl then x.tell else x).ask) := Lib.hid (by unfold Rpl.tick; rw [hbf]; rfl)
    have HBF := Lib.hid hbf
    clear hbf
    go_enter Tryz.func28, Tryz.ntmps28
    go_upto_region 0 with fail
    refine wp_region_held_drew (S := fun w' => Held w w') (by kernel_rfl) (Held.of (New.refl _).drew) (fun hHeld => ?_)
    refine tkN (i := 0) rfl ?_
    try simp only [Act.put, sA, sZ, sS]
    refine tkN (i := 1) rfl ?_
    try simp only [Act.put, sA, sZ, sS]
    refine tkN (i := 2) rfl ?_
    try simp only [Act.put, sA, sZ, sS]
    refine tkN (i := 3) rfl ?_
    try simp only [Act.put, sA, sZ, sS]
    refine tkN (i := 4) rfl ?_
    try simp only [Act.put, sA, sZ, sS]
    refine tkN (i := 5) rfl ?_
    try simp only [Act.put, sA, sZ, sS]
    refine tkN (i := 6) rfl ?_
    try simp only [Act.put, sA, sZ, sS]
    refine tkN (i := 7) rfl ?_
    try simp only [Act.put, sA, sZ, sS]
    refine stN (i := 8) rfl (fun K hK => ?_)
    go_simp
    have hcall := rnext (HR.out.new (New.refl w).drew)
    rw [HBF.out] at hcall
    refine hcall.mono ?_
    rintro e w5 ⟨rfl, hn5⟩
    have hn5W : New w w5 := (New.refl w).drew.trans hn5
    refine hK.out _ _ ?_ (fun hHeld => ?_)
    · exact Held.of hn5W
    clear hK K
    try simp only [Act.put, sA, sZ, sS]
    refine tkN (i := 9) rfl ?_
    try simp only [Act.put, sA, sZ, sS]
    refine tkN (i := 10) rfl ?_
    try simp only [Act.put, sA, sZ, sS]
    refine tkN (i := 11) rfl ?_
    try simp only [Act.put, sA, sZ, sS]
    refine tkN (i := 12) rfl ?_
    try simp only [Act.put, sA, sZ, sS]
    refine tkN (i := 13) rfl ?_
    try simp only [Act.put, sA, sZ, sS]
    refine wpAnyH_done (by kernel_rfl) ?_ _
    clear hHeld
    have HN5 := Lib.hid hn5W
    have HR5 := Lib.hid (HR.out.new hn5W)
    clear hn5 hn5W g0 c0 c1 c2 c3 c4 c5 c6 cz
    obtain ⟨g0, c0, c1, c2, c3, c4, c5, c6, cz⟩ := HR5.out.facts
    obtain ⟨y2, hy2⟩ : ∃ y2, y2 = x := ⟨_, rfl⟩
    have HY : Hid (RpAt w5 rp (B + 5) L y2) := Lib.hid (by rw [hy2]; exact HR5.out.mono (by omega))
    have HYK : Hid (∀ k, RpF rp L k → RpF rp L k ∨ w.heap.size ≤ k) := Lib.hid (fun k hk => .inl hk)
    have HYU : Hid (Upd (RpF rp L) w w5) := Lib.hid (Upd.new HN5.out)
    have HF2 : Hid (x.tick = (if 0 < y2.cl then y2.tell else y2).ask) := Lib.hid (by rw [HF.out, hy2])
    rw [← hy2] at c5
    clear hy2
    by_cases hcl : 0 < y2.cl
    · have HF3 : Hid (x.tick = y2.tell.ask) := Lib.hid (by rw [HF2.out, if_pos hcl])
      have hd : decide (0 < y2.cl) = true := decide_eq_true hcl
      clear hcl
      go_wp2_with fail
      refine (rtell HY.out (by omega)).mono ?_
      rintro e w7 ⟨rfl, L7, hr7, hk7, hu7⟩
      have HR7 := Lib.hid hr7
      have HK7 := Lib.hid hk7
      have HU7 := Lib.hid hu7
      clear hr7 hk7 hu7
      go_wp2_with fail
      refine (rask HR7.out (by omega)).mono ?_
      rintro e w8 ⟨rfl, hp⟩
      have HP8 := Lib.hid (RpPost.trans HR7.out HK7.out HU7.out hp)
      clear hp
      go_wp2_with fail
      go_end0
      exact ⟨rfl, by rw [HF3.out]; exact (RpPost.trans HY.out HYK.out HYU.out HP8.out).mono (by omega)⟩
    · have HF3 : Hid (x.tick = y2.ask) := Lib.hid (by rw [HF2.out, if_neg hcl])
      have hd : decide (0 < y2.cl) = false := decide_eq_false hcl
      clear hcl
      go_wp2_with fail
      refine (rask HY.out (by omega)).mono ?_
      rintro e w8 ⟨rfl, hp⟩
      go_wp2_with fail
      go_end0
      exact ⟨rfl, by rw [HF3.out]; exact (RpPost.trans HY.out HYK.out HYU.out hp).mono (by omega)⟩
  | true =>
    have HF : Hid (x.tick = (if 0 < (x.some_ y (x.cl + 1)).cl then (x.some_ y (x.cl + 1)).tell else x.some_ y (x.cl + 1)).ask) := Lib.hid (by unfold Rpl.tick; rw [hbf]; rfl)
    have HBF := Lib.hid hbf
    clear hbf
    go_enter Tryz.func28, Tryz.ntmps28
    go_upto_region 0 with fail
    refine wp_region_held_drew (S := fun w' => Held w w') (by kernel_rfl) (Held.of (New.refl _).drew) (fun hHeld => ?_)
    refine tkN (i := 0) rfl ?_
    try simp only [Act.put, sA, sZ, sS]
    refine tkN (i := 1) rfl ?_
    try simp only [Act.put, sA, sZ, sS]
    refine tkN (i := 2) rfl ?_
    try simp only [Act.put, sA, sZ, sS]
    refine tkN (i := 3) rfl ?_
    try simp only [Act.put, sA, sZ, sS]
    refine tkN (i := 4) rfl ?_
    try simp only [Act.put, sA, sZ, sS]
    refine tkN (i := 5) rfl ?_
    try simp only [Act.put, sA, sZ, sS]
    refine tkN (i := 6) rfl ?_
    try simp only [Act.put, sA, sZ, sS]
    refine tkN (i := 7) rfl ?_
    try simp only [Act.put, sA, sZ, sS]
    refine stN (i := 8) rfl (fun K hK => ?_)
    go_simp
    have hcall := rnext (HR.out.new (New.refl w).drew)
    rw [HBF.out] at hcall
    refine hcall.mono ?_
    rintro e w5 ⟨rfl, hn5⟩
    have hn5W : New w w5 := (New.refl w).drew.trans hn5
    refine hK.out _ _ ?_ (fun hHeld => ?_)
    · exact Held.of hn5W
    clear hK K
    try simp only [Act.put, sA, sZ, sS]
    refine tkN (i := 9) rfl ?_
    try simp only [Act.put, sA, sZ, sS]
    refine tkN (i := 10) rfl ?_
    try simp only [Act.put, sA, sZ, sS]
    refine tkN (i := 11) rfl ?_
    try simp only [Act.put, sA, sZ, sS]
    refine tkN (i := 12) rfl ?_
    try simp only [Act.put, sA, sZ, sS]
    refine tkN (i := 13) rfl ?_
    try simp only [Act.put, sA, sZ, sS]
    refine wpAnyH_done (by kernel_rfl) ?_ _
    clear hHeld
    have HN5 := Lib.hid hn5W
    have HR5 := Lib.hid (HR.out.new hn5W)
    clear hn5 hn5W g0 c0 c1 c2 c3 c4 c5 c6 cz
    obtain ⟨g0, c0, c1, c2, c3, c4, c5, c6, cz⟩ := HR5.out.facts
    have hwl : IntKind.u64.wrap ((x.cl : Int) + 1) = (x.cl : Int) + 1 := IntWalk.u64_in _ (by omega)
    have hsm := rsome HR5.out y (t := x.cl + 1) (by unfold big; omega) (by omega)
    rw [show ((x.cl + 1 : Nat) : Int) = (x.cl : Int) + 1 by omega] at hsm
    go_wp2_with fail
    refine hsm.mono ?_
    rintro e w6 ⟨rfl, hp6⟩
    have hp6w := RpPost.pre HN5.out hp6
    generalize x.some_ y (x.cl + 1) = y2 at *
    obtain ⟨L6, hr6, hk6, hu6⟩ := hp6w
    have HY := Lib.hid hr6
    have HYK := Lib.hid hk6
    have HYU := Lib.hid hu6
    have HF2 := HF
    clear hsm hp6 hwl g0 c0 c1 c2 c3 c4 c5 c6 cz hk6 hu6
    obtain ⟨g0, c0, c1, c2, c3, c4, c5, c6, cz⟩ := hr6.facts
    clear hr6
    by_cases hcl : 0 < y2.cl
    · have HF3 : Hid (x.tick = y2.tell.ask) := Lib.hid (by rw [HF2.out, if_pos hcl])
      have hd : decide (0 < y2.cl) = true := decide_eq_true hcl
      clear hcl
      go_wp2_with fail
      refine (rtell HY.out (by omega)).mono ?_
      rintro e w7 ⟨rfl, L7, hr7, hk7, hu7⟩
      have HR7 := Lib.hid hr7
      have HK7 := Lib.hid hk7
      have HU7 := Lib.hid hu7
      clear hr7 hk7 hu7
      go_wp2_with fail
      refine (rask HR7.out (by omega)).mono ?_
      rintro e w8 ⟨rfl, hp⟩
      have HP8 := Lib.hid (RpPost.trans HR7.out HK7.out HU7.out hp)
      clear hp
      go_wp2_with fail
      go_end0
      exact ⟨rfl, by rw [HF3.out]; exact (RpPost.trans HY.out HYK.out HYU.out HP8.out).mono (by omega)⟩
    · have HF3 : Hid (x.tick = y2.ask) := Lib.hid (by rw [HF2.out, if_neg hcl])
      have hd : decide (0 < y2.cl) = false := decide_eq_false hcl
      clear hcl
      go_wp2_with fail
      refine (rask HY.out (by omega)).mono ?_
      rintro e w8 ⟨rfl, hp⟩
      go_wp2_with fail
      go_end0
      exact ⟨rfl, by rw [HF3.out]; exact (RpPost.trans HY.out HYK.out HYU.out hp).mono (by omega)⟩
end
end Go.Proofs.YtecniafnihpjmaaGreatDoor

/- Chapter 24 (replica): Adopt, List. Printed by genRpY.py. -/
namespace Go.Proofs.YtecniafnihpjmaaGreatDoor
open Go.RowKit Go.Lap C
set_option linter.unusedVariables false
set_option linter.unusedSimpArgs false
section
variable {w w' W wa : World} {S : Nat → Prop} {rp B D : Nat} {L : RpL} {x x' : Rpl} {b : BtV}
theorem ccheck (c : Cfg) {v : Value} (hl : c.ms.length ≤ 1000) (hs : SlIn w 1 iEnc v c.ms) : Calls Tryz.prog 52 #[.agg #[.int .u64 (c.e : Int), v]] w fun e w' => e = .returned (.bool (chkC c)) ∧ New w w' := C.check_any c.e v c.ms w (by omega) hs
set_option maxRecDepth 100000 in
set_option maxHeartbeats 8000000 in
theorem radopt (h : RpAt w rp B L x) (c : Cfg) {A : Option Addr} {n : Nat} (hs : SlIn w 1 iEnc (.slice A c.ms.length n) c.ms) (hl : c.ms.length ≤ 1000) (he : c.e < big) (hB : B ≤ 1000000) :
    Calls Tryz.prog 27 #[.pointer (some ⟨rp, 0, none⟩), .agg #[.int .u64 (c.e : Int), .slice A c.ms.length n]] w (fun e w' => e = .returned (.int .i64 (x.adopt c).2) ∧ RpPost w rp (B + 10) L (x.adopt c).1 w') := by
  have hN := (New.refl w).alloc (.cells #[.int .u64 (c.e : Int), .slice A c.ms.length n] 25)
  have hM := Blk.mk_new w 25 #[.int .u64 (c.e : Int), .slice A c.ms.length n]
  have HS := Lib.hid (hs.new hN)
  have hR := h.new hN
  have HR := Lib.hid hR
  have HN := Lib.hid hN
  have HM := Lib.hid hM
  have HAD : Hid (x.adopt c = if chkC c = false ∨ c.e ≤ x.cf.e then (x, 241) else if placeC c.ms x.id < 0 then ({ x with cf := c }, 0) else ((if (nextC c x.id).2 = true then ({ x with cf := c } : Rpl) else ({ x with cf := c } : Rpl).cleaned ({ x with cf := c } : Rpl).la).ask, 0)) := Lib.hid rfl
  obtain ⟨q0, q1, q2, qz⟩ := Blk2F hM
  obtain ⟨g0, c0, c1, c2, c3, c4, c5, c6, cz⟩ := hR.facts
  have hll : x.l.length ≤ B := h.ll
  clear h hN hM hR hs
  go_enter Tryz.func27, Tryz.ntmps27
  go_upto_region 1 with fail
  generalize w.alloc _ = W at *
  cases hck : chkC c with
  | false =>
    have HF : Hid (x.adopt c = (x, 241)) := Lib.hid (by rw [HAD.out, if_pos (.inl hck)])
    have HCK := Lib.hid hck
    clear hck
    refine wp_region_held_drew (S := fun w' => Held W w') (by kernel_rfl) (Held.of (New.refl _).drew) (fun hHeld => ?_)
    refine tkN (i := 0) rfl ?_
    try simp only [Act.put, sA, sZ, sS]
    refine stN (i := 1) rfl (fun K hK => ?_)
    go_simp
    have hcall := ccheck (w := W.drew) c hl (HS.out.new (New.refl W).drew)
    rw [HCK.out] at hcall
    refine hcall.mono ?_
    rintro e w5 ⟨rfl, hn5⟩
    have hn5W : New W w5 := (New.refl W).drew.trans hn5
    refine hK.out _ _ ?_ (fun hHeld => ?_)
    · exact Held.of hn5W
    clear hK K
    try simp only [Act.put, sA, sZ, sS]
    refine tkN (i := 2) rfl ?_
    try simp only [Act.put, sA, sZ, sS]
    refine tkN (i := 3) rfl ?_
    try simp only [Act.put, sA, sZ, sS]
    refine tkU (i := 4) rfl ?_
    try simp only [Act.put, sA, sZ, sS]
    refine tkU (i := 5) rfl ?_
    try simp only [Act.put, sA, sZ, sS]
    refine tkU (i := 6) rfl ?_
    try simp only [Act.put, sA, sZ, sS]
    refine tkU (i := 7) rfl ?_
    try simp only [Act.put, sA, sZ, sS]
    refine tkU (i := 8) rfl ?_
    try simp only [Act.put, sA, sZ, sS]
    refine tkU (i := 9) rfl ?_
    try simp only [Act.put, sA, sZ, sS]
    refine tkU (i := 10) rfl ?_
    try simp only [Act.put, sA, sZ, sS]
    refine tkU (i := 11) rfl ?_
    try simp only [Act.put, sA, sZ, sS]
    refine tkN (i := 12) rfl ?_
    try simp only [Act.put, sA, sZ, sS]
    refine wpAnyH_done (by kernel_rfl) ?_ _
    clear hHeld
    have HN5 := Lib.hid (HN.out.trans hn5W)
    have HR5 := Lib.hid (HR.out.new hn5W)
    have HM5 := Lib.hid (HM.out.new hn5W)
    have HS5 := Lib.hid (HS.out.new hn5W)
    clear hn5 hn5W
    go_wp2_with fail
    go_ret
    exact ⟨ret_int (a := 241) (by rw [HF.out]), by rw [HF.out]; exact (RpPost.pre HN5.out (RpPost.refl HR5.out)).mono (by omega)⟩
  | true =>
    have HCK := Lib.hid hck
    by_cases hle : c.e ≤ x.cf.e
    · have HF : Hid (x.adopt c = (x, 241)) := Lib.hid (by rw [HAD.out, if_pos (.inr hle)])
      have hd : decide (c.e ≤ x.cf.e) = true := decide_eq_true hle
      clear hck hle
      refine wp_region_held_drew (S := fun w' => Held W w') (by kernel_rfl) (Held.of (New.refl _).drew) (fun hHeld => ?_)
      refine tkN (i := 0) rfl ?_
      try simp only [Act.put, sA, sZ, sS]
      refine stN (i := 1) rfl (fun K hK => ?_)
      go_simp
      have hcall := ccheck (w := W.drew) c hl (HS.out.new (New.refl W).drew)
      rw [HCK.out] at hcall
      refine hcall.mono ?_
      rintro e w5 ⟨rfl, hn5⟩
      have hn5W : New W w5 := (New.refl W).drew.trans hn5
      refine hK.out _ _ ?_ (fun hHeld => ?_)
      · exact Held.of hn5W
      clear hK K
      try simp only [Act.put, sA, sZ, sS]
      refine tkN (i := 2) rfl ?_
      try simp only [Act.put, sA, sZ, sS]
      refine tkN (i := 3) rfl ?_
      try simp only [Act.put, sA, sZ, sS]
      refine tkN (i := 4) rfl ?_
      try simp only [Act.put, sA, sZ, sS]
      refine tkN (i := 5) rfl ?_
      try simp only [Act.put, sA, sZ, sS]
      refine tkN (i := 6) rfl ?_
      try simp only [Act.put, sA, sZ, sS]
      refine tkN (i := 7) rfl ?_
      try simp only [Act.put, sA, sZ, sS]
      refine tkN (i := 8) rfl ?_
      try simp only [Act.put, sA, sZ, sS]
      refine tkN (i := 9) rfl ?_
      try simp only [Act.put, sA, sZ, sS]
      refine tkN (i := 10) rfl ?_
      try simp only [Act.put, sA, sZ, sS]
      refine tkN (i := 11) rfl ?_
      try simp only [Act.put, sA, sZ, sS]
      refine tkN (i := 12) rfl ?_
      try simp only [Act.put, sA, sZ, sS]
      refine wpAnyH_done (by kernel_rfl) ?_ _
      clear hHeld
      have HN5 := Lib.hid (HN.out.trans hn5W)
      have HR5 := Lib.hid (HR.out.new hn5W)
      have HM5 := Lib.hid (HM.out.new hn5W)
      have HS5 := Lib.hid (HS.out.new hn5W)
      clear hn5 hn5W
      go_wp2_with fail
      go_ret
      exact ⟨ret_int (a := 241) (by rw [HF.out]), by rw [HF.out]; exact (RpPost.pre HN5.out (RpPost.refl HR5.out)).mono (by omega)⟩
    · have HF1 : Hid (x.adopt c = if placeC ({ x with cf := c } : Rpl).cf.ms ({ x with cf := c } : Rpl).id < 0 then ({ x with cf := c }, 0) else ((if (nextC ({ x with cf := c } : Rpl).cf ({ x with cf := c } : Rpl).id).2 = true then ({ x with cf := c } : Rpl) else ({ x with cf := c } : Rpl).cleaned ({ x with cf := c } : Rpl).la).ask, 0)) := Lib.hid (HAD.out.trans (if_neg (by rw [hck]; intro h; exact h.elim (by decide) hle)))
      have hd : decide (c.e ≤ x.cf.e) = false := decide_eq_false hle
      clear hck hle
      refine wp_region_held_drew (S := fun w' => Held W w') (by kernel_rfl) (Held.of (New.refl _).drew) (fun hHeld => ?_)
      refine tkN (i := 0) rfl ?_
      try simp only [Act.put, sA, sZ, sS]
      refine stN (i := 1) rfl (fun K hK => ?_)
      go_simp
      have hcall := ccheck (w := W.drew) c hl (HS.out.new (New.refl W).drew)
      rw [HCK.out] at hcall
      refine hcall.mono ?_
      rintro e w5 ⟨rfl, hn5⟩
      have hn5W : New W w5 := (New.refl W).drew.trans hn5
      refine hK.out _ _ ?_ (fun hHeld => ?_)
      · exact Held.of hn5W
      clear hK K
      try simp only [Act.put, sA, sZ, sS]
      refine tkN (i := 2) rfl ?_
      try simp only [Act.put, sA, sZ, sS]
      refine tkN (i := 3) rfl ?_
      try simp only [Act.put, sA, sZ, sS]
      refine tkN (i := 4) rfl ?_
      try simp only [Act.put, sA, sZ, sS]
      refine tkN (i := 5) rfl ?_
      try simp only [Act.put, sA, sZ, sS]
      refine tkN (i := 6) rfl ?_
      try simp only [Act.put, sA, sZ, sS]
      refine tkN (i := 7) rfl ?_
      try simp only [Act.put, sA, sZ, sS]
      refine tkN (i := 8) rfl ?_
      try simp only [Act.put, sA, sZ, sS]
      refine tkN (i := 9) rfl ?_
      try simp only [Act.put, sA, sZ, sS]
      refine tkN (i := 10) rfl ?_
      try simp only [Act.put, sA, sZ, sS]
      refine tkN (i := 11) rfl ?_
      try simp only [Act.put, sA, sZ, sS]
      refine tkN (i := 12) rfl ?_
      try simp only [Act.put, sA, sZ, sS]
      refine wpAnyH_done (by kernel_rfl) ?_ _
      clear hHeld
      have HN5 := Lib.hid (HN.out.trans hn5W)
      have HR5 := Lib.hid (HR.out.new hn5W)
      have HM5 := Lib.hid (HM.out.new hn5W)
      have HS5 := Lib.hid (HS.out.new hn5W)
      clear hn5 hn5W
      clear g0 c0 c1 c2 c3 c4 c5 c6 cz q0 q1 q2 qz
      obtain ⟨g0, c0, c1, c2, c3, c4, c5, c6, cz⟩ := HR5.out.facts
      obtain ⟨q0, q1, q2, qz⟩ := Blk2F HM5.out
      go_wp2_with fail
      refine (fold0 c hl HS5.out).mono ?_
      rintro e w6 ⟨A6, n6, rfl, ht6, hn6⟩
      obtain ⟨hr7, hu7⟩ := (HR5.out.new hn6).setCf c ht6 hl he
      have HR7 := Lib.hid hr7
      have HK7 : Hid (∀ k, RpF rp { L with cv := .slice A6 c.ms.length n6 } k → RpF rp L k ∨ w.heap.size ≤ k) := Lib.hid (fun k hk => .inl hk)
      have HU7 : Hid (Upd (RpF rp L) w ((w6.setCell ⟨rp, 1, none⟩ (.int .u64 (c.e : Int))).setCell ⟨rp, 2, none⟩ (.slice A6 c.ms.length n6))) := Lib.hid ((Upd.new (S := RpF rp L) (HN5.out.trans hn6)).trans hu7 (fun _ _ h => h))
      clear g0 c0 c1 c2 c3 c4 c5 c6 cz q0 q1 q2 qz hu7
      obtain ⟨g0, c0, c1, c2, c3, c4, c5, c6, cz⟩ := (HR5.out.new hn6).facts
      clear hr7 ht6 hn6
      go_upto_region 4 with fail
      clear g0 c0 c1 c2 c3 c4 c5 c6 cz
      generalize (w6.setCell ⟨rp, 1, none⟩ (.int .u64 (c.e : Int))).setCell ⟨rp, 2, none⟩ (.slice A6 c.ms.length n6) = w7 at *
      generalize hLL : ({ L with cv := .slice A6 c.ms.length n6 } : RpL) = L7 at *
      obtain ⟨x7, hx7⟩ : ∃ x7 : Rpl, x7 = { x with cf := c } := ⟨_, rfl⟩
      have HR7B : Hid (RpAt w7 rp B L7 x7) := Lib.hid (by rw [hx7]; exact HR7.out)
      have HF1B : Hid (x.adopt c = if placeC x7.cf.ms x7.id < 0 then (x7, 0) else ((if (nextC x7.cf x7.id).2 = true then x7 else x7.cleaned x7.la).ask, 0)) := Lib.hid (by rw [hx7]; exact HF1.out)
      have HLA : Hid (x7.la = x.l.length) := Lib.hid (by rw [hx7]; rfl)
      clear HR7 HF1 HAD hx7 hLL
      have HR7 := HR7B
      have HF1 := HF1B
      clear HR7B HF1B
      obtain ⟨g0, c0, c1, c2, c3, c4, c5, c6, cz⟩ := HR7.out.facts
      cases hpl : decide (placeC x7.cf.ms x7.id < 0) with
      | true =>
        have hpl2 := of_decide_eq_true hpl
        have HF : Hid (x.adopt c = (x7, 0)) := Lib.hid (by rw [HF1.out, if_pos hpl2])
        obtain ⟨pl, hple⟩ : ∃ pl, placeC x7.cf.ms x7.id = pl := ⟨_, rfl⟩
        have HPLE := Lib.hid hple
        rw [hple] at hpl hpl2
        clear hple
        refine wp_region_held_drew (S := fun w' => Held w7 w') (by kernel_rfl) (Held.of (New.refl _).drew) (fun hHeld => ?_)
        refine tkN (i := 0) rfl ?_
        try simp only [Act.put, sA, sZ, sS]
        refine tkN (i := 1) rfl ?_
        try simp only [Act.put, sA, sZ, sS]
        refine tkN (i := 2) rfl ?_
        try simp only [Act.put, sA, sZ, sS]
        refine tkN (i := 3) rfl ?_
        try simp only [Act.put, sA, sZ, sS]
        refine tkN (i := 4) rfl ?_
        try simp only [Act.put, sA, sZ, sS]
        refine tkN (i := 5) rfl ?_
        try simp only [Act.put, sA, sZ, sS]
        refine tkN (i := 6) rfl ?_
        try simp only [Act.put, sA, sZ, sS]
        refine tkN (i := 7) rfl ?_
        try simp only [Act.put, sA, sZ, sS]
        refine stN (i := 8) rfl (fun K hK => ?_)
        go_simp
        have hcall := rplace (HR7.out.new (New.refl w7).drew)
        rw [HPLE.out] at hcall
        refine hcall.mono ?_
        rintro e w8 ⟨rfl, hn8⟩
        have hn8W : New w7 w8 := (New.refl w7).drew.trans hn8
        refine hK.out _ _ ?_ (fun hHeld => ?_)
        · exact Held.of hn8W
        clear hK K
        try simp only [Act.put, sA, sZ, sS]
        refine tkN (i := 9) rfl ?_
        try simp only [Act.put, sA, sZ, sS]
        refine wpAnyH_done (by kernel_rfl) ?_ _
        clear hHeld
        have HN8 := Lib.hid hn8W
        have HR8 := Lib.hid (HR7.out.new hn8W)
        have HU8 := Lib.hid (HU7.out.transNew hn8W)
        clear hn8 hn8W g0 c0 c1 c2 c3 c4 c5 c6 cz
        obtain ⟨g0, c0, c1, c2, c3, c4, c5, c6, cz⟩ := HR8.out.facts
        go_wp2_with fail
        go_ret
        exact ⟨ret_int (a := 0) (by rw [HF.out]), by rw [HF.out]; exact (show RpPost w rp B L x7 w8 from ⟨_, HR8.out, HK7.out, HU8.out⟩).mono (by omega)⟩
      | false =>
        have hpl2 := of_decide_eq_false hpl
        have HF2 := Lib.hid (HF1.out.trans (if_neg hpl2))
        obtain ⟨pl, hple⟩ : ∃ pl, placeC x7.cf.ms x7.id = pl := ⟨_, rfl⟩
        have HPLE := Lib.hid hple
        rw [hple] at hpl hpl2
        clear hple
        refine wp_region_held_drew (S := fun w' => Held w7 w') (by kernel_rfl) (Held.of (New.refl _).drew) (fun hHeld => ?_)
        refine tkN (i := 0) rfl ?_
        try simp only [Act.put, sA, sZ, sS]
        refine tkN (i := 1) rfl ?_
        try simp only [Act.put, sA, sZ, sS]
        refine tkN (i := 2) rfl ?_
        try simp only [Act.put, sA, sZ, sS]
        refine tkN (i := 3) rfl ?_
        try simp only [Act.put, sA, sZ, sS]
        refine tkN (i := 4) rfl ?_
        try simp only [Act.put, sA, sZ, sS]
        refine tkN (i := 5) rfl ?_
        try simp only [Act.put, sA, sZ, sS]
        refine tkN (i := 6) rfl ?_
        try simp only [Act.put, sA, sZ, sS]
        refine tkN (i := 7) rfl ?_
        try simp only [Act.put, sA, sZ, sS]
        refine stN (i := 8) rfl (fun K hK => ?_)
        go_simp
        have hcall := rplace (HR7.out.new (New.refl w7).drew)
        rw [HPLE.out] at hcall
        refine hcall.mono ?_
        rintro e w8 ⟨rfl, hn8⟩
        have hn8W : New w7 w8 := (New.refl w7).drew.trans hn8
        refine hK.out _ _ ?_ (fun hHeld => ?_)
        · exact Held.of hn8W
        clear hK K
        try simp only [Act.put, sA, sZ, sS]
        refine tkN (i := 9) rfl ?_
        try simp only [Act.put, sA, sZ, sS]
        refine wpAnyH_done (by kernel_rfl) ?_ _
        clear hHeld
        have HN8 := Lib.hid hn8W
        have HR8 := Lib.hid (HR7.out.new hn8W)
        have HU8 := Lib.hid (HU7.out.transNew hn8W)
        clear hn8 hn8W g0 c0 c1 c2 c3 c4 c5 c6 cz
        obtain ⟨g0, c0, c1, c2, c3, c4, c5, c6, cz⟩ := HR8.out.facts
        cases hbf : nextC x7.cf x7.id with
        | mk y ok =>
        cases ok with
        | true =>
          have HF3 : Hid (x.adopt c = (x7.ask, 0)) := Lib.hid (by rw [HF2.out, hbf]; rfl)
          have HBF := Lib.hid hbf
          clear hbf
          go_upto_region 6 with fail
          refine wp_region_held_drew (S := fun w' => Held w8 w') (by kernel_rfl) (Held.of (New.refl _).drew) (fun hHeld => ?_)
          refine tkN (i := 0) rfl ?_
          try simp only [Act.put, sA, sZ, sS]
          refine tkN (i := 1) rfl ?_
          try simp only [Act.put, sA, sZ, sS]
          refine tkN (i := 2) rfl ?_
          try simp only [Act.put, sA, sZ, sS]
          refine tkN (i := 3) rfl ?_
          try simp only [Act.put, sA, sZ, sS]
          refine tkN (i := 4) rfl ?_
          try simp only [Act.put, sA, sZ, sS]
          refine tkN (i := 5) rfl ?_
          try simp only [Act.put, sA, sZ, sS]
          refine tkN (i := 6) rfl ?_
          try simp only [Act.put, sA, sZ, sS]
          refine tkN (i := 7) rfl ?_
          try simp only [Act.put, sA, sZ, sS]
          refine stN (i := 8) rfl (fun K hK => ?_)
          go_simp
          have hcall := rnext (HR8.out.new (New.refl w8).drew)
          rw [HBF.out] at hcall
          refine hcall.mono ?_
          rintro e w9 ⟨rfl, hn9⟩
          have hn9W : New w8 w9 := (New.refl w8).drew.trans hn9
          refine hK.out _ _ ?_ (fun hHeld => ?_)
          · exact Held.of hn9W
          clear hK K
          try simp only [Act.put, sA, sZ, sS]
          refine tkN (i := 9) rfl ?_
          try simp only [Act.put, sA, sZ, sS]
          refine tkN (i := 10) rfl ?_
          try simp only [Act.put, sA, sZ, sS]
          refine tkN (i := 11) rfl ?_
          try simp only [Act.put, sA, sZ, sS]
          refine tkN (i := 12) rfl ?_
          try simp only [Act.put, sA, sZ, sS]
          refine tkN (i := 13) rfl ?_
          try simp only [Act.put, sA, sZ, sS]
          refine wpAnyH_done (by kernel_rfl) ?_ _
          clear hHeld
          have HR9 := Lib.hid (HR8.out.new hn9W)
          have HU9 := Lib.hid (HU8.out.transNew hn9W)
          clear hn9 hn9W g0 c0 c1 c2 c3 c4 c5 c6 cz
          have HR10 := HR9
          have HK10 := HK7
          have HU10 := HU9
          obtain ⟨g0, c0, c1, c2, c3, c4, c5, c6, cz⟩ := HR9.out.facts
          go_wp2_with fail
          refine (rask HR10.out (by omega)).mono ?_
          rintro e w11 ⟨rfl, hp⟩
          have HP := Lib.hid (RpPost.trans HR10.out HK10.out HU10.out hp)
          clear hp
          go_wp2_with fail
          go_ret
          exact ⟨ret_int (a := 0) (by rw [HF3.out]), by rw [HF3.out]; exact HP.out.mono (by omega)⟩
        | false =>
          have HF3 : Hid (x.adopt c = ((x7.cleaned x7.la).ask, 0)) := Lib.hid (by rw [HF2.out, hbf]; rfl)
          have HBF := Lib.hid hbf
          clear hbf
          go_upto_region 6 with fail
          refine wp_region_held_drew (S := fun w' => Held w8 w') (by kernel_rfl) (Held.of (New.refl _).drew) (fun hHeld => ?_)
          refine tkN (i := 0) rfl ?_
          try simp only [Act.put, sA, sZ, sS]
          refine tkN (i := 1) rfl ?_
          try simp only [Act.put, sA, sZ, sS]
          refine tkN (i := 2) rfl ?_
          try simp only [Act.put, sA, sZ, sS]
          refine tkN (i := 3) rfl ?_
          try simp only [Act.put, sA, sZ, sS]
          refine tkN (i := 4) rfl ?_
          try simp only [Act.put, sA, sZ, sS]
          refine tkN (i := 5) rfl ?_
          try simp only [Act.put, sA, sZ, sS]
          refine tkN (i := 6) rfl ?_
          try simp only [Act.put, sA, sZ, sS]
          refine tkN (i := 7) rfl ?_
          try simp only [Act.put, sA, sZ, sS]
          refine stN (i := 8) rfl (fun K hK => ?_)
          go_simp
          have hcall := rnext (HR8.out.new (New.refl w8).drew)
          rw [HBF.out] at hcall
          refine hcall.mono ?_
          rintro e w9 ⟨rfl, hn9⟩
          have hn9W : New w8 w9 := (New.refl w8).drew.trans hn9
          refine hK.out _ _ ?_ (fun hHeld => ?_)
          · exact Held.of hn9W
          clear hK K
          try simp only [Act.put, sA, sZ, sS]
          refine tkN (i := 9) rfl ?_
          try simp only [Act.put, sA, sZ, sS]
          refine tkN (i := 10) rfl ?_
          try simp only [Act.put, sA, sZ, sS]
          refine tkN (i := 11) rfl ?_
          try simp only [Act.put, sA, sZ, sS]
          refine tkN (i := 12) rfl ?_
          try simp only [Act.put, sA, sZ, sS]
          refine tkN (i := 13) rfl ?_
          try simp only [Act.put, sA, sZ, sS]
          refine wpAnyH_done (by kernel_rfl) ?_ _
          clear hHeld
          have HR9 := Lib.hid (HR8.out.new hn9W)
          have HU9 := Lib.hid (HU8.out.transNew hn9W)
          clear hn9 hn9W g0 c0 c1 c2 c3 c4 c5 c6 cz
          obtain ⟨g0, c0, c1, c2, c3, c4, c5, c6, cz⟩ := HR9.out.facts
          go_wp2_with fail
          refine (rlast HR9.out (by omega)).mono ?_
          rintro e w9b ⟨rfl, rfl⟩
          go_wp2_with fail
          refine (rcleaned HR9.out (t := x7.la) (by have := HLA.out; omega) (by omega)).mono ?_
          rintro e w10 ⟨rfl, hp10⟩
          have hp10w := RpPost.trans HR9.out HK7.out HU9.out hp10
          obtain ⟨L10, hr10, hk10, hu10⟩ := hp10w
          have HR10 := Lib.hid hr10
          have HK10 := Lib.hid hk10
          have HU10 := Lib.hid hu10
          clear hp10 hr10 hk10 hu10 g0 c0 c1 c2 c3 c4 c5 c6 cz
          go_wp2_with fail
          refine (rask HR10.out (by omega)).mono ?_
          rintro e w11 ⟨rfl, hp⟩
          have HP := Lib.hid (RpPost.trans HR10.out HK10.out HU10.out hp)
          clear hp
          go_wp2_with fail
          go_ret
          exact ⟨ret_int (a := 0) (by rw [HF3.out]), by rw [HF3.out]; exact HP.out.mono (by omega)⟩
end
end Go.Proofs.YtecniafnihpjmaaGreatDoor

/- Chapter 24 (replica): List, Receive, New. Printed by genRpZ.py. -/
namespace Go.Proofs.YtecniafnihpjmaaGreatDoor
open Go.RowKit Go.Lap C
set_option linter.unusedVariables false
set_option linter.unusedSimpArgs false
section
variable {w w' W wa : World} {S : Nat → Prop} {rp B D : Nat} {L : RpL} {x x' : Rpl} {b : BtV}
theorem take_snocR {l : List Btc} {k : Nat} {b : Btc} (h : l[k]? = some b) : l.take (k + 1) = l.take k ++ [b] := by rw [List.take_add_one, h]; rfl
def ListPost (w : World) (l : List Btc) (e : Ending) (w' : World) : Prop := ∃ v, e = .returned v ∧ BtRow w' w.heap.size v l ∧ New w w'
theorem BtRow.snoc {base : Nat} {v vx : Value} {l : List Btc} {y : BtV} (h : BtRow W base v l) (hy : BtAt W y) {v' : Value} {w2 : World} (h2 : ∀ ps : List BtV, Row W base 40 4 BtV.enc v ps → ps.map BtV.b = l → Row w2 base 40 4 BtV.enc v' (ps ++ [y])) (hu : Upd S W w2) (hS : Off W 97 S) : BtRow w2 base v' (l ++ [y.b]) := by
  obtain ⟨ps, h3, h4, h5⟩ := h
  refine ⟨ps ++ [y], by rw [List.map_append, h3]; rfl, h2 ps h4 h3, fun p hp => ?_⟩
  rcases List.mem_append.1 hp with hp | hp
  · exact (h5 p hp).upd hu hS
  · rw [List.mem_singleton.1 hp]; exact hy.upd hu hS
theorem listStep {w0 w6 w7 : World} {ps : List BtV} {v v7 : Value} {y : BtV} {l l2 : List Btc} (hps : ps.map BtV.b = l) (hl : l2 = l ++ [y.b]) (hr : Row w6 w0.heap.size 40 4 BtV.enc v ps) (hpa : ∀ p ∈ ps, BtAt w6 p) (hy : BtAt w6 y) (hn : New w0 w6)
    (h7 : Row w7 w0.heap.size 40 4 BtV.enc v7 (ps ++ [y])) (hg : w6.grownBy w7 v.ownBlock) : BtRow w7 w0.heap.size v7 l2 ∧ New w0 w7 := by
  have hu : Upd (fun i => v.ownBlock = some i) w6 w7 := (Upd.refl _ w6).grown hg (fun i _ e => e)
  refine ⟨⟨ps ++ [y], by rw [hl, List.map_append, hps]; rfl, h7, fun p hp => ?_⟩, hn.grown hg (fun k hk => (hr.lt k hk).1)⟩
  rcases List.mem_append.1 hp with hp | hp
  · exact (hpa p hp).upd hu (Off.row hr (by decide))
  · rw [List.mem_singleton.1 hp]; exact hy.upd hu (Off.row hr (by decide))
set_option maxRecDepth 100000 in
set_option maxHeartbeats 4000000 in
theorem rlist (h : RpAt w rp B L x) (hB : B ≤ 1000000) : Calls Tryz.prog 18 #[.pointer (some ⟨rp, 0, none⟩)] w (ListPost w x.l) := by
  have hll := h.ll
  obtain ⟨A0, n0, hv0⟩ := h.l.shape
  obtain ⟨g0, c0, c1, c2, c3, c4, c5, c6, cz⟩ := h.facts
  rw [hv0] at c4
  have HL := Lib.hid h.l
  have HV0 := Lib.hid hv0
  clear h hv0
  go_enter Tryz.func18, Tryz.ntmps18
  go_wp2_with fail
  go_loopw [3, 5, 11] (fun s3 _ i wr => ∃ k : Nat, k ≤ x.l.length ∧ i = .int .i64 (k : Int) ∧ BtRow wr w.heap.size s3 (x.l.take k) ∧ New w wr) (fun _ _ i _ => x.l.length - (intOf i).toNat)
  case atStart => exact ⟨0, by omega, rfl, BtRow.nil _ _, New.refl _⟩
  case round =>
    obtain ⟨k, hk, rfl, hrow, hn⟩ := hrel
    have HROW := Lib.hid hrow
    have HNR := Lib.hid hn
    by_cases hlt : k < x.l.length
    · obtain ⟨b, hb⟩ : ∃ b, x.l[k]? = some b := ⟨_, List.getElem?_eq_getElem hlt⟩
      obtain ⟨g, off, cap, A, cp, hv, hcap, hba, e0, e1, e2, e3, hg⟩ := (HL.out.new hn).at_ hb
      rw [HV0.out] at hv
      cases hv
      have hlt2 : (k : Int) < (x.l.length : Int) := by omega
      have hk0 : (0 : Int) ≤ (k : Int) := by omega
      have HTK : Hid (x.l.take (k + 1) = x.l.take k ++ [b]) := Lib.hid (take_snocR hb)
      obtain ⟨bc, br, bs, bl⟩ := b
      dsimp only at e0 e1 e2 e3 hba
      have hnx := (New.refl wr).alloc (.cells #[.int .u64 (bc : Int), .int .u64 (br : Int), .int .u64 (bs : Int), .slice A bl.length cp] 40)
      have HBX := Lib.hid (hba.new hnx)
      have HXB := Lib.hid (Blk.mk_new wr 40 #[.int .u64 (bc : Int), .int .u64 (br : Int), .int .u64 (bs : Int), .slice A bl.length cp])
      have HNX := Lib.hid hnx
      have HNU := Lib.hid (hn.trans hnx)
      clear hb hba hnx hrow hn
      go_upto_region 5 with fail
      generalize wr.alloc (.cells #[.int .u64 (bc : Int), .int .u64 (br : Int), .int .u64 (bs : Int), .slice A bl.length cp] 40) = wx at *
      clear e0 e1 e2 e3
      have hbx := HXB.out
      obtain ⟨d0, d1, d2, d3, d4, dz⟩ := Blk4K hbx
      clear hbx
      go_wp2_with fail
      refine (copied_any HBX.out).mono ?_
      rintro e w5 ⟨y, rfl, hyb, hy5, hn5⟩
      obtain ⟨⟨yc, yr, ys, yl⟩, yA, ycap⟩ := y
      dsimp only at hyb
      cases hyb
      dsimp only [BtV.val, BtV.sl, batV]
      have hn6 := (New.refl w5).alloc (.cells #[.int .u64 (bc : Int), .int .u64 (br : Int), .int .u64 (bs : Int), .slice yA bl.length ycap] 40)
      have hp6 := Blk.mk_new w5 40 #[.int .u64 (bc : Int), .int .u64 (br : Int), .int .u64 (bs : Int), .slice yA bl.length ycap]
      obtain ⟨ps, hps, hrw, hpa⟩ := HROW.out
      have hn56 := (HNX.out.trans hn5).trans hn6
      have HRW := Lib.hid (hrw.new hn56)
      have HPA : Hid (∀ p ∈ ps, BtAt (w5.alloc (.cells #[.int .u64 (bc : Int), .int .u64 (br : Int), .int .u64 (bs : Int), .slice yA bl.length ycap] 40)) p) := Lib.hid (fun p hp => (hpa p hp).new hn56)
      have HPS := Lib.hid hps
      have HY6 := Lib.hid (hy5.new hn6)
      have HP6 := Lib.hid hp6
      have HN6 := Lib.hid ((HNU.out.trans hn5).trans hn6)
      have HPL : Hid (ps.length = k) := Lib.hid (by have := congrArg List.length hps; rw [List.length_map, List.length_take] at this; omega)
      clear hps hrw hpa hn56 hy5 hn5 hn6 hp6 d0 d1 d2 d3 d4 dz
      have HBS : Hid (w.heap.size ≤ (w5.alloc (.cells #[.int .u64 (bc : Int), .int .u64 (br : Int), .int .u64 (bs : Int), .slice yA bl.length ycap] 40)).heap.size) := Lib.hid HN6.out.size
      go_wp2_with (at_builtin; refine wpList_appR (m := [(⟨⟨bc, br, bs, bl⟩, yA, ycap⟩ : BtV)]) btTy BtV.encOk rfl (.tmp 15) (.tmp 18) rfl rfl rfl HRW.out (SlIn.one HP6.out BtV.encOk rfl) (by have := HPL.out; simp; unfold maxLen; omega) (by have := HPL.out; simp; omega) HBS.out ?_; intro v7 w7 h7 hg7 hv7; have HF : Hid (BtRow w7 w.heap.size v7 (x.l.take (k + 1)) ∧ New w w7) := Lib.hid (listStep HPS.out HTK.out HRW.out HPA.out HY6.out HN6.out h7 hg7); clear h7 hg7 hv7)
      go_roundw
      case rel => exact ⟨k + 1, by omega, by go_num, HF.out.1, HF.out.2⟩
      case measure => simp [intOf]; omega
    · obtain rfl : k = x.l.length := by omega
      have hlt2 : ¬ ((x.l.length : Nat) : Int) < (x.l.length : Int) := by omega
      have HF : Hid (BtRow wr w.heap.size u3 x.l) := Lib.hid (by have := HROW.out; rw [List.take_length] at this; exact this)
      clear hrow hn
      go_wp2_with fail
      go_ret
      exact ⟨u3, rfl, HF.out, HNR.out⟩
end
end Go.Proofs.YtecniafnihpjmaaGreatDoor
