/- The parts RpX, RpY, RpZ, joined. -/
import Derived.Test.YtecniafnihpjmaaGreatDoorTk
import Derived.Test.YtecniafnihpjmaaGreatDoorMg8
import Derived.Laws.EntriesVeiled
/- Chapter 24 (replica): Fold of no commands, Adopt, Tick, Out, Clean, Config. Printed by genRpX.py. -/
namespace Go.Proofs.YtecniafnihpjmaaGreatDoor
open Go.RowKit Go.Lap C
set_option linter.unusedVariables false
set_option linter.unusedSimpArgs false
section
variable {w w' W wa : World} {S : Nat → Prop} {rp B D : Nat} {L : RpL} {x x' : Rpl} {b : BtV}
def FoldPost (w : World) (c : Cfg) (e : Ending) (w' : World) : Prop := ∃ A n, e = .returned (.agg #[.int .u64 (c.e : Int), .slice A c.ms.length n]) ∧ TSl w' 3 1 iEnc (.slice A c.ms.length n) c.ms ∧ New w w'
set_option maxRecDepth 100000 in
set_option maxHeartbeats 4000000 in
theorem fold0 (c : Cfg) {v : Value} (hl : c.ms.length ≤ 1000) (hs : SlIn w 1 iEnc v c.ms) :
    Calls Tryz.prog 53 #[.agg #[.int .u64 (c.e : Int), v], .slice none 0 0] w (FoldPost w c) := by
  obtain ⟨e, ms⟩ := c
  dsimp only at *
  obtain ⟨A, m, cap, rfl⟩ := hs.shape
  have hN := ((New.refl w).alloc (.cells #[.int .u64 (e : Int), .slice A m cap] 25)).alloc (.cells #[.int .u64 0, .slice none 0 0] 25)
  have hM := (Blk.mk_new w 25 #[.int .u64 (e : Int), .slice A m cap]).alloc (.cells #[.int .u64 0, .slice none 0 0] 25)
  have hZ := Blk.mk_new (w.alloc (.cells #[.int .u64 (e : Int), .slice A m cap] 25)) 25 #[.int .u64 0, .slice none 0 0]
  rw [World.size_alloc] at hZ
  have HS := Lib.hid (hs.new hN)
  have HN := Lib.hid hN
  have HM := Lib.hid hM
  have HZ := Lib.hid hZ
  obtain ⟨q0, q1, q2, qz⟩ := Blk2F hM
  obtain ⟨z0, z1, z2, zz⟩ := Blk2F hZ
  clear hN hM hZ hs
  go_enter Tryz.func53, Tryz.ntmps53
  go_upto_region 1 with fail
  generalize (w.alloc _).alloc _ = W at *
  go_wp2_with fail
  refine (clone_any _ ms W (by omega) HS.out).mono ?_
  rintro e2 w2 ⟨u, rfl, hu, hn2⟩
  have ht := Row.tsl iEncOk (Owns.row hu)
  obtain ⟨A2, c2, rfl⟩ := ht.shape
  have hm2 := HM.out.new hn2
  have hz2 := HZ.out.new hn2
  have hu3 : Upd (· = w.heap.size) w2 (w2.setCell ⟨w.heap.size, 1, none⟩ (.slice A2 ms.length c2)) := (Upd.refl _ w2).setIn 1 _
  have hm3 := hm2.set_ 1 (.slice A2 ms.length c2)
  have hz3 := hz2.upd hu3 (by omega)
  have HT3 := Lib.hid (ht.upd hu3 (Off.blk hm2 (by decide)))
  have HZ3 := Lib.hid hz3
  have HN3 : Hid (New w (w2.setCell ⟨w.heap.size, 1, none⟩ (.slice A2 ms.length c2))) := Lib.hid ((HN.out.trans hn2).upd hu3 (fun i e => by omega))
  clear q0 q1 q2 qz z0 z1 z2 zz
  obtain ⟨q0, q1, q2, qz⟩ := Blk2F hm2
  obtain ⟨p0, p1, p2, pz⟩ := Blk2F hm3
  obtain ⟨z0, z1, z2, zz⟩ := Blk2F hz3
  clear hu ht hm2 hz2 hu3 hm3 hz3 hn2
  go_upto_region 2 with fail
  clear q0 q1 q2 qz
  generalize w2.setCell ⟨w.heap.size, 1, none⟩ (.slice A2 ms.length c2) = w3 at *
  go_wp2_with fail
  go_loopw [12] (fun i wr => i = .int .i64 0 ∧ wr = w3) (fun _ _ => 0)
  case atStart => exact ⟨rfl, rfl⟩
  case round =>
    obtain ⟨rfl, rfl⟩ := hrel
    go_wp2_with fail
    have hu4 : Upd (· = w.heap.size + 1) wr ((wr.setCell ⟨w.heap.size + 1, 0, none⟩ (.int .u64 (e : Int))).setCell ⟨w.heap.size + 1, 1, none⟩ (.slice A2 ms.length c2)) := ((Upd.refl _ wr).setIn 0 _).setIn 1 _
    exact bodyPost_ret (v := .agg #[.int .u64 (e : Int), .slice A2 ms.length c2]) (by simp [results, Tryz.results53, go_sem, z1, z2]) rfl ⟨A2, c2, rfl, HT3.out.upd hu4 (Off.blk HZ3.out (by decide)), HN3.out.upd hu4 (fun i e => by omega)⟩
set_option maxHeartbeats 2000000 in
theorem rclean (h : RpAt w rp B L x) : Calls Tryz.prog 19 #[.pointer (some ⟨rp, 0, none⟩)] w fun e w' => e = .returned (.int .u64 (x.cl : Int)) ∧ w' = w := by
  obtain ⟨g0, c0, c1, c2, c3, c4, c5, c6, cz⟩ := h.facts
  clear h
  go_enter Tryz.func19, Tryz.ntmps19
  go_wp2_with fail
  go_ret
  exact ⟨rfl, rfl⟩
set_option maxHeartbeats 2000000 in
theorem rconfig (h : RpAt w rp B L x) : Calls Tryz.prog 38 #[.pointer (some ⟨rp, 0, none⟩)] w (FoldPost w x.cf) := by
  have hN := (New.refl w).alloc (.cells #[.int .u64 0, .slice none 0 0] 25)
  have hZ := Blk.mk_new w 25 #[.int .u64 0, .slice none 0 0]
  have hR := h.new hN
  have HR := Lib.hid hR
  have HN := Lib.hid hN
  have HZ := Lib.hid hZ
  obtain ⟨g0, c0, c1, c2, c3, c4, c5, c6, cz⟩ := hR.facts
  clear h hN hZ hR
  go_enter Tryz.func38, Tryz.ntmps38
  go_upto_region 1 with fail
  generalize w.alloc _ = W at *
  go_wp2_with fail
  refine (fold0 x.cf HR.out.cl7 HR.out.cf.slIn).mono ?_
  rintro e w2 ⟨A, n, rfl, ht, hn2⟩
  obtain ⟨z0, z1, z2, zz⟩ := Blk2F (HZ.out.new hn2)
  go_wp2_with fail
  have hu4 : Upd (· = w.heap.size) w2 ((w2.setCell ⟨w.heap.size, 0, none⟩ (.int .u64 (x.cf.e : Int))).setCell ⟨w.heap.size, 1, none⟩ (.slice A x.cf.ms.length n)) := ((Upd.refl _ w2).setIn 0 _).setIn 1 _
  exact bodyPost_ret (v := .agg #[.int .u64 (x.cf.e : Int), .slice A x.cf.ms.length n]) (by simp [results, Tryz.results38, go_sem, z1, z2]) rfl ⟨A, n, rfl, ht.upd hu4 (Off.blk (HZ.out.new hn2) (by decide)), (HN.out.trans hn2).upd hu4 (fun i e => by omega)⟩
/-- What is sent leaves the replica. -/
def OutPost (w : World) (rp B : Nat) (L : RpL) (x : Rpl) (e : Ending) (w' : World) : Prop := e = .returned L.ov ∧ RpAt w' rp B { L with ov := .slice none 0 0 } { x with out := [] } ∧ Upd (· = rp) w w' ∧ NtRow w' 0 L.ov x.out
set_option maxHeartbeats 2000000 in
theorem rout (h : RpAt w rp B L x) : Calls Tryz.prog 22 #[.pointer (some ⟨rp, 0, none⟩)] w (OutPost w rp B L x) := by
  obtain ⟨g0, c0, c1, c2, c3, c4, c5, c6, cz⟩ := h.facts
  have hu : Upd (· = rp) w (w.setCell ⟨rp, 6, none⟩ (.slice none 0 0)) := (Upd.refl _ w).setIn 6 _
  have hf : RpAt (w.setCell ⟨rp, 6, none⟩ (.slice none 0 0)) rp B { L with ov := .slice none 0 0 } { x with out := [] } ∧ NtRow (w.setCell ⟨rp, 6, none⟩ (.slice none 0 0)) 0 L.ov x.out := by
    obtain ⟨ps, _, hps, _⟩ := h.l
    obtain ⟨qs, _, hqs, _⟩ := h.out
    have hWr : Off w 97 (· = rp) := Off.blk h.blk (by decide)
    have hIr : Off w 3 (· = rp) := Off.blk h.blk (by decide)
    exact ⟨⟨h.blk.set_ 6 _, h.cf.upd hu hIr, h.cl7, h.ce, h.j.upd hu (fun k hk e => h.rp_jd (e ▸ hk)), h.l.upd hu (fun k hk e => hps.ne_blk h.blk (by decide) (e ▸ hk)) hWr, NtRow.nil _ _, h.ll, Nat.zero_le _, h.cl⟩, h.out.upd hu (fun k hk e => hqs.ne_blk h.blk (by decide) (e ▸ hk)) hWr⟩
  have HF := Lib.hid hf
  clear h hf
  go_enter Tryz.func22, Tryz.ntmps22
  go_wp2_with fail
  go_ret
  exact ⟨rfl, HF.out.1, hu, HF.out.2⟩
end
end Go.Proofs.YtecniafnihpjmaaGreatDoor

/- Chapter 24 (replica): Adopt, List. Printed by genRpY.py. -/
namespace Go.Proofs.YtecniafnihpjmaaGreatDoor
open Go.RowKit Go.Lap C
set_option linter.unusedVariables false
set_option linter.unusedSimpArgs false
section
variable {w w' W wa : World} {S : Nat → Prop} {rp B D : Nat} {L : RpL} {x x' : Rpl} {b : BtV}
theorem ccheck (c : Cfg) {v : Value} (hl : c.ms.length ≤ 1000) (hs : SlIn w 1 iEnc v c.ms) : Calls Tryz.prog 52 #[.agg #[.int .u64 (c.e : Int), v]] w fun e w' => e = .returned (.bool (chkC c)) ∧ New w w' := C.check_any c.e v c.ms w (by omega) hs
end
end Go.Proofs.YtecniafnihpjmaaGreatDoor

/- Chapter 24 (replica): List, Receive, New. Printed by genRpZ.py. -/
namespace Go.Proofs.YtecniafnihpjmaaGreatDoor
open Go.RowKit Go.Lap C
set_option linter.unusedVariables false
set_option linter.unusedSimpArgs false
section
variable {w w' W wa : World} {S : Nat → Prop} {rp B D : Nat} {L : RpL} {x x' : Rpl} {b : BtV}
theorem take_snocR {l : List Btc} {k : Nat} {b : Btc} (h : l[k]? = some b) : l.take (k + 1) = l.take k ++ [b] := by rw [List.take_add_one, h]; rfl
def ListPost (w : World) (l : List Btc) (e : Ending) (w' : World) : Prop := ∃ v, e = .returned v ∧ BtRow w' w.heap.size v l ∧ New w w'
theorem listStep {w0 w6 w7 : World} {ps : List BtV} {v v7 : Value} {y : BtV} {l l2 : List Btc} (hps : ps.map BtV.b = l) (hl : l2 = l ++ [y.b]) (hr : Row w6 w0.heap.size 40 4 BtV.enc v ps) (hpa : ∀ p ∈ ps, BtAt w6 p) (hy : BtAt w6 y) (hn : New w0 w6)
    (h7 : Row w7 w0.heap.size 40 4 BtV.enc v7 (ps ++ [y])) (hg : w6.grownBy w7 v.ownBlock) : BtRow w7 w0.heap.size v7 l2 ∧ New w0 w7 := by
  have hu : Upd (fun i => v.ownBlock = some i) w6 w7 := (Upd.refl _ w6).grown hg (fun i _ e => e)
  refine ⟨⟨ps ++ [y], by rw [hl, List.map_append, hps]; rfl, h7, fun p hp => ?_⟩, hn.grown hg (fun k hk => (hr.lt k hk).1)⟩
  rcases List.mem_append.1 hp with hp | hp
  · exact (hpa p hp).upd hu (Off.row hr (by decide))
  · rw [List.mem_singleton.1 hp]; exact hy.upd hu (Off.row hr (by decide))
set_option maxRecDepth 100000 in
set_option maxHeartbeats 4000000 in
theorem rlist (h : RpAt w rp B L x) (hB : B ≤ 1000000) : Calls Tryz.prog 18 #[.pointer (some ⟨rp, 0, none⟩)] w (ListPost w x.l) := by
  have hll := h.ll
  obtain ⟨A0, n0, hv0⟩ := h.l.shape
  obtain ⟨g0, c0, c1, c2, c3, c4, c5, c6, cz⟩ := h.facts
  rw [hv0] at c4
  have HL := Lib.hid h.l
  have HV0 := Lib.hid hv0
  clear h hv0
  go_enter Tryz.func18, Tryz.ntmps18
  go_wp2_with fail
  go_loopw [3, 5, 11] (fun s3 _ i wr => ∃ k : Nat, k ≤ x.l.length ∧ i = .int .i64 (k : Int) ∧ BtRow wr w.heap.size s3 (x.l.take k) ∧ New w wr) (fun _ _ i _ => x.l.length - (intOf i).toNat)
  case atStart => exact ⟨0, by omega, rfl, BtRow.nil _ _, New.refl _⟩
  case round =>
    obtain ⟨k, hk, rfl, hrow, hn⟩ := hrel
    have HROW := Lib.hid hrow
    have HNR := Lib.hid hn
    by_cases hlt : k < x.l.length
    · obtain ⟨b, hb⟩ : ∃ b, x.l[k]? = some b := ⟨_, List.getElem?_eq_getElem hlt⟩
      obtain ⟨g, off, cap, A, cp, hv, hcap, hba, e0, e1, e2, e3, hg⟩ := (HL.out.new hn).at_ hb
      rw [HV0.out] at hv
      cases hv
      have hlt2 : (k : Int) < (x.l.length : Int) := by omega
      have hk0 : (0 : Int) ≤ (k : Int) := by omega
      have HTK : Hid (x.l.take (k + 1) = x.l.take k ++ [b]) := Lib.hid (take_snocR hb)
      obtain ⟨bc, br, bs, bl⟩ := b
      dsimp only at e0 e1 e2 e3 hba
      have hnx := (New.refl wr).alloc (.cells #[.int .u64 (bc : Int), .int .u64 (br : Int), .int .u64 (bs : Int), .slice A bl.length cp] 40)
      have HBX := Lib.hid (hba.new hnx)
      have HXB := Lib.hid (Blk.mk_new wr 40 #[.int .u64 (bc : Int), .int .u64 (br : Int), .int .u64 (bs : Int), .slice A bl.length cp])
      have HNX := Lib.hid hnx
      have HNU := Lib.hid (hn.trans hnx)
      clear hb hba hnx hrow hn
      go_upto_region 5 with fail
      generalize wr.alloc (.cells #[.int .u64 (bc : Int), .int .u64 (br : Int), .int .u64 (bs : Int), .slice A bl.length cp] 40) = wx at *
      clear e0 e1 e2 e3
      have hbx := HXB.out
      obtain ⟨d0, d1, d2, d3, d4, dz⟩ := Blk4K hbx
      clear hbx
      go_wp2_with fail
      refine (copied_any HBX.out).mono ?_
      rintro e w5 ⟨y, rfl, hyb, hy5, hn5⟩
      obtain ⟨⟨yc, yr, ys, yl⟩, yA, ycap⟩ := y
      dsimp only at hyb
      cases hyb
      dsimp only [BtV.val, BtV.sl, batV]
      have hn6 := (New.refl w5).alloc (.cells #[.int .u64 (bc : Int), .int .u64 (br : Int), .int .u64 (bs : Int), .slice yA bl.length ycap] 40)
      have hp6 := Blk.mk_new w5 40 #[.int .u64 (bc : Int), .int .u64 (br : Int), .int .u64 (bs : Int), .slice yA bl.length ycap]
      obtain ⟨ps, hps, hrw, hpa⟩ := HROW.out
      have hn56 := (HNX.out.trans hn5).trans hn6
      have HRW := Lib.hid (hrw.new hn56)
      have HPA : Hid (∀ p ∈ ps, BtAt (w5.alloc (.cells #[.int .u64 (bc : Int), .int .u64 (br : Int), .int .u64 (bs : Int), .slice yA bl.length ycap] 40)) p) := Lib.hid (fun p hp => (hpa p hp).new hn56)
      have HPS := Lib.hid hps
      have HY6 := Lib.hid (hy5.new hn6)
      have HP6 := Lib.hid hp6
      have HN6 := Lib.hid ((HNU.out.trans hn5).trans hn6)
      have HPL : Hid (ps.length = k) := Lib.hid (by have := congrArg List.length hps; rw [List.length_map, List.length_take] at this; omega)
      clear hps hrw hpa hn56 hy5 hn5 hn6 hp6 d0 d1 d2 d3 d4 dz
      have HBS : Hid (w.heap.size ≤ (w5.alloc (.cells #[.int .u64 (bc : Int), .int .u64 (br : Int), .int .u64 (bs : Int), .slice yA bl.length ycap] 40)).heap.size) := Lib.hid HN6.out.size
      go_wp2_with (at_builtin; refine wpList_appR (m := [(⟨⟨bc, br, bs, bl⟩, yA, ycap⟩ : BtV)]) btTy BtV.encOk rfl (.tmp 15) (.tmp 18) rfl rfl rfl HRW.out (SlIn.one HP6.out BtV.encOk rfl) (by have := HPL.out; simp; unfold maxLen; omega) (by have := HPL.out; simp; omega) HBS.out ?_; intro v7 w7 h7 hg7 hv7; have HF : Hid (BtRow w7 w.heap.size v7 (x.l.take (k + 1)) ∧ New w w7) := Lib.hid (listStep HPS.out HTK.out HRW.out HPA.out HY6.out HN6.out h7 hg7); clear h7 hg7 hv7)
      go_roundw
      case rel => exact ⟨k + 1, by omega, by go_num, HF.out.1, HF.out.2⟩
      case measure => simp [intOf]; omega
    · obtain rfl : k = x.l.length := by omega
      have hlt2 : ¬ ((x.l.length : Nat) : Int) < (x.l.length : Int) := by omega
      have HF : Hid (BtRow wr w.heap.size u3 x.l) := Lib.hid (by have := HROW.out; rw [List.take_length] at this; exact this)
      clear hrow hn
      go_wp2_with fail
      go_ret
      exact ⟨u3, rfl, HF.out, HNR.out⟩
end
end Go.Proofs.YtecniafnihpjmaaGreatDoor
