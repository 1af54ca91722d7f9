/- The parts RpI5, RpR, RpI6, RpI7, joined. -/
import Derived.Test.YtecniafnihpjmaaGreatDoorTk
import Derived.Test.YtecniafnihpjmaaGreatDoorMg11
import Derived.Test.YtecniafnihpjmaaGreatDoorHz
import Derived.Test.YtecniafnihpjmaaGreatDoorMg5
/- Chapter 24 (replica): the law's step, by kinds. Printed by genRpI.py. -/
namespace Go.Proofs.YtecniafnihpjmaaGreatDoor
open Go.RowKit Go.Lap C
set_option linter.unusedVariables false
set_option linter.unusedSimpArgs false
section
variable {w w' W wa : World} {S : Nat → Prop} {n B D a : Nat} {L : ChL} {x : Chn} {s : StV} {nw : CfgV}
set_option maxRecDepth 100000 in
set_option maxHeartbeats 16000000 in
theorem step_copy (h : ChAt w n B L x) (hn0 : 0 < n) (hn : n ≤ 7) (hB : B ≤ 979000) (hu : x.un.length ≤ 300) (hs : StOk w s) (hcs : CsOk n x.cs x.newest) (hcl : x.cs.length ≤ 1000) (hk : s.kind = 2) :
    Calls Tryz.prog 24 #[.agg #[L.lv, L.uv, L.cv], s.val] w (ChRet w n (B + 20) L (x.step n s.stp)) := by
  have hN := ((New.refl w).alloc (.cells #[L.lv, L.uv, L.cv] 64)).alloc (.cells s.cells 70) |>.alloc (.cells #[.slice none 0 0, .slice none 0 0, .slice none 0 0] 64)
  have hb0 := ((Blk.mk_new w 64 #[L.lv, L.uv, L.cv]).alloc (.cells s.cells 70)).alloc (.cells #[.slice none 0 0, .slice none 0 0, .slice none 0 0] 64)
  have hb1 := (blk_two2 w (.cells #[L.lv, L.uv, L.cv] 64) 70 s.cells).alloc (.cells #[.slice none 0 0, .slice none 0 0, .slice none 0 0] 64)
  have hb2 := blk_three w (.cells #[L.lv, L.uv, L.cv] 64) (.cells s.cells 70) 64 #[.slice none 0 0, .slice none 0 0, .slice none 0 0]
  have HLT := Lib.hid h.lt
  have HH := Lib.hid h
  have HN := Lib.hid hN
  have HWZ : Hid ((((w.alloc (.cells #[L.lv, L.uv, L.cv] 64)).alloc (.cells s.cells 70)).alloc (.cells #[.slice none 0 0, .slice none 0 0, .slice none 0 0] 64)).heap.size = w.heap.size + 1 + 1 + 1) := Lib.hid (by simp)
  have HCS := Lib.hid hcs
  have HS := Lib.hid hs
  obtain ⟨Al, nl, cl0, hlv⟩ := h.l.shp
  have hln : L.lv = .slice Al n cl0 := by obtain ⟨a, c, e⟩ := h.l.shape; rw [hlv] at e; cases e; simp [hlv]
  obtain ⟨Au, cu, huv⟩ := h.un.shape
  obtain ⟨ps, hps, hrc, hca⟩ := h.cs
  have hpl : ps.length = x.cs.length := by rw [← hps, List.length_map]
  have hl1 : x.cs.length - 1 < ps.length := by have := (List.getElem?_eq_some_iff.1 hcs.nwAt).1; omega
  obtain ⟨nwv, hnwv⟩ : ∃ p, ps[x.cs.length - 1]? = some p := ⟨_, List.getElem?_eq_getElem hl1⟩
  have HNW : Hid (nwv.c = x.newest) := Lib.hid (by
    have h1 : (ps.map CfgV.c)[x.cs.length - 1]? = some nwv.c := by rw [List.getElem?_map, hnwv]; rfl
    rw [hps, hcs.nwAt] at h1
    exact (Option.some.inj h1).symm)
  obtain ⟨gc, offc, capc, hcv, _, hrcA⟩ := hrc.at_ (by intro e; rw [e] at hl1; simp at hl1)
  have e0 : w.cell? ⟨gc, offc + (x.cs.length - 1) * 2, none⟩ = some (.int .u64 (nwv.c.e : Int)) := hrcA.cell CfgV.encOk hnwv (j := 0) rfl
  have e1 : w.cell? ⟨gc, offc + (x.cs.length - 1) * 2 + 1, none⟩ = some nwv.sl := hrcA.cell CfgV.encOk hnwv (j := 1) rfl
  have hgc : gc < w.heap.size := hrcA.lt
  have HNA := Lib.hid (hca nwv (List.mem_of_getElem? hnwv))
  rw [hpl] at hcv
  have HLN := Lib.hid hln
  have HUV := Lib.hid huv
  have HCV := Lib.hid hcv
  have hcl1 : 1 ≤ x.cs.length := by omega
  obtain ⟨m, hm⟩ : ∃ m, x.cs.length = m + 1 := ⟨x.cs.length - 1, by omega⟩
  have HMC := Lib.hid hm
  rw [hm, Nat.add_sub_cancel] at e0 e1
  obtain ⟨p0, p1, p2, p3, pz⟩ := Blk3G hb0
  unfold StV.cells at *
  obtain ⟨q0, q1, q2, q3, q4, q5, q6, q7, qz⟩ := Blk7I hb1
  obtain ⟨r0, r1, r2, r3, rz⟩ := Blk3G hb2
  have HB0 := Lib.hid hb0
  have HB1 := Lib.hid hb1
  have HB2 := Lib.hid hb2
  have E0 := (hN.cells.1 gc (offc + m * 2) hgc).trans e0
  have E1 := (hN.cells.1 gc (offc + m * 2 + 1) hgc).trans e1
  have hgc2 := Nat.lt_of_lt_of_le hgc hN.size
  have hnode := hs.node
  have hat := hs.at_
  unfold CfgV.sl at E1
  have hn1 : (0 : Int) < (n : Int) := by omega
  obtain ⟨kk, hkk⟩ : ∃ kk, kk = s.node % n := ⟨_, rfl⟩
  have hkn : kk < n := by rw [hkk]; exact Nat.mod_lt _ hn0
  have hrem : (s.node : Int) % (n : Int) = (kk : Int) := by rw [hkk]; omega
  have hkn2 : (kk : Int) < (n : Int) := by omega
  have hkk0 : (0 : Int) ≤ (kk : Int) := by omega
  have HKN := Lib.hid hkk
  obtain ⟨aa, haa⟩ : ∃ aa, aa = atS x s := ⟨_, rfl⟩
  have HAA := Lib.hid haa
  clear hkk haa
  have hwi : IntKind.i64.wrap (s.node : Int) = (s.node : Int) := IntWalk.i64_in _ (by omega)
  have hwa : IntKind.i64.wrap (s.at_ : Int) = (s.at_ : Int) := IntWalk.i64_in _ (by omega)
  have hwm : IntKind.i64.wrap (m : Int) = (m : Int) := IntWalk.i64_in _ (by omega)
  have hm1 : (m : Int) < (m : Int) + 1 := by omega
  have hm0 : (0 : Int) ≤ (m : Int) := by omega
  clear h hN hb0 hb1 hb2 hcs hs hlv hln huv hps hrc hca hpl hl1 hnwv hcv hrcA e0 e1 hm hcl1
  have hk0 : (s.kind == 0) = false := by rw [hk]; rfl
  have hk1 : (s.kind == 1) = false := by rw [hk]; rfl
  have hk2 : (s.kind == 2) = true := by rw [hk]; rfl
  have hk3 : (s.kind == 3) = false := by rw [hk]; rfl
  have hk4 : (s.kind == 4) = false := by rw [hk]; rfl
  have hk5 : (s.kind == 5) = false := by rw [hk]; rfl
  have hk6 : (s.kind == 6) = false := by rw [hk]; rfl
  have HK := Lib.hid hk
  clear hk
  unfold StV.val StV.cells
  go_enter Tryz.func24, Tryz.ntmps24
  go_upto_region 1 with fail
  generalize ((w.alloc _).alloc _).alloc _ = W at *
  rw [HLN.out] at p1
  rw [HUV.out] at p2
  rw [HCV.out, HMC.out] at p3
  obtain ⟨tb, htb1⟩ : ∃ tb : Bool, decide ((0 : Int) < (x.un.length : Int)) = tb := ⟨_, rfl⟩
  have htb2 : decide (0 < x.un.length) = tb := by rw [← htb1]; simp
  have HTB := Lib.hid htb2
  go_upto_region 3 with fail
  go_upto_if 22 with fail
  go_cut [6] (fun s6 wx => s6 = .int .i64 (aa : Int) ∧ wx = W)
  case first =>
    have htb3 := HTB.out
    clear htb1 htb2
    cases tb with
    | false =>
      have ha0 : aa = 0 := by rw [HAA.out]; unfold atS; rw [if_pos (by simpa using htb3)]
      clear htb3
      go_wp2_with fail
      go_meet
      exact ⟨by rw [ha0]; rfl, rfl⟩
    | true =>
      have hun : 0 < x.un.length := by simpa using htb3
      have hr2 : (s.at_ : Int) % (x.un.length : Int) = (aa : Int) := by rw [HAA.out]; unfold atS; rw [if_neg (by omega)]; omega
      have hu0 : ¬ (x.un.length : Int) = 0 := by omega
      have hu1 : (0 : Int) < (x.un.length : Int) := by omega
      clear htb3 hun
      go_wp2_with fail
      go_meet
      exact ⟨by rw [hr2], rfl⟩
  case rest =>
    obtain ⟨h6, hwc⟩ := hcut
    rw [h6, hwc, hrem]
    clear h6 hwc hrem
    have hn4 := (New.refl W).alloc (.cells #[.int .u64 (nwv.c.e : Int), .slice nwv.A nwv.c.ms.length nwv.n] 25)
    have hz3 : W.heap.size = w.heap.size + 1 + 1 + 1 := HWZ.out
    have HM4 : Hid (SpM (W.alloc (.cells #[.int .u64 (nwv.c.e : Int), .slice nwv.A nwv.c.ms.length nwv.n] 25)) w.heap.size L s nwv) := Lib.hid ⟨HB0.out.new hn4, HB1.out.new hn4, HB2.out.new hn4, by
      have := Blk.mk_new W 25 #[.int .u64 (nwv.c.e : Int), .slice nwv.A nwv.c.ms.length nwv.n]
      rw [hz3] at this
      exact this⟩
    have HN4 := Lib.hid (HN.out.trans hn4)
    have HH4 := Lib.hid (HH.out.new HN4.out)
    clear hz3 hn4
    go_upto_region 6 with fail
    generalize W.alloc (.cells #[.int .u64 (nwv.c.e : Int), .slice nwv.A nwv.c.ms.length nwv.n] 25) = W4 at *
    clear p0 p1 p2 p3 pz q0 q1 q2 q3 q4 q5 q6 q7 qz r0 r1 r2 r3 rz E0 E1 hgc hgc2 hwm hm1 hm0 hwi hwa
    obtain ⟨p0, p1, p2, p3, pz⟩ := Blk3G HM4.out.b0
    have hb1 := HM4.out.b1
    unfold StV.cells at hb1
    obtain ⟨q0, q1, q2, q3, q4, q5, q6, q7, qz⟩ := Blk7I hb1
    clear hb1
    rw [HLN.out] at p1
    obtain ⟨gl, ol, cl2, hlv2, hcl2, el, hgl⟩ := HH4.out.node hkn
    rw [HLN.out] at hlv2
    cases hlv2
    by_cases hun : x.un.length = 0
    · have HE : Hid (x.un = []) := Lib.hid (List.eq_nil_of_length_eq_zero hun)
      have HZ : Hid (x.un.length = 0) := Lib.hid hun
      clear htb1 htb2 hun
      have hact : x.act n s.stp = x := by
        have h0 := HE.out
        unfold Chn.act StV.stp
        dsimp only
        rw [HK.out, h0]
        rfl
      have HACT := Lib.hid hact
      have HUN : Hid ((x.act n s.stp).un.length ≤ 301) := Lib.hid (by rw [hact]; omega)
      clear hact
      have hA : SpAft w n (B + 15) L (x.act n s.stp) L W4 := ⟨by rw [HACT.out]; exact ChPost.pre HN4.out ((ChPost.refl HH4.out).mono (by omega)), HM4.out.b0, HM4.out.b2⟩
      obtain ⟨w7, hw7⟩ : ∃ w7, w7 = W4 := ⟨_, rfl⟩
      obtain ⟨L1, hL1⟩ : ∃ L1, L1 = L := ⟨_, rfl⟩
      have hA : SpAft w n (B + 15) L (x.act n s.stp) L1 w7 := by rw [hL1, hw7]; exact hA
      rw [← hw7]
      rw [← hw7] at q0 q1 q2 q3 q4 q5 q6 q7 qz
      have HUV1 : Hid (L1.uv = .slice Au 0 cu) := Lib.hid (by rw [hL1, HUV.out, HZ.out])
      clear el hgl p0 p1 p2 p3 pz hw7 hL1
      have HA : Hid (SpAft w n (B + 15) L (x.act n s.stp) L1 w7) := Lib.hid hA
      clear hA
      obtain ⟨p0, p1, p2, p3, pz⟩ := Blk3G HA.out.bx
      rw [HUV1.out] at p2
      obtain ⟨r0, r1, r2, r3, rz⟩ := Blk3G HA.out.rs
      go_wp2_with fail
      rw [← HUV1.out]
      refine (gather_any HA.out.po.1 hn (by omega) (by have := HUN.out; omega)).mono ?_
      rintro e w9 ⟨L2, rfl, hp2⟩
      have hr9 := HA.out.rs.upd hp2.2.2.2.2 (HA.out.po.1.boxF HA.out.rs).1
      have HR9 := Lib.hid hr9
      have HP9 := Lib.hid (ChPost.trans HA.out.po (hp2.mono (Nat.le_refl _)))
      clear p0 p1 p2 p3 pz r0 r1 r2 r3 rz
      obtain ⟨r0, r1, r2, r3, rz⟩ := Blk3G hr9
      obtain ⟨A1, n1, c1, h1⟩ := hp2.1.l.shp
      obtain ⟨A2, c2, h2⟩ := hp2.1.un.shape
      obtain ⟨qs, _, hq3, _⟩ := hp2.1.cs
      obtain ⟨A3, n3, c3, h3⟩ := hq3.shp
      rw [h1, h2, h3]
      have H1 := Lib.hid h1
      have H2 := Lib.hid h2
      have H3 := Lib.hid h3
      clear hr9 hp2 hq3 h1 h2 h3
      go_wp2_with fail
      exact bodyPost_ret (v := .agg #[.slice A1 n1 c1, .slice A2 ((x.act n s.stp).gather n).un.length c2, .slice A3 n3 c3]) (by simp [results, Tryz.results24, go_sem, r1, r2, r3]) rfl ⟨L2, by rw [H1.out, H2.out, H3.out], (HP9.out.box HR9.out (by omega) ((((Upd.refl _ w9).setIn 0 _).setIn 1 _).setIn 2 _)).mono (by omega)⟩
    · have hui : (0 : Int) < (x.un.length : Int) := by omega
      clear htb1 htb2
      have haal : aa < x.un.length := by rw [HAA.out]; unfold atS; rw [if_neg hun]; exact Nat.mod_lt _ (by omega)
      obtain ⟨ps, hps, hrow, hall⟩ := HH4.out.un
      have hpl : ps.length = x.un.length := by rw [← hps, List.length_map]
      obtain ⟨p, hp⟩ : ∃ p, ps[aa]? = some p := ⟨_, List.getElem?_eq_getElem (by omega)⟩
      have hnt : x.un[aa]? = some p.nt := by rw [← hps, List.getElem?_map, hp]; rfl
      have HNT := Lib.hid hnt
      have HPV := Lib.hid (hall p (List.mem_of_getElem? hp))
      have HROW := Lib.hid hrow
      obtain ⟨gu, ou, cu2, hvu, _, hrA⟩ := hrow.at_ (by intro e; rw [e] at hpl; simp at hpl; omega)
      rw [HUV.out, hpl] at hvu
      cases hvu
      rw [HUV.out] at p2
      have u0 : W4.cell? ⟨gu, ou + aa * 9, none⟩ = some (.int .i64 p.k) := hrA.cell NtV.encOk hp (j := 0) rfl
      have u1 : W4.cell? ⟨gu, ou + aa * 9 + 1, none⟩ = some (.int .i64 p.fr) := hrA.cell NtV.encOk hp (j := 1) rfl
      have u2 : W4.cell? ⟨gu, ou + aa * 9 + 2, none⟩ = some (.int .i64 p.ds) := hrA.cell NtV.encOk hp (j := 2) rfl
      have u3 : W4.cell? ⟨gu, ou + aa * 9 + 3, none⟩ = some (.int .u64 (p.ep : Int)) := hrA.cell NtV.encOk hp (j := 3) rfl
      have u4 : W4.cell? ⟨gu, ou + aa * 9 + 4, none⟩ = some (.int .u64 (p.t : Int)) := hrA.cell NtV.encOk hp (j := 4) rfl
      have u5 : W4.cell? ⟨gu, ou + aa * 9 + 5, none⟩ = some (.int .u64 (p.v.b.c : Int)) := hrA.cell NtV.encOk hp (j := 5) rfl
      have u6 : W4.cell? ⟨gu, ou + aa * 9 + 6, none⟩ = some (.int .u64 (p.v.b.r : Int)) := hrA.cell NtV.encOk hp (j := 6) rfl
      have u7 : W4.cell? ⟨gu, ou + aa * 9 + 7, none⟩ = some (.int .u64 (p.v.b.s : Int)) := hrA.cell NtV.encOk hp (j := 7) rfl
      have u8 : W4.cell? ⟨gu, ou + aa * 9 + 8, none⟩ = some (p.v.sl) := hrA.cell NtV.encOk hp (j := 8) rfl
      have hgu : gu < W4.heap.size := hrA.lt
      unfold BtV.sl at u8
      have haai : (aa : Int) < (x.un.length : Int) := by omega
      have haa0 : (0 : Int) ≤ (aa : Int) := by omega
      clear hps hrow hall hpl hp hnt hrA
      have hact : x.act n s.stp = { x with un := x.un ++ [p.nt] } := by
        have h1 := HNT.out
        rw [HAA.out] at h1
        unfold atS at h1
        rw [if_neg hun] at h1
        unfold Chn.act StV.stp
        dsimp only
        rw [HK.out, if_neg (by decide), if_neg (by decide), if_pos rfl, h1]
      have HACT := Lib.hid hact
      have HUN : Hid ((x.act n s.stp).un.length ≤ 301) := Lib.hid (by rw [hact, List.length_append]; simp; omega)
      clear hact hun
      go_upto_region 18 with fail
      refine wp_region_z [10] (fun w' => w'.cell? ⟨w.heap.size, 1, none⟩ = some (.slice (some ⟨gu, ou, none⟩) x.un.length cu)) (by kernel_rfl) (p2) (fun hHeld => ?_)
      refine tkZN (i := 0) rfl ?_
      try simp only [Act.put, sA, sZ, sS]
      refine tkZN (i := 1) rfl ?_
      try simp only [Act.put, sA, sZ, sS]
      refine tkZN (i := 2) rfl ?_
      try simp only [Act.put, sA, sZ, sS]
      refine tkZN (i := 3) rfl ?_
      try simp only [Act.put, sA, sZ, sS]
      refine tkZN (i := 4) rfl ?_
      try simp only [Act.put, sA, sZ, sS]
      refine tkZN (i := 5) rfl ?_
      try simp only [Act.put, sA, sZ, sS]
      refine stZN (i := 6) rfl (fun K hK => ?_)
      go_simp
      refine hK.out _ _ ?_ (fun hHeld => ?_)
      · exact hHeld
      clear hK K
      try simp only [Act.put, sA, sZ, sS]
      refine stZN (i := 7) rfl (fun K hK => ?_)
      go_simp
      have hn5 := ((New.refl W4).alloc (.cells #[.int .i64 p.k, .int .i64 p.fr, .int .i64 p.ds, .int .u64 (p.ep : Int), .int .u64 (p.t : Int), .int .u64 (p.v.b.c : Int), .int .u64 (p.v.b.r : Int), .int .u64 (p.v.b.s : Int), .slice p.v.A p.v.b.l.length p.v.c] 93)).drew
      have HP5 := Lib.hid (Blk.mk_new W4 93 #[.int .i64 p.k, .int .i64 p.fr, .int .i64 p.ds, .int .u64 (p.ep : Int), .int .u64 (p.t : Int), .int .u64 (p.v.b.c : Int), .int .u64 (p.v.b.r : Int), .int .u64 (p.v.b.s : Int), .slice p.v.A p.v.b.l.length p.v.c]).drew
      have HH5 := Lib.hid (HH4.out.new hn5)
      have HM5 := Lib.hid (HM4.out.new hn5)
      have HN5 := Lib.hid (HN4.out.trans hn5)
      have HV5 := Lib.hid (HPV.out.new hn5)
      clear hn5 u0 u1 u2 u3 u4 u5 u6 u7 u8
      generalize (W4.alloc (.cells #[.int .i64 p.k, .int .i64 p.fr, .int .i64 p.ds, .int .u64 (p.ep : Int), .int .u64 (p.t : Int), .int .u64 (p.v.b.c : Int), .int .u64 (p.v.b.r : Int), .int .u64 (p.v.b.s : Int), .slice p.v.A p.v.b.l.length p.v.c] 93)).drew = w5 at *
      have k0 : w5.cell? ⟨w.heap.size, 1, none⟩ = some L.uv := HM5.out.b0.cell 1
      rw [HUV.out] at k0
      refine hK.out _ _ ?_ (fun hHeld => ?_)
      · exact k0
      clear hK K
      try simp only [Act.put, sA, sZ, sS]
      refine stZN (i := 8) rfl (fun K hK => ?_)
      obtain ⟨qs, hqs, hrow, hqa⟩ := HH5.out.un
      have HQS := Lib.hid hqs
      have HQA := Lib.hid hqa
      have HROW5 := Lib.hid hrow
      have hql : qs.length ≤ 300 := by have := hu; rw [← hqs, List.length_map] at this; exact this
      rw [HUV.out] at hrow
      refine step_appR (m := [p]) ntTy NtV.encOk rfl (.tmp 107) (.tmp 113) rfl rfl rfl hrow (SlIn.one HP5.out NtV.encOk rfl) (by simp; unfold maxLen; omega) (by simp; omega) (Nat.zero_le _) ?_
      intro v6 w6 h6 hg6 hv6
      rw [← HUV.out] at hg6 hv6
      have hou : Upd (fun i => L.uv.ownBlock = some i) w5 w6 := (Upd.refl _ w5).grown hg6 (fun i _ e => e)
      have hun6 : NtRow w6 0 v6 (x.un ++ [p.nt]) := ⟨qs ++ [p], by rw [List.map_append, HQS.out]; rfl, h6, fun q hq => (List.mem_append.1 hq).elim (fun hq => (HQA.out q hq).upd hou (Off.row HROW5.out (by decide))) (fun hq => by rw [List.mem_singleton.1 hq]; exact HV5.out.upd hou (Off.row HROW5.out (by decide)))⟩
      obtain ⟨hs1, hs2, hs3⟩ := HH5.out.setUn hun6 hg6 hv6
      obtain ⟨A6, n6, c6, hsl⟩ := h6.shp
      rw [hsl] at hs1 hs2
      have HS6 := Lib.hid (And.intro hs1 (And.intro hs2 hs3))
      have hb0 := HM5.out.b0.upd hs3 (HH5.out.boxF HM5.out.b0).1
      have hb2 := HM5.out.b2.upd hs3 (HH5.out.boxF HM5.out.b2).1
      have HB6 := Lib.hid hb0
      have HR6 := Lib.hid hb2
      rw [hsl]
      have k1 : w6.cell? ⟨w.heap.size, 1, none⟩ = some L.uv := hb0.cell 1
      rw [HUV.out] at k1
      have hfz := hb0.frozen
      have glt := hb0.lt
      clear hqs hqa hrow hql h6 hg6 hv6 hou hun6 hs1 hs2 hs3 hsl hb0 hb2
      refine hK.out _ _ ?_ (fun hHeld => ?_)
      · exact k1
      clear hK K
      try simp only [Act.put, sA, sZ, sS]
      refine tkZN (i := 9) rfl ?_
      try simp only [Act.put, sA, sZ, sS]
      refine stZZ (i := 10) rfl (fun K hK => ?_)
      go_simp
      refine hK.out _ _ ?_
      clear hK K
      try simp only [Act.put, sA, sZ, sS]
      refine wpZ_done (by kernel_rfl) ?_ _
      clear hHeld
      have hp6 : ChPost w5 n B L ({ x with un := x.un ++ [p.nt] } : Chn) { L with uv := .slice A6 n6 c6 } w6 := ⟨HS6.out.1, rfl, rfl, HS6.out.2.1, HS6.out.2.2⟩
      have hp7 := (ChPost.pre HN5.out hp6).box HB6.out (Nat.le_refl _) ((Upd.refl _ w6).setIn 1 (.slice A6 n6 c6))
      rw [← HACT.out] at hp7
      have hA : SpAft w n (B + 15) L (x.act n s.stp) { L with uv := .slice A6 n6 c6 } (w6.setCell ⟨w.heap.size, 1, none⟩ (.slice A6 n6 c6)) := ⟨hp7.mono (by omega), HB6.out.set_ 1 _, HR6.out.upd ((Upd.refl (· = w.heap.size) w6).setIn 1 _) (by omega)⟩
      clear hp6 hp7 k0 k1 hfz glt el hgl p0 p1 p2 p3 pz q0 q1 q2 q3 q4 q5 q6 q7 qz hgu
      generalize w6.setCell ⟨w.heap.size, 1, none⟩ (.slice A6 n6 c6) = w7 at *
      generalize ({ L with uv := .slice A6 n6 c6 } : ChL) = L1 at *
      have HA : Hid (SpAft w n (B + 15) L (x.act n s.stp) L1 w7) := Lib.hid hA
      clear hA
      obtain ⟨p0, p1, p2, p3, pz⟩ := Blk3G HA.out.bx
      obtain ⟨r0, r1, r2, r3, rz⟩ := Blk3G HA.out.rs
      go_wp2_with fail
      refine (gather_any HA.out.po.1 hn (by omega) (by have := HUN.out; omega)).mono ?_
      rintro e w9 ⟨L2, rfl, hp2⟩
      have hr9 := HA.out.rs.upd hp2.2.2.2.2 (HA.out.po.1.boxF HA.out.rs).1
      have HR9 := Lib.hid hr9
      have HP9 := Lib.hid (ChPost.trans HA.out.po (hp2.mono (Nat.le_refl _)))
      clear p0 p1 p2 p3 pz r0 r1 r2 r3 rz
      obtain ⟨r0, r1, r2, r3, rz⟩ := Blk3G hr9
      obtain ⟨A1, n1, c1, h1⟩ := hp2.1.l.shp
      obtain ⟨A2, c2, h2⟩ := hp2.1.un.shape
      obtain ⟨qs, _, hq3, _⟩ := hp2.1.cs
      obtain ⟨A3, n3, c3, h3⟩ := hq3.shp
      rw [h1, h2, h3]
      have H1 := Lib.hid h1
      have H2 := Lib.hid h2
      have H3 := Lib.hid h3
      clear hr9 hp2 hq3 h1 h2 h3
      go_wp2_with fail
      exact bodyPost_ret (v := .agg #[.slice A1 n1 c1, .slice A2 ((x.act n s.stp).gather n).un.length c2, .slice A3 n3 c3]) (by simp [results, Tryz.results24, go_sem, r1, r2, r3]) rfl ⟨L2, by rw [H1.out, H2.out, H3.out], (HP9.out.box HR9.out (by omega) ((((Upd.refl _ w9).setIn 0 _).setIn 1 _).setIn 2 _)).mono (by omega)⟩
end
end Go.Proofs.YtecniafnihpjmaaGreatDoor

/- Chapter 23 (config): removing a node, the members that are left in a block of ints of their own. Printed by genRpR.py. -/
namespace Go.Proofs.YtecniafnihpjmaaGreatDoor
open Go.RowKit Go.Lap C
set_option linter.unusedVariables false
set_option linter.unusedSimpArgs false
theorem tslOf {α : Type} {w : World} {e size g n c : Nat} {enc : α → List Value} {l : List α} {cs : Array Value} (hb : Blk w g e cs) (h : SlIn w size enc (.slice (some ⟨g, 0, none⟩) n c) l) : TSl w e size enc (.slice (some ⟨g, 0, none⟩) n c) l := by
  obtain ⟨A, c', hv, hlc, hh⟩ := h
  cases hv
  refine ⟨_, _, rfl, hlc, hh.imp id ?_⟩
  rintro ⟨b, off, hA, hlt, hc⟩
  cases hA
  exact ⟨g, 0, cs, rfl, hb, fun k x hx j u hu => (hb.cell _).symm.trans (hc k x hx j u hu)⟩
theorem blk_putRow {α : Type} [Inhabited α] {w : World} {g t : Nat} {cs : Array Value} (h : Blk w g t cs) (f : α → Value) (o : Nat) (r : Array α) : ∃ cs', Blk (Sort.putRow f w g o r) g t cs' := by
  unfold Blk at *
  refine ⟨Sort.putCells f o r cs, ?_⟩
  unfold Sort.putRow Sort.mapBlock
  dsimp only
  rw [Array.getElem?_modify, if_pos rfl, h]
  rfl
def DelPostT (w : World) (g cap : Nat) (ms : List Int) (i : Nat) (e : Ending) (w' : World) : Prop :=
  e = .returned (.slice (some ⟨g, 0, none⟩) (ms.length - 1) cap) ∧ TSl w' 3 1 iEnc (.slice (some ⟨g, 0, none⟩) (ms.length - 1) cap) (ms.eraseIdx i) ∧ Upd (· = g) w w'
def CfgPostT (w : World) (r : Cfg × Int) (e : Ending) (w' : World) : Prop := ∃ u, e = .returned (.tuple #[.agg #[.int .u64 (r.1.e : Int), u], .int .i64 r.2]) ∧ TSl w' 3 1 iEnc u r.1.ms ∧ New w w'
theorem CfgPostT.bad {w w' : World} {r : Cfg × Int} {c : Int} (hr : r = (⟨0, []⟩, c)) (hn : New w w') : CfgPostT w r (.returned (.tuple #[.agg #[.int .u64 0, .slice none 0 0], .int .i64 c])) w' := by
  subst hr
  exact ⟨.slice none 0 0, rfl, TSl.nil _ _ _ _ none 0, hn⟩
theorem delete_t (base g cap : Nat) (ms : List Int) (i : Nat) (w : World) (ho : Owns w base 3 1 iEnc (.slice (some ⟨g, 0, none⟩) ms.length cap) ms) (hi : i < ms.length) :
    Calls Tryz.prog 86 #[.slice (some ⟨g, 0, none⟩) ms.length cap, .int .i64 (i : Int), .int .i64 ((i + 1 : Nat) : Int)] w (DelPostT w g cap ms i) := by
  obtain ⟨g', cap', cur, hv, _, hB, hlc, hm⟩ := owns_at ho (by intro h; rw [h] at hi; simp at hi)
  cases hv
  obtain ⟨A', c', hv, _, hh⟩ := Owns.slIn iEncOk ho
  cases hv
  rcases hh with rfl | ⟨b, off, hA, hb, hc⟩
  · simp at hi
  cases hA
  have hc0 := SlIn.ints hc
  have hH : Sort.Holds (Value.int .i64) w g 0 ms.toArray := fun j hj => by
    have hj' : j < ms.length := by simpa using hj
    refine ⟨?_, hB.frozen _⟩
    rw [hc0 j hj', List.getD_eq_getElem?_getD, List.getElem?_eq_getElem hj']
    simp [hj']
  refine (Tryz.slices_Delete_int g 0 cap i (i + 1) ms w hH hlc (by unfold maxLen at hm; omega) (by omega) (by omega)).mono ?_
  rintro e w' ⟨rfl, q, rfl⟩
  have hlen : (ms.take i ++ ms.drop (i + 1) ++ List.replicate (i + 1 - i) (0 : Int)).toArray.size = ms.toArray.size := by simp; omega
  have hU : Upd (· = g) w (Sort.putRow (Value.int .i64) (Sort.ahead w q) g 0 (ms.take i ++ ms.drop (i + 1) ++ List.replicate (i + 1 - i) (0 : Int)).toArray) := by
    refine ⟨rfl, rfl, rfl, by rw [Sort.size_putRow]; exact Nat.le_refl _, fun k hk hne => ?_⟩
    show (w.heap.modify g _)[k]? = _
    rw [Array.getElem?_modify, if_neg (fun h => hne h.symm)]
  obtain ⟨cs', hB'⟩ := blk_putRow (w := Sort.ahead w q) hB (Value.int .i64) 0 (ms.take i ++ ms.drop (i + 1) ++ List.replicate (i + 1 - i) (0 : Int)).toArray
  refine ⟨by rw [show i + 1 - i = 1 by omega], tslOf hB' ⟨some ⟨g, 0, none⟩, cap, by rw [List.length_eraseIdx_of_lt hi], by rw [List.length_eraseIdx_of_lt hi]; omega, .inr ⟨g, 0, rfl, Nat.lt_of_lt_of_le hb hU.size, ?_⟩⟩, hU⟩
  intro k x hx j u hu
  obtain ⟨hk, hx2⟩ := List.getElem?_eq_some_iff.1 hx
  rw [List.length_eraseIdx_of_lt hi] at hk
  have hj0 : j = 0 := by
    have := (List.getElem?_eq_some_iff.1 hu).1
    simp [iEnc] at this
    exact this
  subst hj0
  have hu' : u = .int .i64 x := (Option.some.inj hu).symm
  subst hu'
  have h1 := Sort.cell?_putRow (Value.int .i64) (Sort.ahead w q) g 0 ms.toArray _ (Sort.holds_ahead _ w q g 0 _ hH) hlen k (by rw [hlen]; simp; omega)
  rw [show (0 : Nat) + k * 1 + 0 = 0 + k by omega, h1]
  congr 2
  rw [List.eraseIdx_eq_take_drop_succ] at hx
  have h2 : (ms.take i ++ ms.drop (i + 1) ++ List.replicate (i + 1 - i) (0 : Int))[k]? = some x := by
    rw [List.getElem?_append_left (by simp; omega)]
    exact hx
  obtain ⟨h3, h4⟩ := List.getElem?_eq_some_iff.1 h2
  rw [getElem!_pos _ k (by simpa using h3)]
  simpa using h4

set_option maxRecDepth 100000 in
set_option maxHeartbeats 8000000 in
theorem remove_t (e : Nat) (v : Value) (ms : List Int) (n : Int) (w : World) (he : e < 18446744073709551616) (hl : ms.length ≤ 1000000000) (hs : SlIn w 1 iEnc v ms) :
    Calls Tryz.prog 51 #[.agg #[.int .u64 (e : Int), v], .int .i64 n] w (CfgPostT w (remC ⟨e, ms⟩ n)) := by
  obtain ⟨A, m, cap, rfl⟩ := hs.shape
  obtain ⟨A', c', hv, hlc, -⟩ := id hs
  cases hv
  have hN := ((New.refl w).alloc (.cells #[.int .u64 (e : Int), .slice A ms.length cap] 25)).alloc (.cells #[.int .u64 0, .slice none 0 0] 25)
  have hB := (Blk.mk_new w 25 #[.int .u64 (e : Int), .slice A ms.length cap]).alloc (.cells #[.int .u64 0, .slice none 0 0] 25)
  have hR := Blk.mk_new (w.alloc (.cells #[.int .u64 (e : Int), .slice A ms.length cap] 25)) 25 #[.int .u64 0, .slice none 0 0]
  rw [World.size_alloc] at hR
  have HS := Lib.hid (hs.new hN)
  clear hs
  go_enter Tryz.func51, Tryz.ntmps51
  go_upto_region 1 with fail
  generalize (w.alloc _).alloc _ = w1 at *
  obtain ⟨p0, p1, p2, pz⟩ := Blk2F hB
  obtain ⟨q0, q1, q2, qz⟩ := Blk2F hR
  go_wp2_with fail
  refine (C.place_any e _ ms n w1 hl HS.out).mono ?_
  rintro e1 w2 ⟨rfl, hn2⟩
  have hB2 := hB.new hn2
  have hR2 := hR.new hn2
  have hN2 := hN.trans hn2
  have HS2 := Lib.hid (HS.out.new hn2)
  clear hB hR hN HS hn2
  clear p0 p1 p2 pz q0 q1 q2 qz
  obtain ⟨p0, p1, p2, pz⟩ := Blk2F hB2
  obtain ⟨q0, q1, q2, qz⟩ := Blk2F hR2
  have hchk := C.check_any e _ ms w2 hl HS2.out
  cases hck : chkC ⟨e, ms⟩ with
  | false =>
    have HF := Lib.hid (show remC ⟨e, ms⟩ n = (⟨0, []⟩, 230) by unfold remC; rw [if_pos (.inl hck)]; rfl)
    rw [hck] at hchk
    clear hck
    go_wp2_with fail
    refine hchk.mono ?_
    rintro e1 w3 ⟨rfl, hn3⟩
    have hB3 := hB2.new hn3
    have hR3 := hR2.new hn3
    have hN3 := hN2.trans hn3
    have HS3 := Lib.hid (HS2.out.new hn3)
    clear hB2 hR2 hN2 HS2 hn3
    clear p0 p1 p2 pz q0 q1 q2 qz
    obtain ⟨p0, p1, p2, pz⟩ := Blk2F hB3
    obtain ⟨q0, q1, q2, qz⟩ := Blk2F hR3
    go_wp2_with fail
    exact bodyPost_ret (v := .tuple #[.agg #[.int .u64 0, .slice none 0 0], .int .i64 230]) (by simp [results, Tryz.results51, go_sem, q1, q2]) rfl (CfgPostT.bad HF.out (by first | exact hN3 | exact (hN3.setCell (p := ⟨w.heap.size + 1, 0, none⟩) (by simp) _).setCell (p := ⟨w.heap.size + 1, 1, none⟩) (by simp) _))
  | true =>
    have HK := Lib.hid hck
    rw [hck] at hchk
    clear hck
    go_wp2_with fail
    refine hchk.mono ?_
    rintro e1 w3 ⟨rfl, hn3⟩
    have hB3 := hB2.new hn3
    have hR3 := hR2.new hn3
    have hN3 := hN2.trans hn3
    have HS3 := Lib.hid (HS2.out.new hn3)
    clear hB2 hR2 hN2 HS2 hn3
    clear p0 p1 p2 pz q0 q1 q2 qz
    obtain ⟨p0, p1, p2, pz⟩ := Blk2F hB3
    obtain ⟨q0, q1, q2, qz⟩ := Blk2F hR3
    by_cases hla : e = 4611686018427387904
    · have HF := Lib.hid (show remC ⟨e, ms⟩ n = (⟨0, []⟩, 230) by unfold remC; rw [if_pos (.inr hla)]; rfl)
      have hle : ((e : Int) == 4611686018427387904) = true := by rw [beq_iff_eq]; omega
      clear hla
      go_wp2_with fail
      exact bodyPost_ret (v := .tuple #[.agg #[.int .u64 0, .slice none 0 0], .int .i64 230]) (by simp [results, Tryz.results51, go_sem, q1, q2]) rfl (CfgPostT.bad HF.out (by first | exact hN3 | exact (hN3.setCell (p := ⟨w.heap.size + 1, 0, none⟩) (by simp) _).setCell (p := ⟨w.heap.size + 1, 1, none⟩) (by simp) _))
    have hle : ((e : Int) == 4611686018427387904) = false := by rw [beq_eq_false_iff_ne]; omega
    have hnf : ¬ (chkC ⟨e, ms⟩ = false ∨ e = lastE) := by rw [HK.out]; rintro (h | h); cases h; exact hla h
    have HNF := Lib.hid hnf
    clear hnf
    rcases place_cases ms n with ⟨hni, hp⟩ | ⟨i, hi, hx, hnt, hp⟩
    · have HF := Lib.hid (show remC ⟨e, ms⟩ n = (⟨0, []⟩, 231) by unfold remC; rw [if_neg HNF.out, if_pos (place_neg.2 hni)]; rfl)
      rw [hp]
      clear hni hp
      go_wp2_with fail
      exact bodyPost_ret (v := .tuple #[.agg #[.int .u64 0, .slice none 0 0], .int .i64 231]) (by simp [results, Tryz.results51, go_sem, q1, q2]) rfl (CfgPostT.bad HF.out (by first | exact hN3 | exact (hN3.setCell (p := ⟨w.heap.size + 1, 0, none⟩) (by simp) _).setCell (p := ⟨w.heap.size + 1, 1, none⟩) (by simp) _))
    have hnn : ¬ placeC ms n < 0 := by omega
    have HNN := Lib.hid hnn
    have HP := Lib.hid hp
    rw [hp]
    clear hnn hp hnt hx
    by_cases h1 : ms.length = 1
    · have HF := Lib.hid (show remC ⟨e, ms⟩ n = (⟨0, []⟩, 232) by unfold remC; rw [if_neg HNF.out, if_neg HNN.out, if_pos h1]; rfl)
      have h1b : ((ms.length : Int) == 1) = true := by rw [beq_iff_eq]; omega
      have hi0 : ¬ (i : Int) < 0 := by omega
      clear h1
      go_wp2_with fail
      exact bodyPost_ret (v := .tuple #[.agg #[.int .u64 0, .slice none 0 0], .int .i64 232]) (by simp [results, Tryz.results51, go_sem, q1, q2]) rfl (CfgPostT.bad HF.out (by first | exact hN3 | exact (hN3.setCell (p := ⟨w.heap.size + 1, 0, none⟩) (by simp) _).setCell (p := ⟨w.heap.size + 1, 1, none⟩) (by simp) _))
    have h1b : ((ms.length : Int) == 1) = false := by rw [beq_eq_false_iff_ne]; omega
    have hi0 : ¬ (i : Int) < 0 := by omega
    have HF := Lib.hid (show remC ⟨e, ms⟩ n = (⟨e + 1, ms.eraseIdx i⟩, 0) by unfold remC; rw [if_neg HNF.out, if_neg HNN.out, if_neg h1, HP.out]; rfl)
    have hw1 : IntKind.u64.wrap ((e : Int) + 1) = ((e + 1 : Nat) : Int) := by have := (chk_parts HK.out).2.1; simp only [lastE] at this; rw [IntKind.wrap_u64]; omega
    have hw2 : IntKind.i64.wrap ((i : Int) + 1) = ((i + 1 : Nat) : Int) := by rw [IntWalk.i64_in _ (by omega)]; omega
    have hne : ms ≠ [] := by intro h; rw [h] at hi; simp at hi
    have HNE := Lib.hid hne
    clear hne h1
    have HI := Lib.hid hi
    have HB3 := Lib.hid hB3
    have HR3 := Lib.hid hR3
    clear hi hB3 hR3
    go_upto_region 8 with fail
    refine wp_region_held_drew (S := fun w' => New w w' ∧ w'.cell? ⟨w.heap.size, 0, none⟩ = some (.int .u64 (e : Int)) ∧ w'.cell? ⟨w.heap.size, 1, none⟩ = some (.slice A ms.length cap)) (by kernel_rfl) (by first | exact ⟨hN3.drew, p1, p2⟩) (fun hHeld => ?_)
    refine tkN (i := 0) rfl ?_
    try simp only [Act.put, sA, sZ, sS]
    refine tkN (i := 1) rfl ?_
    try simp only [Act.put, sA, sZ, sS]
    refine tkN (i := 2) rfl ?_
    try simp only [Act.put, sA, sZ, sS]
    refine tkN (i := 3) rfl ?_
    try simp only [Act.put, sA, sZ, sS]
    refine tkN (i := 4) rfl ?_
    try simp only [Act.put, sA, sZ, sS]
    refine tkN (i := 6) rfl ?_
    try simp only [Act.put, sA, sZ, sS]
    refine tkN (i := 7) rfl ?_
    try simp only [Act.put, sA, sZ, sS]
    refine tkN (i := 8) rfl ?_
    try simp only [Act.put, sA, sZ, sS]
    refine stN (i := 5) rfl (fun K hK => ?_)
    go_simp
    refine (C.clone_any _ ms _ hl (HS3.out.new (New.refl w3).drew)).mono ?_
    rintro e1 w4 ⟨u4, rfl, ho4, hn4⟩
    obtain ⟨g4, cap4, cur4, rfl, hg4, hb4, -, -⟩ := owns_at ho4 HNE.out
    have hn4b := (New.refl w3).drew.trans hn4
    have hN4 := hN3.trans hn4b
    have hBb := HB3.out.new hn4b
    have hRb := HR3.out.new hn4b
    refine hK.out _ _ ?_ (fun hHeld => ?_)
    · exact by obtain ⟨t0, t1, t2, tz⟩ := Blk2F hBb; exact ⟨hN4, t1, t2⟩
    clear hK K
    try simp only [Act.put, sA, sZ, sS]
    refine stN (i := 9) rfl (fun K hK => ?_)
    go_simp
    refine (delete_t _ g4 cap4 ms i _ ho4 HI.out).mono ?_
    rintro e1 w5 ⟨rfl, hsl5, hu5⟩
    have hg4w : w.heap.size + 2 ≤ g4 := by have h1 := hRb.lt; have h2 : w3.drew.heap.size = w3.heap.size := rfl; have h3 := HR3.out.lt; omega
    have hN5 := hN4.upd hu5 (fun k hk => by omega)
    have hBc := hBb.upd hu5 (by omega)
    have hRc := hRb.upd hu5 (by omega)
    obtain ⟨q0, q1, q2, qz⟩ := Blk2F hRc
    refine hK.out _ _ ?_ (fun hHeld => ?_)
    · exact by obtain ⟨t0, t1, t2, tz⟩ := Blk2F hBc; exact ⟨hN5, t1, t2⟩
    clear hK K
    try simp only [Act.put, sA, sZ, sS]
    refine tkN (i := 10) rfl ?_
    try simp only [Act.put, sA, sZ, sS]
    refine stN (i := 11) rfl (fun K hK => ?_)
    go_simp
    have hN6 := (hN5.setCell (p := ⟨w.heap.size + 1, 0, none⟩) (by simp) (.int .u64 ((e : Int) + 1))).setCell (p := ⟨w.heap.size + 1, 1, none⟩) (by simp) (.slice (some ⟨g4, 0, none⟩) (ms.length - 1) cap4)
    have hB6 := (hBc.far (p := ⟨w.heap.size + 1, 0, none⟩) (by simp) (.int .u64 ((e : Int) + 1))).far (p := ⟨w.heap.size + 1, 1, none⟩) (by simp) (.slice (some ⟨g4, 0, none⟩) (ms.length - 1) cap4)
    have hS6 := TSl.upd (S := (· = w.heap.size + 1)) hsl5 (((Upd.refl _ w5).setIn 0 (.int .u64 ((e : Int) + 1))).setIn 1 (.slice (some ⟨g4, 0, none⟩) (ms.length - 1) cap4)) (Off.blk hRc (by decide))
    refine hK.out _ _ ?_ (fun hHeld => ?_)
    · exact by obtain ⟨t0, t1, t2, tz⟩ := Blk2F hB6; exact ⟨hN6, t1, t2⟩
    clear hK K
    try simp only [Act.put, sA, sZ, sS]
    refine tkN (i := 12) rfl ?_
    try simp only [Act.put, sA, sZ, sS]
    refine wpAnyH_done (by kernel_rfl) ?_ _
    clear hHeld
    go_wp2_with fail
    exact bodyPost_ret (v := .tuple #[.agg #[.int .u64 ((e : Int) + 1), .slice (some ⟨g4, 0, none⟩) (ms.length - 1) cap4], .int .i64 0]) (by simp [results, Tryz.results51, go_sem, q1, q2]) rfl (by unfold CfgPostT; rw [HF.out]; exact ⟨_, rfl, hS6, hN6⟩)

end Go.Proofs.YtecniafnihpjmaaGreatDoor

/- Chapter 24 (replica): the law's step, by kinds. Printed by genRpI.py. -/
namespace Go.Proofs.YtecniafnihpjmaaGreatDoor
open Go.RowKit Go.Lap C
set_option linter.unusedVariables false
set_option linter.unusedSimpArgs false
section
variable {w w' W wa : World} {S : Nat → Prop} {n B D a : Nat} {L : ChL} {x : Chn} {s : StV} {nw : CfgV}
/-- The configurations turn. -/
theorem ChAt.setCs (h : ChAt w n B L x) {v : Value} {u : List Cfg} (hu : CfRow w' 0 v u) (hg : w.grownBy w' L.cv.ownBlock) (hv : v.ownBlock = L.cv.ownBlock ∨ v.ownBlock = some w.heap.size) :
    ChAt w' n B { L with cv := v } { x with cs := u } ∧ (∀ k, ChF n { L with cv := v } k → ChF n L k ∨ w.heap.size ≤ k) ∧ Upd (ChF n L) w w' := by
  obtain ⟨ps, _, hps, _⟩ := h.un
  obtain ⟨qs, _, hqs, _⟩ := h.cs
  have hup : Upd (fun k => L.cv.ownBlock = some k) w w' := (Upd.refl _ w).grown hg (fun k _ e => e)
  have hW : Off w 97 (fun k => L.cv.ownBlock = some k) := Off.row hqs (by decide)
  have hI : Off w 3 (fun k => L.cv.ownBlock = some k) := Off.row hqs (by decide)
  refine ⟨⟨h.l.upd hup (fun k hk e => Row.ne_row h.l hqs (by decide) hk e), h.un.upd hup (fun k hk e => h.cvF k e (.inr hk)) hW, hu, fun i hi => (h.rp i hi).upd hup (fun k hk e => h.cvF k e (.inl ⟨i, hi, hk⟩)) hW hI, h.dj, h.out⟩, ?_, hup.mono (fun k _ e => .inr (.inr e))⟩
  rintro k (hk | hk | hk)
  · exact .inl (.inl hk)
  · exact .inl (.inr (.inl hk))
  · dsimp only at hk
    rcases hv with hv | hv
    · rw [hv] at hk; exact .inl (.inr (.inr hk))
    · rw [hv] at hk; cases hk; exact .inr (Nat.le_refl _)
set_option maxRecDepth 100000 in
set_option maxHeartbeats 16000000 in
theorem step_remove (h : ChAt w n B L x) (hn0 : 0 < n) (hn : n ≤ 7) (hB : B ≤ 979000) (hu : x.un.length ≤ 300) (hs : StOk w s) (hcs : CsOk n x.cs x.newest) (hcl : x.cs.length ≤ 1000) (hk : s.kind = 5) :
    Calls Tryz.prog 24 #[.agg #[L.lv, L.uv, L.cv], s.val] w (ChRet w n (B + 20) L (x.step n s.stp)) := by
  have hN := ((New.refl w).alloc (.cells #[L.lv, L.uv, L.cv] 64)).alloc (.cells s.cells 70) |>.alloc (.cells #[.slice none 0 0, .slice none 0 0, .slice none 0 0] 64)
  have hb0 := ((Blk.mk_new w 64 #[L.lv, L.uv, L.cv]).alloc (.cells s.cells 70)).alloc (.cells #[.slice none 0 0, .slice none 0 0, .slice none 0 0] 64)
  have hb1 := (blk_two2 w (.cells #[L.lv, L.uv, L.cv] 64) 70 s.cells).alloc (.cells #[.slice none 0 0, .slice none 0 0, .slice none 0 0] 64)
  have hb2 := blk_three w (.cells #[L.lv, L.uv, L.cv] 64) (.cells s.cells 70) 64 #[.slice none 0 0, .slice none 0 0, .slice none 0 0]
  have HLT := Lib.hid h.lt
  have HH := Lib.hid h
  have HN := Lib.hid hN
  have HWZ : Hid ((((w.alloc (.cells #[L.lv, L.uv, L.cv] 64)).alloc (.cells s.cells 70)).alloc (.cells #[.slice none 0 0, .slice none 0 0, .slice none 0 0] 64)).heap.size = w.heap.size + 1 + 1 + 1) := Lib.hid (by simp)
  have HCS := Lib.hid hcs
  have HS := Lib.hid hs
  obtain ⟨Al, nl, cl0, hlv⟩ := h.l.shp
  have hln : L.lv = .slice Al n cl0 := by obtain ⟨a, c, e⟩ := h.l.shape; rw [hlv] at e; cases e; simp [hlv]
  obtain ⟨Au, cu, huv⟩ := h.un.shape
  obtain ⟨ps, hps, hrc, hca⟩ := h.cs
  have hpl : ps.length = x.cs.length := by rw [← hps, List.length_map]
  have hl1 : x.cs.length - 1 < ps.length := by have := (List.getElem?_eq_some_iff.1 hcs.nwAt).1; omega
  obtain ⟨nwv, hnwv⟩ : ∃ p, ps[x.cs.length - 1]? = some p := ⟨_, List.getElem?_eq_getElem hl1⟩
  have HNW : Hid (nwv.c = x.newest) := Lib.hid (by
    have h1 : (ps.map CfgV.c)[x.cs.length - 1]? = some nwv.c := by rw [List.getElem?_map, hnwv]; rfl
    rw [hps, hcs.nwAt] at h1
    exact (Option.some.inj h1).symm)
  obtain ⟨gc, offc, capc, hcv, _, hrcA⟩ := hrc.at_ (by intro e; rw [e] at hl1; simp at hl1)
  have e0 : w.cell? ⟨gc, offc + (x.cs.length - 1) * 2, none⟩ = some (.int .u64 (nwv.c.e : Int)) := hrcA.cell CfgV.encOk hnwv (j := 0) rfl
  have e1 : w.cell? ⟨gc, offc + (x.cs.length - 1) * 2 + 1, none⟩ = some nwv.sl := hrcA.cell CfgV.encOk hnwv (j := 1) rfl
  have hgc : gc < w.heap.size := hrcA.lt
  have HNA := Lib.hid (hca nwv (List.mem_of_getElem? hnwv))
  rw [hpl] at hcv
  have HLN := Lib.hid hln
  have HUV := Lib.hid huv
  have HCV := Lib.hid hcv
  have hcl1 : 1 ≤ x.cs.length := by omega
  obtain ⟨m, hm⟩ : ∃ m, x.cs.length = m + 1 := ⟨x.cs.length - 1, by omega⟩
  have HMC := Lib.hid hm
  rw [hm, Nat.add_sub_cancel] at e0 e1
  obtain ⟨p0, p1, p2, p3, pz⟩ := Blk3G hb0
  unfold StV.cells at *
  obtain ⟨q0, q1, q2, q3, q4, q5, q6, q7, qz⟩ := Blk7I hb1
  obtain ⟨r0, r1, r2, r3, rz⟩ := Blk3G hb2
  have HB0 := Lib.hid hb0
  have HB1 := Lib.hid hb1
  have HB2 := Lib.hid hb2
  have E0 := (hN.cells.1 gc (offc + m * 2) hgc).trans e0
  have E1 := (hN.cells.1 gc (offc + m * 2 + 1) hgc).trans e1
  have hgc2 := Nat.lt_of_lt_of_le hgc hN.size
  have hnode := hs.node
  have hat := hs.at_
  unfold CfgV.sl at E1
  have hn1 : (0 : Int) < (n : Int) := by omega
  obtain ⟨kk, hkk⟩ : ∃ kk, kk = s.node % n := ⟨_, rfl⟩
  have hkn : kk < n := by rw [hkk]; exact Nat.mod_lt _ hn0
  have hrem : (s.node : Int) % (n : Int) = (kk : Int) := by rw [hkk]; omega
  have hkn2 : (kk : Int) < (n : Int) := by omega
  have hkk0 : (0 : Int) ≤ (kk : Int) := by omega
  have HKN := Lib.hid hkk
  obtain ⟨aa, haa⟩ : ∃ aa, aa = atS x s := ⟨_, rfl⟩
  have HAA := Lib.hid haa
  clear hkk haa
  have hwi : IntKind.i64.wrap (s.node : Int) = (s.node : Int) := IntWalk.i64_in _ (by omega)
  have hwa : IntKind.i64.wrap (s.at_ : Int) = (s.at_ : Int) := IntWalk.i64_in _ (by omega)
  have hwm : IntKind.i64.wrap (m : Int) = (m : Int) := IntWalk.i64_in _ (by omega)
  have hm1 : (m : Int) < (m : Int) + 1 := by omega
  have hm0 : (0 : Int) ≤ (m : Int) := by omega
  clear h hN hb0 hb1 hb2 hcs hs hlv hln huv hps hrc hca hpl hl1 hnwv hcv hrcA e0 e1 hm hcl1
  have hk0 : (s.kind == 0) = false := by rw [hk]; rfl
  have hk1 : (s.kind == 1) = false := by rw [hk]; rfl
  have hk2 : (s.kind == 2) = false := by rw [hk]; rfl
  have hk3 : (s.kind == 3) = false := by rw [hk]; rfl
  have hk4 : (s.kind == 4) = false := by rw [hk]; rfl
  have hk5 : (s.kind == 5) = true := by rw [hk]; rfl
  have hk6 : (s.kind == 6) = false := by rw [hk]; rfl
  have HK := Lib.hid hk
  clear hk
  unfold StV.val StV.cells
  go_enter Tryz.func24, Tryz.ntmps24
  go_upto_region 1 with fail
  generalize ((w.alloc _).alloc _).alloc _ = W at *
  rw [HLN.out] at p1
  rw [HUV.out] at p2
  rw [HCV.out, HMC.out] at p3
  obtain ⟨tb, htb1⟩ : ∃ tb : Bool, decide ((0 : Int) < (x.un.length : Int)) = tb := ⟨_, rfl⟩
  have htb2 : decide (0 < x.un.length) = tb := by rw [← htb1]; simp
  have HTB := Lib.hid htb2
  go_upto_region 3 with fail
  go_upto_if 22 with fail
  go_cut [6] (fun s6 wx => s6 = .int .i64 (aa : Int) ∧ wx = W)
  case first =>
    have htb3 := HTB.out
    clear htb1 htb2
    cases tb with
    | false =>
      have ha0 : aa = 0 := by rw [HAA.out]; unfold atS; rw [if_pos (by simpa using htb3)]
      clear htb3
      go_wp2_with fail
      go_meet
      exact ⟨by rw [ha0]; rfl, rfl⟩
    | true =>
      have hun : 0 < x.un.length := by simpa using htb3
      have hr2 : (s.at_ : Int) % (x.un.length : Int) = (aa : Int) := by rw [HAA.out]; unfold atS; rw [if_neg (by omega)]; omega
      have hu0 : ¬ (x.un.length : Int) = 0 := by omega
      have hu1 : (0 : Int) < (x.un.length : Int) := by omega
      clear htb3 hun
      go_wp2_with fail
      go_meet
      exact ⟨by rw [hr2], rfl⟩
  case rest =>
    obtain ⟨h6, hwc⟩ := hcut
    rw [h6, hwc, hrem]
    clear h6 hwc hrem
    have hn4 := (New.refl W).alloc (.cells #[.int .u64 (nwv.c.e : Int), .slice nwv.A nwv.c.ms.length nwv.n] 25)
    have hz3 : W.heap.size = w.heap.size + 1 + 1 + 1 := HWZ.out
    have HM4 : Hid (SpM (W.alloc (.cells #[.int .u64 (nwv.c.e : Int), .slice nwv.A nwv.c.ms.length nwv.n] 25)) w.heap.size L s nwv) := Lib.hid ⟨HB0.out.new hn4, HB1.out.new hn4, HB2.out.new hn4, by
      have := Blk.mk_new W 25 #[.int .u64 (nwv.c.e : Int), .slice nwv.A nwv.c.ms.length nwv.n]
      rw [hz3] at this
      exact this⟩
    have HN4 := Lib.hid (HN.out.trans hn4)
    have HH4 := Lib.hid (HH.out.new HN4.out)
    clear hz3 hn4
    go_upto_region 6 with fail
    generalize W.alloc (.cells #[.int .u64 (nwv.c.e : Int), .slice nwv.A nwv.c.ms.length nwv.n] 25) = W4 at *
    clear p0 p1 p2 p3 pz q0 q1 q2 q3 q4 q5 q6 q7 qz r0 r1 r2 r3 rz E0 E1 hgc hgc2 hwm hm1 hm0 hwi hwa
    obtain ⟨p0, p1, p2, p3, pz⟩ := Blk3G HM4.out.b0
    have hb1 := HM4.out.b1
    unfold StV.cells at hb1
    obtain ⟨q0, q1, q2, q3, q4, q5, q6, q7, qz⟩ := Blk7I hb1
    clear hb1
    rw [HLN.out] at p1
    obtain ⟨gl, ol, cl2, hlv2, hcl2, el, hgl⟩ := HH4.out.node hkn
    rw [HLN.out] at hlv2
    cases hlv2
    obtain ⟨d, er, hrm⟩ : ∃ d er, remC ⟨nwv.c.e, nwv.c.ms⟩ (kk : Int) = (d, er) := ⟨_, _, rfl⟩
    have HRM := Lib.hid hrm
    have HRX : Hid (remC x.newest ((s.node % n : Nat) : Int) = (d, er)) := Lib.hid (by rw [← HKN.out, ← HNW.out]; exact hrm)
    have HA4 : Hid (CfgAt W4 nwv) := Lib.hid (HNA.out.upd (S := fun _ => False) (Upd.new HN4.out) (Off.no _ _))
    have hrem5 := remove_t nwv.c.e (.slice nwv.A nwv.c.ms.length nwv.n) nwv.c.ms (kk : Int) W4 HA4.out.e (by have := HA4.out.l; omega) HA4.out.sl.slIn
    rw [hrm] at hrem5
    clear hrm
    obtain ⟨g0, g1, g2, gz⟩ := Blk2I HM4.out.b3
    rw [HWZ.out]
    go_wp2_with fail
    refine hrem5.mono ?_
    rintro e w5 ⟨u5, rfl, ht5, hn5⟩
    obtain ⟨A5, c5, rfl⟩ := ht5.shape
    have hn6 := hn5.alloc (.cells #[.int .u64 (d.e : Int), .slice A5 d.ms.length c5] 25)
    have hb6 := Blk.mk_new w5 25 #[.int .u64 (d.e : Int), .slice A5 d.ms.length c5]
    have HT5 := Lib.hid ht5
    have HN56 := Lib.hid hn6
    have HB6 := Lib.hid hb6
    have HN6 := Lib.hid (HN4.out.trans hn6)
    have HH6 := Lib.hid (HH4.out.new hn6)
    have HM6 := Lib.hid (HM4.out.new hn6)
    have HT6 := Lib.hid (ht5.new ((New.refl w5).alloc (.cells #[.int .u64 (d.e : Int), .slice A5 d.ms.length c5] 25)))
    clear ht5 hn5 hn6 hb6 hrem5 p0 p1 p2 p3 pz q0 q1 q2 q3 q4 q5 q6 q7 qz g0 g1 g2 gz el hgl
    go_upto_region 23 with fail
    have hz5 : w5.heap.size = w5.heap.size := rfl
    generalize w5.alloc (.cells #[.int .u64 (d.e : Int), .slice A5 d.ms.length c5] 25) = w6 at *
    by_cases hz : er = 0
    case neg =>
      have hact : x.act n s.stp = x := by
        unfold Chn.act StV.stp
        dsimp only
        rw [HK.out, if_neg (by decide), if_neg (by decide), if_neg (by decide), if_neg (by decide), if_pos rfl, HRX.out, if_neg hz]
      have HACT := Lib.hid hact
      have HUN : Hid ((x.act n s.stp).un.length ≤ 301) := Lib.hid (by rw [hact]; omega)
      have hzb : (er == 0) = false := beq_eq_false_iff_ne.2 hz
      clear hact hz
      obtain ⟨w7, hw7⟩ : ∃ w7, w7 = w6 := ⟨_, rfl⟩
      obtain ⟨L1, hL1⟩ : ∃ L1, L1 = L := ⟨_, rfl⟩
      have hA : SpAft w n (B + 15) L (x.act n s.stp) L1 w7 := by rw [hL1, hw7, HACT.out]; exact ⟨ChPost.pre HN6.out ((ChPost.refl HH6.out).mono (by omega)), HM6.out.b0, HM6.out.b2⟩
      rw [← hw7]
      clear hw7 hL1
      have HA : Hid (SpAft w n (B + 15) L (x.act n s.stp) L1 w7) := Lib.hid hA
      clear hA
      obtain ⟨p0, p1, p2, p3, pz⟩ := Blk3G HA.out.bx
      obtain ⟨r0, r1, r2, r3, rz⟩ := Blk3G HA.out.rs
      go_wp2_with fail
      refine (gather_any HA.out.po.1 hn (by omega) (by have := HUN.out; omega)).mono ?_
      rintro e w9 ⟨L2, rfl, hp2⟩
      have hr9 := HA.out.rs.upd hp2.2.2.2.2 (HA.out.po.1.boxF HA.out.rs).1
      have HR9 := Lib.hid hr9
      have HP9 := Lib.hid (ChPost.trans HA.out.po (hp2.mono (Nat.le_refl _)))
      clear p0 p1 p2 p3 pz r0 r1 r2 r3 rz
      obtain ⟨r0, r1, r2, r3, rz⟩ := Blk3G hr9
      obtain ⟨A1, n1, c1, h1⟩ := hp2.1.l.shp
      obtain ⟨A2, c2, h2⟩ := hp2.1.un.shape
      obtain ⟨qs, _, hq3, _⟩ := hp2.1.cs
      obtain ⟨A3, n3, c3, h3⟩ := hq3.shp
      rw [h1, h2, h3]
      have H1 := Lib.hid h1
      have H2 := Lib.hid h2
      have H3 := Lib.hid h3
      clear hr9 hp2 hq3 h1 h2 h3
      go_wp2_with fail
      exact bodyPost_ret (v := .agg #[.slice A1 n1 c1, .slice A2 ((x.act n s.stp).gather n).un.length c2, .slice A3 n3 c3]) (by simp [results, Tryz.results24, go_sem, r1, r2, r3]) rfl ⟨L2, by rw [H1.out, H2.out, H3.out], (HP9.out.box HR9.out (by omega) ((((Upd.refl _ w9).setIn 0 _).setIn 1 _).setIn 2 _)).mono (by omega)⟩
    case pos =>
      subst hz
      have hact : x.act n s.stp = { x with cs := x.cs ++ [d] } := by
        unfold Chn.act StV.stp
        dsimp only
        rw [HK.out, if_neg (by decide), if_neg (by decide), if_neg (by decide), if_neg (by decide), if_pos rfl, HRX.out, if_pos rfl]
      have HACT := Lib.hid hact
      have HUN : Hid ((x.act n s.stp).un.length ≤ 301) := Lib.hid (by rw [hact]; show x.un.length ≤ 301; omega)
      have HD : Hid (CfgAt w6 ⟨d, A5, c5⟩) := Lib.hid (by
        obtain ⟨h1, h2, h3, h4, h5⟩ := rem_chk HRX.out
        have h6 := (chk_parts h2).2.1
        refine ⟨HT6.out, ?_, ?_⟩
        · have := HNA.out.l
          rw [HNW.out] at this
          show d.ms.length ≤ 1000
          omega
        · show d.e < big
          unfold lastE at h6
          unfold big
          omega)
      have hn7 := (New.refl w6).alloc (.cells #[.int .u64 (d.e : Int), .slice A5 d.ms.length c5] 25)
      have HP7 := Lib.hid (Blk.mk_new w6 25 #[.int .u64 (d.e : Int), .slice A5 d.ms.length c5])
      have HN7 := Lib.hid (HN6.out.trans hn7)
      have HH7 := Lib.hid (HH6.out.new hn7)
      have HM7 := Lib.hid (HM6.out.new hn7)
      have HD7 := Lib.hid (HD.out.upd (S := fun _ => False) (Upd.new hn7) (Off.no _ _))
      obtain ⟨qs, hqs, hrow, hqa⟩ := HH7.out.cs
      have HQS := Lib.hid hqs
      have HQA := Lib.hid hqa
      have HROW7 := Lib.hid hrow
      have hql : qs.length ≤ 1000 := by have := hcl; rw [← hqs, List.length_map] at this; exact this
      rw [HCV.out] at hrow
      obtain ⟨p0, p1, p2, p3, pz⟩ := Blk3G HM6.out.b0
      obtain ⟨g0, g1, g2, gz⟩ := Blk2I HB6.out
      rw [HCV.out] at p3
      clear hact hn7 hqs hqa
      go_upto_region 31 with (
        at_builtin
        refine wpList_appR (m := [(⟨d, A5, c5⟩ : CfgV)]) cfgTy CfgV.encOk rfl (.tmp 135) (.tmp 137) rfl rfl rfl hrow (SlIn.one HP7.out CfgV.encOk rfl) (by simp; unfold maxLen; omega) (by simp; omega) (Nat.zero_le _) ?_
        intro v8 w8 h8 hg8 hv8
        rw [← HCV.out] at hg8 hv8
        have hou : Upd (fun i => L.cv.ownBlock = some i) (w6.alloc (.cells #[.int .u64 (d.e : Int), .slice A5 d.ms.length c5] 25)) w8 := (Upd.refl _ _).grown hg8 (fun i _ e => e)
        have hcs8 : CfRow w8 0 v8 (x.cs ++ [d]) := ⟨qs ++ [⟨d, A5, c5⟩], by rw [List.map_append, HQS.out]; rfl, h8, fun q hq => (List.mem_append.1 hq).elim (fun hq => (HQA.out q hq).upd hou (Off.row HROW7.out (by decide))) (fun hq => by rw [List.mem_singleton.1 hq]; exact HD7.out.upd hou (Off.row HROW7.out (by decide)))⟩
        obtain ⟨hs1, hs2, hs3⟩ := HH7.out.setCs hcs8 hg8 hv8
        obtain ⟨A8, n8, c8, hsl⟩ := h8.shp
        rw [hsl] at hs1 hs2
        have HS8 := Lib.hid (And.intro hs1 (And.intro hs2 hs3))
        have hb0 := HM7.out.b0.upd hs3 (HH7.out.boxF HM7.out.b0).1
        have hb2 := HM7.out.b2.upd hs3 (HH7.out.boxF HM7.out.b2).1
        have HB8 := Lib.hid hb0
        have HR8 := Lib.hid hb2
        rw [hsl]
        have hfz := hb0.frozen
        have glt := hb0.lt
        have k2 : w8.cell? ⟨w.heap.size, 2, none⟩ = some L.cv := hb0.cell 2
        rw [HCV.out] at k2
        clear h8 hg8 hv8 hou hcs8 hs1 hs2 hs3 hsl hb0 hb2 p0 p1 p2 p3 pz g0 g1 g2 gz hrow)
      have hp8 : ChPost (w6.alloc (.cells #[.int .u64 (d.e : Int), .slice A5 d.ms.length c5] 25)) n B L ({ x with cs := x.cs ++ [d] } : Chn) { L with cv := .slice A8 n8 c8 } w8 := ⟨HS8.out.1, rfl, rfl, HS8.out.2.1, HS8.out.2.2⟩
      have hp9 := (ChPost.pre HN7.out hp8).box HB8.out (Nat.le_refl _) ((Upd.refl _ w8).setIn 2 (.slice A8 n8 c8))
      rw [← HACT.out] at hp9
      have hA : SpAft w n (B + 15) L (x.act n s.stp) { L with cv := .slice A8 n8 c8 } (w8.setCell ⟨w.heap.size, 2, none⟩ (.slice A8 n8 c8)) := ⟨hp9.mono (by omega), HB8.out.set_ 2 _, HR8.out.upd ((Upd.refl (· = w.heap.size) w8).setIn 2 _) (by omega)⟩
      clear hp8 hp9 hfz glt k2
      generalize w8.setCell ⟨w.heap.size, 2, none⟩ (.slice A8 n8 c8) = w7 at *
      generalize ({ L with cv := .slice A8 n8 c8 } : ChL) = L1 at *
      have HA : Hid (SpAft w n (B + 15) L (x.act n s.stp) L1 w7) := Lib.hid hA
      clear hA
      obtain ⟨p0, p1, p2, p3, pz⟩ := Blk3G HA.out.bx
      obtain ⟨r0, r1, r2, r3, rz⟩ := Blk3G HA.out.rs
      go_wp2_with fail
      refine (gather_any HA.out.po.1 hn (by omega) (by have := HUN.out; omega)).mono ?_
      rintro e w9 ⟨L2, rfl, hp2⟩
      have hr9 := HA.out.rs.upd hp2.2.2.2.2 (HA.out.po.1.boxF HA.out.rs).1
      have HR9 := Lib.hid hr9
      have HP9 := Lib.hid (ChPost.trans HA.out.po (hp2.mono (Nat.le_refl _)))
      clear p0 p1 p2 p3 pz r0 r1 r2 r3 rz
      obtain ⟨r0, r1, r2, r3, rz⟩ := Blk3G hr9
      obtain ⟨A1, n1, c1, h1⟩ := hp2.1.l.shp
      obtain ⟨A2, c2, h2⟩ := hp2.1.un.shape
      obtain ⟨qs, _, hq3, _⟩ := hp2.1.cs
      obtain ⟨A3, n3, c3, h3⟩ := hq3.shp
      rw [h1, h2, h3]
      have H1 := Lib.hid h1
      have H2 := Lib.hid h2
      have H3 := Lib.hid h3
      clear hr9 hp2 hq3 h1 h2 h3
      go_wp2_with fail
      exact bodyPost_ret (v := .agg #[.slice A1 n1 c1, .slice A2 ((x.act n s.stp).gather n).un.length c2, .slice A3 n3 c3]) (by simp [results, Tryz.results24, go_sem, r1, r2, r3]) rfl ⟨L2, by rw [H1.out, H2.out, H3.out], (HP9.out.box HR9.out (by omega) ((((Upd.refl _ w9).setIn 0 _).setIn 1 _).setIn 2 _)).mono (by omega)⟩
end
end Go.Proofs.YtecniafnihpjmaaGreatDoor

/- Chapter 24 (replica): the law's step, by kinds. Printed by genRpI.py. -/
namespace Go.Proofs.YtecniafnihpjmaaGreatDoor
open Go.RowKit Go.Lap C
set_option linter.unusedVariables false
set_option linter.unusedSimpArgs false
section
variable {w w' W wa : World} {S : Nat → Prop} {n B D a : Nat} {L : ChL} {x : Chn} {s : StV} {nw : CfgV}
/-- The notes lie in a new row. -/
theorem ChAt.newUn (h : ChAt w n B L x) (hn : New w w') {v : Value} {u : List Nt} (hu : NtRow w' 0 v u) (hv : ∀ k, v.ownBlock = some k → w.heap.size ≤ k) :
    ChAt w' n B { L with uv := v } { x with un := u } ∧ (∀ k, ChF n { L with uv := v } k → ChF n L k ∨ w.heap.size ≤ k) ∧ Upd (ChF n L) w w' := by
  have h2 := h.new hn
  refine ⟨⟨h2.l, hu, h2.cs, h2.rp, h2.dj, fun k hk e => ?_⟩, ?_, Upd.new hn⟩
  · obtain ⟨i, hi, hk⟩ := hk
    have h3 := (h.rp i hi).lt k hk
    have h4 := hv k e
    omega
  · rintro k (hk | hk | hk)
    · exact .inl (.inl hk)
    · exact .inr (hv k hk)
    · exact .inl (.inr (.inr hk))
theorem map_erase {α β : Type} (f : α → β) (l : List α) (k : Nat) : (l.eraseIdx k).map f = (l.map f).eraseIdx k := by
  rw [List.eraseIdx_eq_take_drop_succ, List.eraseIdx_eq_take_drop_succ, List.map_append, List.map_take, List.map_drop]
theorem size_ad2 (w : World) (o : Obj) : (w.alloc o).drew.heap.size = w.heap.size + 1 := World.size_alloc w o
set_option maxRecDepth 100000 in
set_option maxHeartbeats 16000000 in
theorem step_lose (h : ChAt w n B L x) (hn0 : 0 < n) (hn : n ≤ 7) (hB : B ≤ 979000) (hu : x.un.length ≤ 300) (hs : StOk w s) (hcs : CsOk n x.cs x.newest) (hcl : x.cs.length ≤ 1000) (hk : s.kind = 3) :
    Calls Tryz.prog 24 #[.agg #[L.lv, L.uv, L.cv], s.val] w (ChRet w n (B + 20) L (x.step n s.stp)) := by
  have hN := ((New.refl w).alloc (.cells #[L.lv, L.uv, L.cv] 64)).alloc (.cells s.cells 70) |>.alloc (.cells #[.slice none 0 0, .slice none 0 0, .slice none 0 0] 64)
  have hb0 := ((Blk.mk_new w 64 #[L.lv, L.uv, L.cv]).alloc (.cells s.cells 70)).alloc (.cells #[.slice none 0 0, .slice none 0 0, .slice none 0 0] 64)
  have hb1 := (blk_two2 w (.cells #[L.lv, L.uv, L.cv] 64) 70 s.cells).alloc (.cells #[.slice none 0 0, .slice none 0 0, .slice none 0 0] 64)
  have hb2 := blk_three w (.cells #[L.lv, L.uv, L.cv] 64) (.cells s.cells 70) 64 #[.slice none 0 0, .slice none 0 0, .slice none 0 0]
  have HLT := Lib.hid h.lt
  have HH := Lib.hid h
  have HN := Lib.hid hN
  have HWZ : Hid ((((w.alloc (.cells #[L.lv, L.uv, L.cv] 64)).alloc (.cells s.cells 70)).alloc (.cells #[.slice none 0 0, .slice none 0 0, .slice none 0 0] 64)).heap.size = w.heap.size + 1 + 1 + 1) := Lib.hid (by simp)
  have HCS := Lib.hid hcs
  have HS := Lib.hid hs
  obtain ⟨Al, nl, cl0, hlv⟩ := h.l.shp
  have hln : L.lv = .slice Al n cl0 := by obtain ⟨a, c, e⟩ := h.l.shape; rw [hlv] at e; cases e; simp [hlv]
  obtain ⟨Au, cu, huv⟩ := h.un.shape
  obtain ⟨ps, hps, hrc, hca⟩ := h.cs
  have hpl : ps.length = x.cs.length := by rw [← hps, List.length_map]
  have hl1 : x.cs.length - 1 < ps.length := by have := (List.getElem?_eq_some_iff.1 hcs.nwAt).1; omega
  obtain ⟨nwv, hnwv⟩ : ∃ p, ps[x.cs.length - 1]? = some p := ⟨_, List.getElem?_eq_getElem hl1⟩
  have HNW : Hid (nwv.c = x.newest) := Lib.hid (by
    have h1 : (ps.map CfgV.c)[x.cs.length - 1]? = some nwv.c := by rw [List.getElem?_map, hnwv]; rfl
    rw [hps, hcs.nwAt] at h1
    exact (Option.some.inj h1).symm)
  obtain ⟨gc, offc, capc, hcv, _, hrcA⟩ := hrc.at_ (by intro e; rw [e] at hl1; simp at hl1)
  have e0 : w.cell? ⟨gc, offc + (x.cs.length - 1) * 2, none⟩ = some (.int .u64 (nwv.c.e : Int)) := hrcA.cell CfgV.encOk hnwv (j := 0) rfl
  have e1 : w.cell? ⟨gc, offc + (x.cs.length - 1) * 2 + 1, none⟩ = some nwv.sl := hrcA.cell CfgV.encOk hnwv (j := 1) rfl
  have hgc : gc < w.heap.size := hrcA.lt
  have HNA := Lib.hid (hca nwv (List.mem_of_getElem? hnwv))
  rw [hpl] at hcv
  have HLN := Lib.hid hln
  have HUV := Lib.hid huv
  have HCV := Lib.hid hcv
  have hcl1 : 1 ≤ x.cs.length := by omega
  obtain ⟨m, hm⟩ : ∃ m, x.cs.length = m + 1 := ⟨x.cs.length - 1, by omega⟩
  have HMC := Lib.hid hm
  rw [hm, Nat.add_sub_cancel] at e0 e1
  obtain ⟨p0, p1, p2, p3, pz⟩ := Blk3G hb0
  unfold StV.cells at *
  obtain ⟨q0, q1, q2, q3, q4, q5, q6, q7, qz⟩ := Blk7I hb1
  obtain ⟨r0, r1, r2, r3, rz⟩ := Blk3G hb2
  have HB0 := Lib.hid hb0
  have HB1 := Lib.hid hb1
  have HB2 := Lib.hid hb2
  have E0 := (hN.cells.1 gc (offc + m * 2) hgc).trans e0
  have E1 := (hN.cells.1 gc (offc + m * 2 + 1) hgc).trans e1
  have hgc2 := Nat.lt_of_lt_of_le hgc hN.size
  have hnode := hs.node
  have hat := hs.at_
  unfold CfgV.sl at E1
  have hn1 : (0 : Int) < (n : Int) := by omega
  obtain ⟨kk, hkk⟩ : ∃ kk, kk = s.node % n := ⟨_, rfl⟩
  have hkn : kk < n := by rw [hkk]; exact Nat.mod_lt _ hn0
  have hrem : (s.node : Int) % (n : Int) = (kk : Int) := by rw [hkk]; omega
  have hkn2 : (kk : Int) < (n : Int) := by omega
  have hkk0 : (0 : Int) ≤ (kk : Int) := by omega
  have HKN := Lib.hid hkk
  obtain ⟨aa, haa⟩ : ∃ aa, aa = atS x s := ⟨_, rfl⟩
  have HAA := Lib.hid haa
  clear hkk haa
  have hwi : IntKind.i64.wrap (s.node : Int) = (s.node : Int) := IntWalk.i64_in _ (by omega)
  have hwa : IntKind.i64.wrap (s.at_ : Int) = (s.at_ : Int) := IntWalk.i64_in _ (by omega)
  have hwm : IntKind.i64.wrap (m : Int) = (m : Int) := IntWalk.i64_in _ (by omega)
  have hm1 : (m : Int) < (m : Int) + 1 := by omega
  have hm0 : (0 : Int) ≤ (m : Int) := by omega
  clear h hN hb0 hb1 hb2 hcs hs hlv hln huv hps hrc hca hpl hl1 hnwv hcv hrcA e0 e1 hm hcl1
  have hk0 : (s.kind == 0) = false := by rw [hk]; rfl
  have hk1 : (s.kind == 1) = false := by rw [hk]; rfl
  have hk2 : (s.kind == 2) = false := by rw [hk]; rfl
  have hk3 : (s.kind == 3) = true := by rw [hk]; rfl
  have hk4 : (s.kind == 4) = false := by rw [hk]; rfl
  have hk5 : (s.kind == 5) = false := by rw [hk]; rfl
  have hk6 : (s.kind == 6) = false := by rw [hk]; rfl
  have HK := Lib.hid hk
  clear hk
  unfold StV.val StV.cells
  go_enter Tryz.func24, Tryz.ntmps24
  go_upto_region 1 with fail
  generalize ((w.alloc _).alloc _).alloc _ = W at *
  rw [HLN.out] at p1
  rw [HUV.out] at p2
  rw [HCV.out, HMC.out] at p3
  obtain ⟨tb, htb1⟩ : ∃ tb : Bool, decide ((0 : Int) < (x.un.length : Int)) = tb := ⟨_, rfl⟩
  have htb2 : decide (0 < x.un.length) = tb := by rw [← htb1]; simp
  have HTB := Lib.hid htb2
  go_upto_region 3 with fail
  go_upto_if 22 with fail
  go_cut [6] (fun s6 wx => s6 = .int .i64 (aa : Int) ∧ wx = W)
  case first =>
    have htb3 := HTB.out
    clear htb1 htb2
    cases tb with
    | false =>
      have ha0 : aa = 0 := by rw [HAA.out]; unfold atS; rw [if_pos (by simpa using htb3)]
      clear htb3
      go_wp2_with fail
      go_meet
      exact ⟨by rw [ha0]; rfl, rfl⟩
    | true =>
      have hun : 0 < x.un.length := by simpa using htb3
      have hr2 : (s.at_ : Int) % (x.un.length : Int) = (aa : Int) := by rw [HAA.out]; unfold atS; rw [if_neg (by omega)]; omega
      have hu0 : ¬ (x.un.length : Int) = 0 := by omega
      have hu1 : (0 : Int) < (x.un.length : Int) := by omega
      clear htb3 hun
      go_wp2_with fail
      go_meet
      exact ⟨by rw [hr2], rfl⟩
  case rest =>
    obtain ⟨h6, hwc⟩ := hcut
    rw [h6, hwc, hrem]
    clear h6 hwc hrem
    have hn4 := (New.refl W).alloc (.cells #[.int .u64 (nwv.c.e : Int), .slice nwv.A nwv.c.ms.length nwv.n] 25)
    have hz3 : W.heap.size = w.heap.size + 1 + 1 + 1 := HWZ.out
    have HM4 : Hid (SpM (W.alloc (.cells #[.int .u64 (nwv.c.e : Int), .slice nwv.A nwv.c.ms.length nwv.n] 25)) w.heap.size L s nwv) := Lib.hid ⟨HB0.out.new hn4, HB1.out.new hn4, HB2.out.new hn4, by
      have := Blk.mk_new W 25 #[.int .u64 (nwv.c.e : Int), .slice nwv.A nwv.c.ms.length nwv.n]
      rw [hz3] at this
      exact this⟩
    have HN4 := Lib.hid (HN.out.trans hn4)
    have HH4 := Lib.hid (HH.out.new HN4.out)
    clear hz3 hn4
    go_upto_region 6 with fail
    generalize W.alloc (.cells #[.int .u64 (nwv.c.e : Int), .slice nwv.A nwv.c.ms.length nwv.n] 25) = W4 at *
    clear p0 p1 p2 p3 pz q0 q1 q2 q3 q4 q5 q6 q7 qz r0 r1 r2 r3 rz E0 E1 hgc hgc2 hwm hm1 hm0 hwi hwa
    obtain ⟨p0, p1, p2, p3, pz⟩ := Blk3G HM4.out.b0
    have hb1 := HM4.out.b1
    unfold StV.cells at hb1
    obtain ⟨q0, q1, q2, q3, q4, q5, q6, q7, qz⟩ := Blk7I hb1
    clear hb1
    rw [HLN.out] at p1
    obtain ⟨gl, ol, cl2, hlv2, hcl2, el, hgl⟩ := HH4.out.node hkn
    rw [HLN.out] at hlv2
    cases hlv2
    by_cases hun : x.un.length = 0
    · have HE : Hid (x.un = []) := Lib.hid (List.eq_nil_of_length_eq_zero hun)
      have HZ : Hid (x.un.length = 0) := Lib.hid hun
      clear htb1 htb2 hun
      have hact : x.act n s.stp = x := by
        have h0 := HE.out
        unfold Chn.act StV.stp
        dsimp only
        rw [HK.out, h0]
        rfl
      have HACT := Lib.hid hact
      have HUN : Hid ((x.act n s.stp).un.length ≤ 301) := Lib.hid (by rw [hact]; omega)
      clear hact
      have hA : SpAft w n (B + 15) L (x.act n s.stp) L W4 := ⟨by rw [HACT.out]; exact ChPost.pre HN4.out ((ChPost.refl HH4.out).mono (by omega)), HM4.out.b0, HM4.out.b2⟩
      obtain ⟨w7, hw7⟩ : ∃ w7, w7 = W4 := ⟨_, rfl⟩
      obtain ⟨L1, hL1⟩ : ∃ L1, L1 = L := ⟨_, rfl⟩
      have hA : SpAft w n (B + 15) L (x.act n s.stp) L1 w7 := by rw [hL1, hw7]; exact hA
      rw [← hw7]
      rw [← hw7] at q0 q1 q2 q3 q4 q5 q6 q7 qz
      have HUV1 : Hid (L1.uv = .slice Au 0 cu) := Lib.hid (by rw [hL1, HUV.out, HZ.out])
      clear el hgl p0 p1 p2 p3 pz hw7 hL1
      have HA : Hid (SpAft w n (B + 15) L (x.act n s.stp) L1 w7) := Lib.hid hA
      clear hA
      obtain ⟨p0, p1, p2, p3, pz⟩ := Blk3G HA.out.bx
      rw [HUV1.out] at p2
      obtain ⟨r0, r1, r2, r3, rz⟩ := Blk3G HA.out.rs
      go_wp2_with fail
      rw [← HUV1.out]
      refine (gather_any HA.out.po.1 hn (by omega) (by have := HUN.out; omega)).mono ?_
      rintro e w9 ⟨L2, rfl, hp2⟩
      have hr9 := HA.out.rs.upd hp2.2.2.2.2 (HA.out.po.1.boxF HA.out.rs).1
      have HR9 := Lib.hid hr9
      have HP9 := Lib.hid (ChPost.trans HA.out.po (hp2.mono (Nat.le_refl _)))
      clear p0 p1 p2 p3 pz r0 r1 r2 r3 rz
      obtain ⟨r0, r1, r2, r3, rz⟩ := Blk3G hr9
      obtain ⟨A1, n1, c1, h1⟩ := hp2.1.l.shp
      obtain ⟨A2, c2, h2⟩ := hp2.1.un.shape
      obtain ⟨qs, _, hq3, _⟩ := hp2.1.cs
      obtain ⟨A3, n3, c3, h3⟩ := hq3.shp
      rw [h1, h2, h3]
      have H1 := Lib.hid h1
      have H2 := Lib.hid h2
      have H3 := Lib.hid h3
      clear hr9 hp2 hq3 h1 h2 h3
      go_wp2_with fail
      exact bodyPost_ret (v := .agg #[.slice A1 n1 c1, .slice A2 ((x.act n s.stp).gather n).un.length c2, .slice A3 n3 c3]) (by simp [results, Tryz.results24, go_sem, r1, r2, r3]) rfl ⟨L2, by rw [H1.out, H2.out, H3.out], (HP9.out.box HR9.out (by omega) ((((Upd.refl _ w9).setIn 0 _).setIn 1 _).setIn 2 _)).mono (by omega)⟩
    · have hui : (0 : Int) < (x.un.length : Int) := by omega
      clear htb1 htb2
      have haal : aa < x.un.length := by rw [HAA.out]; unfold atS; rw [if_neg hun]; exact Nat.mod_lt _ (by omega)
      obtain ⟨ps, hps, hrow, hall⟩ := HH4.out.un
      have hpl : ps.length = x.un.length := by rw [← hps, List.length_map]
      obtain ⟨p, hp⟩ : ∃ p, ps[aa]? = some p := ⟨_, List.getElem?_eq_getElem (by omega)⟩
      have hnt : x.un[aa]? = some p.nt := by rw [← hps, List.getElem?_map, hp]; rfl
      have HNT := Lib.hid hnt
      have HPV := Lib.hid (hall p (List.mem_of_getElem? hp))
      have HROW := Lib.hid hrow
      obtain ⟨gu, ou, cu2, hvu, _, hrA⟩ := hrow.at_ (by intro e; rw [e] at hpl; simp at hpl; omega)
      rw [HUV.out, hpl] at hvu
      cases hvu
      rw [HUV.out] at p2
      have u0 : W4.cell? ⟨gu, ou + aa * 9, none⟩ = some (.int .i64 p.k) := hrA.cell NtV.encOk hp (j := 0) rfl
      have u1 : W4.cell? ⟨gu, ou + aa * 9 + 1, none⟩ = some (.int .i64 p.fr) := hrA.cell NtV.encOk hp (j := 1) rfl
      have u2 : W4.cell? ⟨gu, ou + aa * 9 + 2, none⟩ = some (.int .i64 p.ds) := hrA.cell NtV.encOk hp (j := 2) rfl
      have u3 : W4.cell? ⟨gu, ou + aa * 9 + 3, none⟩ = some (.int .u64 (p.ep : Int)) := hrA.cell NtV.encOk hp (j := 3) rfl
      have u4 : W4.cell? ⟨gu, ou + aa * 9 + 4, none⟩ = some (.int .u64 (p.t : Int)) := hrA.cell NtV.encOk hp (j := 4) rfl
      have u5 : W4.cell? ⟨gu, ou + aa * 9 + 5, none⟩ = some (.int .u64 (p.v.b.c : Int)) := hrA.cell NtV.encOk hp (j := 5) rfl
      have u6 : W4.cell? ⟨gu, ou + aa * 9 + 6, none⟩ = some (.int .u64 (p.v.b.r : Int)) := hrA.cell NtV.encOk hp (j := 6) rfl
      have u7 : W4.cell? ⟨gu, ou + aa * 9 + 7, none⟩ = some (.int .u64 (p.v.b.s : Int)) := hrA.cell NtV.encOk hp (j := 7) rfl
      have u8 : W4.cell? ⟨gu, ou + aa * 9 + 8, none⟩ = some (p.v.sl) := hrA.cell NtV.encOk hp (j := 8) rfl
      have hgu : gu < W4.heap.size := hrA.lt
      unfold BtV.sl at u8
      have haai : (aa : Int) < (x.un.length : Int) := by omega
      have haa0 : (0 : Int) ≤ (aa : Int) := by omega
      clear hps hrow hall hpl hp hnt hrA
      have hact : x.act n s.stp = { x with un := x.un.eraseIdx aa } := by
        have h1 := HNT.out
        rw [HAA.out] at h1 ⊢
        unfold atS at h1 ⊢
        rw [if_neg hun] at h1 ⊢
        unfold Chn.act StV.stp
        dsimp only
        rw [HK.out, if_neg (by decide), if_pos (by decide), h1]
        exact if_neg (by decide)
      have HACT := Lib.hid hact
      have HUN : Hid ((x.act n s.stp).un.length ≤ 301) := Lib.hid (by rw [hact]; show (x.un.eraseIdx aa).length ≤ 301; have := List.length_eraseIdx_le x.un aa; omega)
      clear hact hun
      go_upto_region 13 with fail
      have hn5 := (New.refl W4).alloc (.cells #[.int .i64 p.k, .int .i64 p.fr, .int .i64 p.ds, .int .u64 (p.ep : Int), .int .u64 (p.t : Int), .int .u64 (p.v.b.c : Int), .int .u64 (p.v.b.r : Int), .int .u64 (p.v.b.s : Int), .slice p.v.A p.v.b.l.length p.v.c] 93)
      have HP5 := Lib.hid (Blk.mk_new W4 93 #[.int .i64 p.k, .int .i64 p.fr, .int .i64 p.ds, .int .u64 (p.ep : Int), .int .u64 (p.t : Int), .int .u64 (p.v.b.c : Int), .int .u64 (p.v.b.r : Int), .int .u64 (p.v.b.s : Int), .slice p.v.A p.v.b.l.length p.v.c])
      have HN5W := Lib.hid hn5
      have HH5 := Lib.hid (HH4.out.new hn5)
      have HM5 := Lib.hid (HM4.out.new hn5)
      have HN5 := Lib.hid (HN4.out.trans hn5)
      clear hn5 u0 u1 u2 u3 u4 u5 u6 u7 u8 p0 p1 p2 p3 pz q0 q1 q2 q3 q4 q5 q6 q7 qz hgu
      generalize W4.alloc (.cells #[.int .i64 p.k, .int .i64 p.fr, .int .i64 p.ds, .int .u64 (p.ep : Int), .int .u64 (p.t : Int), .int .u64 (p.v.b.c : Int), .int .u64 (p.v.b.r : Int), .int .u64 (p.v.b.s : Int), .slice p.v.A p.v.b.l.length p.v.c] 93) = w5 at *
      obtain ⟨p0, p1, p2, p3, pz⟩ := Blk3G HM5.out.b0
      rw [HUV.out] at p2
      have hb1 := HM5.out.b1
      unfold StV.cells at hb1
      obtain ⟨q0, q1, q2, q3, q4, q5, q6, q7, qz⟩ := Blk7I hb1
      clear hb1
      obtain ⟨qs, hqs, hqrow, hqa⟩ := HH5.out.un
      have HQS := Lib.hid hqs
      have HQA := Lib.hid hqa
      have HQROW := Lib.hid hqrow
      have HQL : Hid (qs.length = x.un.length ∧ x.un.length ≤ 300 ∧ aa < x.un.length) := Lib.hid ⟨by rw [← hqs, List.length_map], hu, haal⟩
      have hsl5 := hqrow.slIn NtV.encOk
      rw [HUV.out] at hsl5
      have HCU : Hid (x.un.length ≤ cu) := Lib.hid (by have := hsl5.cap_le.1; have := HQL.out; omega)
      have hw13 : IntKind.i64.wrap ((aa : Int) + 1) = ((aa + 1 : Nat) : Int) := by rw [IntWalk.i64_in _ (by omega)]; omega
      have h13a : ((aa + 1 : Nat) : Int) ≤ (x.un.length : Int) := by omega
      have h13b : (aa : Int) ≤ (cu : Int) := by have := HCU.out; omega
      have h13c : (0 : Int) ≤ ((aa + 1 : Nat) : Int) := by omega
      have h13d : (x.un.length : Int) ≤ (cu : Int) := by have := HCU.out; omega
      have h13e : (aa : Int) + 1 ≤ (x.un.length : Int) := by omega
      have h13f : (0 : Int) ≤ (aa : Int) + 1 := by omega
      have h13g : (aa : Int) ≤ (aa : Int) + 1 := by omega
      clear hqs hqrow hqa hsl5
      by_cases hcap : cu = aa + 1
      case pos =>
        subst hcap
        refine wp_region_z [13] (fun w' => w'.cell? ⟨w.heap.size, 1, none⟩ = some (.slice (some ⟨gu, ou, none⟩) x.un.length (aa + 1))) (by kernel_rfl) (p2) (fun hHeld => ?_)
        refine tkZN (i := 1) rfl ?_
        try simp only [Act.put, sA, sZ, sS]
        refine tkZN (i := 2) rfl ?_
        try simp only [Act.put, sA, sZ, sS]
        refine tkZN (i := 3) rfl ?_
        try simp only [Act.put, sA, sZ, sS]
        refine tkZN (i := 4) rfl ?_
        try simp only [Act.put, sA, sZ, sS]
        refine tkZN (i := 6) rfl ?_
        try simp only [Act.put, sA, sZ, sS]
        refine tkZN (i := 7) rfl ?_
        try simp only [Act.put, sA, sZ, sS]
        refine tkZN (i := 8) rfl ?_
        try simp only [Act.put, sA, sZ, sS]
        refine tkZN (i := 9) rfl ?_
        try simp only [Act.put, sA, sZ, sS]
        refine tkZN (i := 10) rfl ?_
        try simp only [Act.put, sA, sZ, sS]
        refine stZN (i := 0) rfl (fun K hK => ?_)
        go_simp
        have hn6 := ((New.refl w5).alloc (.cells #[] 93)).drew
        have HE6 := Lib.hid (Blk.mk_new w5 93 #[]).drew
        have HZ6 : Hid ((w5.alloc (.cells #[] 93)).drew.heap.size = w5.heap.size + 1) := Lib.hid (by rw [size_ad2])
        have HN6 := Lib.hid hn6
        generalize (w5.alloc (.cells #[] 93)).drew = w6 at *
        have hb6 := HM5.out.b0.new hn6
        have k1 : w6.cell? ⟨w.heap.size, 1, none⟩ = some L.uv := hb6.cell 1
        rw [HUV.out] at k1
        have hs6 := HQROW.out.slIn NtV.encOk |>.new hn6
        rw [HUV.out] at hs6
        have HS6 := Lib.hid hs6
        have hrow6 : Row w6 w5.heap.size 93 9 NtV.enc (.slice (some ⟨w5.heap.size, 0, none⟩) 0 0) ([] : List NtV) := .inr ⟨w5.heap.size, 0, 0, #[], rfl, Nat.le_refl _, HE6.out, Nat.le_refl _, by decide, by simp, by simp⟩
        have HR6 := Lib.hid hrow6
        clear hn6 hb6 hs6 hrow6
        refine hK.out _ _ ?_ (fun hHeld => ?_)
        · exact k1
        clear hK K
        try simp only [Act.put, sA, sZ, sS]
        refine stZN (i := 5) rfl (fun K hK => ?_)
        refine step_appR (m := qs.take aa) ntTy NtV.encOk rfl (.tmp 63) (.tmp 67) rfl rfl rfl HR6.out (HS6.out.take (by have := HQL.out; omega) (by have := HQL.out; have := HCU.out; omega)) (by have := HQL.out; simp; unfold maxLen; omega) (by have := HQL.out; simp; omega) (by have := HZ6.out; omega) ?_
        intro v7 w7 h7 hg7 hv7
        have hu7 : Upd (· = w5.heap.size) w6 w7 := (Upd.refl _ w6).grown hg7 (fun i _ e => (Option.some.inj e).symm)
        have hn7 : New w5 w7 := HN6.out.upd hu7 (fun k hk => by omega)
        have hb7 := HM5.out.b0.new hn7
        have k2 : w7.cell? ⟨w.heap.size, 1, none⟩ = some L.uv := hb7.cell 1
        rw [HUV.out] at k2
        have hs7 := HQROW.out.slIn NtV.encOk |>.new hn7
        rw [HUV.out] at hs7
        have HS7 := Lib.hid hs7
        have HR7 := Lib.hid h7
        have HN7 := Lib.hid hn7
        have HZ7 : Hid (w5.heap.size ≤ w7.heap.size) := Lib.hid hn7.size
        clear h7 hg7 hv7 hu7 hn7 hb7 hs7
        refine hK.out _ _ ?_ (fun hHeld => ?_)
        · exact k2
        clear hK K
        try simp only [Act.put, sA, sZ, sS]
        refine stZN (i := 11) rfl (fun K hK => ?_)
        refine step_appR (m := qs.drop (aa + 1)) ntTy NtV.encOk rfl (.tmp 68) (.tmp 73) rfl rfl rfl HR7.out (by first | exact HS7.out.drop_at (k := aa + 1) (by have := HQL.out; omega) hcap | exact HS7.out.drop_end (by have := HQL.out; omega)) (by have := HQL.out; simp; unfold maxLen; omega) (by have := HQL.out; simp; omega) HZ7.out ?_
        intro v8 w8 h8 hg8 hv8
        have hu8 : Upd (fun i => v7.ownBlock = some i) w7 w8 := (Upd.refl _ w7).grown hg8 (fun i _ e => e)
        have hn8 : New w5 w8 := HN7.out.upd hu8 (fun k hk => (HR7.out.lt k hk).1)
        have hun8 : NtRow w8 0 v8 (x.un.eraseIdx aa) := ⟨qs.take aa ++ qs.drop (aa + 1), by rw [← List.eraseIdx_eq_take_drop_succ, ← HQS.out, map_erase], by have := h8.lower (Nat.zero_le _); rwa [List.nil_append] at this, fun q hq => (HQA.out q ((List.mem_append.1 hq).elim List.mem_of_mem_take List.mem_of_mem_drop)).new hn8⟩
        have hlt8 := h8.lt
        obtain ⟨hs1, hs2, hs3⟩ := HH5.out.newUn hn8 hun8 (fun k hk => (hlt8 k hk).1)
        obtain ⟨A8, n8, c8, hsl⟩ := h8.shp
        rw [hsl] at hs1 hs2
        have HS8 := Lib.hid (And.intro hs1 (And.intro hs2 hs3))
        have HN8 := Lib.hid hn8
        have hb8 := HM5.out.b0.new hn8
        have HB8 := Lib.hid hb8
        rw [hsl]
        have k3 : w8.cell? ⟨w.heap.size, 1, none⟩ = some L.uv := hb8.cell 1
        rw [HUV.out] at k3
        have hfz := hb8.frozen
        have glt := hb8.lt
        clear h8 hg8 hv8 hu8 hn8 hun8 hlt8 hs1 hs2 hs3 hsl hb8
        refine hK.out _ _ ?_ (fun hHeld => ?_)
        · exact k3
        clear hK K
        try simp only [Act.put, sA, sZ, sS]
        refine tkZN (i := 12) rfl ?_
        try simp only [Act.put, sA, sZ, sS]
        refine stZZ (i := 13) rfl (fun K hK => ?_)
        go_simp
        refine hK.out _ _ ?_
        clear hK K
        try simp only [Act.put, sA, sZ, sS]
        refine wpZ_done (by kernel_rfl) ?_ _
        clear hHeld
        have hu9 : Upd (· = w.heap.size) w8 (w8.setCell ⟨w.heap.size, 1, none⟩ (.slice A8 n8 c8)) := (Upd.refl _ w8).setIn 1 _
        have hp8 : ChPost w5 n B L ({ x with un := x.un.eraseIdx aa } : Chn) { L with uv := .slice A8 n8 c8 } w8 := ⟨HS8.out.1, rfl, rfl, HS8.out.2.1, HS8.out.2.2⟩
        have hp9 := (ChPost.pre HN5.out hp8).box HB8.out (Nat.le_refl _) hu9
        have HM9 : Hid (SpM (w8.setCell ⟨w.heap.size, 1, none⟩ (.slice A8 n8 c8)) w.heap.size { L with uv := .slice A8 n8 c8 } s nwv) := Lib.hid ⟨HB8.out.set_ 1 _, (HM5.out.b1.new HN8.out).upd hu9 (by omega), (HM5.out.b2.new HN8.out).upd hu9 (by omega), (HM5.out.b3.new HN8.out).upd hu9 (by omega)⟩
        have HP9 := Lib.hid ((HP5.out.new HN8.out).upd hu9 (by have := HM4.out.b0.lt; omega))
        have HC9 := Lib.hid hp9
        have HV9 := Lib.hid (((HPV.out.new HN5W.out).new HN8.out).upd hu9 (Off.blk HB8.out (by decide)))
        clear hp8 hp9 hu9 k1 k2 k3 hfz glt p0 p1 p3 pz q0 q1 q2 q3 q4 q5 q6 q7 qz
        generalize w8.setCell ⟨w.heap.size, 1, none⟩ (.slice A8 n8 c8) = w9 at *
        generalize ({ L with uv := .slice A8 n8 c8 } : ChL) = L9 at *
        have hA : SpAft w n (B + 15) L (x.act n s.stp) L9 w9 := ⟨by rw [HACT.out]; exact HC9.out.mono (by omega), HM9.out.b0, HM9.out.b2⟩
        have hb1 := HM9.out.b1
        unfold StV.cells at hb1
        obtain ⟨q0, q1, q2, q3, q4, q5, q6, q7, qz⟩ := Blk7I hb1
        clear hb1 el hgl
        have HA : Hid (SpAft w n (B + 15) L (x.act n s.stp) L9 w9) := Lib.hid hA
        clear hA
        obtain ⟨p0, p1, p2, p3, pz⟩ := Blk3G HA.out.bx
        obtain ⟨r0, r1, r2, r3, rz⟩ := Blk3G HA.out.rs
        go_wp2_with fail
        refine (gather_any HA.out.po.1 hn (by omega) (by have := HUN.out; omega)).mono ?_
        rintro e w9 ⟨L2, rfl, hp2⟩
        have hr9 := HA.out.rs.upd hp2.2.2.2.2 (HA.out.po.1.boxF HA.out.rs).1
        have HR9 := Lib.hid hr9
        have HP9 := Lib.hid (ChPost.trans HA.out.po (hp2.mono (Nat.le_refl _)))
        clear p0 p1 p2 p3 pz r0 r1 r2 r3 rz
        obtain ⟨r0, r1, r2, r3, rz⟩ := Blk3G hr9
        obtain ⟨A1, n1, c1, h1⟩ := hp2.1.l.shp
        obtain ⟨A2, c2, h2⟩ := hp2.1.un.shape
        obtain ⟨qs, _, hq3, _⟩ := hp2.1.cs
        obtain ⟨A3, n3, c3, h3⟩ := hq3.shp
        rw [h1, h2, h3]
        have H1 := Lib.hid h1
        have H2 := Lib.hid h2
        have H3 := Lib.hid h3
        clear hr9 hp2 hq3 h1 h2 h3
        go_wp2_with fail
        exact bodyPost_ret (v := .agg #[.slice A1 n1 c1, .slice A2 ((x.act n s.stp).gather n).un.length c2, .slice A3 n3 c3]) (by simp [results, Tryz.results24, go_sem, r1, r2, r3]) rfl ⟨L2, by rw [H1.out, H2.out, H3.out], (HP9.out.box HR9.out (by omega) ((((Upd.refl _ w9).setIn 0 _).setIn 1 _).setIn 2 _)).mono (by omega)⟩
      case neg =>
        refine wp_region_z [13] (fun w' => w'.cell? ⟨w.heap.size, 1, none⟩ = some (.slice (some ⟨gu, ou, none⟩) x.un.length cu)) (by kernel_rfl) (p2) (fun hHeld => ?_)
        refine tkZN (i := 1) rfl ?_
        try simp only [Act.put, sA, sZ, sS]
        refine tkZN (i := 2) rfl ?_
        try simp only [Act.put, sA, sZ, sS]
        refine tkZN (i := 3) rfl ?_
        try simp only [Act.put, sA, sZ, sS]
        refine tkZN (i := 4) rfl ?_
        try simp only [Act.put, sA, sZ, sS]
        refine tkZN (i := 6) rfl ?_
        try simp only [Act.put, sA, sZ, sS]
        refine tkZN (i := 7) rfl ?_
        try simp only [Act.put, sA, sZ, sS]
        refine tkZN (i := 8) rfl ?_
        try simp only [Act.put, sA, sZ, sS]
        refine tkZN (i := 9) rfl ?_
        try simp only [Act.put, sA, sZ, sS]
        refine tkZN (i := 10) rfl ?_
        try simp only [Act.put, sA, sZ, sS]
        refine stZN (i := 0) rfl (fun K hK => ?_)
        go_simp
        have hn6 := ((New.refl w5).alloc (.cells #[] 93)).drew
        have HE6 := Lib.hid (Blk.mk_new w5 93 #[]).drew
        have HZ6 : Hid ((w5.alloc (.cells #[] 93)).drew.heap.size = w5.heap.size + 1) := Lib.hid (by rw [size_ad2])
        have HN6 := Lib.hid hn6
        generalize (w5.alloc (.cells #[] 93)).drew = w6 at *
        have hb6 := HM5.out.b0.new hn6
        have k1 : w6.cell? ⟨w.heap.size, 1, none⟩ = some L.uv := hb6.cell 1
        rw [HUV.out] at k1
        have hs6 := HQROW.out.slIn NtV.encOk |>.new hn6
        rw [HUV.out] at hs6
        have HS6 := Lib.hid hs6
        have hrow6 : Row w6 w5.heap.size 93 9 NtV.enc (.slice (some ⟨w5.heap.size, 0, none⟩) 0 0) ([] : List NtV) := .inr ⟨w5.heap.size, 0, 0, #[], rfl, Nat.le_refl _, HE6.out, Nat.le_refl _, by decide, by simp, by simp⟩
        have HR6 := Lib.hid hrow6
        clear hn6 hb6 hs6 hrow6
        refine hK.out _ _ ?_ (fun hHeld => ?_)
        · exact k1
        clear hK K
        try simp only [Act.put, sA, sZ, sS]
        refine stZN (i := 5) rfl (fun K hK => ?_)
        refine step_appR (m := qs.take aa) ntTy NtV.encOk rfl (.tmp 63) (.tmp 67) rfl rfl rfl HR6.out (HS6.out.take (by have := HQL.out; omega) (by have := HQL.out; have := HCU.out; omega)) (by have := HQL.out; simp; unfold maxLen; omega) (by have := HQL.out; simp; omega) (by have := HZ6.out; omega) ?_
        intro v7 w7 h7 hg7 hv7
        have hu7 : Upd (· = w5.heap.size) w6 w7 := (Upd.refl _ w6).grown hg7 (fun i _ e => (Option.some.inj e).symm)
        have hn7 : New w5 w7 := HN6.out.upd hu7 (fun k hk => by omega)
        have hb7 := HM5.out.b0.new hn7
        have k2 : w7.cell? ⟨w.heap.size, 1, none⟩ = some L.uv := hb7.cell 1
        rw [HUV.out] at k2
        have hs7 := HQROW.out.slIn NtV.encOk |>.new hn7
        rw [HUV.out] at hs7
        have HS7 := Lib.hid hs7
        have HR7 := Lib.hid h7
        have HN7 := Lib.hid hn7
        have HZ7 : Hid (w5.heap.size ≤ w7.heap.size) := Lib.hid hn7.size
        clear h7 hg7 hv7 hu7 hn7 hb7 hs7
        refine hK.out _ _ ?_ (fun hHeld => ?_)
        · exact k2
        clear hK K
        try simp only [Act.put, sA, sZ, sS]
        refine stZN (i := 11) rfl (fun K hK => ?_)
        refine step_appR (m := qs.drop (aa + 1)) ntTy NtV.encOk rfl (.tmp 68) (.tmp 73) rfl rfl rfl HR7.out (by first | exact HS7.out.drop_at (k := aa + 1) (by have := HQL.out; omega) hcap | exact HS7.out.drop_end (by have := HQL.out; omega)) (by have := HQL.out; simp; unfold maxLen; omega) (by have := HQL.out; simp; omega) HZ7.out ?_
        intro v8 w8 h8 hg8 hv8
        have hu8 : Upd (fun i => v7.ownBlock = some i) w7 w8 := (Upd.refl _ w7).grown hg8 (fun i _ e => e)
        have hn8 : New w5 w8 := HN7.out.upd hu8 (fun k hk => (HR7.out.lt k hk).1)
        have hun8 : NtRow w8 0 v8 (x.un.eraseIdx aa) := ⟨qs.take aa ++ qs.drop (aa + 1), by rw [← List.eraseIdx_eq_take_drop_succ, ← HQS.out, map_erase], by have := h8.lower (Nat.zero_le _); rwa [List.nil_append] at this, fun q hq => (HQA.out q ((List.mem_append.1 hq).elim List.mem_of_mem_take List.mem_of_mem_drop)).new hn8⟩
        have hlt8 := h8.lt
        obtain ⟨hs1, hs2, hs3⟩ := HH5.out.newUn hn8 hun8 (fun k hk => (hlt8 k hk).1)
        obtain ⟨A8, n8, c8, hsl⟩ := h8.shp
        rw [hsl] at hs1 hs2
        have HS8 := Lib.hid (And.intro hs1 (And.intro hs2 hs3))
        have HN8 := Lib.hid hn8
        have hb8 := HM5.out.b0.new hn8
        have HB8 := Lib.hid hb8
        rw [hsl]
        have k3 : w8.cell? ⟨w.heap.size, 1, none⟩ = some L.uv := hb8.cell 1
        rw [HUV.out] at k3
        have hfz := hb8.frozen
        have glt := hb8.lt
        clear h8 hg8 hv8 hu8 hn8 hun8 hlt8 hs1 hs2 hs3 hsl hb8
        refine hK.out _ _ ?_ (fun hHeld => ?_)
        · exact k3
        clear hK K
        try simp only [Act.put, sA, sZ, sS]
        refine tkZN (i := 12) rfl ?_
        try simp only [Act.put, sA, sZ, sS]
        refine stZZ (i := 13) rfl (fun K hK => ?_)
        go_simp
        refine hK.out _ _ ?_
        clear hK K
        try simp only [Act.put, sA, sZ, sS]
        refine wpZ_done (by kernel_rfl) ?_ _
        clear hHeld
        have hu9 : Upd (· = w.heap.size) w8 (w8.setCell ⟨w.heap.size, 1, none⟩ (.slice A8 n8 c8)) := (Upd.refl _ w8).setIn 1 _
        have hp8 : ChPost w5 n B L ({ x with un := x.un.eraseIdx aa } : Chn) { L with uv := .slice A8 n8 c8 } w8 := ⟨HS8.out.1, rfl, rfl, HS8.out.2.1, HS8.out.2.2⟩
        have hp9 := (ChPost.pre HN5.out hp8).box HB8.out (Nat.le_refl _) hu9
        have HM9 : Hid (SpM (w8.setCell ⟨w.heap.size, 1, none⟩ (.slice A8 n8 c8)) w.heap.size { L with uv := .slice A8 n8 c8 } s nwv) := Lib.hid ⟨HB8.out.set_ 1 _, (HM5.out.b1.new HN8.out).upd hu9 (by omega), (HM5.out.b2.new HN8.out).upd hu9 (by omega), (HM5.out.b3.new HN8.out).upd hu9 (by omega)⟩
        have HP9 := Lib.hid ((HP5.out.new HN8.out).upd hu9 (by have := HM4.out.b0.lt; omega))
        have HC9 := Lib.hid hp9
        have HV9 := Lib.hid (((HPV.out.new HN5W.out).new HN8.out).upd hu9 (Off.blk HB8.out (by decide)))
        clear hp8 hp9 hu9 k1 k2 k3 hfz glt p0 p1 p3 pz q0 q1 q2 q3 q4 q5 q6 q7 qz
        generalize w8.setCell ⟨w.heap.size, 1, none⟩ (.slice A8 n8 c8) = w9 at *
        generalize ({ L with uv := .slice A8 n8 c8 } : ChL) = L9 at *
        have hA : SpAft w n (B + 15) L (x.act n s.stp) L9 w9 := ⟨by rw [HACT.out]; exact HC9.out.mono (by omega), HM9.out.b0, HM9.out.b2⟩
        have hb1 := HM9.out.b1
        unfold StV.cells at hb1
        obtain ⟨q0, q1, q2, q3, q4, q5, q6, q7, qz⟩ := Blk7I hb1
        clear hb1 el hgl
        have HA : Hid (SpAft w n (B + 15) L (x.act n s.stp) L9 w9) := Lib.hid hA
        clear hA
        obtain ⟨p0, p1, p2, p3, pz⟩ := Blk3G HA.out.bx
        obtain ⟨r0, r1, r2, r3, rz⟩ := Blk3G HA.out.rs
        go_wp2_with fail
        refine (gather_any HA.out.po.1 hn (by omega) (by have := HUN.out; omega)).mono ?_
        rintro e w9 ⟨L2, rfl, hp2⟩
        have hr9 := HA.out.rs.upd hp2.2.2.2.2 (HA.out.po.1.boxF HA.out.rs).1
        have HR9 := Lib.hid hr9
        have HP9 := Lib.hid (ChPost.trans HA.out.po (hp2.mono (Nat.le_refl _)))
        clear p0 p1 p2 p3 pz r0 r1 r2 r3 rz
        obtain ⟨r0, r1, r2, r3, rz⟩ := Blk3G hr9
        obtain ⟨A1, n1, c1, h1⟩ := hp2.1.l.shp
        obtain ⟨A2, c2, h2⟩ := hp2.1.un.shape
        obtain ⟨qs, _, hq3, _⟩ := hp2.1.cs
        obtain ⟨A3, n3, c3, h3⟩ := hq3.shp
        rw [h1, h2, h3]
        have H1 := Lib.hid h1
        have H2 := Lib.hid h2
        have H3 := Lib.hid h3
        clear hr9 hp2 hq3 h1 h2 h3
        go_wp2_with fail
        exact bodyPost_ret (v := .agg #[.slice A1 n1 c1, .slice A2 ((x.act n s.stp).gather n).un.length c2, .slice A3 n3 c3]) (by simp [results, Tryz.results24, go_sem, r1, r2, r3]) rfl ⟨L2, by rw [H1.out, H2.out, H3.out], (HP9.out.box HR9.out (by omega) ((((Upd.refl _ w9).setIn 0 _).setIn 1 _).setIn 2 _)).mono (by omega)⟩
end
end Go.Proofs.YtecniafnihpjmaaGreatDoor
