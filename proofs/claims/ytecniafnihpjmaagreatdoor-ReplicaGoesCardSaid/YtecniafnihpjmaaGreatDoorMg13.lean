/- The parts RpI8, RpI9, joined. -/
import Derived.Test.YtecniafnihpjmaaGreatDoorTk
import Derived.Test.YtecniafnihpjmaaGreatDoorMg12
import Derived.Test.YtecniafnihpjmaaGreatDoorMg11
/- Chapter 24 (replica): the law's step, by kinds. Printed by genRpI.py. -/
namespace Go.Proofs.YtecniafnihpjmaaGreatDoor
open Go.RowKit Go.Lap C
set_option linter.unusedVariables false
set_option linter.unusedSimpArgs false
section
variable {w w' W wa : World} {S : Nat → Prop} {n B D a : Nat} {L : ChL} {x : Chn} {s : StV} {nw : CfgV}
theorem Blk9I {w : World} {g t : Nat} {a b c d e f i j k : Value} (h : Blk w g t #[a, b, c, d, e, f, i, j, k]) : g < w.heap.size ∧ w.cell? ⟨g, 0, none⟩ = some a ∧ w.cell? ⟨g, 1, none⟩ = some b ∧ w.cell? ⟨g, 2, none⟩ = some c ∧ w.cell? ⟨g, 3, none⟩ = some d ∧ w.cell? ⟨g, 4, none⟩ = some e ∧
    w.cell? ⟨g, 5, none⟩ = some f ∧ w.cell? ⟨g, 6, none⟩ = some i ∧ w.cell? ⟨g, 7, none⟩ = some j ∧ w.cell? ⟨g, 8, none⟩ = some k := ⟨h.lt, h.cell 0, h.cell 1, h.cell 2, h.cell 3, h.cell 4, h.cell 5, h.cell 6, h.cell 7, h.cell 8⟩
theorem arrive_un (x : Chn) (n : Nat) (nt : Nt) : (x.arrive n nt).un = x.un := by unfold Chn.arrive; split <;> rfl
theorem arrive_no {x : Chn} {n : Nat} {nt : Nt} (h : ¬ (0 ≤ nt.ds ∧ nt.ds < n)) : x.arrive n nt = x := by unfold Chn.arrive; rw [if_neg h]
set_option maxRecDepth 100000 in
set_option maxHeartbeats 16000000 in
theorem step_deliver (h : ChAt w n B L x) (hn0 : 0 < n) (hn : n ≤ 7) (hB : B ≤ 979000) (hu : x.un.length ≤ 300) (hs : StOk w s) (hcs : CsOk n x.cs x.newest) (hcl : x.cs.length ≤ 1000) (hbg : ∀ nt ∈ x.un, nt.t < big) (hk : s.kind = 1) :
    Calls Tryz.prog 24 #[.agg #[L.lv, L.uv, L.cv], s.val] w (ChRet w n (B + 20) L (x.step n s.stp)) := by
  have hN := ((New.refl w).alloc (.cells #[L.lv, L.uv, L.cv] 64)).alloc (.cells s.cells 70) |>.alloc (.cells #[.slice none 0 0, .slice none 0 0, .slice none 0 0] 64)
  have hb0 := ((Blk.mk_new w 64 #[L.lv, L.uv, L.cv]).alloc (.cells s.cells 70)).alloc (.cells #[.slice none 0 0, .slice none 0 0, .slice none 0 0] 64)
  have hb1 := (blk_two2 w (.cells #[L.lv, L.uv, L.cv] 64) 70 s.cells).alloc (.cells #[.slice none 0 0, .slice none 0 0, .slice none 0 0] 64)
  have hb2 := blk_three w (.cells #[L.lv, L.uv, L.cv] 64) (.cells s.cells 70) 64 #[.slice none 0 0, .slice none 0 0, .slice none 0 0]
  have HLT := Lib.hid h.lt
  have HH := Lib.hid h
  have HN := Lib.hid hN
  have HWZ : Hid ((((w.alloc (.cells #[L.lv, L.uv, L.cv] 64)).alloc (.cells s.cells 70)).alloc (.cells #[.slice none 0 0, .slice none 0 0, .slice none 0 0] 64)).heap.size = w.heap.size + 1 + 1 + 1) := Lib.hid (by simp)
  have HCS := Lib.hid hcs
  have HS := Lib.hid hs
  obtain ⟨Al, nl, cl0, hlv⟩ := h.l.shp
  have hln : L.lv = .slice Al n cl0 := by obtain ⟨a, c, e⟩ := h.l.shape; rw [hlv] at e; cases e; simp [hlv]
  obtain ⟨Au, cu, huv⟩ := h.un.shape
  obtain ⟨ps, hps, hrc, hca⟩ := h.cs
  have hpl : ps.length = x.cs.length := by rw [← hps, List.length_map]
  have hl1 : x.cs.length - 1 < ps.length := by have := (List.getElem?_eq_some_iff.1 hcs.nwAt).1; omega
  obtain ⟨nwv, hnwv⟩ : ∃ p, ps[x.cs.length - 1]? = some p := ⟨_, List.getElem?_eq_getElem hl1⟩
  have HNW : Hid (nwv.c = x.newest) := Lib.hid (by
    have h1 : (ps.map CfgV.c)[x.cs.length - 1]? = some nwv.c := by rw [List.getElem?_map, hnwv]; rfl
    rw [hps, hcs.nwAt] at h1
    exact (Option.some.inj h1).symm)
  obtain ⟨gc, offc, capc, hcv, _, hrcA⟩ := hrc.at_ (by intro e; rw [e] at hl1; simp at hl1)
  have e0 : w.cell? ⟨gc, offc + (x.cs.length - 1) * 2, none⟩ = some (.int .u64 (nwv.c.e : Int)) := hrcA.cell CfgV.encOk hnwv (j := 0) rfl
  have e1 : w.cell? ⟨gc, offc + (x.cs.length - 1) * 2 + 1, none⟩ = some nwv.sl := hrcA.cell CfgV.encOk hnwv (j := 1) rfl
  have hgc : gc < w.heap.size := hrcA.lt
  have HNA := Lib.hid (hca nwv (List.mem_of_getElem? hnwv))
  rw [hpl] at hcv
  have HLN := Lib.hid hln
  have HUV := Lib.hid huv
  have HCV := Lib.hid hcv
  have hcl1 : 1 ≤ x.cs.length := by omega
  obtain ⟨m, hm⟩ : ∃ m, x.cs.length = m + 1 := ⟨x.cs.length - 1, by omega⟩
  have HMC := Lib.hid hm
  rw [hm, Nat.add_sub_cancel] at e0 e1
  obtain ⟨p0, p1, p2, p3, pz⟩ := Blk3G hb0
  unfold StV.cells at *
  obtain ⟨q0, q1, q2, q3, q4, q5, q6, q7, qz⟩ := Blk7I hb1
  obtain ⟨r0, r1, r2, r3, rz⟩ := Blk3G hb2
  have HB0 := Lib.hid hb0
  have HB1 := Lib.hid hb1
  have HB2 := Lib.hid hb2
  have E0 := (hN.cells.1 gc (offc + m * 2) hgc).trans e0
  have E1 := (hN.cells.1 gc (offc + m * 2 + 1) hgc).trans e1
  have hgc2 := Nat.lt_of_lt_of_le hgc hN.size
  have hnode := hs.node
  have hat := hs.at_
  unfold CfgV.sl at E1
  have hn1 : (0 : Int) < (n : Int) := by omega
  obtain ⟨kk, hkk⟩ : ∃ kk, kk = s.node % n := ⟨_, rfl⟩
  have hkn : kk < n := by rw [hkk]; exact Nat.mod_lt _ hn0
  have hrem : (s.node : Int) % (n : Int) = (kk : Int) := by rw [hkk]; omega
  have hkn2 : (kk : Int) < (n : Int) := by omega
  have hkk0 : (0 : Int) ≤ (kk : Int) := by omega
  have HKN := Lib.hid hkk
  obtain ⟨aa, haa⟩ : ∃ aa, aa = atS x s := ⟨_, rfl⟩
  have HAA := Lib.hid haa
  clear hkk haa
  have hwi : IntKind.i64.wrap (s.node : Int) = (s.node : Int) := IntWalk.i64_in _ (by omega)
  have hwa : IntKind.i64.wrap (s.at_ : Int) = (s.at_ : Int) := IntWalk.i64_in _ (by omega)
  have hwm : IntKind.i64.wrap (m : Int) = (m : Int) := IntWalk.i64_in _ (by omega)
  have hm1 : (m : Int) < (m : Int) + 1 := by omega
  have hm0 : (0 : Int) ≤ (m : Int) := by omega
  clear h hN hb0 hb1 hb2 hcs hs hlv hln huv hps hrc hca hpl hl1 hnwv hcv hrcA e0 e1 hm hcl1
  have hk0 : (s.kind == 0) = false := by rw [hk]; rfl
  have hk1 : (s.kind == 1) = true := by rw [hk]; rfl
  have hk2 : (s.kind == 2) = false := by rw [hk]; rfl
  have hk3 : (s.kind == 3) = false := by rw [hk]; rfl
  have hk4 : (s.kind == 4) = false := by rw [hk]; rfl
  have hk5 : (s.kind == 5) = false := by rw [hk]; rfl
  have hk6 : (s.kind == 6) = false := by rw [hk]; rfl
  have HK := Lib.hid hk
  clear hk
  unfold StV.val StV.cells
  go_enter Tryz.func24, Tryz.ntmps24
  go_upto_region 1 with fail
  generalize ((w.alloc _).alloc _).alloc _ = W at *
  rw [HLN.out] at p1
  rw [HUV.out] at p2
  rw [HCV.out, HMC.out] at p3
  obtain ⟨tb, htb1⟩ : ∃ tb : Bool, decide ((0 : Int) < (x.un.length : Int)) = tb := ⟨_, rfl⟩
  have htb2 : decide (0 < x.un.length) = tb := by rw [← htb1]; simp
  have HTB := Lib.hid htb2
  go_upto_region 3 with fail
  go_upto_if 22 with fail
  go_cut [6] (fun s6 wx => s6 = .int .i64 (aa : Int) ∧ wx = W)
  case first =>
    have htb3 := HTB.out
    clear htb1 htb2
    cases tb with
    | false =>
      have ha0 : aa = 0 := by rw [HAA.out]; unfold atS; rw [if_pos (by simpa using htb3)]
      clear htb3
      go_wp2_with fail
      go_meet
      exact ⟨by rw [ha0]; rfl, rfl⟩
    | true =>
      have hun : 0 < x.un.length := by simpa using htb3
      have hr2 : (s.at_ : Int) % (x.un.length : Int) = (aa : Int) := by rw [HAA.out]; unfold atS; rw [if_neg (by omega)]; omega
      have hu0 : ¬ (x.un.length : Int) = 0 := by omega
      have hu1 : (0 : Int) < (x.un.length : Int) := by omega
      clear htb3 hun
      go_wp2_with fail
      go_meet
      exact ⟨by rw [hr2], rfl⟩
  case rest =>
    obtain ⟨h6, hwc⟩ := hcut
    rw [h6, hwc, hrem]
    clear h6 hwc hrem
    have hn4 := (New.refl W).alloc (.cells #[.int .u64 (nwv.c.e : Int), .slice nwv.A nwv.c.ms.length nwv.n] 25)
    have hz3 : W.heap.size = w.heap.size + 1 + 1 + 1 := HWZ.out
    have HM4 : Hid (SpM (W.alloc (.cells #[.int .u64 (nwv.c.e : Int), .slice nwv.A nwv.c.ms.length nwv.n] 25)) w.heap.size L s nwv) := Lib.hid ⟨HB0.out.new hn4, HB1.out.new hn4, HB2.out.new hn4, by
      have := Blk.mk_new W 25 #[.int .u64 (nwv.c.e : Int), .slice nwv.A nwv.c.ms.length nwv.n]
      rw [hz3] at this
      exact this⟩
    have HN4 := Lib.hid (HN.out.trans hn4)
    have HH4 := Lib.hid (HH.out.new HN4.out)
    clear hz3 hn4
    go_upto_region 6 with fail
    generalize W.alloc (.cells #[.int .u64 (nwv.c.e : Int), .slice nwv.A nwv.c.ms.length nwv.n] 25) = W4 at *
    clear p0 p1 p2 p3 pz q0 q1 q2 q3 q4 q5 q6 q7 qz r0 r1 r2 r3 rz E0 E1 hgc hgc2 hwm hm1 hm0 hwi hwa
    obtain ⟨p0, p1, p2, p3, pz⟩ := Blk3G HM4.out.b0
    have hb1 := HM4.out.b1
    unfold StV.cells at hb1
    obtain ⟨q0, q1, q2, q3, q4, q5, q6, q7, qz⟩ := Blk7I hb1
    clear hb1
    rw [HLN.out] at p1
    obtain ⟨gl, ol, cl2, hlv2, hcl2, el, hgl⟩ := HH4.out.node hkn
    rw [HLN.out] at hlv2
    cases hlv2
    by_cases hun : x.un.length = 0
    · have HE : Hid (x.un = []) := Lib.hid (List.eq_nil_of_length_eq_zero hun)
      have HZ : Hid (x.un.length = 0) := Lib.hid hun
      clear htb1 htb2 hun
      have hact : x.act n s.stp = x := by
        have h0 := HE.out
        unfold Chn.act StV.stp
        dsimp only
        rw [HK.out, h0]
        rfl
      have HACT := Lib.hid hact
      have HUN : Hid ((x.act n s.stp).un.length ≤ 301) := Lib.hid (by rw [hact]; omega)
      clear hact
      have hA : SpAft w n (B + 20) L (x.act n s.stp) L W4 := ⟨by rw [HACT.out]; exact ChPost.pre HN4.out ((ChPost.refl HH4.out).mono (by omega)), HM4.out.b0, HM4.out.b2⟩
      obtain ⟨w7, hw7⟩ : ∃ w7, w7 = W4 := ⟨_, rfl⟩
      obtain ⟨L1, hL1⟩ : ∃ L1, L1 = L := ⟨_, rfl⟩
      have hA : SpAft w n (B + 20) L (x.act n s.stp) L1 w7 := by rw [hL1, hw7]; exact hA
      rw [← hw7]
      rw [← hw7] at q0 q1 q2 q3 q4 q5 q6 q7 qz
      have HUV1 : Hid (L1.uv = .slice Au 0 cu) := Lib.hid (by rw [hL1, HUV.out, HZ.out])
      clear el hgl p0 p1 p2 p3 pz hw7 hL1
      have HA : Hid (SpAft w n (B + 20) L (x.act n s.stp) L1 w7) := Lib.hid hA
      clear hA
      obtain ⟨p0, p1, p2, p3, pz⟩ := Blk3G HA.out.bx
      rw [HUV1.out] at p2
      obtain ⟨r0, r1, r2, r3, rz⟩ := Blk3G HA.out.rs
      go_wp2_with fail
      rw [← HUV1.out]
      refine (gather_any HA.out.po.1 hn (by omega) (by have := HUN.out; omega)).mono ?_
      rintro e w9 ⟨L2, rfl, hp2⟩
      have hr9 := HA.out.rs.upd hp2.2.2.2.2 (HA.out.po.1.boxF HA.out.rs).1
      have HR9 := Lib.hid hr9
      have HP9 := Lib.hid (ChPost.trans HA.out.po (hp2.mono (Nat.le_refl _)))
      clear p0 p1 p2 p3 pz r0 r1 r2 r3 rz
      obtain ⟨r0, r1, r2, r3, rz⟩ := Blk3G hr9
      obtain ⟨A1, n1, c1, h1⟩ := hp2.1.l.shp
      obtain ⟨A2, c2, h2⟩ := hp2.1.un.shape
      obtain ⟨qs, _, hq3, _⟩ := hp2.1.cs
      obtain ⟨A3, n3, c3, h3⟩ := hq3.shp
      rw [h1, h2, h3]
      have H1 := Lib.hid h1
      have H2 := Lib.hid h2
      have H3 := Lib.hid h3
      clear hr9 hp2 hq3 h1 h2 h3
      go_wp2_with fail
      exact bodyPost_ret (v := .agg #[.slice A1 n1 c1, .slice A2 ((x.act n s.stp).gather n).un.length c2, .slice A3 n3 c3]) (by simp [results, Tryz.results24, go_sem, r1, r2, r3]) rfl ⟨L2, by rw [H1.out, H2.out, H3.out], (HP9.out.box HR9.out (by omega) ((((Upd.refl _ w9).setIn 0 _).setIn 1 _).setIn 2 _)).mono (by omega)⟩
    · have hui : (0 : Int) < (x.un.length : Int) := by omega
      clear htb1 htb2
      have haal : aa < x.un.length := by rw [HAA.out]; unfold atS; rw [if_neg hun]; exact Nat.mod_lt _ (by omega)
      obtain ⟨ps, hps, hrow, hall⟩ := HH4.out.un
      have hpl : ps.length = x.un.length := by rw [← hps, List.length_map]
      obtain ⟨p, hp⟩ : ∃ p, ps[aa]? = some p := ⟨_, List.getElem?_eq_getElem (by omega)⟩
      have hnt : x.un[aa]? = some p.nt := by rw [← hps, List.getElem?_map, hp]; rfl
      have HNT := Lib.hid hnt
      have HPV := Lib.hid (hall p (List.mem_of_getElem? hp))
      have HROW := Lib.hid hrow
      obtain ⟨gu, ou, cu2, hvu, _, hrA⟩ := hrow.at_ (by intro e; rw [e] at hpl; simp at hpl; omega)
      rw [HUV.out, hpl] at hvu
      cases hvu
      rw [HUV.out] at p2
      have u0 : W4.cell? ⟨gu, ou + aa * 9, none⟩ = some (.int .i64 p.k) := hrA.cell NtV.encOk hp (j := 0) rfl
      have u1 : W4.cell? ⟨gu, ou + aa * 9 + 1, none⟩ = some (.int .i64 p.fr) := hrA.cell NtV.encOk hp (j := 1) rfl
      have u2 : W4.cell? ⟨gu, ou + aa * 9 + 2, none⟩ = some (.int .i64 p.ds) := hrA.cell NtV.encOk hp (j := 2) rfl
      have u3 : W4.cell? ⟨gu, ou + aa * 9 + 3, none⟩ = some (.int .u64 (p.ep : Int)) := hrA.cell NtV.encOk hp (j := 3) rfl
      have u4 : W4.cell? ⟨gu, ou + aa * 9 + 4, none⟩ = some (.int .u64 (p.t : Int)) := hrA.cell NtV.encOk hp (j := 4) rfl
      have u5 : W4.cell? ⟨gu, ou + aa * 9 + 5, none⟩ = some (.int .u64 (p.v.b.c : Int)) := hrA.cell NtV.encOk hp (j := 5) rfl
      have u6 : W4.cell? ⟨gu, ou + aa * 9 + 6, none⟩ = some (.int .u64 (p.v.b.r : Int)) := hrA.cell NtV.encOk hp (j := 6) rfl
      have u7 : W4.cell? ⟨gu, ou + aa * 9 + 7, none⟩ = some (.int .u64 (p.v.b.s : Int)) := hrA.cell NtV.encOk hp (j := 7) rfl
      have u8 : W4.cell? ⟨gu, ou + aa * 9 + 8, none⟩ = some (p.v.sl) := hrA.cell NtV.encOk hp (j := 8) rfl
      have hgu : gu < W4.heap.size := hrA.lt
      unfold BtV.sl at u8
      have haai : (aa : Int) < (x.un.length : Int) := by omega
      have haa0 : (0 : Int) ≤ (aa : Int) := by omega
      clear hps hrow hall hpl hp hnt hrA
      have hact : x.act n s.stp = ({ x with un := x.un.eraseIdx aa } : Chn).arrive n p.nt := by
        have h1 := HNT.out
        rw [HAA.out] at h1 ⊢
        unfold atS at h1 ⊢
        rw [if_neg hun] at h1 ⊢
        unfold Chn.act StV.stp
        dsimp only
        rw [HK.out, if_neg (by decide), if_pos (by decide), h1]
        exact if_pos rfl
      have HACT := Lib.hid hact
      have HBIG : Hid (p.t < big) := Lib.hid (hbg p.nt (List.mem_of_getElem? HNT.out))
      have HNB : Hid (W4.heap.size < (W4.alloc (.cells #[.int .i64 p.k, .int .i64 p.fr, .int .i64 p.ds, .int .u64 (p.ep : Int), .int .u64 (p.t : Int), .int .u64 (p.v.b.c : Int), .int .u64 (p.v.b.r : Int), .int .u64 (p.v.b.s : Int), .slice p.v.A p.v.b.l.length p.v.c] 93)).heap.size ∧ ¬ ChF n L W4.heap.size) := Lib.hid ⟨by simp, fun h => Nat.lt_irrefl _ (HH4.out.lt _ h)⟩
      have HUN : Hid ((x.act n s.stp).un.length ≤ 301) := Lib.hid (by rw [hact, arrive_un]; show (x.un.eraseIdx aa).length ≤ 301; have := List.length_eraseIdx_le x.un aa; omega)
      clear hact hun
      go_upto_region 13 with fail
      have hn5 := (New.refl W4).alloc (.cells #[.int .i64 p.k, .int .i64 p.fr, .int .i64 p.ds, .int .u64 (p.ep : Int), .int .u64 (p.t : Int), .int .u64 (p.v.b.c : Int), .int .u64 (p.v.b.r : Int), .int .u64 (p.v.b.s : Int), .slice p.v.A p.v.b.l.length p.v.c] 93)
      have HP5 := Lib.hid (Blk.mk_new W4 93 #[.int .i64 p.k, .int .i64 p.fr, .int .i64 p.ds, .int .u64 (p.ep : Int), .int .u64 (p.t : Int), .int .u64 (p.v.b.c : Int), .int .u64 (p.v.b.r : Int), .int .u64 (p.v.b.s : Int), .slice p.v.A p.v.b.l.length p.v.c])
      have HN5W := Lib.hid hn5
      have HH5 := Lib.hid (HH4.out.new hn5)
      have HM5 := Lib.hid (HM4.out.new hn5)
      have HN5 := Lib.hid (HN4.out.trans hn5)
      clear hn5 u0 u1 u2 u3 u4 u5 u6 u7 u8 p0 p1 p2 p3 pz q0 q1 q2 q3 q4 q5 q6 q7 qz hgu
      generalize W4.alloc (.cells #[.int .i64 p.k, .int .i64 p.fr, .int .i64 p.ds, .int .u64 (p.ep : Int), .int .u64 (p.t : Int), .int .u64 (p.v.b.c : Int), .int .u64 (p.v.b.r : Int), .int .u64 (p.v.b.s : Int), .slice p.v.A p.v.b.l.length p.v.c] 93) = w5 at *
      obtain ⟨p0, p1, p2, p3, pz⟩ := Blk3G HM5.out.b0
      rw [HUV.out] at p2
      have hb1 := HM5.out.b1
      unfold StV.cells at hb1
      obtain ⟨q0, q1, q2, q3, q4, q5, q6, q7, qz⟩ := Blk7I hb1
      clear hb1
      obtain ⟨qs, hqs, hqrow, hqa⟩ := HH5.out.un
      have HQS := Lib.hid hqs
      have HQA := Lib.hid hqa
      have HQROW := Lib.hid hqrow
      have HQL : Hid (qs.length = x.un.length ∧ x.un.length ≤ 300 ∧ aa < x.un.length) := Lib.hid ⟨by rw [← hqs, List.length_map], hu, haal⟩
      have hsl5 := hqrow.slIn NtV.encOk
      rw [HUV.out] at hsl5
      have HCU : Hid (x.un.length ≤ cu) := Lib.hid (by have := hsl5.cap_le.1; have := HQL.out; omega)
      have hw13 : IntKind.i64.wrap ((aa : Int) + 1) = ((aa + 1 : Nat) : Int) := by rw [IntWalk.i64_in _ (by omega)]; omega
      have h13a : ((aa + 1 : Nat) : Int) ≤ (x.un.length : Int) := by omega
      have h13b : (aa : Int) ≤ (cu : Int) := by have := HCU.out; omega
      have h13c : (0 : Int) ≤ ((aa + 1 : Nat) : Int) := by omega
      have h13d : (x.un.length : Int) ≤ (cu : Int) := by have := HCU.out; omega
      have h13e : (aa : Int) + 1 ≤ (x.un.length : Int) := by omega
      have h13f : (0 : Int) ≤ (aa : Int) + 1 := by omega
      have h13g : (aa : Int) ≤ (aa : Int) + 1 := by omega
      clear hqs hqrow hqa hsl5
      by_cases hcap : cu = aa + 1
      case pos =>
        subst hcap
        refine wp_region_z [13] (fun w' => w'.cell? ⟨w.heap.size, 1, none⟩ = some (.slice (some ⟨gu, ou, none⟩) x.un.length (aa + 1))) (by kernel_rfl) (p2) (fun hHeld => ?_)
        refine tkZ (i := 1) (oi := ⟨some 64, .fieldAddr 64 (.tmp 2) 1, 0, "law.go:207", #[], none⟩) (v := ?_) (.inl ⟨by rfl, ?_⟩) ?_
        rotate_left
        · (intro wq hSw; (try dsimp only at hSw); go_simp; first | done | with_reducible rfl)
        try simp only [Act.put, sA, sZ, sS]
        refine tkZ (i := 2) (oi := ⟨some 65, .load 34 (.tmp 64), 34, "law.go:207", #[⟨1, .data⟩], none⟩) (v := ?_) (.inl ⟨by rfl, ?_⟩) ?_
        rotate_left
        · (intro wq hSw; (try dsimp only at hSw); go_simp; first | done | with_reducible rfl)
        try simp only [Act.put, sA, sZ, sS]
        refine tkZ (i := 3) (oi := ⟨some 66, .move (.tmp 6), 3, "law.go:207", #[], none⟩) (v := ?_) (.inl ⟨by rfl, ?_⟩) ?_
        rotate_left
        · (intro wq hSw; (try dsimp only at hSw); go_simp; first | done | with_reducible rfl)
        try simp only [Act.put, sA, sZ, sS]
        refine tkZ (i := 4) (oi := ⟨some 67, .slice 34 (.tmp 65) none (some (.tmp 66)) none, 34, "law.go:207", #[⟨2, .data⟩, ⟨3, .data⟩], none⟩) (v := ?_) (.inl ⟨by rfl, ?_⟩) ?_
        rotate_left
        · (intro wq hSw; (try dsimp only at hSw); go_simp; first | done | with_reducible rfl)
        try simp only [Act.put, sA, sZ, sS]
        refine tkZ (i := 6) (oi := ⟨some 69, .fieldAddr 64 (.tmp 2) 1, 0, "law.go:207", #[], none⟩) (v := ?_) (.inl ⟨by rfl, ?_⟩) ?_
        rotate_left
        · (intro wq hSw; (try dsimp only at hSw); go_simp; first | done | with_reducible rfl)
        try simp only [Act.put, sA, sZ, sS]
        refine tkZ (i := 7) (oi := ⟨some 70, .load 34 (.tmp 69), 34, "law.go:207", #[⟨6, .data⟩], none⟩) (v := ?_) (.inl ⟨by rfl, ?_⟩) ?_
        rotate_left
        · (intro wq hSw; (try dsimp only at hSw); go_simp; first | done | with_reducible rfl)
        try simp only [Act.put, sA, sZ, sS]
        refine tkZ (i := 8) (oi := ⟨some 71, .move (.tmp 6), 3, "law.go:207", #[], none⟩) (v := ?_) (.inl ⟨by rfl, ?_⟩) ?_
        rotate_left
        · (intro wq hSw; (try dsimp only at hSw); go_simp; first | done | with_reducible rfl)
        try simp only [Act.put, sA, sZ, sS]
        refine tkZ (i := 9) (oi := ⟨some 72, .binOp .add 3 (.tmp 71) (.const (.int .i64 1)) 3, 3, "law.go:207", #[⟨8, .data⟩], none⟩) (v := ?_) (.inl ⟨by rfl, ?_⟩) ?_
        rotate_left
        · (intro wq hSw; (try dsimp only at hSw); go_simp; first | done | with_reducible rfl)
        try simp only [Act.put, sA, sZ, sS]
        refine tkZ (i := 10) (oi := ⟨some 73, .slice 34 (.tmp 70) (some (.tmp 72)) none none, 34, "law.go:207", #[⟨7, .data⟩, ⟨9, .data⟩], none⟩) (v := ?_) (.inl ⟨by rfl, ?_⟩) ?_
        rotate_left
        · (intro wq hSw; (try dsimp only at hSw); go_simp; first | done | with_reducible rfl)
        try simp only [Act.put, sA, sZ, sS]
        refine wpZ_ready (rs := [0]) (by kernel_rfl) (by simp) ?_
        refine AllZ.cons (o := ⟨some 63, .buildSlice 34 0 #[], 34, "law.go:207", #[], none⟩) rfl (fun K hK => ?_) AllZ.nil
        go_simp
        have hn6 := ((New.refl w5).alloc (.cells #[] 93)).drew
        have HE6 := Lib.hid (Blk.mk_new w5 93 #[]).drew
        have HZ6 : Hid ((w5.alloc (.cells #[] 93)).drew.heap.size = w5.heap.size + 1) := Lib.hid (by rw [size_ad2])
        have HN6 := Lib.hid hn6
        generalize (w5.alloc (.cells #[] 93)).drew = w6 at *
        have hb6 := HM5.out.b0.new hn6
        have k1 : w6.cell? ⟨w.heap.size, 1, none⟩ = some L.uv := hb6.cell 1
        rw [HUV.out] at k1
        have hs6 := HQROW.out.slIn NtV.encOk |>.new hn6
        rw [HUV.out] at hs6
        have HS6 := Lib.hid hs6
        have hrow6 : Row w6 w5.heap.size 93 9 NtV.enc (.slice (some ⟨w5.heap.size, 0, none⟩) 0 0) ([] : List NtV) := .inr ⟨w5.heap.size, 0, 0, #[], rfl, Nat.le_refl _, HE6.out, Nat.le_refl _, by decide, by simp, by simp⟩
        have HR6 := Lib.hid hrow6
        clear hn6 hb6 hs6 hrow6
        refine hK.out _ _ ?_ (fun hHeld => ?_)
        · exact k1
        clear hK K
        try simp only [Act.put, sA, sZ, sS]
        refine wpZ_ready (rs := [5]) (by kernel_rfl) (by simp) ?_
        refine AllZ.cons (o := ⟨some 68, .call { callee := .builtin .append, args := #[.tmp 63, .tmp 67], argTypes := #[34, 34] }, 34, "law.go:207", #[⟨0, .data⟩, ⟨4, .data⟩], none⟩) rfl (fun K hK => ?_) AllZ.nil
        refine step_appR (m := qs.take aa) ntTy NtV.encOk rfl (.tmp 63) (.tmp 67) rfl rfl rfl HR6.out (HS6.out.take (by have := HQL.out; omega) (by have := HQL.out; have := HCU.out; omega)) (by have := HQL.out; simp; unfold maxLen; omega) (by have := HQL.out; simp; omega) (by have := HZ6.out; omega) ?_
        intro v7 w7 h7 hg7 hv7
        have hu7 : Upd (· = w5.heap.size) w6 w7 := (Upd.refl _ w6).grown hg7 (fun i _ e => (Option.some.inj e).symm)
        have hn7 : New w5 w7 := HN6.out.upd hu7 (fun k hk => by omega)
        have hb7 := HM5.out.b0.new hn7
        have k2 : w7.cell? ⟨w.heap.size, 1, none⟩ = some L.uv := hb7.cell 1
        rw [HUV.out] at k2
        have hs7 := HQROW.out.slIn NtV.encOk |>.new hn7
        rw [HUV.out] at hs7
        have HS7 := Lib.hid hs7
        have HR7 := Lib.hid h7
        have HN7 := Lib.hid hn7
        have HZ7 : Hid (w5.heap.size ≤ w7.heap.size) := Lib.hid hn7.size
        clear h7 hg7 hv7 hu7 hn7 hb7 hs7
        refine hK.out _ _ ?_ (fun hHeld => ?_)
        · exact k2
        clear hK K
        try simp only [Act.put, sA, sZ, sS]
        refine wpZ_ready (rs := [11]) (by kernel_rfl) (by simp) ?_
        refine AllZ.cons (o := ⟨some 74, .call { callee := .builtin .append, args := #[.tmp 68, .tmp 73], argTypes := #[34, 34] }, 34, "law.go:207", #[⟨5, .data⟩, ⟨10, .data⟩, ⟨5, .chain⟩], none⟩) rfl (fun K hK => ?_) AllZ.nil
        refine step_appR (m := qs.drop (aa + 1)) ntTy NtV.encOk rfl (.tmp 68) (.tmp 73) rfl rfl rfl HR7.out (by first | exact HS7.out.drop_at (k := aa + 1) (by have := HQL.out; omega) hcap | exact HS7.out.drop_end (by have := HQL.out; omega)) (by have := HQL.out; simp; unfold maxLen; omega) (by have := HQL.out; simp; omega) HZ7.out ?_
        intro v8 w8 h8 hg8 hv8
        have hu8 : Upd (fun i => v7.ownBlock = some i) w7 w8 := (Upd.refl _ w7).grown hg8 (fun i _ e => e)
        have hn8 : New w5 w8 := HN7.out.upd hu8 (fun k hk => (HR7.out.lt k hk).1)
        have hun8 : NtRow w8 0 v8 (x.un.eraseIdx aa) := ⟨qs.take aa ++ qs.drop (aa + 1), by rw [← List.eraseIdx_eq_take_drop_succ, ← HQS.out, map_erase], by have := h8.lower (Nat.zero_le _); rwa [List.nil_append] at this, fun q hq => (HQA.out q ((List.mem_append.1 hq).elim List.mem_of_mem_take List.mem_of_mem_drop)).new hn8⟩
        have hlt8 := h8.lt
        obtain ⟨hs1, hs2, hs3⟩ := HH5.out.newUn hn8 hun8 (fun k hk => (hlt8 k hk).1)
        obtain ⟨A8, n8, c8, hsl⟩ := h8.shp
        rw [hsl] at hs1 hs2
        have HS8 := Lib.hid (And.intro hs1 (And.intro hs2 hs3))
        have HN8 := Lib.hid hn8
        have hb8 := HM5.out.b0.new hn8
        have HB8 := Lib.hid hb8
        rw [hsl]
        have k3 : w8.cell? ⟨w.heap.size, 1, none⟩ = some L.uv := hb8.cell 1
        rw [HUV.out] at k3
        have hfz := hb8.frozen
        have glt := hb8.lt
        clear h8 hg8 hv8 hu8 hn8 hun8 hlt8 hs1 hs2 hs3 hsl hb8
        refine hK.out _ _ ?_ (fun hHeld => ?_)
        · exact k3
        clear hK K
        try simp only [Act.put, sA, sZ, sS]
        refine tkZ (i := 12) (oi := ⟨some 75, .fieldAddr 64 (.tmp 2) 1, 0, "law.go:207", #[⟨0, .phase⟩, ⟨1, .phase⟩, ⟨2, .phase⟩, ⟨3, .phase⟩, ⟨4, .phase⟩, ⟨5, .phase⟩, ⟨6, .phase⟩, ⟨7, .phase⟩, ⟨8, .phase⟩, ⟨9, .phase⟩, ⟨10, .phase⟩, ⟨11, .phase⟩], none⟩) (v := ?_) (.inl ⟨by rfl, ?_⟩) ?_
        rotate_left
        · (intro wq hSw; (try dsimp only at hSw); go_simp; first | done | with_reducible rfl)
        try simp only [Act.put, sA, sZ, sS]
        refine wpZ_ready (rs := [13]) (by kernel_rfl) (by simp) ?_
        refine AllZ.consZ (o := ⟨none, .store 34 (.tmp 75) (.tmp 74), 0, "law.go:207", #[⟨12, .data⟩, ⟨11, .data⟩, ⟨11, .chain⟩, ⟨0, .phase⟩, ⟨1, .phase⟩, ⟨2, .phase⟩, ⟨3, .phase⟩, ⟨4, .phase⟩, ⟨5, .phase⟩, ⟨6, .phase⟩, ⟨7, .phase⟩, ⟨8, .phase⟩, ⟨9, .phase⟩, ⟨10, .phase⟩, ⟨11, .phase⟩], none⟩) rfl (by kernel_rfl) (fun K hK => ?_) AllZ.nil
        go_simp
        refine hK.out _ _ ?_
        clear hK K
        try simp only [Act.put, sA, sZ, sS]
        refine wpZ_done (by kernel_rfl) ?_ _
        clear hHeld
        have hu9 : Upd (· = w.heap.size) w8 (w8.setCell ⟨w.heap.size, 1, none⟩ (.slice A8 n8 c8)) := (Upd.refl _ w8).setIn 1 _
        have hp8 : ChPost w5 n B L ({ x with un := x.un.eraseIdx aa } : Chn) { L with uv := .slice A8 n8 c8 } w8 := ⟨HS8.out.1, rfl, rfl, HS8.out.2.1, HS8.out.2.2⟩
        have hp9 := (ChPost.pre HN5.out hp8).box HB8.out (Nat.le_refl _) hu9
        have HM9 : Hid (SpM (w8.setCell ⟨w.heap.size, 1, none⟩ (.slice A8 n8 c8)) w.heap.size { L with uv := .slice A8 n8 c8 } s nwv) := Lib.hid ⟨HB8.out.set_ 1 _, (HM5.out.b1.new HN8.out).upd hu9 (by omega), (HM5.out.b2.new HN8.out).upd hu9 (by omega), (HM5.out.b3.new HN8.out).upd hu9 (by omega)⟩
        have HP9 := Lib.hid ((HP5.out.new HN8.out).upd hu9 (by have := HM4.out.b0.lt; omega))
        have HC9 := Lib.hid hp9
        have HV9 := Lib.hid (((HPV.out.new HN5W.out).new HN8.out).upd hu9 (Off.blk HB8.out (by decide)))
        have HK9 : Hid (∀ k, ChF n { L with uv := .slice A8 n8 c8 } k → ChF n L k ∨ w5.heap.size ≤ k) := Lib.hid HS8.out.2.1
        clear hp8 hp9 hu9 k1 k2 k3 hfz glt p0 p1 p3 pz q0 q1 q2 q3 q4 q5 q6 q7 qz
        generalize w8.setCell ⟨w.heap.size, 1, none⟩ (.slice A8 n8 c8) = w9 at *
        generalize ({ L with uv := .slice A8 n8 c8 } : ChL) = L9 at *
        have hb1 := HM9.out.b1
        unfold StV.cells at hb1
        obtain ⟨q0, q1, q2, q3, q4, q5, q6, q7, qz⟩ := Blk7I hb1
        clear hb1 p2
        obtain ⟨p0, p1, p2, p3, pz⟩ := Blk3G HM9.out.b0
        have hlv9 := HC9.out.2.1.trans HLN.out
        have HLV9 := Lib.hid hlv9
        rw [hlv9] at p1
        clear hlv9 el hgl
        obtain ⟨n0, n1, n2, n3, n4, n5, n6, n7, n8, n9⟩ := Blk9I HP9.out
        clear hbg hw13 h13a h13b h13c h13d h13e h13f h13g hcl2 haai haa0 hui haal hn1 hkn hkn2 hkk0
        by_cases hds : 0 ≤ p.nt.ds ∧ p.nt.ds < (n : Int)
        case neg =>
          have hA : SpAft w n (B + 20) L (x.act n s.stp) L9 w9 := ⟨by rw [HACT.out, arrive_no hds]; exact HC9.out.mono (by omega), HM9.out.b0, HM9.out.b2⟩
          have hds : ¬ (0 ≤ p.ds ∧ p.ds < (n : Int)) := hds
          by_cases h1 : 0 ≤ p.ds
          · have h2 : ¬ p.ds < (n : Int) := fun h => hds ⟨h1, h⟩
            clear hds
            have HA : Hid (SpAft w n (B + 20) L (x.act n s.stp) L9 w9) := Lib.hid hA
            clear hA
            obtain ⟨p0, p1, p2, p3, pz⟩ := Blk3G HA.out.bx
            obtain ⟨r0, r1, r2, r3, rz⟩ := Blk3G HA.out.rs
            go_wp2_with fail
            rw [← HLV9.out]
            refine (gather_any HA.out.po.1 hn (by omega) (by have := HUN.out; omega)).mono ?_
            rintro e w9 ⟨L2, rfl, hp2⟩
            have hr9 := HA.out.rs.upd hp2.2.2.2.2 (HA.out.po.1.boxF HA.out.rs).1
            have HR9 := Lib.hid hr9
            have HP9 := Lib.hid (ChPost.trans HA.out.po (hp2.mono (Nat.le_refl _)))
            clear p0 p1 p2 p3 pz r0 r1 r2 r3 rz
            obtain ⟨r0, r1, r2, r3, rz⟩ := Blk3G hr9
            obtain ⟨A1, n1, c1, h1⟩ := hp2.1.l.shp
            obtain ⟨A2, c2, h2⟩ := hp2.1.un.shape
            obtain ⟨qs, _, hq3, _⟩ := hp2.1.cs
            obtain ⟨A3, n3, c3, h3⟩ := hq3.shp
            rw [h1, h2, h3]
            have H1 := Lib.hid h1
            have H2 := Lib.hid h2
            have H3 := Lib.hid h3
            clear hr9 hp2 hq3 h1 h2 h3
            go_wp2_with fail
            exact bodyPost_ret (v := .agg #[.slice A1 n1 c1, .slice A2 ((x.act n s.stp).gather n).un.length c2, .slice A3 n3 c3]) (by simp [results, Tryz.results24, go_sem, r1, r2, r3]) rfl ⟨L2, by rw [H1.out, H2.out, H3.out], (HP9.out.box HR9.out (by omega) ((((Upd.refl _ w9).setIn 0 _).setIn 1 _).setIn 2 _)).mono (by omega)⟩
          · clear hds
            have HA : Hid (SpAft w n (B + 20) L (x.act n s.stp) L9 w9) := Lib.hid hA
            clear hA
            obtain ⟨p0, p1, p2, p3, pz⟩ := Blk3G HA.out.bx
            obtain ⟨r0, r1, r2, r3, rz⟩ := Blk3G HA.out.rs
            go_wp2_with fail
            rw [← HLV9.out]
            refine (gather_any HA.out.po.1 hn (by omega) (by have := HUN.out; omega)).mono ?_
            rintro e w9 ⟨L2, rfl, hp2⟩
            have hr9 := HA.out.rs.upd hp2.2.2.2.2 (HA.out.po.1.boxF HA.out.rs).1
            have HR9 := Lib.hid hr9
            have HP9 := Lib.hid (ChPost.trans HA.out.po (hp2.mono (Nat.le_refl _)))
            clear p0 p1 p2 p3 pz r0 r1 r2 r3 rz
            obtain ⟨r0, r1, r2, r3, rz⟩ := Blk3G hr9
            obtain ⟨A1, n1, c1, h1⟩ := hp2.1.l.shp
            obtain ⟨A2, c2, h2⟩ := hp2.1.un.shape
            obtain ⟨qs, _, hq3, _⟩ := hp2.1.cs
            obtain ⟨A3, n3, c3, h3⟩ := hq3.shp
            rw [h1, h2, h3]
            have H1 := Lib.hid h1
            have H2 := Lib.hid h2
            have H3 := Lib.hid h3
            clear hr9 hp2 hq3 h1 h2 h3
            go_wp2_with fail
            exact bodyPost_ret (v := .agg #[.slice A1 n1 c1, .slice A2 ((x.act n s.stp).gather n).un.length c2, .slice A3 n3 c3]) (by simp [results, Tryz.results24, go_sem, r1, r2, r3]) rfl ⟨L2, by rw [H1.out, H2.out, H3.out], (HP9.out.box HR9.out (by omega) ((((Upd.refl _ w9).setIn 0 _).setIn 1 _).setIn 2 _)).mono (by omega)⟩
        case pos =>
          have HDS := Lib.hid hds
          obtain ⟨dd, hdd⟩ : ∃ dd : Nat, p.ds = (dd : Int) := ⟨p.ds.toNat, by have h : 0 ≤ p.ds := hds.1; omega⟩
          have HDD : Hid (p.ds.toNat = dd) := Lib.hid (by omega)
          have HDP := Lib.hid hdd
          have hdn : dd < n := by have h : p.ds < (n : Int) := hds.2; omega
          have hd0 : (0 : Int) ≤ (dd : Int) := by omega
          have hd1 : (dd : Int) < (n : Int) := by omega
          rw [hdd] at n3
          clear hds hdd
          obtain ⟨g9, o9, c9, hlv2, hcl9, el9, hgl9⟩ := HC9.out.1.node hdn
          rw [HLV9.out] at hlv2
          cases hlv2
          go_upto_region 15 with fail
          refine wp_region_held_drew (S := fun w' => (∀ o, w'.cell? ⟨w.heap.size, o, none⟩ = w9.cell? ⟨w.heap.size, o, none⟩) ∧ (∀ o, w'.cell? ⟨W4.heap.size, o, none⟩ = w9.cell? ⟨W4.heap.size, o, none⟩) ∧ w'.cell? ⟨gl, ol + dd, none⟩ = w9.cell? ⟨gl, ol + dd, none⟩) (by kernel_rfl) (⟨fun _ => rfl, fun _ => rfl, rfl⟩) (fun hHeld => ?_)
          refine tkH (i := 0) (oi := ⟨some 92, .fieldAddr 64 (.tmp 2) 0, 0, "law.go:209", #[], none⟩) (v := ?_) (.inl ⟨by rfl, ?_⟩) ?_
          rotate_left
          · (intro wq hSw; (try dsimp only at hSw); go_simp; first | done | with_reducible rfl)
          try simp only [Act.put, sA, sZ, sS]
          refine tkH (i := 1) (oi := ⟨some 93, .load 61 (.tmp 92), 61, "law.go:209", #[⟨0, .data⟩], none⟩) (v := ?_) (.inl ⟨by rfl, ?_⟩) ?_
          rotate_left
          · (intro wq hSw; (try dsimp only at hSw); go_simp; first | done | with_reducible rfl)
          try simp only [Act.put, sA, sZ, sS]
          refine tkH (i := 2) (oi := ⟨some 94, .fieldAddr 93 (.tmp 8) 2, 0, "law.go:209", #[], none⟩) (v := ?_) (.inl ⟨by rfl, ?_⟩) ?_
          rotate_left
          · (intro wq hSw; (try dsimp only at hSw); go_simp; first | done | with_reducible rfl)
          try simp only [Act.put, sA, sZ, sS]
          refine tkH (i := 3) (oi := ⟨some 95, .load 3 (.tmp 94), 3, "law.go:209", #[⟨2, .data⟩], none⟩) (v := ?_) (.inl ⟨by rfl, ?_⟩) ?_
          rotate_left
          · (intro wq hSw; (try dsimp only at hSw); go_simp; first | done | with_reducible rfl)
          try simp only [Act.put, sA, sZ, sS]
          refine tkH (i := 4) (oi := ⟨some 96, .indexAddr 61 (.tmp 93) (.tmp 95), 0, "law.go:209", #[⟨1, .data⟩, ⟨3, .data⟩], none⟩) (v := ?_) (.inl ⟨by rfl, ?_⟩) ?_
          rotate_left
          · (intro wq hSw; (try dsimp only at hSw); go_simp; first | done | with_reducible rfl)
          try simp only [Act.put, sA, sZ, sS]
          refine tkH (i := 5) (oi := ⟨some 97, .load 45 (.tmp 96), 45, "law.go:209", #[⟨4, .data⟩], none⟩) (v := ?_) (.inl ⟨by rfl, ?_⟩) ?_
          rotate_left
          · (intro wq hSw; (try dsimp only at hSw); go_simp; first | done | with_reducible rfl)
          try simp only [Act.put, sA, sZ, sS]
          refine tkH (i := 6) (oi := ⟨some 98, .load 93 (.tmp 8), 93, "law.go:209", #[], none⟩) (v := ?_) (.inl ⟨by rfl, ?_⟩) ?_
          rotate_left
          · (intro wq hSw; (try dsimp only at hSw); go_simp; first | done | with_reducible rfl)
          try simp only [Act.put, sA, sZ, sS]
          refine wpAnyH_ready (rs := [7]) (by kernel_rfl) (by simp) ?_
          refine AllReadyH.cons (o := ⟨some 99, .call { callee := .value (.func 37), args := #[.tmp 97, .tmp 98], argTypes := #[45, 93] }, 0, "law.go:209", #[⟨5, .data⟩, ⟨6, .data⟩], none⟩) rfl (fun K hK => ?_) AllReadyH.nil
          go_simp
          have ho := rreceive ((HC9.out.1.rp dd hdn).new (New.refl w9).drew) p (HV9.out.new (New.refl w9).drew) HBIG.out (by omega)
          rw [← HDP.out]
          refine ho.mono ?_
          rintro e w7 ⟨rfl, hp⟩
          have hrf : Upd (RpF (L9.rp dd) (L9.rl dd)) w9 w7 := (Upd.refl _ w9).drew.trans (show Upd (RpF (L9.rp dd) (L9.rl dd)) w9.drew w7 from let ⟨_, _, _, h⟩ := hp; h) (fun _ _ h => h)
          obtain ⟨L1, hc1, hu1, hc1v, -⟩ := ChPost.setRp (HC9.out.1.new (New.refl w9).drew) hdn hp (by omega)
          have m0 := fun o => keepR hrf HM9.out.b0.lt (fun hk => (HC9.out.1.boxF HM9.out.b0).1 (.inl ⟨dd, hdn, hk⟩)) o
          have m1 := fun o => keepR hrf HP9.out.lt (fun hk => (HK9.out _ (.inl ⟨dd, hdn, hk⟩)).elim HNB.out.2 (fun h => absurd HNB.out.1 (by omega))) o
          have m2 := keepR hrf hgl9 (fun hk => HC9.out.1.lvF gl (by rw [HLV9.out]; rfl) (.inl ⟨dd, hdn, hk⟩)) (ol + dd)
          refine hK.out _ _ ?_ (fun hHeld => ?_)
          · exact ⟨m0, m1, m2⟩
          clear hK K
          try simp only [Act.put, sA, sZ, sS]
          refine wpAnyH_done (by kernel_rfl) ?_ _
          clear hHeld
          have hc3 := ChPost.trans HC9.out (ChPost.pre (New.refl w9).drew hc1)
          have har : x.act n s.stp = ({ ({ x with un := x.un.eraseIdx aa } : Chn) with rp := setD x.rp dd ((x.rp dd).receive p.nt) } : Chn) := by
            rw [HACT.out]
            unfold Chn.arrive
            rw [if_pos HDS.out]
            have hdt : p.nt.ds.toNat = dd := HDD.out
            rw [hdt]
          rw [← har] at hc3
          have hA : SpAft w n (B + 20) L (x.act n s.stp) L1 w7 := ⟨hc3, by rw [hc1.2.1, hu1, hc1v]; exact HM9.out.b0.upd hrf (fun hk => (HC9.out.1.boxF HM9.out.b0).1 (.inl ⟨dd, hdn, hk⟩)), HM9.out.b2.upd hrf (fun hk => (HC9.out.1.boxF HM9.out.b2).1 (.inl ⟨dd, hdn, hk⟩))⟩
          clear har hp hc1 hc3 hu1 hc1v hrf ho m0 m1 m2 el9 hgl9 p0 p1 p2 p3 pz q0 q1 q2 q3 q4 q5 q6 q7 qz n0 n1 n2 n3 n4 n5 n6 n7 n8 n9
          have HA : Hid (SpAft w n (B + 20) L (x.act n s.stp) L1 w7) := Lib.hid hA
          clear hA
          obtain ⟨p0, p1, p2, p3, pz⟩ := Blk3G HA.out.bx
          obtain ⟨r0, r1, r2, r3, rz⟩ := Blk3G HA.out.rs
          go_wp2_with fail
          refine (gather_any HA.out.po.1 hn (by omega) (by have := HUN.out; omega)).mono ?_
          rintro e w9 ⟨L2, rfl, hp2⟩
          have hr9 := HA.out.rs.upd hp2.2.2.2.2 (HA.out.po.1.boxF HA.out.rs).1
          have HR9 := Lib.hid hr9
          have HP9 := Lib.hid (ChPost.trans HA.out.po (hp2.mono (Nat.le_refl _)))
          clear p0 p1 p2 p3 pz r0 r1 r2 r3 rz
          obtain ⟨r0, r1, r2, r3, rz⟩ := Blk3G hr9
          obtain ⟨A1, n1, c1, h1⟩ := hp2.1.l.shp
          obtain ⟨A2, c2, h2⟩ := hp2.1.un.shape
          obtain ⟨qs, _, hq3, _⟩ := hp2.1.cs
          obtain ⟨A3, n3, c3, h3⟩ := hq3.shp
          rw [h1, h2, h3]
          have H1 := Lib.hid h1
          have H2 := Lib.hid h2
          have H3 := Lib.hid h3
          clear hr9 hp2 hq3 h1 h2 h3
          go_wp2_with fail
          exact bodyPost_ret (v := .agg #[.slice A1 n1 c1, .slice A2 ((x.act n s.stp).gather n).un.length c2, .slice A3 n3 c3]) (by simp [results, Tryz.results24, go_sem, r1, r2, r3]) rfl ⟨L2, by rw [H1.out, H2.out, H3.out], (HP9.out.box HR9.out (by omega) ((((Upd.refl _ w9).setIn 0 _).setIn 1 _).setIn 2 _)).mono (by omega)⟩
      case neg =>
        refine wp_region_z [13] (fun w' => w'.cell? ⟨w.heap.size, 1, none⟩ = some (.slice (some ⟨gu, ou, none⟩) x.un.length cu)) (by kernel_rfl) (p2) (fun hHeld => ?_)
        refine tkZ (i := 1) (oi := ⟨some 64, .fieldAddr 64 (.tmp 2) 1, 0, "law.go:207", #[], none⟩) (v := ?_) (.inl ⟨by rfl, ?_⟩) ?_
        rotate_left
        · (intro wq hSw; (try dsimp only at hSw); go_simp; first | done | with_reducible rfl)
        try simp only [Act.put, sA, sZ, sS]
        refine tkZ (i := 2) (oi := ⟨some 65, .load 34 (.tmp 64), 34, "law.go:207", #[⟨1, .data⟩], none⟩) (v := ?_) (.inl ⟨by rfl, ?_⟩) ?_
        rotate_left
        · (intro wq hSw; (try dsimp only at hSw); go_simp; first | done | with_reducible rfl)
        try simp only [Act.put, sA, sZ, sS]
        refine tkZ (i := 3) (oi := ⟨some 66, .move (.tmp 6), 3, "law.go:207", #[], none⟩) (v := ?_) (.inl ⟨by rfl, ?_⟩) ?_
        rotate_left
        · (intro wq hSw; (try dsimp only at hSw); go_simp; first | done | with_reducible rfl)
        try simp only [Act.put, sA, sZ, sS]
        refine tkZ (i := 4) (oi := ⟨some 67, .slice 34 (.tmp 65) none (some (.tmp 66)) none, 34, "law.go:207", #[⟨2, .data⟩, ⟨3, .data⟩], none⟩) (v := ?_) (.inl ⟨by rfl, ?_⟩) ?_
        rotate_left
        · (intro wq hSw; (try dsimp only at hSw); go_simp; first | done | with_reducible rfl)
        try simp only [Act.put, sA, sZ, sS]
        refine tkZ (i := 6) (oi := ⟨some 69, .fieldAddr 64 (.tmp 2) 1, 0, "law.go:207", #[], none⟩) (v := ?_) (.inl ⟨by rfl, ?_⟩) ?_
        rotate_left
        · (intro wq hSw; (try dsimp only at hSw); go_simp; first | done | with_reducible rfl)
        try simp only [Act.put, sA, sZ, sS]
        refine tkZ (i := 7) (oi := ⟨some 70, .load 34 (.tmp 69), 34, "law.go:207", #[⟨6, .data⟩], none⟩) (v := ?_) (.inl ⟨by rfl, ?_⟩) ?_
        rotate_left
        · (intro wq hSw; (try dsimp only at hSw); go_simp; first | done | with_reducible rfl)
        try simp only [Act.put, sA, sZ, sS]
        refine tkZ (i := 8) (oi := ⟨some 71, .move (.tmp 6), 3, "law.go:207", #[], none⟩) (v := ?_) (.inl ⟨by rfl, ?_⟩) ?_
        rotate_left
        · (intro wq hSw; (try dsimp only at hSw); go_simp; first | done | with_reducible rfl)
        try simp only [Act.put, sA, sZ, sS]
        refine tkZ (i := 9) (oi := ⟨some 72, .binOp .add 3 (.tmp 71) (.const (.int .i64 1)) 3, 3, "law.go:207", #[⟨8, .data⟩], none⟩) (v := ?_) (.inl ⟨by rfl, ?_⟩) ?_
        rotate_left
        · (intro wq hSw; (try dsimp only at hSw); go_simp; first | done | with_reducible rfl)
        try simp only [Act.put, sA, sZ, sS]
        refine tkZ (i := 10) (oi := ⟨some 73, .slice 34 (.tmp 70) (some (.tmp 72)) none none, 34, "law.go:207", #[⟨7, .data⟩, ⟨9, .data⟩], none⟩) (v := ?_) (.inl ⟨by rfl, ?_⟩) ?_
        rotate_left
        · (intro wq hSw; (try dsimp only at hSw); go_simp; first | done | with_reducible rfl)
        try simp only [Act.put, sA, sZ, sS]
        refine wpZ_ready (rs := [0]) (by kernel_rfl) (by simp) ?_
        refine AllZ.cons (o := ⟨some 63, .buildSlice 34 0 #[], 34, "law.go:207", #[], none⟩) rfl (fun K hK => ?_) AllZ.nil
        go_simp
        have hn6 := ((New.refl w5).alloc (.cells #[] 93)).drew
        have HE6 := Lib.hid (Blk.mk_new w5 93 #[]).drew
        have HZ6 : Hid ((w5.alloc (.cells #[] 93)).drew.heap.size = w5.heap.size + 1) := Lib.hid (by rw [size_ad2])
        have HN6 := Lib.hid hn6
        generalize (w5.alloc (.cells #[] 93)).drew = w6 at *
        have hb6 := HM5.out.b0.new hn6
        have k1 : w6.cell? ⟨w.heap.size, 1, none⟩ = some L.uv := hb6.cell 1
        rw [HUV.out] at k1
        have hs6 := HQROW.out.slIn NtV.encOk |>.new hn6
        rw [HUV.out] at hs6
        have HS6 := Lib.hid hs6
        have hrow6 : Row w6 w5.heap.size 93 9 NtV.enc (.slice (some ⟨w5.heap.size, 0, none⟩) 0 0) ([] : List NtV) := .inr ⟨w5.heap.size, 0, 0, #[], rfl, Nat.le_refl _, HE6.out, Nat.le_refl _, by decide, by simp, by simp⟩
        have HR6 := Lib.hid hrow6
        clear hn6 hb6 hs6 hrow6
        refine hK.out _ _ ?_ (fun hHeld => ?_)
        · exact k1
        clear hK K
        try simp only [Act.put, sA, sZ, sS]
        refine wpZ_ready (rs := [5]) (by kernel_rfl) (by simp) ?_
        refine AllZ.cons (o := ⟨some 68, .call { callee := .builtin .append, args := #[.tmp 63, .tmp 67], argTypes := #[34, 34] }, 34, "law.go:207", #[⟨0, .data⟩, ⟨4, .data⟩], none⟩) rfl (fun K hK => ?_) AllZ.nil
        refine step_appR (m := qs.take aa) ntTy NtV.encOk rfl (.tmp 63) (.tmp 67) rfl rfl rfl HR6.out (HS6.out.take (by have := HQL.out; omega) (by have := HQL.out; have := HCU.out; omega)) (by have := HQL.out; simp; unfold maxLen; omega) (by have := HQL.out; simp; omega) (by have := HZ6.out; omega) ?_
        intro v7 w7 h7 hg7 hv7
        have hu7 : Upd (· = w5.heap.size) w6 w7 := (Upd.refl _ w6).grown hg7 (fun i _ e => (Option.some.inj e).symm)
        have hn7 : New w5 w7 := HN6.out.upd hu7 (fun k hk => by omega)
        have hb7 := HM5.out.b0.new hn7
        have k2 : w7.cell? ⟨w.heap.size, 1, none⟩ = some L.uv := hb7.cell 1
        rw [HUV.out] at k2
        have hs7 := HQROW.out.slIn NtV.encOk |>.new hn7
        rw [HUV.out] at hs7
        have HS7 := Lib.hid hs7
        have HR7 := Lib.hid h7
        have HN7 := Lib.hid hn7
        have HZ7 : Hid (w5.heap.size ≤ w7.heap.size) := Lib.hid hn7.size
        clear h7 hg7 hv7 hu7 hn7 hb7 hs7
        refine hK.out _ _ ?_ (fun hHeld => ?_)
        · exact k2
        clear hK K
        try simp only [Act.put, sA, sZ, sS]
        refine wpZ_ready (rs := [11]) (by kernel_rfl) (by simp) ?_
        refine AllZ.cons (o := ⟨some 74, .call { callee := .builtin .append, args := #[.tmp 68, .tmp 73], argTypes := #[34, 34] }, 34, "law.go:207", #[⟨5, .data⟩, ⟨10, .data⟩, ⟨5, .chain⟩], none⟩) rfl (fun K hK => ?_) AllZ.nil
        refine step_appR (m := qs.drop (aa + 1)) ntTy NtV.encOk rfl (.tmp 68) (.tmp 73) rfl rfl rfl HR7.out (by first | exact HS7.out.drop_at (k := aa + 1) (by have := HQL.out; omega) hcap | exact HS7.out.drop_end (by have := HQL.out; omega)) (by have := HQL.out; simp; unfold maxLen; omega) (by have := HQL.out; simp; omega) HZ7.out ?_
        intro v8 w8 h8 hg8 hv8
        have hu8 : Upd (fun i => v7.ownBlock = some i) w7 w8 := (Upd.refl _ w7).grown hg8 (fun i _ e => e)
        have hn8 : New w5 w8 := HN7.out.upd hu8 (fun k hk => (HR7.out.lt k hk).1)
        have hun8 : NtRow w8 0 v8 (x.un.eraseIdx aa) := ⟨qs.take aa ++ qs.drop (aa + 1), by rw [← List.eraseIdx_eq_take_drop_succ, ← HQS.out, map_erase], by have := h8.lower (Nat.zero_le _); rwa [List.nil_append] at this, fun q hq => (HQA.out q ((List.mem_append.1 hq).elim List.mem_of_mem_take List.mem_of_mem_drop)).new hn8⟩
        have hlt8 := h8.lt
        obtain ⟨hs1, hs2, hs3⟩ := HH5.out.newUn hn8 hun8 (fun k hk => (hlt8 k hk).1)
        obtain ⟨A8, n8, c8, hsl⟩ := h8.shp
        rw [hsl] at hs1 hs2
        have HS8 := Lib.hid (And.intro hs1 (And.intro hs2 hs3))
        have HN8 := Lib.hid hn8
        have hb8 := HM5.out.b0.new hn8
        have HB8 := Lib.hid hb8
        rw [hsl]
        have k3 : w8.cell? ⟨w.heap.size, 1, none⟩ = some L.uv := hb8.cell 1
        rw [HUV.out] at k3
        have hfz := hb8.frozen
        have glt := hb8.lt
        clear h8 hg8 hv8 hu8 hn8 hun8 hlt8 hs1 hs2 hs3 hsl hb8
        refine hK.out _ _ ?_ (fun hHeld => ?_)
        · exact k3
        clear hK K
        try simp only [Act.put, sA, sZ, sS]
        refine tkZ (i := 12) (oi := ⟨some 75, .fieldAddr 64 (.tmp 2) 1, 0, "law.go:207", #[⟨0, .phase⟩, ⟨1, .phase⟩, ⟨2, .phase⟩, ⟨3, .phase⟩, ⟨4, .phase⟩, ⟨5, .phase⟩, ⟨6, .phase⟩, ⟨7, .phase⟩, ⟨8, .phase⟩, ⟨9, .phase⟩, ⟨10, .phase⟩, ⟨11, .phase⟩], none⟩) (v := ?_) (.inl ⟨by rfl, ?_⟩) ?_
        rotate_left
        · (intro wq hSw; (try dsimp only at hSw); go_simp; first | done | with_reducible rfl)
        try simp only [Act.put, sA, sZ, sS]
        refine wpZ_ready (rs := [13]) (by kernel_rfl) (by simp) ?_
        refine AllZ.consZ (o := ⟨none, .store 34 (.tmp 75) (.tmp 74), 0, "law.go:207", #[⟨12, .data⟩, ⟨11, .data⟩, ⟨11, .chain⟩, ⟨0, .phase⟩, ⟨1, .phase⟩, ⟨2, .phase⟩, ⟨3, .phase⟩, ⟨4, .phase⟩, ⟨5, .phase⟩, ⟨6, .phase⟩, ⟨7, .phase⟩, ⟨8, .phase⟩, ⟨9, .phase⟩, ⟨10, .phase⟩, ⟨11, .phase⟩], none⟩) rfl (by kernel_rfl) (fun K hK => ?_) AllZ.nil
        go_simp
        refine hK.out _ _ ?_
        clear hK K
        try simp only [Act.put, sA, sZ, sS]
        refine wpZ_done (by kernel_rfl) ?_ _
        clear hHeld
        have hu9 : Upd (· = w.heap.size) w8 (w8.setCell ⟨w.heap.size, 1, none⟩ (.slice A8 n8 c8)) := (Upd.refl _ w8).setIn 1 _
        have hp8 : ChPost w5 n B L ({ x with un := x.un.eraseIdx aa } : Chn) { L with uv := .slice A8 n8 c8 } w8 := ⟨HS8.out.1, rfl, rfl, HS8.out.2.1, HS8.out.2.2⟩
        have hp9 := (ChPost.pre HN5.out hp8).box HB8.out (Nat.le_refl _) hu9
        have HM9 : Hid (SpM (w8.setCell ⟨w.heap.size, 1, none⟩ (.slice A8 n8 c8)) w.heap.size { L with uv := .slice A8 n8 c8 } s nwv) := Lib.hid ⟨HB8.out.set_ 1 _, (HM5.out.b1.new HN8.out).upd hu9 (by omega), (HM5.out.b2.new HN8.out).upd hu9 (by omega), (HM5.out.b3.new HN8.out).upd hu9 (by omega)⟩
        have HP9 := Lib.hid ((HP5.out.new HN8.out).upd hu9 (by have := HM4.out.b0.lt; omega))
        have HC9 := Lib.hid hp9
        have HV9 := Lib.hid (((HPV.out.new HN5W.out).new HN8.out).upd hu9 (Off.blk HB8.out (by decide)))
        have HK9 : Hid (∀ k, ChF n { L with uv := .slice A8 n8 c8 } k → ChF n L k ∨ w5.heap.size ≤ k) := Lib.hid HS8.out.2.1
        clear hp8 hp9 hu9 k1 k2 k3 hfz glt p0 p1 p3 pz q0 q1 q2 q3 q4 q5 q6 q7 qz
        generalize w8.setCell ⟨w.heap.size, 1, none⟩ (.slice A8 n8 c8) = w9 at *
        generalize ({ L with uv := .slice A8 n8 c8 } : ChL) = L9 at *
        have hb1 := HM9.out.b1
        unfold StV.cells at hb1
        obtain ⟨q0, q1, q2, q3, q4, q5, q6, q7, qz⟩ := Blk7I hb1
        clear hb1 p2
        obtain ⟨p0, p1, p2, p3, pz⟩ := Blk3G HM9.out.b0
        have hlv9 := HC9.out.2.1.trans HLN.out
        have HLV9 := Lib.hid hlv9
        rw [hlv9] at p1
        clear hlv9 el hgl
        obtain ⟨n0, n1, n2, n3, n4, n5, n6, n7, n8, n9⟩ := Blk9I HP9.out
        clear hbg hw13 h13a h13b h13c h13d h13e h13f h13g hcl2 haai haa0 hui haal hn1 hkn hkn2 hkk0
        by_cases hds : 0 ≤ p.nt.ds ∧ p.nt.ds < (n : Int)
        case neg =>
          have hA : SpAft w n (B + 20) L (x.act n s.stp) L9 w9 := ⟨by rw [HACT.out, arrive_no hds]; exact HC9.out.mono (by omega), HM9.out.b0, HM9.out.b2⟩
          have hds : ¬ (0 ≤ p.ds ∧ p.ds < (n : Int)) := hds
          by_cases h1 : 0 ≤ p.ds
          · have h2 : ¬ p.ds < (n : Int) := fun h => hds ⟨h1, h⟩
            clear hds
            have HA : Hid (SpAft w n (B + 20) L (x.act n s.stp) L9 w9) := Lib.hid hA
            clear hA
            obtain ⟨p0, p1, p2, p3, pz⟩ := Blk3G HA.out.bx
            obtain ⟨r0, r1, r2, r3, rz⟩ := Blk3G HA.out.rs
            go_wp2_with fail
            rw [← HLV9.out]
            refine (gather_any HA.out.po.1 hn (by omega) (by have := HUN.out; omega)).mono ?_
            rintro e w9 ⟨L2, rfl, hp2⟩
            have hr9 := HA.out.rs.upd hp2.2.2.2.2 (HA.out.po.1.boxF HA.out.rs).1
            have HR9 := Lib.hid hr9
            have HP9 := Lib.hid (ChPost.trans HA.out.po (hp2.mono (Nat.le_refl _)))
            clear p0 p1 p2 p3 pz r0 r1 r2 r3 rz
            obtain ⟨r0, r1, r2, r3, rz⟩ := Blk3G hr9
            obtain ⟨A1, n1, c1, h1⟩ := hp2.1.l.shp
            obtain ⟨A2, c2, h2⟩ := hp2.1.un.shape
            obtain ⟨qs, _, hq3, _⟩ := hp2.1.cs
            obtain ⟨A3, n3, c3, h3⟩ := hq3.shp
            rw [h1, h2, h3]
            have H1 := Lib.hid h1
            have H2 := Lib.hid h2
            have H3 := Lib.hid h3
            clear hr9 hp2 hq3 h1 h2 h3
            go_wp2_with fail
            exact bodyPost_ret (v := .agg #[.slice A1 n1 c1, .slice A2 ((x.act n s.stp).gather n).un.length c2, .slice A3 n3 c3]) (by simp [results, Tryz.results24, go_sem, r1, r2, r3]) rfl ⟨L2, by rw [H1.out, H2.out, H3.out], (HP9.out.box HR9.out (by omega) ((((Upd.refl _ w9).setIn 0 _).setIn 1 _).setIn 2 _)).mono (by omega)⟩
          · clear hds
            have HA : Hid (SpAft w n (B + 20) L (x.act n s.stp) L9 w9) := Lib.hid hA
            clear hA
            obtain ⟨p0, p1, p2, p3, pz⟩ := Blk3G HA.out.bx
            obtain ⟨r0, r1, r2, r3, rz⟩ := Blk3G HA.out.rs
            go_wp2_with fail
            rw [← HLV9.out]
            refine (gather_any HA.out.po.1 hn (by omega) (by have := HUN.out; omega)).mono ?_
            rintro e w9 ⟨L2, rfl, hp2⟩
            have hr9 := HA.out.rs.upd hp2.2.2.2.2 (HA.out.po.1.boxF HA.out.rs).1
            have HR9 := Lib.hid hr9
            have HP9 := Lib.hid (ChPost.trans HA.out.po (hp2.mono (Nat.le_refl _)))
            clear p0 p1 p2 p3 pz r0 r1 r2 r3 rz
            obtain ⟨r0, r1, r2, r3, rz⟩ := Blk3G hr9
            obtain ⟨A1, n1, c1, h1⟩ := hp2.1.l.shp
            obtain ⟨A2, c2, h2⟩ := hp2.1.un.shape
            obtain ⟨qs, _, hq3, _⟩ := hp2.1.cs
            obtain ⟨A3, n3, c3, h3⟩ := hq3.shp
            rw [h1, h2, h3]
            have H1 := Lib.hid h1
            have H2 := Lib.hid h2
            have H3 := Lib.hid h3
            clear hr9 hp2 hq3 h1 h2 h3
            go_wp2_with fail
            exact bodyPost_ret (v := .agg #[.slice A1 n1 c1, .slice A2 ((x.act n s.stp).gather n).un.length c2, .slice A3 n3 c3]) (by simp [results, Tryz.results24, go_sem, r1, r2, r3]) rfl ⟨L2, by rw [H1.out, H2.out, H3.out], (HP9.out.box HR9.out (by omega) ((((Upd.refl _ w9).setIn 0 _).setIn 1 _).setIn 2 _)).mono (by omega)⟩
        case pos =>
          have HDS := Lib.hid hds
          obtain ⟨dd, hdd⟩ : ∃ dd : Nat, p.ds = (dd : Int) := ⟨p.ds.toNat, by have h : 0 ≤ p.ds := hds.1; omega⟩
          have HDD : Hid (p.ds.toNat = dd) := Lib.hid (by omega)
          have HDP := Lib.hid hdd
          have hdn : dd < n := by have h : p.ds < (n : Int) := hds.2; omega
          have hd0 : (0 : Int) ≤ (dd : Int) := by omega
          have hd1 : (dd : Int) < (n : Int) := by omega
          rw [hdd] at n3
          clear hds hdd
          obtain ⟨g9, o9, c9, hlv2, hcl9, el9, hgl9⟩ := HC9.out.1.node hdn
          rw [HLV9.out] at hlv2
          cases hlv2
          go_upto_region 15 with fail
          refine wp_region_held_drew (S := fun w' => (∀ o, w'.cell? ⟨w.heap.size, o, none⟩ = w9.cell? ⟨w.heap.size, o, none⟩) ∧ (∀ o, w'.cell? ⟨W4.heap.size, o, none⟩ = w9.cell? ⟨W4.heap.size, o, none⟩) ∧ w'.cell? ⟨gl, ol + dd, none⟩ = w9.cell? ⟨gl, ol + dd, none⟩) (by kernel_rfl) (⟨fun _ => rfl, fun _ => rfl, rfl⟩) (fun hHeld => ?_)
          refine tkH (i := 0) (oi := ⟨some 92, .fieldAddr 64 (.tmp 2) 0, 0, "law.go:209", #[], none⟩) (v := ?_) (.inl ⟨by rfl, ?_⟩) ?_
          rotate_left
          · (intro wq hSw; (try dsimp only at hSw); go_simp; first | done | with_reducible rfl)
          try simp only [Act.put, sA, sZ, sS]
          refine tkH (i := 1) (oi := ⟨some 93, .load 61 (.tmp 92), 61, "law.go:209", #[⟨0, .data⟩], none⟩) (v := ?_) (.inl ⟨by rfl, ?_⟩) ?_
          rotate_left
          · (intro wq hSw; (try dsimp only at hSw); go_simp; first | done | with_reducible rfl)
          try simp only [Act.put, sA, sZ, sS]
          refine tkH (i := 2) (oi := ⟨some 94, .fieldAddr 93 (.tmp 8) 2, 0, "law.go:209", #[], none⟩) (v := ?_) (.inl ⟨by rfl, ?_⟩) ?_
          rotate_left
          · (intro wq hSw; (try dsimp only at hSw); go_simp; first | done | with_reducible rfl)
          try simp only [Act.put, sA, sZ, sS]
          refine tkH (i := 3) (oi := ⟨some 95, .load 3 (.tmp 94), 3, "law.go:209", #[⟨2, .data⟩], none⟩) (v := ?_) (.inl ⟨by rfl, ?_⟩) ?_
          rotate_left
          · (intro wq hSw; (try dsimp only at hSw); go_simp; first | done | with_reducible rfl)
          try simp only [Act.put, sA, sZ, sS]
          refine tkH (i := 4) (oi := ⟨some 96, .indexAddr 61 (.tmp 93) (.tmp 95), 0, "law.go:209", #[⟨1, .data⟩, ⟨3, .data⟩], none⟩) (v := ?_) (.inl ⟨by rfl, ?_⟩) ?_
          rotate_left
          · (intro wq hSw; (try dsimp only at hSw); go_simp; first | done | with_reducible rfl)
          try simp only [Act.put, sA, sZ, sS]
          refine tkH (i := 5) (oi := ⟨some 97, .load 45 (.tmp 96), 45, "law.go:209", #[⟨4, .data⟩], none⟩) (v := ?_) (.inl ⟨by rfl, ?_⟩) ?_
          rotate_left
          · (intro wq hSw; (try dsimp only at hSw); go_simp; first | done | with_reducible rfl)
          try simp only [Act.put, sA, sZ, sS]
          refine tkH (i := 6) (oi := ⟨some 98, .load 93 (.tmp 8), 93, "law.go:209", #[], none⟩) (v := ?_) (.inl ⟨by rfl, ?_⟩) ?_
          rotate_left
          · (intro wq hSw; (try dsimp only at hSw); go_simp; first | done | with_reducible rfl)
          try simp only [Act.put, sA, sZ, sS]
          refine wpAnyH_ready (rs := [7]) (by kernel_rfl) (by simp) ?_
          refine AllReadyH.cons (o := ⟨some 99, .call { callee := .value (.func 37), args := #[.tmp 97, .tmp 98], argTypes := #[45, 93] }, 0, "law.go:209", #[⟨5, .data⟩, ⟨6, .data⟩], none⟩) rfl (fun K hK => ?_) AllReadyH.nil
          go_simp
          have ho := rreceive ((HC9.out.1.rp dd hdn).new (New.refl w9).drew) p (HV9.out.new (New.refl w9).drew) HBIG.out (by omega)
          rw [← HDP.out]
          refine ho.mono ?_
          rintro e w7 ⟨rfl, hp⟩
          have hrf : Upd (RpF (L9.rp dd) (L9.rl dd)) w9 w7 := (Upd.refl _ w9).drew.trans (show Upd (RpF (L9.rp dd) (L9.rl dd)) w9.drew w7 from let ⟨_, _, _, h⟩ := hp; h) (fun _ _ h => h)
          obtain ⟨L1, hc1, hu1, hc1v, -⟩ := ChPost.setRp (HC9.out.1.new (New.refl w9).drew) hdn hp (by omega)
          have m0 := fun o => keepR hrf HM9.out.b0.lt (fun hk => (HC9.out.1.boxF HM9.out.b0).1 (.inl ⟨dd, hdn, hk⟩)) o
          have m1 := fun o => keepR hrf HP9.out.lt (fun hk => (HK9.out _ (.inl ⟨dd, hdn, hk⟩)).elim HNB.out.2 (fun h => absurd HNB.out.1 (by omega))) o
          have m2 := keepR hrf hgl9 (fun hk => HC9.out.1.lvF gl (by rw [HLV9.out]; rfl) (.inl ⟨dd, hdn, hk⟩)) (ol + dd)
          refine hK.out _ _ ?_ (fun hHeld => ?_)
          · exact ⟨m0, m1, m2⟩
          clear hK K
          try simp only [Act.put, sA, sZ, sS]
          refine wpAnyH_done (by kernel_rfl) ?_ _
          clear hHeld
          have hc3 := ChPost.trans HC9.out (ChPost.pre (New.refl w9).drew hc1)
          have har : x.act n s.stp = ({ ({ x with un := x.un.eraseIdx aa } : Chn) with rp := setD x.rp dd ((x.rp dd).receive p.nt) } : Chn) := by
            rw [HACT.out]
            unfold Chn.arrive
            rw [if_pos HDS.out]
            have hdt : p.nt.ds.toNat = dd := HDD.out
            rw [hdt]
          rw [← har] at hc3
          have hA : SpAft w n (B + 20) L (x.act n s.stp) L1 w7 := ⟨hc3, by rw [hc1.2.1, hu1, hc1v]; exact HM9.out.b0.upd hrf (fun hk => (HC9.out.1.boxF HM9.out.b0).1 (.inl ⟨dd, hdn, hk⟩)), HM9.out.b2.upd hrf (fun hk => (HC9.out.1.boxF HM9.out.b2).1 (.inl ⟨dd, hdn, hk⟩))⟩
          clear har hp hc1 hc3 hu1 hc1v hrf ho m0 m1 m2 el9 hgl9 p0 p1 p2 p3 pz q0 q1 q2 q3 q4 q5 q6 q7 qz n0 n1 n2 n3 n4 n5 n6 n7 n8 n9
          have HA : Hid (SpAft w n (B + 20) L (x.act n s.stp) L1 w7) := Lib.hid hA
          clear hA
          obtain ⟨p0, p1, p2, p3, pz⟩ := Blk3G HA.out.bx
          obtain ⟨r0, r1, r2, r3, rz⟩ := Blk3G HA.out.rs
          go_wp2_with fail
          refine (gather_any HA.out.po.1 hn (by omega) (by have := HUN.out; omega)).mono ?_
          rintro e w9 ⟨L2, rfl, hp2⟩
          have hr9 := HA.out.rs.upd hp2.2.2.2.2 (HA.out.po.1.boxF HA.out.rs).1
          have HR9 := Lib.hid hr9
          have HP9 := Lib.hid (ChPost.trans HA.out.po (hp2.mono (Nat.le_refl _)))
          clear p0 p1 p2 p3 pz r0 r1 r2 r3 rz
          obtain ⟨r0, r1, r2, r3, rz⟩ := Blk3G hr9
          obtain ⟨A1, n1, c1, h1⟩ := hp2.1.l.shp
          obtain ⟨A2, c2, h2⟩ := hp2.1.un.shape
          obtain ⟨qs, _, hq3, _⟩ := hp2.1.cs
          obtain ⟨A3, n3, c3, h3⟩ := hq3.shp
          rw [h1, h2, h3]
          have H1 := Lib.hid h1
          have H2 := Lib.hid h2
          have H3 := Lib.hid h3
          clear hr9 hp2 hq3 h1 h2 h3
          go_wp2_with fail
          exact bodyPost_ret (v := .agg #[.slice A1 n1 c1, .slice A2 ((x.act n s.stp).gather n).un.length c2, .slice A3 n3 c3]) (by simp [results, Tryz.results24, go_sem, r1, r2, r3]) rfl ⟨L2, by rw [H1.out, H2.out, H3.out], (HP9.out.box HR9.out (by omega) ((((Upd.refl _ w9).setIn 0 _).setIn 1 _).setIn 2 _)).mono (by omega)⟩
end
end Go.Proofs.YtecniafnihpjmaaGreatDoor

/- Chapter 24 (replica): the law's step, whatever its kind. -/
namespace Go.Proofs.YtecniafnihpjmaaGreatDoor
open Go.RowKit Go.Lap C
set_option linter.unusedVariables false
section
variable {w w' W wa : World} {n B : Nat} {L : ChL} {x : Chn} {s : StV}
theorem step_any (h : ChAt w n B L x) (hn0 : 0 < n) (hn : n ≤ 7) (hB : B ≤ 979000) (hu : x.un.length ≤ 300) (hs : StOk w s) (hcs : CsOk n x.cs x.newest) (hcl : x.cs.length ≤ 1000) (hbg : ∀ nt ∈ x.un, nt.t < big) :
    Calls Tryz.prog 24 #[.agg #[L.lv, L.uv, L.cv], s.val] w (ChRet w n (B + 20) L (x.step n s.stp)) := by
  by_cases h0 : s.kind = 0
  · exact step_submit h hn0 hn hB hu hs hcs hcl h0
  by_cases h1 : s.kind = 1
  · exact step_deliver h hn0 hn hB hu hs hcs hcl hbg h1
  by_cases h2 : s.kind = 2
  · exact step_copy h hn0 hn hB hu hs hcs hcl h2
  by_cases h3 : s.kind = 3
  · exact step_lose h hn0 hn hB hu hs hcs hcl h3
  by_cases h4 : s.kind = 4
  · exact step_tick h hn0 hn hB hu hs hcs hcl h4
  by_cases h5 : s.kind = 5
  · exact step_remove h hn0 hn hB hu hs hcs hcl h5
  by_cases h6 : s.kind = 6
  · exact step_learn h hn0 hn hB hu hs hcs hcl h6
  exact step_other h hn0 hn hB hu hs hcs hcl (by omega)
end
/-- Timestamps that are under way. -/
def TsOk (x : Chn) : Prop := ∀ nt ∈ x.un, nt.t < big
section
variable {n : Nat} {x : Chn}
/-- What notes say of timestamps is bounded by the lists. -/
def NtB (M : Nat) (nt : Nt) : Prop := nt.t ≤ M
def RpB (M : Nat) (x : Rpl) : Prop := x.l.length < M ∧ x.cl ≤ x.l.length ∧ ∀ nt ∈ x.out, nt.t ≤ M
theorem RpB.send {M : Nat} {x : Rpl} (h : RpB M x) {ds k : Int} {t : Nat} {b : Btc} (ht : t ≤ M) : RpB M (x.send ds k t b) := ⟨h.1, h.2.1, fun nt hnt => (List.mem_append.1 hnt).elim (h.2.2 nt) (fun e => (List.mem_singleton.1 e) ▸ ht)⟩
theorem RpB.tell {M : Nat} {x : Rpl} (h : RpB M x) : RpB M x.tell := by
  unfold Rpl.tell
  split
  · exact h.send (by have := h.1; have := h.2.1; omega)
  · exact h
theorem RpB.ask {M : Nat} {x : Rpl} (h : RpB M x) : RpB M x.ask := by
  unfold Rpl.ask
  split
  · exact h.send (by have := h.1; unfold Rpl.la; omega)
  · exact h
theorem RpB.some_ {M : Nat} {x : Rpl} (h : RpB M x) (ds : Int) (t : Nat) : RpB M (x.some_ ds t) := by
  unfold Rpl.some_
  have key : ∀ (is : List Nat) (z : Rpl), RpB M z → RpB M (is.foldl (fun y i => if 1 ≤ t ∧ t + i ≤ x.la then y.send ds 0 (t + i) ((x.l[t + i - 1]?).getD Btc.none) else y) z) := by
    intro is
    induction is with
    | nil => intro z hz; exact hz
    | cons i is ih =>
      intro z hz
      rw [List.foldl_cons]
      split
      · rename_i hc
        exact ih _ (hz.send (by have := h.1; unfold Rpl.la at hc; omega))
      · exact ih _ hz
  exact key _ x h
theorem RpB.cleaned {M : Nat} {x : Rpl} (h : RpB M x) {t : Nat} (ht : t ≤ x.l.length) : RpB M (x.cleaned t) := RpB.tell (x := { x with cl := t }) ⟨h.1, ht, h.2.2⟩
theorem RpB.mono {M K : Nat} {x : Rpl} (h : RpB M x) (hM : M ≤ K) : RpB K x := ⟨Nat.lt_of_lt_of_le h.1 hM, h.2.1, fun nt hnt => Nat.le_trans (h.2.2 nt hnt) hM⟩
theorem RpB.added {M : Nat} {x : Rpl} (h : RpB M x) (b : Btc) : RpB (M + 1) (x.added b) := by
  have h1 : RpB (M + 1) ({ x with l := x.l ++ [b] } : Rpl) := ⟨by have := h.1; simp; omega, by have := h.2.1; simp; omega, fun nt hnt => Nat.le_succ_of_le (h.2.2 nt hnt)⟩
  unfold Rpl.added
  dsimp only
  split
  · exact h1.send (by have := h1.1; unfold Rpl.la; omega)
  · exact h1.cleaned (Nat.le_refl _)
theorem RpB.jdg {M : Nat} {x : Rpl} (h : RpB M x) (j : Jd) : RpB M { x with j := j } := h
theorem RpB.submit {M : Nat} {x : Rpl} (h : RpB M x) (b : Btc) : RpB (M + 1) (x.submit b).1 := by
  unfold Rpl.submit
  split
  · exact h.mono (Nat.le_succ M)
  · dsimp only
    split
    · exact (h.jdg _).added b
    · exact h.mono (Nat.le_succ M)
theorem RpB.receive {M : Nat} {x : Rpl} (h : RpB M x) (n : Nt) : RpB (M + 1) (x.receive n) := by
  have h1 := h.mono (Nat.le_succ M)
  unfold Rpl.receive
  split
  · exact h1
  · split
    · split
      · unfold Rpl.forwarded
        split
        · split
          · exact h1
          · exact (h.jdg _).added _
        · split
          · exact h1.ask
          · split
            · exact h1.tell
            · exact h1
      · split
        · unfold Rpl.acked
          split
          · exact h1.cleaned (by unfold Rpl.la; omega)
          · exact h1
        · exact h1.some_ _ _
    · exact h1
theorem RpB.adopt {M : Nat} {x : Rpl} (h : RpB M x) (c : Cfg) : RpB M (x.adopt c).1 := by
  unfold Rpl.adopt
  split
  · exact h
  · dsimp only
    split
    · exact h
    · refine RpB.ask ?_
      split
      · exact h
      · exact RpB.cleaned (x := { x with cf := c }) h (Nat.le_refl _)
theorem RpB.tick {M : Nat} {x : Rpl} (h : RpB M x) : RpB M x.tick := by
  unfold Rpl.tick
  dsimp only
  refine RpB.ask ?_
  have h1 : RpB M (if (nextC x.cf x.id).2 = true then x.some_ (nextC x.cf x.id).1 (x.cl + 1) else x) := by
    split
    · exact h.some_ _ _
    · exact h
  generalize (if (nextC x.cf x.id).2 = true then x.some_ (nextC x.cf x.id).1 (x.cl + 1) else x) = z at h1 ⊢
  split
  · exact h1.tell
  · exact h1
/-- The chain's numbers: lists shorter than M, timestamps at most M. -/
structure ChB (n M : Nat) (x : Chn) : Prop where
  rp : ∀ y < n, RpB M (x.rp y)
  un : ∀ nt ∈ x.un, nt.t ≤ M
  ul : x.un.length ≤ 300
theorem ChB.set_ {M : Nat} (h : ChB n M x) {k : Nat} {r : Rpl} (hr : RpB (M + 1) r) : (∀ y < n, RpB (M + 1) (setD x.rp k r y)) := by
  intro y hy
  by_cases hyk : y = k
  · subst hyk; rw [setD_same]; exact hr
  · rw [setD_ne _ _ hyk]; exact (h.rp y hy).mono (Nat.le_succ M)
/-- What an act leaves ahead of the gathering. -/
def ActB (n M : Nat) (x : Chn) : Prop := (∀ y < n, RpB M (x.rp y)) ∧ ∀ nt ∈ x.un, nt.t ≤ M
theorem ActB.gather {M : Nat} (h : ActB n M x) : ChB n M (x.gather n) := by
  refine ⟨fun y hy => ⟨(h.1 y hy).1, (h.1 y hy).2.1, fun nt hnt => by cases hnt⟩, fun nt hnt => ?_, List.length_take_le _ _⟩
  rcases List.mem_append.1 (List.mem_of_mem_take hnt) with hm | hm
  · exact h.2 nt hm
  · obtain ⟨i, hi, hm⟩ := List.mem_flatMap.1 hm
    exact (h.1 i (List.mem_range.1 hi)).2.2 nt hm
theorem ChB.act {M : Nat} (h : ChB n M x) (hn : 0 < n) (s : Stp) : ActB n (M + 1) (x.act n s) := by
  have hk : s.node % n < n := Nat.mod_lt _ hn
  have hun : ∀ nt ∈ x.un, nt.t ≤ M + 1 := fun nt hnt => Nat.le_succ_of_le (h.un nt hnt)
  have hsame : ∀ y < n, RpB (M + 1) (x.rp y) := fun y hy => (h.rp y hy).mono (Nat.le_succ M)
  unfold Chn.act
  split
  · exact ⟨h.set_ ((h.rp _ hk).submit _), hun⟩
  · split
    · split
      · exact ⟨hsame, hun⟩
      · rename_i nt hnt
        have he : ∀ nt ∈ x.un.eraseIdx (s.at_ % x.un.length), nt.t ≤ M + 1 := fun nt hm => hun nt (List.mem_of_mem_eraseIdx hm)
        split
        · unfold Chn.arrive
          split
          · rename_i hc
            exact ⟨h.set_ ((h.rp _ (by omega)).receive nt), he⟩
          · exact ⟨hsame, he⟩
        · exact ⟨hsame, he⟩
    · split
      · split
        · exact ⟨hsame, hun⟩
        · rename_i nt hnt
          exact ⟨hsame, fun m hm => (List.mem_append.1 hm).elim (hun m) (fun e => by rw [List.mem_singleton.1 e]; exact hun nt (List.mem_of_getElem? hnt))⟩
      · split
        · exact ⟨h.set_ ((h.rp _ hk).tick.mono (Nat.le_succ M)), hun⟩
        · split
          · split
            · exact ⟨hsame, hun⟩
            · exact ⟨hsame, hun⟩
          · split
            · generalize (if s.at_ % 2 = 1 then x.newest.e - 1 else (x.rp (s.node % n)).cf.e) = e
              unfold Chn.learn
              split
              · exact ⟨h.set_ (((h.rp _ hk).adopt _).mono (Nat.le_succ M)), hun⟩
              · exact ⟨hsame, hun⟩
            · exact ⟨hsame, hun⟩
theorem ChB.step {M : Nat} (h : ChB n M x) (hn : 0 < n) (s : Stp) : ChB n (M + 1) (x.step n s) := (h.act hn s).gather
theorem ChB.start : ChB n 1 (Chn.start n) := ⟨fun y hy => ⟨Nat.zero_lt_one, Nat.le_refl _, (fun nt hnt => by cases hnt)⟩, (fun nt hnt => by cases hnt), Nat.zero_le _⟩
theorem act_cs (x : Chn) (n : Nat) (s : Stp) : (x.act n s).cs.length ≤ x.cs.length + 1 := by
  unfold Chn.act
  split
  · exact Nat.le_succ _
  · split
    · split
      · exact Nat.le_succ _
      · split
        · unfold Chn.arrive
          split <;> exact Nat.le_succ _
        · exact Nat.le_succ _
    · split
      · split <;> exact Nat.le_succ _
      · split
        · exact Nat.le_succ _
        · split
          · split
            · show (x.cs ++ [_]).length ≤ _
              rw [List.length_append]; exact Nat.le_refl _
            · exact Nat.le_succ _
          · split
            · generalize (if s.at_ % 2 = 1 then x.newest.e - 1 else (x.rp (s.node % n)).cf.e) = e
              unfold Chn.learn
              split <;> exact Nat.le_succ _
            · exact Nat.le_succ _
end
end Go.Proofs.YtecniafnihpjmaaGreatDoor
