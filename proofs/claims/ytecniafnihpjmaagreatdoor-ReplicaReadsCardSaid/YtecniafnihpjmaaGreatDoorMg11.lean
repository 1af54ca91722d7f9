/- The parts RpI, RpI2, RpI3, RpI4, joined. -/
import Derived.Test.YtecniafnihpjmaaGreatDoorMg10
import Derived.Deep.DeepCutAuto
import Derived.Deep.CutBlock
import Derived.Test.YtecniafnihpjmaaGreatDoorTk
/- Chapter 24 (replica): the law's step. Printed by genRpI.py. -/
namespace Go.Proofs.YtecniafnihpjmaaGreatDoor
open Go.RowKit Go.Lap C
set_option linter.unusedVariables false
set_option linter.unusedSimpArgs false
/-- A step of the law as it comes in. -/
structure StV where
  kind : Int
  node : Nat
  at_ : Nat
  b : Btc
  A : Option Addr
  c : Nat
def StV.sl (s : StV) : Value := .slice s.A s.b.l.length s.c
def StV.enc (s : StV) : List Value := [.int .i64 s.kind, .int .u8 (s.node : Int), .int .u16 (s.at_ : Int), .int .u64 (s.b.c : Int), .int .u64 (s.b.r : Int), .int .u64 (s.b.s : Int), s.sl]
theorem StV.encOk : Enc StV.enc 7 := fun x => ⟨rfl, by simp [StV.enc, StV.sl, Value.oneCell']⟩
def StV.cells (s : StV) : Array Value := #[.int .i64 s.kind, .int .u8 (s.node : Int), .int .u16 (s.at_ : Int), .int .u64 (s.b.c : Int), .int .u64 (s.b.r : Int), .int .u64 (s.b.s : Int), s.sl]
def StV.val (s : StV) : Value := .agg s.cells
def StV.stp (s : StV) : Stp := ⟨s.kind, s.node, s.at_, s.b.cut⟩
structure StOk (w : World) (s : StV) : Prop where
  sl : SlIn w 3 Wri.enc s.sl s.b.l
  l : s.b.l.length ≤ maxLen
  c : s.b.c < big
  r : s.b.r < big
  s_ : s.b.s < big
  node : s.node < 256
  at_ : s.at_ < 65536
theorem StOk.new {w w' : World} {s : StV} (h : StOk w s) (hn : New w w') : StOk w' s := { h with sl := h.sl.new hn }
/-- The boxes of step. -/
structure SpM (W : World) (a : Nat) (L : ChL) (s : StV) (nw : CfgV) : Prop where
  b0 : Blk W a 64 #[L.lv, L.uv, L.cv]
  b1 : Blk W (a + 1) 70 s.cells
  b2 : Blk W (a + 1 + 1) 64 #[.slice none 0 0, .slice none 0 0, .slice none 0 0]
  b3 : Blk W (a + 1 + 1 + 1) 25 #[.int .u64 (nw.c.e : Int), nw.sl]
section
variable {w w' W wa : World} {S : Nat → Prop} {n B D a : Nat} {L : ChL} {x : Chn} {s : StV} {nw : CfgV}
theorem SpM.upd (h : SpM W a L s nw) (hu : Upd S W wa) (hS : ∀ k, S k → k < a ∨ a + 3 < k) : SpM wa a L s nw :=
  ⟨h.b0.upd hu (fun hk => by have := hS _ hk; omega), h.b1.upd hu (fun hk => by have := hS _ hk; omega), h.b2.upd hu (fun hk => by have := hS _ hk; omega), h.b3.upd hu (fun hk => by have := hS _ hk; omega)⟩
theorem SpM.new (h : SpM W a L s nw) (hn : New W wa) : SpM wa a L s nw := h.upd (S := fun _ => False) (Upd.new hn) (fun _ h => h.elim)
theorem Blk7I {w : World} {g t : Nat} {a b c d e f i : Value} (h : Blk w g t #[a, b, c, d, e, f, i]) : g < w.heap.size ∧ w.cell? ⟨g, 0, none⟩ = some a ∧ w.cell? ⟨g, 1, none⟩ = some b ∧ w.cell? ⟨g, 2, none⟩ = some c ∧ w.cell? ⟨g, 3, none⟩ = some d ∧ w.cell? ⟨g, 4, none⟩ = some e ∧
    w.cell? ⟨g, 5, none⟩ = some f ∧ w.cell? ⟨g, 6, none⟩ = some i ∧ (∀ i, w.frozen? ⟨g, i, none⟩ = false) := ⟨h.lt, h.cell 0, h.cell 1, h.cell 2, h.cell 3, h.cell 4, h.cell 5, h.cell 6, h.frozen⟩
theorem Blk2I {w : World} {g t : Nat} {a b : Value} (h : Blk w g t #[a, b]) : g < w.heap.size ∧ w.cell? ⟨g, 0, none⟩ = some a ∧ w.cell? ⟨g, 1, none⟩ = some b ∧ (∀ i, w.frozen? ⟨g, i, none⟩ = false) := ⟨h.lt, h.cell 0, h.cell 1, h.frozen⟩
theorem blk_three (w : World) (o1 o2 : Obj) (t : TypeId) (cs : Array Value) : Blk (((w.alloc o1).alloc o2).alloc (.cells cs t)) (w.heap.size + 1 + 1) t cs := by
  have := Blk.mk_new ((w.alloc o1).alloc o2) t cs
  rw [World.size_alloc, World.size_alloc] at this
  exact this
theorem blk_two2 (w : World) (o1 : Obj) (t : TypeId) (cs : Array Value) : Blk ((w.alloc o1).alloc (.cells cs t)) (w.heap.size + 1) t cs := by
  have := Blk.mk_new (w.alloc o1) t cs
  rw [World.size_alloc] at this
  exact this
def atS (x : Chn) (s : StV) : Nat := if x.un.length = 0 then 0 else s.at_ % x.un.length
/-- What the law's step leaves behind its act: the chain, and the box that holds it. -/
structure SpAft (w : World) (n B : Nat) (L : ChL) (x : Chn) (L1 : ChL) (w7 : World) : Prop where
  po : ChPost w n B L x L1 w7
  bx : Blk w7 w.heap.size 64 #[L1.lv, L1.uv, L1.cv]
  rs : Blk w7 (w.heap.size + 1 + 1) 64 #[.slice none 0 0, .slice none 0 0, .slice none 0 0]
theorem ChPost.box {C p : Nat} {cs : Array Value} {L1 : ChL} (h : ChPost w n C L x L1 W) (hb : Blk W p 64 cs) (hp : w.heap.size ≤ p) (hu : Upd (· = p) W wa) : ChPost w n C L x L1 wa :=
  ⟨h.1.box hb hu, h.2.1, h.2.2.1, h.2.2.2.1, h.2.2.2.2.trans hu (fun i hi e => by omega)⟩
set_option maxRecDepth 100000 in
set_option maxHeartbeats 16000000 in
theorem step_tick (h : ChAt w n B L x) (hn0 : 0 < n) (hn : n ≤ 7) (hB : B ≤ 979000) (hu : x.un.length ≤ 300) (hs : StOk w s) (hcs : CsOk n x.cs x.newest) (hcl : x.cs.length ≤ 1000) (hk : s.kind = 4) :
    Calls Tryz.prog 24 #[.agg #[L.lv, L.uv, L.cv], s.val] w (ChRet w n (B + 20) L (x.step n s.stp)) := by
  have hN := ((New.refl w).alloc (.cells #[L.lv, L.uv, L.cv] 64)).alloc (.cells s.cells 70) |>.alloc (.cells #[.slice none 0 0, .slice none 0 0, .slice none 0 0] 64)
  have hb0 := ((Blk.mk_new w 64 #[L.lv, L.uv, L.cv]).alloc (.cells s.cells 70)).alloc (.cells #[.slice none 0 0, .slice none 0 0, .slice none 0 0] 64)
  have hb1 := (blk_two2 w (.cells #[L.lv, L.uv, L.cv] 64) 70 s.cells).alloc (.cells #[.slice none 0 0, .slice none 0 0, .slice none 0 0] 64)
  have hb2 := blk_three w (.cells #[L.lv, L.uv, L.cv] 64) (.cells s.cells 70) 64 #[.slice none 0 0, .slice none 0 0, .slice none 0 0]
  have HLT := Lib.hid h.lt
  have HH := Lib.hid h
  have HN := Lib.hid hN
  have HWZ : Hid ((((w.alloc (.cells #[L.lv, L.uv, L.cv] 64)).alloc (.cells s.cells 70)).alloc (.cells #[.slice none 0 0, .slice none 0 0, .slice none 0 0] 64)).heap.size = w.heap.size + 1 + 1 + 1) := Lib.hid (by simp)
  have HCS := Lib.hid hcs
  have HS := Lib.hid hs
  obtain ⟨Al, nl, cl0, hlv⟩ := h.l.shp
  have hln : L.lv = .slice Al n cl0 := by obtain ⟨a, c, e⟩ := h.l.shape; rw [hlv] at e; cases e; simp [hlv]
  obtain ⟨Au, cu, huv⟩ := h.un.shape
  obtain ⟨ps, hps, hrc, hca⟩ := h.cs
  have hpl : ps.length = x.cs.length := by rw [← hps, List.length_map]
  have hl1 : x.cs.length - 1 < ps.length := by have := (List.getElem?_eq_some_iff.1 hcs.nwAt).1; omega
  obtain ⟨nwv, hnwv⟩ : ∃ p, ps[x.cs.length - 1]? = some p := ⟨_, List.getElem?_eq_getElem hl1⟩
  have HNW : Hid (nwv.c = x.newest) := Lib.hid (by
    have h1 : (ps.map CfgV.c)[x.cs.length - 1]? = some nwv.c := by rw [List.getElem?_map, hnwv]; rfl
    rw [hps, hcs.nwAt] at h1
    exact (Option.some.inj h1).symm)
  obtain ⟨gc, offc, capc, hcv, _, hrcA⟩ := hrc.at_ (by intro e; rw [e] at hl1; simp at hl1)
  have e0 : w.cell? ⟨gc, offc + (x.cs.length - 1) * 2, none⟩ = some (.int .u64 (nwv.c.e : Int)) := hrcA.cell CfgV.encOk hnwv (j := 0) rfl
  have e1 : w.cell? ⟨gc, offc + (x.cs.length - 1) * 2 + 1, none⟩ = some nwv.sl := hrcA.cell CfgV.encOk hnwv (j := 1) rfl
  have hgc : gc < w.heap.size := hrcA.lt
  have HNA := Lib.hid (hca nwv (List.mem_of_getElem? hnwv))
  rw [hpl] at hcv
  have HLN := Lib.hid hln
  have HUV := Lib.hid huv
  have HCV := Lib.hid hcv
  have hcl1 : 1 ≤ x.cs.length := by omega
  obtain ⟨m, hm⟩ : ∃ m, x.cs.length = m + 1 := ⟨x.cs.length - 1, by omega⟩
  have HMC := Lib.hid hm
  rw [hm, Nat.add_sub_cancel] at e0 e1
  obtain ⟨p0, p1, p2, p3, pz⟩ := Blk3G hb0
  unfold StV.cells at *
  obtain ⟨q0, q1, q2, q3, q4, q5, q6, q7, qz⟩ := Blk7I hb1
  obtain ⟨r0, r1, r2, r3, rz⟩ := Blk3G hb2
  have HB0 := Lib.hid hb0
  have HB1 := Lib.hid hb1
  have HB2 := Lib.hid hb2
  have E0 := (hN.cells.1 gc (offc + m * 2) hgc).trans e0
  have E1 := (hN.cells.1 gc (offc + m * 2 + 1) hgc).trans e1
  have hgc2 := Nat.lt_of_lt_of_le hgc hN.size
  have hnode := hs.node
  have hat := hs.at_
  unfold CfgV.sl at E1
  have hn1 : (0 : Int) < (n : Int) := by omega
  obtain ⟨kk, hkk⟩ : ∃ kk, kk = s.node % n := ⟨_, rfl⟩
  have hkn : kk < n := by rw [hkk]; exact Nat.mod_lt _ hn0
  have hrem : (s.node : Int) % (n : Int) = (kk : Int) := by rw [hkk]; omega
  have hkn2 : (kk : Int) < (n : Int) := by omega
  have hkk0 : (0 : Int) ≤ (kk : Int) := by omega
  have HKN := Lib.hid hkk
  obtain ⟨aa, haa⟩ : ∃ aa, aa = atS x s := ⟨_, rfl⟩
  have HAA := Lib.hid haa
  clear hkk haa
  have hwi : IntKind.i64.wrap (s.node : Int) = (s.node : Int) := IntWalk.i64_in _ (by omega)
  have hwa : IntKind.i64.wrap (s.at_ : Int) = (s.at_ : Int) := IntWalk.i64_in _ (by omega)
  have hwm : IntKind.i64.wrap (m : Int) = (m : Int) := IntWalk.i64_in _ (by omega)
  have hm1 : (m : Int) < (m : Int) + 1 := by omega
  have hm0 : (0 : Int) ≤ (m : Int) := by omega
  clear h hN hb0 hb1 hb2 hcs hs hlv hln huv hps hrc hca hpl hl1 hnwv hcv hrcA e0 e1 hm hcl1
  have hk0 : (s.kind == 0) = false := by rw [hk]; rfl
  have hk1 : (s.kind == 1) = false := by rw [hk]; rfl
  have hk2 : (s.kind == 2) = false := by rw [hk]; rfl
  have hk3 : (s.kind == 3) = false := by rw [hk]; rfl
  have hk4 : (s.kind == 4) = true := by rw [hk]; rfl
  have hk5 : (s.kind == 5) = false := by rw [hk]; rfl
  have hk6 : (s.kind == 6) = false := by rw [hk]; rfl
  have HK := Lib.hid hk
  clear hk
  unfold StV.val StV.cells
  go_enter Tryz.func24, Tryz.ntmps24
  go_upto_region 1 with fail
  generalize ((w.alloc _).alloc _).alloc _ = W at *
  rw [HLN.out] at p1
  rw [HUV.out] at p2
  rw [HCV.out, HMC.out] at p3
  obtain ⟨tb, htb1⟩ : ∃ tb : Bool, decide ((0 : Int) < (x.un.length : Int)) = tb := ⟨_, rfl⟩
  have htb2 : decide (0 < x.un.length) = tb := by rw [← htb1]; simp
  have HTB := Lib.hid htb2
  go_upto_region 3 with fail
  go_upto_if 22 with fail
  go_cut [6] (fun s6 wx => s6 = .int .i64 (aa : Int) ∧ wx = W)
  case first =>
    have htb3 := HTB.out
    clear htb1 htb2
    cases tb with
    | false =>
      have ha0 : aa = 0 := by rw [HAA.out]; unfold atS; rw [if_pos (by simpa using htb3)]
      clear htb3
      go_wp2_with fail
      go_meet
      exact ⟨by rw [ha0]; rfl, rfl⟩
    | true =>
      have hun : 0 < x.un.length := by simpa using htb3
      have hr2 : (s.at_ : Int) % (x.un.length : Int) = (aa : Int) := by rw [HAA.out]; unfold atS; rw [if_neg (by omega)]; omega
      have hu0 : ¬ (x.un.length : Int) = 0 := by omega
      have hu1 : (0 : Int) < (x.un.length : Int) := by omega
      clear htb3 hun
      go_wp2_with fail
      go_meet
      exact ⟨by rw [hr2], rfl⟩
  case rest =>
    obtain ⟨h6, hwc⟩ := hcut
    rw [h6, hwc, hrem]
    clear h6 hwc hrem
    have hn4 := (New.refl W).alloc (.cells #[.int .u64 (nwv.c.e : Int), .slice nwv.A nwv.c.ms.length nwv.n] 25)
    have hz3 : W.heap.size = w.heap.size + 1 + 1 + 1 := HWZ.out
    have HM4 : Hid (SpM (W.alloc (.cells #[.int .u64 (nwv.c.e : Int), .slice nwv.A nwv.c.ms.length nwv.n] 25)) w.heap.size L s nwv) := Lib.hid ⟨HB0.out.new hn4, HB1.out.new hn4, HB2.out.new hn4, by
      have := Blk.mk_new W 25 #[.int .u64 (nwv.c.e : Int), .slice nwv.A nwv.c.ms.length nwv.n]
      rw [hz3] at this
      exact this⟩
    have HN4 := Lib.hid (HN.out.trans hn4)
    have HH4 := Lib.hid (HH.out.new HN4.out)
    clear hz3 hn4
    go_upto_region 6 with fail
    generalize W.alloc (.cells #[.int .u64 (nwv.c.e : Int), .slice nwv.A nwv.c.ms.length nwv.n] 25) = W4 at *
    clear p0 p1 p2 p3 pz q0 q1 q2 q3 q4 q5 q6 q7 qz r0 r1 r2 r3 rz E0 E1 hgc hgc2 hwm hm1 hm0 hwi hwa
    obtain ⟨p0, p1, p2, p3, pz⟩ := Blk3G HM4.out.b0
    have hb1 := HM4.out.b1
    unfold StV.cells at hb1
    obtain ⟨q0, q1, q2, q3, q4, q5, q6, q7, qz⟩ := Blk7I hb1
    clear hb1
    rw [HLN.out] at p1
    obtain ⟨gl, ol, cl2, hlv2, hcl2, el, hgl⟩ := HH4.out.node hkn
    rw [HLN.out] at hlv2
    cases hlv2
    have hact : x.act n s.stp = { x with rp := setD x.rp kk (x.rp kk).tick } := by
      unfold Chn.act StV.stp
      dsimp only
      rw [HK.out, HKN.out]
      rfl
    have HACT := Lib.hid hact
    have HUN : Hid ((x.act n s.stp).un.length ≤ 301) := Lib.hid (by rw [hact]; show x.un.length ≤ 301; omega)
    clear hact
    go_wp2_with fail
    refine (rtick (HH4.out.rp kk hkn) (by omega)).mono ?_
    rintro e w7 ⟨rfl, hp⟩
    obtain ⟨L1, hc1, hu1, hc1v, -⟩ := ChPost.setRp HH4.out hkn hp (by omega)
    rw [← HACT.out] at hc1
    have hA : SpAft w n (B + 15) L (x.act n s.stp) L1 w7 := ⟨ChPost.pre HN4.out (hc1.mono (by omega)), by rw [hc1.2.1, hu1, hc1v]; exact HM4.out.b0.upd hc1.2.2.2.2 (HH4.out.boxF HM4.out.b0).1, HM4.out.b2.upd hc1.2.2.2.2 (HH4.out.boxF HM4.out.b2).1⟩
    clear hp hc1 hu1 hc1v el hgl p0 p1 p2 p3 pz q0 q1 q2 q3 q4 q5 q6 q7 qz
    have HA : Hid (SpAft w n (B + 15) L (x.act n s.stp) L1 w7) := Lib.hid hA
    clear hA
    obtain ⟨p0, p1, p2, p3, pz⟩ := Blk3G HA.out.bx
    obtain ⟨r0, r1, r2, r3, rz⟩ := Blk3G HA.out.rs
    go_wp2_with fail
    refine (gather_any HA.out.po.1 hn (by omega) (by have := HUN.out; omega)).mono ?_
    rintro e w9 ⟨L2, rfl, hp2⟩
    have hr9 := HA.out.rs.upd hp2.2.2.2.2 (HA.out.po.1.boxF HA.out.rs).1
    have HR9 := Lib.hid hr9
    have HP9 := Lib.hid (ChPost.trans HA.out.po (hp2.mono (Nat.le_refl _)))
    clear p0 p1 p2 p3 pz r0 r1 r2 r3 rz
    obtain ⟨r0, r1, r2, r3, rz⟩ := Blk3G hr9
    obtain ⟨A1, n1, c1, h1⟩ := hp2.1.l.shp
    obtain ⟨A2, c2, h2⟩ := hp2.1.un.shape
    obtain ⟨qs, _, hq3, _⟩ := hp2.1.cs
    obtain ⟨A3, n3, c3, h3⟩ := hq3.shp
    rw [h1, h2, h3]
    have H1 := Lib.hid h1
    have H2 := Lib.hid h2
    have H3 := Lib.hid h3
    clear hr9 hp2 hq3 h1 h2 h3
    go_wp2_with fail
    exact bodyPost_ret (v := .agg #[.slice A1 n1 c1, .slice A2 ((x.act n s.stp).gather n).un.length c2, .slice A3 n3 c3]) (by simp [results, Tryz.results24, go_sem, r1, r2, r3]) rfl ⟨L2, by rw [H1.out, H2.out, H3.out], (HP9.out.box HR9.out (by omega) ((((Upd.refl _ w9).setIn 0 _).setIn 1 _).setIn 2 _)).mono (by omega)⟩
end
end Go.Proofs.YtecniafnihpjmaaGreatDoor

/- Chapter 24 (replica): the law's step, by kinds. Printed by genRpI.py. -/
namespace Go.Proofs.YtecniafnihpjmaaGreatDoor
open Go.RowKit Go.Lap C
set_option linter.unusedVariables false
set_option linter.unusedSimpArgs false
section
variable {w w' W wa : World} {S : Nat → Prop} {n B D a : Nat} {L : ChL} {x : Chn} {s : StV} {nw : CfgV}
set_option maxRecDepth 100000 in
set_option maxHeartbeats 16000000 in
theorem step_other (h : ChAt w n B L x) (hn0 : 0 < n) (hn : n ≤ 7) (hB : B ≤ 979000) (hu : x.un.length ≤ 300) (hs : StOk w s) (hcs : CsOk n x.cs x.newest) (hcl : x.cs.length ≤ 1000) (hk : s.kind < 0 ∨ 6 < s.kind) :
    Calls Tryz.prog 24 #[.agg #[L.lv, L.uv, L.cv], s.val] w (ChRet w n (B + 20) L (x.step n s.stp)) := by
  have hN := ((New.refl w).alloc (.cells #[L.lv, L.uv, L.cv] 64)).alloc (.cells s.cells 70) |>.alloc (.cells #[.slice none 0 0, .slice none 0 0, .slice none 0 0] 64)
  have hb0 := ((Blk.mk_new w 64 #[L.lv, L.uv, L.cv]).alloc (.cells s.cells 70)).alloc (.cells #[.slice none 0 0, .slice none 0 0, .slice none 0 0] 64)
  have hb1 := (blk_two2 w (.cells #[L.lv, L.uv, L.cv] 64) 70 s.cells).alloc (.cells #[.slice none 0 0, .slice none 0 0, .slice none 0 0] 64)
  have hb2 := blk_three w (.cells #[L.lv, L.uv, L.cv] 64) (.cells s.cells 70) 64 #[.slice none 0 0, .slice none 0 0, .slice none 0 0]
  have HLT := Lib.hid h.lt
  have HH := Lib.hid h
  have HN := Lib.hid hN
  have HWZ : Hid ((((w.alloc (.cells #[L.lv, L.uv, L.cv] 64)).alloc (.cells s.cells 70)).alloc (.cells #[.slice none 0 0, .slice none 0 0, .slice none 0 0] 64)).heap.size = w.heap.size + 1 + 1 + 1) := Lib.hid (by simp)
  have HCS := Lib.hid hcs
  have HS := Lib.hid hs
  obtain ⟨Al, nl, cl0, hlv⟩ := h.l.shp
  have hln : L.lv = .slice Al n cl0 := by obtain ⟨a, c, e⟩ := h.l.shape; rw [hlv] at e; cases e; simp [hlv]
  obtain ⟨Au, cu, huv⟩ := h.un.shape
  obtain ⟨ps, hps, hrc, hca⟩ := h.cs
  have hpl : ps.length = x.cs.length := by rw [← hps, List.length_map]
  have hl1 : x.cs.length - 1 < ps.length := by have := (List.getElem?_eq_some_iff.1 hcs.nwAt).1; omega
  obtain ⟨nwv, hnwv⟩ : ∃ p, ps[x.cs.length - 1]? = some p := ⟨_, List.getElem?_eq_getElem hl1⟩
  have HNW : Hid (nwv.c = x.newest) := Lib.hid (by
    have h1 : (ps.map CfgV.c)[x.cs.length - 1]? = some nwv.c := by rw [List.getElem?_map, hnwv]; rfl
    rw [hps, hcs.nwAt] at h1
    exact (Option.some.inj h1).symm)
  obtain ⟨gc, offc, capc, hcv, _, hrcA⟩ := hrc.at_ (by intro e; rw [e] at hl1; simp at hl1)
  have e0 : w.cell? ⟨gc, offc + (x.cs.length - 1) * 2, none⟩ = some (.int .u64 (nwv.c.e : Int)) := hrcA.cell CfgV.encOk hnwv (j := 0) rfl
  have e1 : w.cell? ⟨gc, offc + (x.cs.length - 1) * 2 + 1, none⟩ = some nwv.sl := hrcA.cell CfgV.encOk hnwv (j := 1) rfl
  have hgc : gc < w.heap.size := hrcA.lt
  have HNA := Lib.hid (hca nwv (List.mem_of_getElem? hnwv))
  rw [hpl] at hcv
  have HLN := Lib.hid hln
  have HUV := Lib.hid huv
  have HCV := Lib.hid hcv
  have hcl1 : 1 ≤ x.cs.length := by omega
  obtain ⟨m, hm⟩ : ∃ m, x.cs.length = m + 1 := ⟨x.cs.length - 1, by omega⟩
  have HMC := Lib.hid hm
  rw [hm, Nat.add_sub_cancel] at e0 e1
  obtain ⟨p0, p1, p2, p3, pz⟩ := Blk3G hb0
  unfold StV.cells at *
  obtain ⟨q0, q1, q2, q3, q4, q5, q6, q7, qz⟩ := Blk7I hb1
  obtain ⟨r0, r1, r2, r3, rz⟩ := Blk3G hb2
  have HB0 := Lib.hid hb0
  have HB1 := Lib.hid hb1
  have HB2 := Lib.hid hb2
  have E0 := (hN.cells.1 gc (offc + m * 2) hgc).trans e0
  have E1 := (hN.cells.1 gc (offc + m * 2 + 1) hgc).trans e1
  have hgc2 := Nat.lt_of_lt_of_le hgc hN.size
  have hnode := hs.node
  have hat := hs.at_
  unfold CfgV.sl at E1
  have hn1 : (0 : Int) < (n : Int) := by omega
  obtain ⟨kk, hkk⟩ : ∃ kk, kk = s.node % n := ⟨_, rfl⟩
  have hkn : kk < n := by rw [hkk]; exact Nat.mod_lt _ hn0
  have hrem : (s.node : Int) % (n : Int) = (kk : Int) := by rw [hkk]; omega
  have hkn2 : (kk : Int) < (n : Int) := by omega
  have hkk0 : (0 : Int) ≤ (kk : Int) := by omega
  have HKN := Lib.hid hkk
  obtain ⟨aa, haa⟩ : ∃ aa, aa = atS x s := ⟨_, rfl⟩
  have HAA := Lib.hid haa
  clear hkk haa
  have hwi : IntKind.i64.wrap (s.node : Int) = (s.node : Int) := IntWalk.i64_in _ (by omega)
  have hwa : IntKind.i64.wrap (s.at_ : Int) = (s.at_ : Int) := IntWalk.i64_in _ (by omega)
  have hwm : IntKind.i64.wrap (m : Int) = (m : Int) := IntWalk.i64_in _ (by omega)
  have hm1 : (m : Int) < (m : Int) + 1 := by omega
  have hm0 : (0 : Int) ≤ (m : Int) := by omega
  clear h hN hb0 hb1 hb2 hcs hs hlv hln huv hps hrc hca hpl hl1 hnwv hcv hrcA e0 e1 hm hcl1
  have hk0 : (s.kind == 0) = false := beq_eq_false_iff_ne.2 (fun e => by omega)
  have hk1 : (s.kind == 1) = false := beq_eq_false_iff_ne.2 (fun e => by omega)
  have hk2 : (s.kind == 2) = false := beq_eq_false_iff_ne.2 (fun e => by omega)
  have hk3 : (s.kind == 3) = false := beq_eq_false_iff_ne.2 (fun e => by omega)
  have hk4 : (s.kind == 4) = false := beq_eq_false_iff_ne.2 (fun e => by omega)
  have hk5 : (s.kind == 5) = false := beq_eq_false_iff_ne.2 (fun e => by omega)
  have hk6 : (s.kind == 6) = false := beq_eq_false_iff_ne.2 (fun e => by omega)
  have HK := Lib.hid hk
  clear hk
  unfold StV.val StV.cells
  go_enter Tryz.func24, Tryz.ntmps24
  go_upto_region 1 with fail
  generalize ((w.alloc _).alloc _).alloc _ = W at *
  rw [HLN.out] at p1
  rw [HUV.out] at p2
  rw [HCV.out, HMC.out] at p3
  obtain ⟨tb, htb1⟩ : ∃ tb : Bool, decide ((0 : Int) < (x.un.length : Int)) = tb := ⟨_, rfl⟩
  have htb2 : decide (0 < x.un.length) = tb := by rw [← htb1]; simp
  have HTB := Lib.hid htb2
  go_upto_region 3 with fail
  go_upto_if 22 with fail
  go_cut [6] (fun s6 wx => s6 = .int .i64 (aa : Int) ∧ wx = W)
  case first =>
    have htb3 := HTB.out
    clear htb1 htb2
    cases tb with
    | false =>
      have ha0 : aa = 0 := by rw [HAA.out]; unfold atS; rw [if_pos (by simpa using htb3)]
      clear htb3
      go_wp2_with fail
      go_meet
      exact ⟨by rw [ha0]; rfl, rfl⟩
    | true =>
      have hun : 0 < x.un.length := by simpa using htb3
      have hr2 : (s.at_ : Int) % (x.un.length : Int) = (aa : Int) := by rw [HAA.out]; unfold atS; rw [if_neg (by omega)]; omega
      have hu0 : ¬ (x.un.length : Int) = 0 := by omega
      have hu1 : (0 : Int) < (x.un.length : Int) := by omega
      clear htb3 hun
      go_wp2_with fail
      go_meet
      exact ⟨by rw [hr2], rfl⟩
  case rest =>
    obtain ⟨h6, hwc⟩ := hcut
    rw [h6, hwc, hrem]
    clear h6 hwc hrem
    have hn4 := (New.refl W).alloc (.cells #[.int .u64 (nwv.c.e : Int), .slice nwv.A nwv.c.ms.length nwv.n] 25)
    have hz3 : W.heap.size = w.heap.size + 1 + 1 + 1 := HWZ.out
    have HM4 : Hid (SpM (W.alloc (.cells #[.int .u64 (nwv.c.e : Int), .slice nwv.A nwv.c.ms.length nwv.n] 25)) w.heap.size L s nwv) := Lib.hid ⟨HB0.out.new hn4, HB1.out.new hn4, HB2.out.new hn4, by
      have := Blk.mk_new W 25 #[.int .u64 (nwv.c.e : Int), .slice nwv.A nwv.c.ms.length nwv.n]
      rw [hz3] at this
      exact this⟩
    have HN4 := Lib.hid (HN.out.trans hn4)
    have HH4 := Lib.hid (HH.out.new HN4.out)
    clear hz3 hn4
    go_upto_region 6 with fail
    generalize W.alloc (.cells #[.int .u64 (nwv.c.e : Int), .slice nwv.A nwv.c.ms.length nwv.n] 25) = W4 at *
    clear p0 p1 p2 p3 pz q0 q1 q2 q3 q4 q5 q6 q7 qz r0 r1 r2 r3 rz E0 E1 hgc hgc2 hwm hm1 hm0 hwi hwa
    obtain ⟨p0, p1, p2, p3, pz⟩ := Blk3G HM4.out.b0
    have hb1 := HM4.out.b1
    unfold StV.cells at hb1
    obtain ⟨q0, q1, q2, q3, q4, q5, q6, q7, qz⟩ := Blk7I hb1
    clear hb1
    rw [HLN.out] at p1
    obtain ⟨gl, ol, cl2, hlv2, hcl2, el, hgl⟩ := HH4.out.node hkn
    rw [HLN.out] at hlv2
    cases hlv2
    have hact : x.act n s.stp = x := by
      have h := HK.out
      unfold Chn.act StV.stp
      dsimp only
      rw [if_neg (by omega), if_neg (by omega), if_neg (by omega), if_neg (by omega), if_neg (by omega), if_neg (by omega)]
    have HACT := Lib.hid hact
    have HUN : Hid ((x.act n s.stp).un.length ≤ 301) := Lib.hid (by rw [hact]; omega)
    clear hact
    have hA : SpAft w n (B + 15) L (x.act n s.stp) L W4 := ⟨by rw [HACT.out]; exact ChPost.pre HN4.out ((ChPost.refl HH4.out).mono (by omega)), HM4.out.b0, HM4.out.b2⟩
    obtain ⟨w7, hw7⟩ : ∃ w7, w7 = W4 := ⟨_, rfl⟩
    obtain ⟨L1, hL1⟩ : ∃ L1, L1 = L := ⟨_, rfl⟩
    have hA : SpAft w n (B + 15) L (x.act n s.stp) L1 w7 := by rw [hL1, hw7]; exact hA
    rw [← hw7]
    rw [← hw7] at q0 q1 q2 q3 q4 q5 q6 q7 qz
    clear el hgl p0 p1 p2 p3 pz hw7 hL1
    have HA : Hid (SpAft w n (B + 15) L (x.act n s.stp) L1 w7) := Lib.hid hA
    clear hA
    obtain ⟨p0, p1, p2, p3, pz⟩ := Blk3G HA.out.bx
    obtain ⟨r0, r1, r2, r3, rz⟩ := Blk3G HA.out.rs
    go_wp2_with fail
    refine (gather_any HA.out.po.1 hn (by omega) (by have := HUN.out; omega)).mono ?_
    rintro e w9 ⟨L2, rfl, hp2⟩
    have hr9 := HA.out.rs.upd hp2.2.2.2.2 (HA.out.po.1.boxF HA.out.rs).1
    have HR9 := Lib.hid hr9
    have HP9 := Lib.hid (ChPost.trans HA.out.po (hp2.mono (Nat.le_refl _)))
    clear p0 p1 p2 p3 pz r0 r1 r2 r3 rz
    obtain ⟨r0, r1, r2, r3, rz⟩ := Blk3G hr9
    obtain ⟨A1, n1, c1, h1⟩ := hp2.1.l.shp
    obtain ⟨A2, c2, h2⟩ := hp2.1.un.shape
    obtain ⟨qs, _, hq3, _⟩ := hp2.1.cs
    obtain ⟨A3, n3, c3, h3⟩ := hq3.shp
    rw [h1, h2, h3]
    have H1 := Lib.hid h1
    have H2 := Lib.hid h2
    have H3 := Lib.hid h3
    clear hr9 hp2 hq3 h1 h2 h3
    go_wp2_with fail
    exact bodyPost_ret (v := .agg #[.slice A1 n1 c1, .slice A2 ((x.act n s.stp).gather n).un.length c2, .slice A3 n3 c3]) (by simp [results, Tryz.results24, go_sem, r1, r2, r3]) rfl ⟨L2, by rw [H1.out, H2.out, H3.out], (HP9.out.box HR9.out (by omega) ((((Upd.refl _ w9).setIn 0 _).setIn 1 _).setIn 2 _)).mono (by omega)⟩
end
end Go.Proofs.YtecniafnihpjmaaGreatDoor

/- Chapter 24 (replica): the law's step, by kinds. Printed by genRpI.py. -/
namespace Go.Proofs.YtecniafnihpjmaaGreatDoor
open Go.RowKit Go.Lap C
set_option linter.unusedVariables false
set_option linter.unusedSimpArgs false
section
variable {w w' W wa : World} {S : Nat → Prop} {n B D a : Nat} {L : ChL} {x : Chn} {s : StV} {nw : CfgV}
set_option maxRecDepth 100000 in
set_option maxHeartbeats 16000000 in
theorem step_submit (h : ChAt w n B L x) (hn0 : 0 < n) (hn : n ≤ 7) (hB : B ≤ 979000) (hu : x.un.length ≤ 300) (hs : StOk w s) (hcs : CsOk n x.cs x.newest) (hcl : x.cs.length ≤ 1000) (hk : s.kind = 0) :
    Calls Tryz.prog 24 #[.agg #[L.lv, L.uv, L.cv], s.val] w (ChRet w n (B + 20) L (x.step n s.stp)) := by
  have hN := ((New.refl w).alloc (.cells #[L.lv, L.uv, L.cv] 64)).alloc (.cells s.cells 70) |>.alloc (.cells #[.slice none 0 0, .slice none 0 0, .slice none 0 0] 64)
  have hb0 := ((Blk.mk_new w 64 #[L.lv, L.uv, L.cv]).alloc (.cells s.cells 70)).alloc (.cells #[.slice none 0 0, .slice none 0 0, .slice none 0 0] 64)
  have hb1 := (blk_two2 w (.cells #[L.lv, L.uv, L.cv] 64) 70 s.cells).alloc (.cells #[.slice none 0 0, .slice none 0 0, .slice none 0 0] 64)
  have hb2 := blk_three w (.cells #[L.lv, L.uv, L.cv] 64) (.cells s.cells 70) 64 #[.slice none 0 0, .slice none 0 0, .slice none 0 0]
  have HLT := Lib.hid h.lt
  have HH := Lib.hid h
  have HN := Lib.hid hN
  have HWZ : Hid ((((w.alloc (.cells #[L.lv, L.uv, L.cv] 64)).alloc (.cells s.cells 70)).alloc (.cells #[.slice none 0 0, .slice none 0 0, .slice none 0 0] 64)).heap.size = w.heap.size + 1 + 1 + 1) := Lib.hid (by simp)
  have HCS := Lib.hid hcs
  have HS := Lib.hid hs
  obtain ⟨Al, nl, cl0, hlv⟩ := h.l.shp
  have hln : L.lv = .slice Al n cl0 := by obtain ⟨a, c, e⟩ := h.l.shape; rw [hlv] at e; cases e; simp [hlv]
  obtain ⟨Au, cu, huv⟩ := h.un.shape
  obtain ⟨ps, hps, hrc, hca⟩ := h.cs
  have hpl : ps.length = x.cs.length := by rw [← hps, List.length_map]
  have hl1 : x.cs.length - 1 < ps.length := by have := (List.getElem?_eq_some_iff.1 hcs.nwAt).1; omega
  obtain ⟨nwv, hnwv⟩ : ∃ p, ps[x.cs.length - 1]? = some p := ⟨_, List.getElem?_eq_getElem hl1⟩
  have HNW : Hid (nwv.c = x.newest) := Lib.hid (by
    have h1 : (ps.map CfgV.c)[x.cs.length - 1]? = some nwv.c := by rw [List.getElem?_map, hnwv]; rfl
    rw [hps, hcs.nwAt] at h1
    exact (Option.some.inj h1).symm)
  obtain ⟨gc, offc, capc, hcv, _, hrcA⟩ := hrc.at_ (by intro e; rw [e] at hl1; simp at hl1)
  have e0 : w.cell? ⟨gc, offc + (x.cs.length - 1) * 2, none⟩ = some (.int .u64 (nwv.c.e : Int)) := hrcA.cell CfgV.encOk hnwv (j := 0) rfl
  have e1 : w.cell? ⟨gc, offc + (x.cs.length - 1) * 2 + 1, none⟩ = some nwv.sl := hrcA.cell CfgV.encOk hnwv (j := 1) rfl
  have hgc : gc < w.heap.size := hrcA.lt
  have HNA := Lib.hid (hca nwv (List.mem_of_getElem? hnwv))
  rw [hpl] at hcv
  have HLN := Lib.hid hln
  have HUV := Lib.hid huv
  have HCV := Lib.hid hcv
  have hcl1 : 1 ≤ x.cs.length := by omega
  obtain ⟨m, hm⟩ : ∃ m, x.cs.length = m + 1 := ⟨x.cs.length - 1, by omega⟩
  have HMC := Lib.hid hm
  rw [hm, Nat.add_sub_cancel] at e0 e1
  obtain ⟨p0, p1, p2, p3, pz⟩ := Blk3G hb0
  unfold StV.cells at *
  obtain ⟨q0, q1, q2, q3, q4, q5, q6, q7, qz⟩ := Blk7I hb1
  obtain ⟨r0, r1, r2, r3, rz⟩ := Blk3G hb2
  have HB0 := Lib.hid hb0
  have HB1 := Lib.hid hb1
  have HB2 := Lib.hid hb2
  have E0 := (hN.cells.1 gc (offc + m * 2) hgc).trans e0
  have E1 := (hN.cells.1 gc (offc + m * 2 + 1) hgc).trans e1
  have hgc2 := Nat.lt_of_lt_of_le hgc hN.size
  have hnode := hs.node
  have hat := hs.at_
  unfold CfgV.sl at E1
  have hn1 : (0 : Int) < (n : Int) := by omega
  obtain ⟨kk, hkk⟩ : ∃ kk, kk = s.node % n := ⟨_, rfl⟩
  have hkn : kk < n := by rw [hkk]; exact Nat.mod_lt _ hn0
  have hrem : (s.node : Int) % (n : Int) = (kk : Int) := by rw [hkk]; omega
  have hkn2 : (kk : Int) < (n : Int) := by omega
  have hkk0 : (0 : Int) ≤ (kk : Int) := by omega
  have HKN := Lib.hid hkk
  obtain ⟨aa, haa⟩ : ∃ aa, aa = atS x s := ⟨_, rfl⟩
  have HAA := Lib.hid haa
  clear hkk haa
  have hwi : IntKind.i64.wrap (s.node : Int) = (s.node : Int) := IntWalk.i64_in _ (by omega)
  have hwa : IntKind.i64.wrap (s.at_ : Int) = (s.at_ : Int) := IntWalk.i64_in _ (by omega)
  have hwm : IntKind.i64.wrap (m : Int) = (m : Int) := IntWalk.i64_in _ (by omega)
  have hm1 : (m : Int) < (m : Int) + 1 := by omega
  have hm0 : (0 : Int) ≤ (m : Int) := by omega
  clear h hN hb0 hb1 hb2 hcs hs hlv hln huv hps hrc hca hpl hl1 hnwv hcv hrcA e0 e1 hm hcl1
  have hk0 : (s.kind == 0) = true := by rw [hk]; rfl
  have hk1 : (s.kind == 1) = false := by rw [hk]; rfl
  have hk2 : (s.kind == 2) = false := by rw [hk]; rfl
  have hk3 : (s.kind == 3) = false := by rw [hk]; rfl
  have hk4 : (s.kind == 4) = false := by rw [hk]; rfl
  have hk5 : (s.kind == 5) = false := by rw [hk]; rfl
  have hk6 : (s.kind == 6) = false := by rw [hk]; rfl
  have HK := Lib.hid hk
  clear hk
  unfold StV.val StV.cells
  go_enter Tryz.func24, Tryz.ntmps24
  go_upto_region 1 with fail
  generalize ((w.alloc _).alloc _).alloc _ = W at *
  rw [HLN.out] at p1
  rw [HUV.out] at p2
  rw [HCV.out, HMC.out] at p3
  obtain ⟨tb, htb1⟩ : ∃ tb : Bool, decide ((0 : Int) < (x.un.length : Int)) = tb := ⟨_, rfl⟩
  have htb2 : decide (0 < x.un.length) = tb := by rw [← htb1]; simp
  have HTB := Lib.hid htb2
  go_upto_region 3 with fail
  go_upto_if 22 with fail
  go_cut [6] (fun s6 wx => s6 = .int .i64 (aa : Int) ∧ wx = W)
  case first =>
    have htb3 := HTB.out
    clear htb1 htb2
    cases tb with
    | false =>
      have ha0 : aa = 0 := by rw [HAA.out]; unfold atS; rw [if_pos (by simpa using htb3)]
      clear htb3
      go_wp2_with fail
      go_meet
      exact ⟨by rw [ha0]; rfl, rfl⟩
    | true =>
      have hun : 0 < x.un.length := by simpa using htb3
      have hr2 : (s.at_ : Int) % (x.un.length : Int) = (aa : Int) := by rw [HAA.out]; unfold atS; rw [if_neg (by omega)]; omega
      have hu0 : ¬ (x.un.length : Int) = 0 := by omega
      have hu1 : (0 : Int) < (x.un.length : Int) := by omega
      clear htb3 hun
      go_wp2_with fail
      go_meet
      exact ⟨by rw [hr2], rfl⟩
  case rest =>
    obtain ⟨h6, hwc⟩ := hcut
    rw [h6, hwc, hrem]
    clear h6 hwc hrem
    have hn4 := (New.refl W).alloc (.cells #[.int .u64 (nwv.c.e : Int), .slice nwv.A nwv.c.ms.length nwv.n] 25)
    have hz3 : W.heap.size = w.heap.size + 1 + 1 + 1 := HWZ.out
    have HM4 : Hid (SpM (W.alloc (.cells #[.int .u64 (nwv.c.e : Int), .slice nwv.A nwv.c.ms.length nwv.n] 25)) w.heap.size L s nwv) := Lib.hid ⟨HB0.out.new hn4, HB1.out.new hn4, HB2.out.new hn4, by
      have := Blk.mk_new W 25 #[.int .u64 (nwv.c.e : Int), .slice nwv.A nwv.c.ms.length nwv.n]
      rw [hz3] at this
      exact this⟩
    have HN4 := Lib.hid (HN.out.trans hn4)
    have HH4 := Lib.hid (HH.out.new HN4.out)
    clear hz3 hn4
    go_upto_region 6 with fail
    generalize W.alloc (.cells #[.int .u64 (nwv.c.e : Int), .slice nwv.A nwv.c.ms.length nwv.n] 25) = W4 at *
    clear p0 p1 p2 p3 pz q0 q1 q2 q3 q4 q5 q6 q7 qz r0 r1 r2 r3 rz E0 E1 hgc hgc2 hwm hm1 hm0 hwi hwa
    obtain ⟨p0, p1, p2, p3, pz⟩ := Blk3G HM4.out.b0
    have hb1 := HM4.out.b1
    unfold StV.cells at hb1
    obtain ⟨q0, q1, q2, q3, q4, q5, q6, q7, qz⟩ := Blk7I hb1
    clear hb1
    rw [HLN.out] at p1
    obtain ⟨gl, ol, cl2, hlv2, hcl2, el, hgl⟩ := HH4.out.node hkn
    rw [HLN.out] at hlv2
    cases hlv2
    have hact : x.act n s.stp = { x with rp := setD x.rp kk ((x.rp kk).submit s.b.cut).1 } := by
      unfold Chn.act StV.stp
      dsimp only
      rw [HK.out, HKN.out]
      rfl
    have HACT := Lib.hid hact
    have HUN : Hid ((x.act n s.stp).un.length ≤ 301) := Lib.hid (by rw [hact]; show x.un.length ≤ 301; omega)
    have HS4 := Lib.hid (HS.out.new HN4.out)
    clear hact
    unfold StV.sl at q7
    go_upto_region 8 with fail
    refine wp_region_held_drew (S := fun w' => (∀ o, w'.cell? ⟨w.heap.size, o, none⟩ = W4.cell? ⟨w.heap.size, o, none⟩) ∧ (∀ o, w'.cell? ⟨w.heap.size + 1, o, none⟩ = W4.cell? ⟨w.heap.size + 1, o, none⟩) ∧ w'.cell? ⟨gl, ol + kk, none⟩ = W4.cell? ⟨gl, ol + kk, none⟩) (by kernel_rfl) (⟨fun _ => rfl, fun _ => rfl, rfl⟩) (fun hHeld => ?_)
    refine tkN (i := 0) rfl ?_
    try simp only [Act.put, sA, sZ, sS]
    refine tkN (i := 1) rfl ?_
    try simp only [Act.put, sA, sZ, sS]
    refine tkN (i := 2) rfl ?_
    try simp only [Act.put, sA, sZ, sS]
    refine tkN (i := 3) rfl ?_
    try simp only [Act.put, sA, sZ, sS]
    refine tkN (i := 4) rfl ?_
    try simp only [Act.put, sA, sZ, sS]
    refine tkN (i := 5) rfl ?_
    try simp only [Act.put, sA, sZ, sS]
    refine tkN (i := 6) rfl ?_
    try simp only [Act.put, sA, sZ, sS]
    refine stN (i := 7) rfl (fun K hK => ?_)
    go_simp
    refine (few_any s.b (HS4.out.new (New.refl W4).drew).sl HS4.out.l).mono ?_
    rintro e w5 ⟨A5, n5, rfl, ht5, hn5⟩
    have hn5W : New W4 w5 := (New.refl W4).drew.trans hn5
    have hb5 : BtAt w5 ⟨s.b.cut, A5, n5⟩ := ⟨ht5, ⟨HS4.out.c, HS4.out.r, HS4.out.s_, Nat.le_trans (cutL_len _) (by decide)⟩⟩
    have HB5 := Lib.hid hb5
    have HH5 := Lib.hid (HH4.out.new hn5W)
    have HM5 := Lib.hid (HM4.out.new hn5W)
    have HN5 := Lib.hid (HN4.out.trans hn5W)
    have k0 := fun o => keepR (S := fun _ => False) (Upd.new hn5W) HM4.out.b0.lt (fun h => h) o
    have k1 := fun o => keepR (S := fun _ => False) (Upd.new hn5W) HM4.out.b1.lt (fun h => h) o
    have k2 := (keepR (S := fun _ => False) (Upd.new hn5W) hgl (fun h => h) (ol + kk))
    clear hb5 ht5 hn5
    refine hK.out _ _ ?_ (fun hHeld => ?_)
    · exact ⟨k0, k1, k2⟩
    clear hK K
    try simp only [Act.put, sA, sZ, sS]
    refine stN (i := 8) rfl (fun K hK => ?_)
    go_simp
    refine (rsubmit (b := ⟨s.b.cut, A5, n5⟩) (HH5.out.rp kk hkn) HB5.out (by omega)).mono ?_
    rintro e w7 ⟨rfl, hp⟩
    obtain ⟨L1, hc1, hu1, hc1v, -⟩ := ChPost.setRp HH5.out hkn hp (by omega)
    have hup := hc1.2.2.2.2
    have m0 := fun o => (keepR hup HM5.out.b0.lt (HH5.out.boxF HM5.out.b0).1 o).trans (k0 o)
    have m1 := fun o => (keepR hup HM5.out.b1.lt (HH5.out.off (by decide) (by decide) (by decide) (by decide) (by decide) _ _ HM5.out.b1) o).trans (k1 o)
    have m2 := (keepR hup (Nat.lt_of_lt_of_le hgl hn5W.size) (HH5.out.lvF gl (by rw [HLN.out]; rfl)) (ol + kk)).trans k2
    refine hK.out _ _ ?_ (fun hHeld => ?_)
    · exact ⟨m0, m1, m2⟩
    clear hK K
    try simp only [Act.put, sA, sZ, sS]
    refine wpAnyH_done (by kernel_rfl) ?_ _
    clear hHeld
    rw [← HACT.out] at hc1
    have hA : SpAft w n (B + 20) L (x.act n s.stp) L1 w7 := ⟨ChPost.pre HN5.out (hc1.mono (by omega)), by rw [hc1.2.1, hu1, hc1v]; exact HM5.out.b0.upd hup (HH5.out.boxF HM5.out.b0).1, HM5.out.b2.upd hup (HH5.out.boxF HM5.out.b2).1⟩
    clear hp hc1 hu1 hc1v hup m0 m1 m2 k0 k1 k2 el hgl p0 p1 p2 p3 pz q0 q1 q2 q3 q4 q5 q6 q7 qz
    have HA : Hid (SpAft w n (B + 20) L (x.act n s.stp) L1 w7) := Lib.hid hA
    clear hA
    obtain ⟨p0, p1, p2, p3, pz⟩ := Blk3G HA.out.bx
    obtain ⟨r0, r1, r2, r3, rz⟩ := Blk3G HA.out.rs
    go_wp2_with fail
    refine (gather_any HA.out.po.1 hn (by omega) (by have := HUN.out; omega)).mono ?_
    rintro e w9 ⟨L2, rfl, hp2⟩
    have hr9 := HA.out.rs.upd hp2.2.2.2.2 (HA.out.po.1.boxF HA.out.rs).1
    have HR9 := Lib.hid hr9
    have HP9 := Lib.hid (ChPost.trans HA.out.po (hp2.mono (Nat.le_refl _)))
    clear p0 p1 p2 p3 pz r0 r1 r2 r3 rz
    obtain ⟨r0, r1, r2, r3, rz⟩ := Blk3G hr9
    obtain ⟨A1, n1, c1, h1⟩ := hp2.1.l.shp
    obtain ⟨A2, c2, h2⟩ := hp2.1.un.shape
    obtain ⟨qs, _, hq3, _⟩ := hp2.1.cs
    obtain ⟨A3, n3, c3, h3⟩ := hq3.shp
    rw [h1, h2, h3]
    have H1 := Lib.hid h1
    have H2 := Lib.hid h2
    have H3 := Lib.hid h3
    clear hr9 hp2 hq3 h1 h2 h3
    go_wp2_with fail
    exact bodyPost_ret (v := .agg #[.slice A1 n1 c1, .slice A2 ((x.act n s.stp).gather n).un.length c2, .slice A3 n3 c3]) (by simp [results, Tryz.results24, go_sem, r1, r2, r3]) rfl ⟨L2, by rw [H1.out, H2.out, H3.out], (HP9.out.box HR9.out (by omega) ((((Upd.refl _ w9).setIn 0 _).setIn 1 _).setIn 2 _)).mono (by omega)⟩
end
end Go.Proofs.YtecniafnihpjmaaGreatDoor

/- Chapter 24 (replica): the law's step, by kinds. Printed by genRpI.py. -/
namespace Go.Proofs.YtecniafnihpjmaaGreatDoor
open Go.RowKit Go.Lap C
set_option linter.unusedVariables false
set_option linter.unusedSimpArgs false
section
variable {w w' W wa : World} {S : Nat → Prop} {n B D a : Nat} {L : ChL} {x : Chn} {s : StV} {nw : CfgV}
theorem fldE (v u : Value) (w : World) : (Instr.field 25 (.agg #[v, u]) 0).run Tryz.prog w = .ok v w := by kernel_rfl
set_option maxRecDepth 100000 in
set_option maxHeartbeats 16000000 in
theorem step_learn (h : ChAt w n B L x) (hn0 : 0 < n) (hn : n ≤ 7) (hB : B ≤ 979000) (hu : x.un.length ≤ 300) (hs : StOk w s) (hcs : CsOk n x.cs x.newest) (hcl : x.cs.length ≤ 1000) (hk : s.kind = 6) :
    Calls Tryz.prog 24 #[.agg #[L.lv, L.uv, L.cv], s.val] w (ChRet w n (B + 20) L (x.step n s.stp)) := by
  have hN := ((New.refl w).alloc (.cells #[L.lv, L.uv, L.cv] 64)).alloc (.cells s.cells 70) |>.alloc (.cells #[.slice none 0 0, .slice none 0 0, .slice none 0 0] 64)
  have hb0 := ((Blk.mk_new w 64 #[L.lv, L.uv, L.cv]).alloc (.cells s.cells 70)).alloc (.cells #[.slice none 0 0, .slice none 0 0, .slice none 0 0] 64)
  have hb1 := (blk_two2 w (.cells #[L.lv, L.uv, L.cv] 64) 70 s.cells).alloc (.cells #[.slice none 0 0, .slice none 0 0, .slice none 0 0] 64)
  have hb2 := blk_three w (.cells #[L.lv, L.uv, L.cv] 64) (.cells s.cells 70) 64 #[.slice none 0 0, .slice none 0 0, .slice none 0 0]
  have HLT := Lib.hid h.lt
  have HH := Lib.hid h
  have HN := Lib.hid hN
  have HWZ : Hid ((((w.alloc (.cells #[L.lv, L.uv, L.cv] 64)).alloc (.cells s.cells 70)).alloc (.cells #[.slice none 0 0, .slice none 0 0, .slice none 0 0] 64)).heap.size = w.heap.size + 1 + 1 + 1) := Lib.hid (by simp)
  have HCS := Lib.hid hcs
  have HS := Lib.hid hs
  obtain ⟨Al, nl, cl0, hlv⟩ := h.l.shp
  have hln : L.lv = .slice Al n cl0 := by obtain ⟨a, c, e⟩ := h.l.shape; rw [hlv] at e; cases e; simp [hlv]
  obtain ⟨Au, cu, huv⟩ := h.un.shape
  obtain ⟨ps, hps, hrc, hca⟩ := h.cs
  have hpl : ps.length = x.cs.length := by rw [← hps, List.length_map]
  have hl1 : x.cs.length - 1 < ps.length := by have := (List.getElem?_eq_some_iff.1 hcs.nwAt).1; omega
  obtain ⟨nwv, hnwv⟩ : ∃ p, ps[x.cs.length - 1]? = some p := ⟨_, List.getElem?_eq_getElem hl1⟩
  have HNW : Hid (nwv.c = x.newest) := Lib.hid (by
    have h1 : (ps.map CfgV.c)[x.cs.length - 1]? = some nwv.c := by rw [List.getElem?_map, hnwv]; rfl
    rw [hps, hcs.nwAt] at h1
    exact (Option.some.inj h1).symm)
  obtain ⟨gc, offc, capc, hcv, _, hrcA⟩ := hrc.at_ (by intro e; rw [e] at hl1; simp at hl1)
  have e0 : w.cell? ⟨gc, offc + (x.cs.length - 1) * 2, none⟩ = some (.int .u64 (nwv.c.e : Int)) := hrcA.cell CfgV.encOk hnwv (j := 0) rfl
  have e1 : w.cell? ⟨gc, offc + (x.cs.length - 1) * 2 + 1, none⟩ = some nwv.sl := hrcA.cell CfgV.encOk hnwv (j := 1) rfl
  have hgc : gc < w.heap.size := hrcA.lt
  have HNA := Lib.hid (hca nwv (List.mem_of_getElem? hnwv))
  rw [hpl] at hcv
  have HLN := Lib.hid hln
  have HUV := Lib.hid huv
  have HCV := Lib.hid hcv
  have hcl1 : 1 ≤ x.cs.length := by omega
  obtain ⟨m, hm⟩ : ∃ m, x.cs.length = m + 1 := ⟨x.cs.length - 1, by omega⟩
  have HMC := Lib.hid hm
  rw [hm, Nat.add_sub_cancel] at e0 e1
  obtain ⟨p0, p1, p2, p3, pz⟩ := Blk3G hb0
  unfold StV.cells at *
  obtain ⟨q0, q1, q2, q3, q4, q5, q6, q7, qz⟩ := Blk7I hb1
  obtain ⟨r0, r1, r2, r3, rz⟩ := Blk3G hb2
  have HB0 := Lib.hid hb0
  have HB1 := Lib.hid hb1
  have HB2 := Lib.hid hb2
  have E0 := (hN.cells.1 gc (offc + m * 2) hgc).trans e0
  have E1 := (hN.cells.1 gc (offc + m * 2 + 1) hgc).trans e1
  have hgc2 := Nat.lt_of_lt_of_le hgc hN.size
  have hnode := hs.node
  have hat := hs.at_
  unfold CfgV.sl at E1
  have hn1 : (0 : Int) < (n : Int) := by omega
  obtain ⟨kk, hkk⟩ : ∃ kk, kk = s.node % n := ⟨_, rfl⟩
  have hkn : kk < n := by rw [hkk]; exact Nat.mod_lt _ hn0
  have hrem : (s.node : Int) % (n : Int) = (kk : Int) := by rw [hkk]; omega
  have hkn2 : (kk : Int) < (n : Int) := by omega
  have hkk0 : (0 : Int) ≤ (kk : Int) := by omega
  have HKN := Lib.hid hkk
  obtain ⟨aa, haa⟩ : ∃ aa, aa = atS x s := ⟨_, rfl⟩
  have HAA := Lib.hid haa
  clear hkk haa
  have hwi : IntKind.i64.wrap (s.node : Int) = (s.node : Int) := IntWalk.i64_in _ (by omega)
  have hwa : IntKind.i64.wrap (s.at_ : Int) = (s.at_ : Int) := IntWalk.i64_in _ (by omega)
  have hwm : IntKind.i64.wrap (m : Int) = (m : Int) := IntWalk.i64_in _ (by omega)
  have hm1 : (m : Int) < (m : Int) + 1 := by omega
  have hm0 : (0 : Int) ≤ (m : Int) := by omega
  clear h hN hb0 hb1 hb2 hcs hs hlv hln huv hps hrc hca hpl hl1 hnwv hcv hrcA e0 e1 hm hcl1
  have hk0 : (s.kind == 0) = false := by rw [hk]; rfl
  have hk1 : (s.kind == 1) = false := by rw [hk]; rfl
  have hk2 : (s.kind == 2) = false := by rw [hk]; rfl
  have hk3 : (s.kind == 3) = false := by rw [hk]; rfl
  have hk4 : (s.kind == 4) = false := by rw [hk]; rfl
  have hk5 : (s.kind == 5) = false := by rw [hk]; rfl
  have hk6 : (s.kind == 6) = true := by rw [hk]; rfl
  have HK := Lib.hid hk
  clear hk
  unfold StV.val StV.cells
  go_enter Tryz.func24, Tryz.ntmps24
  go_upto_region 1 with fail
  generalize ((w.alloc _).alloc _).alloc _ = W at *
  rw [HLN.out] at p1
  rw [HUV.out] at p2
  rw [HCV.out, HMC.out] at p3
  obtain ⟨tb, htb1⟩ : ∃ tb : Bool, decide ((0 : Int) < (x.un.length : Int)) = tb := ⟨_, rfl⟩
  have htb2 : decide (0 < x.un.length) = tb := by rw [← htb1]; simp
  have HTB := Lib.hid htb2
  go_upto_region 3 with fail
  go_upto_if 22 with fail
  go_cut [6] (fun s6 wx => s6 = .int .i64 (aa : Int) ∧ wx = W)
  case first =>
    have htb3 := HTB.out
    clear htb1 htb2
    cases tb with
    | false =>
      have ha0 : aa = 0 := by rw [HAA.out]; unfold atS; rw [if_pos (by simpa using htb3)]
      clear htb3
      go_wp2_with fail
      go_meet
      exact ⟨by rw [ha0]; rfl, rfl⟩
    | true =>
      have hun : 0 < x.un.length := by simpa using htb3
      have hr2 : (s.at_ : Int) % (x.un.length : Int) = (aa : Int) := by rw [HAA.out]; unfold atS; rw [if_neg (by omega)]; omega
      have hu0 : ¬ (x.un.length : Int) = 0 := by omega
      have hu1 : (0 : Int) < (x.un.length : Int) := by omega
      clear htb3 hun
      go_wp2_with fail
      go_meet
      exact ⟨by rw [hr2], rfl⟩
  case rest =>
    obtain ⟨h6, hwc⟩ := hcut
    rw [h6, hwc, hrem]
    clear h6 hwc hrem
    have hn4 := (New.refl W).alloc (.cells #[.int .u64 (nwv.c.e : Int), .slice nwv.A nwv.c.ms.length nwv.n] 25)
    have hz3 : W.heap.size = w.heap.size + 1 + 1 + 1 := HWZ.out
    have HM4 : Hid (SpM (W.alloc (.cells #[.int .u64 (nwv.c.e : Int), .slice nwv.A nwv.c.ms.length nwv.n] 25)) w.heap.size L s nwv) := Lib.hid ⟨HB0.out.new hn4, HB1.out.new hn4, HB2.out.new hn4, by
      have := Blk.mk_new W 25 #[.int .u64 (nwv.c.e : Int), .slice nwv.A nwv.c.ms.length nwv.n]
      rw [hz3] at this
      exact this⟩
    have HN4 := Lib.hid (HN.out.trans hn4)
    have HH4 := Lib.hid (HH.out.new HN4.out)
    clear hz3 hn4
    go_upto_region 6 with fail
    generalize W.alloc (.cells #[.int .u64 (nwv.c.e : Int), .slice nwv.A nwv.c.ms.length nwv.n] 25) = W4 at *
    clear p0 p1 p2 p3 pz q0 q1 q2 q3 q4 q5 q6 q7 qz r0 r1 r2 r3 rz E0 E1 hgc hgc2 hwm hm1 hm0 hwi hwa
    obtain ⟨p0, p1, p2, p3, pz⟩ := Blk3G HM4.out.b0
    have hb1 := HM4.out.b1
    unfold StV.cells at hb1
    obtain ⟨q0, q1, q2, q3, q4, q5, q6, q7, qz⟩ := Blk7I hb1
    clear hb1
    rw [HLN.out] at p1
    obtain ⟨gl, ol, cl2, hlv2, hcl2, el, hgl⟩ := HH4.out.node hkn
    rw [HLN.out] at hlv2
    cases hlv2
    have HNE : Hid (nwv.c.e = m + 1) := Lib.hid (by
      have h1 := HCS.out.at_ _ _ HCS.out.nwAt
      rw [HNW.out]
      have := HMC.out
      omega)
    obtain ⟨ep, hep⟩ : ∃ ep, ep = if s.at_ % 2 = 1 then x.newest.e - 1 else (x.rp kk).cf.e := ⟨_, rfl⟩
    have hact : x.act n s.stp = x.learn kk ep := by
      unfold Chn.act StV.stp
      dsimp only
      rw [HK.out, hep, HKN.out]
      rfl
    have HACT := Lib.hid hact
    have HEP := Lib.hid hep
    have HUN : Hid ((x.act n s.stp).un.length ≤ 301) := Lib.hid (by rw [hact]; unfold Chn.learn; split <;> (show x.un.length ≤ 301; omega))
    clear hact hep
    obtain ⟨tc, htc1⟩ : ∃ tc : Bool, ((s.at_ : Int) % 2 == 1) = tc := ⟨_, rfl⟩
    have HTC := Lib.hid htc1
    go_wp2_with fail
    refine (rconfig (HH4.out.rp kk hkn)).mono ?_
    rintro e w5 ⟨A5, n5, rfl, ht5, hn5⟩
    have hfld := fldE (.int .u64 ((x.rp kk).cf.e : Int)) (.slice A5 (x.rp kk).cf.ms.length n5) w5
    have HH5 := Lib.hid (HH4.out.new hn5)
    have HM5 := Lib.hid (HM4.out.new hn5)
    have HN5 := Lib.hid (HN4.out.trans hn5)
    have HNW5 := Lib.hid hn5
    have el5 := (keepR (S := fun _ => False) (Upd.new hn5) hgl (fun h => h) (ol + kk)).trans el
    clear p0 p1 p2 p3 pz q0 q1 q2 q3 q4 q5 q6 q7 qz ht5 hn5 el
    obtain ⟨p0, p1, p2, p3, pz⟩ := Blk3G HM5.out.b0
    have hb1 := HM5.out.b1
    unfold StV.cells at hb1
    obtain ⟨q0, q1, q2, q3, q4, q5, q6, q7, qz⟩ := Blk7I hb1
    obtain ⟨d0, d1, d2, dz⟩ := Blk2I HM5.out.b3
    clear hb1
    rw [HLN.out] at p1
    rw [HCV.out] at p3
    rw [HWZ.out]
    go_upto_region 27 with fail
    go_upto_if 152 with fail
    go_cut [11] (fun s11 wx => s11 = .int .u64 (ep : Int) ∧ wx = w5)
    case first =>
      have htc2 := HTC.out
      clear htc1
      cases tc with
      | false =>
        have he : ep = (x.rp kk).cf.e := by rw [HEP.out, if_neg (by intro h; have : ((s.at_ : Int) % 2 == 1) = true := beq_iff_eq.2 (by omega); rw [htc2] at this; cases this)]
        clear htc2
        go_wp2_with fail
        go_meet
        exact ⟨by rw [he], rfl⟩
      | true =>
        have he : ep = m := by
          have h2 : (s.at_ : Int) % 2 = 1 := beq_iff_eq.1 htc2
          rw [HEP.out, if_pos (by omega), ← HNW.out, HNE.out]; omega
        have hwe : IntKind.u64.wrap ((nwv.c.e : Int) - 1) = (m : Int) := by rw [IntWalk.u64_in _ (by have := HNE.out; have := HMC.out; omega)]; have := HNE.out; omega
        clear htc2
        go_wp2_with fail
        go_meet
        exact ⟨by rw [he], rfl⟩
    case rest =>
      obtain ⟨h11, hwc⟩ := hcut
      rw [h11, hwc]
      clear h11 hwc htc1
      by_cases hgo : ep < nwv.c.e ∧ 1 ≤ ep
      case neg =>
        have HLE : Hid (x.learn kk ep = x) := Lib.hid (by unfold Chn.learn; rw [if_neg (by rw [← HNW.out]; exact hgo)])
        have hA : SpAft w n (B + 20) L (x.act n s.stp) L w5 := ⟨by rw [HACT.out, HLE.out]; exact ChPost.pre HN5.out ((ChPost.refl HH5.out).mono (by omega)), HM5.out.b0, HM5.out.b2⟩
        obtain ⟨w7, hw7⟩ : ∃ w7, w7 = w5 := ⟨_, rfl⟩
        obtain ⟨L1, hL1⟩ : ∃ L1, L1 = L := ⟨_, rfl⟩
        have hA : SpAft w n (B + 20) L (x.act n s.stp) L1 w7 := by rw [hL1, hw7]; exact hA
        rw [← hw7]
        rw [← hw7] at q0 q1 q2 q3 q4 q5 q6 q7 qz d0 d1 d2 dz
        clear el5 hgl p0 p1 p2 p3 pz hw7 hL1
        by_cases h1 : ep < nwv.c.e
        · have h1i : (ep : Int) < (nwv.c.e : Int) := by omega
          have h2i : ¬ (1 : Int) ≤ (ep : Int) := by omega
          have h2n : ¬ 1 ≤ ep := by omega
          clear hgo
          have HA : Hid (SpAft w n (B + 20) L (x.act n s.stp) L1 w7) := Lib.hid hA
          clear hA
          obtain ⟨p0, p1, p2, p3, pz⟩ := Blk3G HA.out.bx
          obtain ⟨r0, r1, r2, r3, rz⟩ := Blk3G HA.out.rs
          go_wp2_with fail
          refine (gather_any HA.out.po.1 hn (by omega) (by have := HUN.out; omega)).mono ?_
          rintro e w9 ⟨L2, rfl, hp2⟩
          have hr9 := HA.out.rs.upd hp2.2.2.2.2 (HA.out.po.1.boxF HA.out.rs).1
          have HR9 := Lib.hid hr9
          have HP9 := Lib.hid (ChPost.trans HA.out.po (hp2.mono (Nat.le_refl _)))
          clear p0 p1 p2 p3 pz r0 r1 r2 r3 rz
          obtain ⟨r0, r1, r2, r3, rz⟩ := Blk3G hr9
          obtain ⟨A1, n1, c1, h1⟩ := hp2.1.l.shp
          obtain ⟨A2, c2, h2⟩ := hp2.1.un.shape
          obtain ⟨qs, _, hq3, _⟩ := hp2.1.cs
          obtain ⟨A3, n3, c3, h3⟩ := hq3.shp
          rw [h1, h2, h3]
          have H1 := Lib.hid h1
          have H2 := Lib.hid h2
          have H3 := Lib.hid h3
          clear hr9 hp2 hq3 h1 h2 h3
          go_wp2_with fail
          exact bodyPost_ret (v := .agg #[.slice A1 n1 c1, .slice A2 ((x.act n s.stp).gather n).un.length c2, .slice A3 n3 c3]) (by simp [results, Tryz.results24, go_sem, r1, r2, r3]) rfl ⟨L2, by rw [H1.out, H2.out, H3.out], (HP9.out.box HR9.out (by omega) ((((Upd.refl _ w9).setIn 0 _).setIn 1 _).setIn 2 _)).mono (by omega)⟩
        · have h1i : ¬ (ep : Int) < (nwv.c.e : Int) := by omega
          clear hgo
          have HA : Hid (SpAft w n (B + 20) L (x.act n s.stp) L1 w7) := Lib.hid hA
          clear hA
          obtain ⟨p0, p1, p2, p3, pz⟩ := Blk3G HA.out.bx
          obtain ⟨r0, r1, r2, r3, rz⟩ := Blk3G HA.out.rs
          go_wp2_with fail
          refine (gather_any HA.out.po.1 hn (by omega) (by have := HUN.out; omega)).mono ?_
          rintro e w9 ⟨L2, rfl, hp2⟩
          have hr9 := HA.out.rs.upd hp2.2.2.2.2 (HA.out.po.1.boxF HA.out.rs).1
          have HR9 := Lib.hid hr9
          have HP9 := Lib.hid (ChPost.trans HA.out.po (hp2.mono (Nat.le_refl _)))
          clear p0 p1 p2 p3 pz r0 r1 r2 r3 rz
          obtain ⟨r0, r1, r2, r3, rz⟩ := Blk3G hr9
          obtain ⟨A1, n1, c1, h1⟩ := hp2.1.l.shp
          obtain ⟨A2, c2, h2⟩ := hp2.1.un.shape
          obtain ⟨qs, _, hq3, _⟩ := hp2.1.cs
          obtain ⟨A3, n3, c3, h3⟩ := hq3.shp
          rw [h1, h2, h3]
          have H1 := Lib.hid h1
          have H2 := Lib.hid h2
          have H3 := Lib.hid h3
          clear hr9 hp2 hq3 h1 h2 h3
          go_wp2_with fail
          exact bodyPost_ret (v := .agg #[.slice A1 n1 c1, .slice A2 ((x.act n s.stp).gather n).un.length c2, .slice A3 n3 c3]) (by simp [results, Tryz.results24, go_sem, r1, r2, r3]) rfl ⟨L2, by rw [H1.out, H2.out, H3.out], (HP9.out.box HR9.out (by omega) ((((Upd.refl _ w9).setIn 0 _).setIn 1 _).setIn 2 _)).mono (by omega)⟩
      case pos =>
        obtain ⟨h1, h2⟩ := hgo
        have h1i : (ep : Int) < (nwv.c.e : Int) := by omega
        have h2i : (1 : Int) ≤ (ep : Int) := by omega
        have h0i : (0 : Int) ≤ (ep : Int) := by omega
        have hepl : ep < x.cs.length := by have := HNE.out; have := HMC.out; omega
        have hepi : (ep : Int) < (x.cs.length : Int) := by omega
        obtain ⟨qs, hqs, hrq, hqa⟩ := HH5.out.cs
        have hql : qs.length = x.cs.length := by rw [← hqs, List.length_map]
        obtain ⟨pe, hpe⟩ : ∃ p, qs[ep]? = some p := ⟨_, List.getElem?_eq_getElem (by omega)⟩
        have HPE : Hid ((x.cs[ep]?).getD ⟨0, []⟩ = pe.c) := Lib.hid (by rw [← hqs, List.getElem?_map, hpe]; rfl)
        obtain ⟨g2, o2, c2, hv2, _, hrA⟩ := hrq.at_ (by intro e; rw [e] at hql; simp at hql; omega)
        rw [HCV.out] at hv2
        simp only [Value.slice.injEq, Option.some.injEq, Addr.mk.injEq] at hv2
        obtain ⟨⟨rfl, rfl, -⟩, -, rfl⟩ := hv2
        have e0 : w5.cell? ⟨gc, offc + ep * 2, none⟩ = some (.int .u64 (pe.c.e : Int)) := hrA.cell CfgV.encOk hpe (j := 0) rfl
        have e1 : w5.cell? ⟨gc, offc + ep * 2 + 1, none⟩ = some pe.sl := hrA.cell CfgV.encOk hpe (j := 1) rfl
        have hgq : gc < w5.heap.size := hrA.lt
        have HPA := Lib.hid (hqa pe (List.mem_of_getElem? hpe))
        unfold CfgV.sl at e1
        have HLE : Hid (x.learn kk ep = { x with rp := setD x.rp kk ((x.rp kk).adopt pe.c).1 }) := Lib.hid (by unfold Chn.learn; rw [if_pos ⟨by rw [← HNW.out]; exact h1, h2⟩, HPE.out])
        clear hqs hrq hqa hql hpe hrA h1 h2
        go_upto_region 30 with fail
        refine wp_region_held_drew (S := fun w' => (∀ o, w'.cell? ⟨w.heap.size, o, none⟩ = w5.cell? ⟨w.heap.size, o, none⟩) ∧ w'.cell? ⟨gl, ol + kk, none⟩ = w5.cell? ⟨gl, ol + kk, none⟩ ∧ (∀ o, w'.cell? ⟨gc, o, none⟩ = w5.cell? ⟨gc, o, none⟩)) (by kernel_rfl) (⟨fun _ => rfl, rfl, fun _ => rfl⟩) (fun hHeld => ?_)
        refine tkN (i := 0) rfl ?_
        try simp only [Act.put, sA, sZ, sS]
        refine tkN (i := 1) rfl ?_
        try simp only [Act.put, sA, sZ, sS]
        refine tkN (i := 2) rfl ?_
        try simp only [Act.put, sA, sZ, sS]
        refine tkN (i := 3) rfl ?_
        try simp only [Act.put, sA, sZ, sS]
        refine tkN (i := 4) rfl ?_
        try simp only [Act.put, sA, sZ, sS]
        refine tkN (i := 5) rfl ?_
        try simp only [Act.put, sA, sZ, sS]
        refine tkN (i := 6) rfl ?_
        try simp only [Act.put, sA, sZ, sS]
        refine tkN (i := 7) rfl ?_
        try simp only [Act.put, sA, sZ, sS]
        refine tkN (i := 8) rfl ?_
        try simp only [Act.put, sA, sZ, sS]
        refine tkN (i := 9) rfl ?_
        try simp only [Act.put, sA, sZ, sS]
        refine stN (i := 10) rfl (fun K hK => ?_)
        go_simp
        have ho := radopt ((HH5.out.rp kk hkn).new (New.refl w5).drew) pe.c (A := pe.A) (n := pe.n) (HPA.out.sl.slIn.new (New.refl w5).drew) HPA.out.l HPA.out.e (by omega)
        refine ho.mono ?_
        rintro e w7 ⟨rfl, hp⟩
        have hrf : Upd (RpF (L.rp kk) (L.rl kk)) w5 w7 := (Upd.refl _ w5).drew.trans (show Upd (RpF (L.rp kk) (L.rl kk)) w5.drew w7 from let ⟨_, _, _, h⟩ := hp; h) (fun _ _ h => h)
        obtain ⟨L1, hc1, hu1, hc1v, -⟩ := ChPost.setRp (HH5.out.new (New.refl w5).drew) hkn hp (by omega)
        have hup := hc1.2.2.2.2
        have m0 := fun o => keepR hrf HM5.out.b0.lt (fun hk => (HH5.out.boxF HM5.out.b0).1 (.inl ⟨kk, hkn, hk⟩)) o
        have m1 := keepR hrf (Nat.lt_of_lt_of_le hgl HNW5.out.size) (fun hk => HH5.out.lvF gl (by rw [HLN.out]; rfl) (.inl ⟨kk, hkn, hk⟩)) (ol + kk)
        have m2 := fun o => keepR hrf hgq (fun hk => HH5.out.cvF gc (by rw [HCV.out]; rfl) (.inl ⟨kk, hkn, hk⟩)) o
        refine hK.out _ _ ?_ (fun hHeld => ?_)
        · exact ⟨m0, m1, m2⟩
        clear hK K
        try simp only [Act.put, sA, sZ, sS]
        refine wpAnyH_done (by kernel_rfl) ?_ _
        clear hHeld
        rw [← HLE.out, ← HACT.out] at hc1
        have hc2 := ChPost.pre (New.refl w5).drew hc1
        have hup := hc2.2.2.2.2
        have hA : SpAft w n (B + 20) L (x.act n s.stp) L1 w7 := ⟨ChPost.pre HN5.out (hc2.mono (by omega)), by rw [hc1.2.1, hu1, hc1v]; exact HM5.out.b0.upd hup (HH5.out.boxF HM5.out.b0).1, HM5.out.b2.upd hup (HH5.out.boxF HM5.out.b2).1⟩
        clear hp hc1 hc2 hu1 hc1v hup hrf ho m0 m1 m2 el5 hgl p0 p1 p2 p3 pz q0 q1 q2 q3 q4 q5 q6 q7 qz d0 d1 d2 dz e0 e1
        have HA : Hid (SpAft w n (B + 20) L (x.act n s.stp) L1 w7) := Lib.hid hA
        clear hA
        obtain ⟨p0, p1, p2, p3, pz⟩ := Blk3G HA.out.bx
        obtain ⟨r0, r1, r2, r3, rz⟩ := Blk3G HA.out.rs
        go_wp2_with fail
        refine (gather_any HA.out.po.1 hn (by omega) (by have := HUN.out; omega)).mono ?_
        rintro e w9 ⟨L2, rfl, hp2⟩
        have hr9 := HA.out.rs.upd hp2.2.2.2.2 (HA.out.po.1.boxF HA.out.rs).1
        have HR9 := Lib.hid hr9
        have HP9 := Lib.hid (ChPost.trans HA.out.po (hp2.mono (Nat.le_refl _)))
        clear p0 p1 p2 p3 pz r0 r1 r2 r3 rz
        obtain ⟨r0, r1, r2, r3, rz⟩ := Blk3G hr9
        obtain ⟨A1, n1, c1, h1⟩ := hp2.1.l.shp
        obtain ⟨A2, c2, h2⟩ := hp2.1.un.shape
        obtain ⟨qs, _, hq3, _⟩ := hp2.1.cs
        obtain ⟨A3, n3, c3, h3⟩ := hq3.shp
        rw [h1, h2, h3]
        have H1 := Lib.hid h1
        have H2 := Lib.hid h2
        have H3 := Lib.hid h3
        clear hr9 hp2 hq3 h1 h2 h3
        go_wp2_with fail
        exact bodyPost_ret (v := .agg #[.slice A1 n1 c1, .slice A2 ((x.act n s.stp).gather n).un.length c2, .slice A3 n3 c3]) (by simp [results, Tryz.results24, go_sem, r1, r2, r3]) rfl ⟨L2, by rw [H1.out, H2.out, H3.out], (HP9.out.box HR9.out (by omega) ((((Upd.refl _ w9).setIn 0 _).setIn 1 _).setIn 2 _)).mono (by omega)⟩
end
end Go.Proofs.YtecniafnihpjmaaGreatDoor
