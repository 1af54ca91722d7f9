/- Chapter 24's reference: Submit. Printed by genRsI.py. -/
import Derived.Test.YtecniafnihpjmaaGreatDoorTk
import Derived.Test.YtecniafnihpjmaaGreatDoorRsH
namespace Go.Proofs.YtecniafnihpjmaaGreatDoor
open Go.RowKit Go.Lap C
set_option linter.unusedVariables false
set_option linter.unusedSimpArgs false
section
variable {w w' W : World} {B : Nat} {y : RrV} {x : Rpl} {b : BtV}
theorem Rpl.submit_role {b : Btc} (h : placeC x.cf.ms x.id ≠ 0) : x.submit b = (x, ⟨0, 0⟩, 240) := if_pos h
theorem Rpl.submit_in {b : Btc} {jx : Jd} {vd : Vd} (h : placeC x.cf.ms x.id = 0) (hj : x.j.say b = (jx, vd)) : x.submit b = (if x.la < jx.la then ({ x with j := jx } : Rpl).added b else { x with j := jx }, vd, 0) := by
  unfold Rpl.submit
  rw [if_neg (fun h2 => h2 h), hj]
/-- What Submit answers. -/
def RrSub (w : World) (B : Nat) (y0 : RrV) (r : Rpl × Vd × Int) (e : Ending) (w' : World) : Prop := ∃ y : RrV, e = .returned (.tuple #[y.val, .agg #[.int .u64 (r.2.1.t : Int), .int .i64 r.2.1.e], .int .i64 r.2.2]) ∧ RrAt w' B y r.1 ∧ New w w' ∧ ∀ k, RrF y k → RrF y0 k ∨ w.heap.size ≤ k
theorem Blk.set10 {g t : Nat} {a0 a1 a2 a3 a4 a5 a6 a7 a8 a9 : Value} (b0 b1 b2 b3 b4 b5 b6 b7 b8 b9 : Value) (h : Blk w g t #[a0, a1, a2, a3, a4, a5, a6, a7, a8, a9]) : Blk ((((((((((w.setCell ⟨g, 0, none⟩ (b0)).setCell ⟨g, 1, none⟩ (b1)).setCell ⟨g, 2, none⟩ (b2)).setCell ⟨g, 3, none⟩ (b3)).setCell ⟨g, 4, none⟩ (b4)).setCell ⟨g, 5, none⟩ (b5)).setCell ⟨g, 6, none⟩ (b6)).setCell ⟨g, 7, none⟩ (b7)).setCell ⟨g, 8, none⟩ (b8)).setCell ⟨g, 9, none⟩ (b9)) g t #[b0, b1, b2, b3, b4, b5, b6, b7, b8, b9] := by
  have := ((((((((((h).set_ 0 (b0)).set_ 1 (b1)).set_ 2 (b2)).set_ 3 (b3)).set_ 4 (b4)).set_ 5 (b5)).set_ 6 (b6)).set_ 7 (b7)).set_ 8 (b8)).set_ 9 (b9)
  simp only [List.setIfInBounds_toArray, List.set_cons_zero, List.set_cons_succ] at this
  exact this
set_option maxRecDepth 100000 in
set_option maxHeartbeats 8000000 in
theorem rrsubmit (h : RrAt w B y x) (hb : BtAt w b) (hB : B ≤ 90000) :
    Calls Tryz.prog 16 #[y.val, b.val] w (RrSub w (B + 3) y (x.submit b.b)) := by
  obtain ⟨id, ⟨ep, ms⟩, j, l, cl, out⟩ := x
  obtain ⟨la, L, cA, cc, sA, sc, tA, tc, lA, lc, oA, oc, rfl⟩ := h.form
  obtain ⟨⟨bc, br, bs, bl⟩, bA, bcap⟩ := b
  have HB := Lib.hid hb
  have HH := Lib.hid h
  have hcs := h.cf
  have hc7 := h.c7
  have HJL : Hid (L.length < 100000) := Lib.hid (by have := h.jl; dsimp only at this; omega)
  have HLB : Hid (l.length ≤ 90000) := Lib.hid (by have := h.ll; dsimp only at this; omega)
  dsimp only [RrV.val, RrV.cells, BtV.val, BtV.sl, batV] at hcs hc7 ⊢
  have hN := ((((New.refl w).alloc (.cells #[.int .i64 id, .int .u64 (ep : Int), .slice cA ms.length cc, .int .u64 0, .int .u64 (la : Int), .slice sA L.length sc, .slice tA L.length tc, .slice lA l.length lc, .int .u64 (cl : Int), .slice oA out.length oc] 36)).alloc (.cells #[.int .u64 (bc : Int), .int .u64 (br : Int), .int .u64 (bs : Int), .slice bA bl.length bcap] 40)).alloc (.cells #[.int .i64 0, .int .u64 0, .slice none 0 0, .int .u64 0, .int .u64 0, .slice none 0 0, .slice none 0 0, .slice none 0 0, .int .u64 0, .slice none 0 0] 36)).alloc (.cells #[.int .u64 0, .int .i64 0] 49)
  have h1 := (((Blk.mk_new (w) 36 #[.int .i64 id, .int .u64 (ep : Int), .slice cA ms.length cc, .int .u64 0, .int .u64 (la : Int), .slice sA L.length sc, .slice tA L.length tc, .slice lA l.length lc, .int .u64 (cl : Int), .slice oA out.length oc]).alloc (.cells #[.int .u64 (bc : Int), .int .u64 (br : Int), .int .u64 (bs : Int), .slice bA bl.length bcap] 40)).alloc (.cells #[.int .i64 0, .int .u64 0, .slice none 0 0, .int .u64 0, .int .u64 0, .slice none 0 0, .slice none 0 0, .slice none 0 0, .int .u64 0, .slice none 0 0] 36)).alloc (.cells #[.int .u64 0, .int .i64 0] 49)
  have h2 := ((Blk.mk_new (w.alloc (.cells #[.int .i64 id, .int .u64 (ep : Int), .slice cA ms.length cc, .int .u64 0, .int .u64 (la : Int), .slice sA L.length sc, .slice tA L.length tc, .slice lA l.length lc, .int .u64 (cl : Int), .slice oA out.length oc] 36)) 40 #[.int .u64 (bc : Int), .int .u64 (br : Int), .int .u64 (bs : Int), .slice bA bl.length bcap]).alloc (.cells #[.int .i64 0, .int .u64 0, .slice none 0 0, .int .u64 0, .int .u64 0, .slice none 0 0, .slice none 0 0, .slice none 0 0, .int .u64 0, .slice none 0 0] 36)).alloc (.cells #[.int .u64 0, .int .i64 0] 49)
  have h3 := (Blk.mk_new ((w.alloc (.cells #[.int .i64 id, .int .u64 (ep : Int), .slice cA ms.length cc, .int .u64 0, .int .u64 (la : Int), .slice sA L.length sc, .slice tA L.length tc, .slice lA l.length lc, .int .u64 (cl : Int), .slice oA out.length oc] 36)).alloc (.cells #[.int .u64 (bc : Int), .int .u64 (br : Int), .int .u64 (bs : Int), .slice bA bl.length bcap] 40)) 36 #[.int .i64 0, .int .u64 0, .slice none 0 0, .int .u64 0, .int .u64 0, .slice none 0 0, .slice none 0 0, .slice none 0 0, .int .u64 0, .slice none 0 0]).alloc (.cells #[.int .u64 0, .int .i64 0] 49)
  have h4 := Blk.mk_new (((w.alloc (.cells #[.int .i64 id, .int .u64 (ep : Int), .slice cA ms.length cc, .int .u64 0, .int .u64 (la : Int), .slice sA L.length sc, .slice tA L.length tc, .slice lA l.length lc, .int .u64 (cl : Int), .slice oA out.length oc] 36)).alloc (.cells #[.int .u64 (bc : Int), .int .u64 (br : Int), .int .u64 (bs : Int), .slice bA bl.length bcap] 40)).alloc (.cells #[.int .i64 0, .int .u64 0, .slice none 0 0, .int .u64 0, .int .u64 0, .slice none 0 0, .slice none 0 0, .slice none 0 0, .int .u64 0, .slice none 0 0] 36)) 49 #[.int .u64 0, .int .i64 0]
  simp only [World.size_alloc] at h2 h3 h4
  have HN := Lib.hid hN
  have H1 := Lib.hid h1
  have H2 := Lib.hid h2
  have H3 := Lib.hid h3
  have H4 := Lib.hid h4
  clear hN h1 h2 h3 h4
  have HCS := Lib.hid (hcs.new HN.out)
  clear h hb hcs
  go_enter Tryz.func16, Tryz.ntmps16
  go_upto_region 1 with fail
  generalize (((w.alloc (.cells #[.int .i64 id, .int .u64 (ep : Int), .slice cA ms.length cc, .int .u64 0, .int .u64 (la : Int), .slice sA L.length sc, .slice tA L.length tc, .slice lA l.length lc, .int .u64 (cl : Int), .slice oA out.length oc] 36)).alloc (.cells #[.int .u64 (bc : Int), .int .u64 (br : Int), .int .u64 (bs : Int), .slice bA bl.length bcap] 40)).alloc (.cells #[.int .i64 0, .int .u64 0, .slice none 0 0, .int .u64 0, .int .u64 0, .slice none 0 0, .slice none 0 0, .slice none 0 0, .int .u64 0, .slice none 0 0] 36)).alloc (.cells #[.int .u64 0, .int .i64 0] 49) = W at *
  obtain ⟨q0, q1, q2, q3, q4, q5, q6, q7, q8, q9, q10, qz⟩ := Blk10R H1.out
  go_wp2_with fail
  refine (refPlace_any ep _ ms id W (by omega) HCS.out).mono ?_
  rintro e wB ⟨rfl, hnB⟩
  have HNB := Lib.hid hnB
  have HQB := Lib.hid (H1.out.new hnB)
  have HPB := Lib.hid (H2.out.new hnB)
  have HRB := Lib.hid (H3.out.new hnB)
  have HVB := Lib.hid (H4.out.new hnB)
  clear hnB q0 q1 q2 q3 q4 q5 q6 q7 q8 q9 q10 qz hc7
  by_cases hpl : placeC ms id = 0
  case neg =>
    have hb1 : (placeC ms id == 0) = false := beq_eq_false_iff_ne.2 hpl
    have HE : Hid ((⟨id, ⟨ep, ms⟩, j, l, cl, out⟩ : Rpl).submit ⟨bc, br, bs, bl⟩ = ((⟨id, ⟨ep, ms⟩, j, l, cl, out⟩ : Rpl), ⟨0, 0⟩, 240)) := Lib.hid (Rpl.submit_role hpl)
    clear hpl
    generalize placeC ms id = pl at *
    obtain ⟨q0, q1, q2, q3, q4, q5, q6, q7, q8, q9, q10, qz⟩ := Blk10R HQB.out
    obtain ⟨r0, r1, r2, r3, r4, r5, r6, r7, r8, r9, r10, rz⟩ := Blk10R HRB.out
    obtain ⟨s0, s1, s2, sz⟩ := Blk2R HVB.out
    go_wp2_with fail
    have hu8 : Upd (· = w.heap.size + 2) wB ((((((((((wB.setCell ⟨w.heap.size + 2, 0, none⟩ (.int .i64 id)).setCell ⟨w.heap.size + 2, 1, none⟩ (.int .u64 (ep : Int))).setCell ⟨w.heap.size + 2, 2, none⟩ (.slice cA ms.length cc)).setCell ⟨w.heap.size + 2, 3, none⟩ (.int .u64 0)).setCell ⟨w.heap.size + 2, 4, none⟩ (.int .u64 (la : Int))).setCell ⟨w.heap.size + 2, 5, none⟩ (.slice sA L.length sc)).setCell ⟨w.heap.size + 2, 6, none⟩ (.slice tA L.length tc)).setCell ⟨w.heap.size + 2, 7, none⟩ (.slice lA l.length lc)).setCell ⟨w.heap.size + 2, 8, none⟩ (.int .u64 (cl : Int))).setCell ⟨w.heap.size + 2, 9, none⟩ (.slice oA out.length oc)) := ((((((((((Upd.refl _ wB).setIn 0 _).setIn 1 _).setIn 2 _).setIn 3 _).setIn 4 _).setIn 5 _).setIn 6 _).setIn 7 _).setIn 8 _).setIn 9 _
    have hu9 := Upd.trans (hu8.mono (T := fun i => i = w.heap.size + 2 ∨ i = w.heap.size + 3) (fun i _ h => .inl h)) (((Upd.refl (· = w.heap.size + 3) ((((((((((wB.setCell ⟨w.heap.size + 2, 0, none⟩ (.int .i64 id)).setCell ⟨w.heap.size + 2, 1, none⟩ (.int .u64 (ep : Int))).setCell ⟨w.heap.size + 2, 2, none⟩ (.slice cA ms.length cc)).setCell ⟨w.heap.size + 2, 3, none⟩ (.int .u64 0)).setCell ⟨w.heap.size + 2, 4, none⟩ (.int .u64 (la : Int))).setCell ⟨w.heap.size + 2, 5, none⟩ (.slice sA L.length sc)).setCell ⟨w.heap.size + 2, 6, none⟩ (.slice tA L.length tc)).setCell ⟨w.heap.size + 2, 7, none⟩ (.slice lA l.length lc)).setCell ⟨w.heap.size + 2, 8, none⟩ (.int .u64 (cl : Int))).setCell ⟨w.heap.size + 2, 9, none⟩ (.slice oA out.length oc))).setIn 0 (.int .u64 0)).setIn 1 (.int .i64 0)) (fun i _ h => .inr h)
    have hn9 := (New.trans HN.out HNB.out).upd hu9 (fun i e => by omega)
    exact bodyPost_ret (v := .tuple #[.agg #[.int .i64 id, .int .u64 (ep : Int), .slice cA ms.length cc, .int .u64 0, .int .u64 (la : Int), .slice sA L.length sc, .slice tA L.length tc, .slice lA l.length lc, .int .u64 (cl : Int), .slice oA out.length oc], .agg #[.int .u64 0, .int .i64 0], .int .i64 240]) (by simp [results, Tryz.results16, go_sem, r1, r2, r3, r4, r5, r6, r7, r8, r9, r10, s1, s2]) rfl ⟨(⟨id, ep, .slice cA ms.length cc, ⟨la, L, .slice sA L.length sc, .slice tA L.length tc⟩, .slice lA l.length lc, cl, .slice oA out.length oc⟩ : RrV), by rw [HE.out]; rfl, by rw [HE.out]; exact (HH.out.new hn9).mono (by omega), hn9, fun k hk => .inl hk⟩
  rw [hpl]
  have hz0 : ((0 : Int) == 0) = true := rfl
  have HPL := Lib.hid hpl
  clear hpl
  obtain ⟨q0, q1, q2, q3, q4, q5, q6, q7, q8, q9, q10, qz⟩ := Blk10R HQB.out
  obtain ⟨p0, p1, p2, p3, p4, pz⟩ := Blk4R HPB.out
  go_wp2_with fail
  refine (rsay_any (x := ⟨la, L, .slice sA L.length sc, .slice tA L.length tc⟩) (j := j) (b := ⟨⟨bc, br, bs, bl⟩, bA, bcap⟩) (HH.out.jk.new (HN.out.trans HNB.out)) HH.out.jr (HB.out.new (HN.out.trans HNB.out)) HJL.out).mono ?_
  rintro e wD ⟨z, rfl, hzk, hzr, hzl, hnD, hzf⟩
  obtain ⟨zla, zL, zsv, ztv⟩ := z
  have hss := hzk.s.shape
  have hts := hzk.t.shape
  rw [List.length_map] at hts
  dsimp only at hss hts hzl hzr
  obtain ⟨zsA, zsc, rfl⟩ := hss
  obtain ⟨ztA, ztc, rfl⟩ := hts
  generalize hjs : j.say ⟨bc, br, bs, bl⟩ = js at hzr ⊢
  obtain ⟨jx, vd⟩ := js
  have HJS := Lib.hid hjs
  dsimp only [RjV.val] at hzr ⊢
  have hzjl := hzr.la
  have hzkl := hzk.la
  dsimp only at hzjl hzkl
  have HZJ := Lib.hid hzjl
  have HZK := Lib.hid hzk
  have HZR := Lib.hid hzr
  have HZL := Lib.hid hzl
  have HZF : Hid (∀ k, RjF (⟨zla, zL, .slice zsA zL.length zsc, .slice ztA zL.length ztc⟩ : RjV) k → RjF (⟨la, L, .slice sA L.length sc, .slice tA L.length tc⟩ : RjV) k ∨ w.heap.size + 4 ≤ k) := Lib.hid (fun k hk => (hzf k hk).elim .inl (fun h => .inr (by have := HVB.out.lt; omega)))
  have HND := Lib.hid (HNB.out.trans hnD)
  have HQD := Lib.hid (HQB.out.new hnD)
  have HPD := Lib.hid (HPB.out.new hnD)
  have HRD := Lib.hid (HRB.out.new hnD)
  have HVD := Lib.hid (HVB.out.new hnD)
  clear hzk hzr hzl hzf hnD hjs hzjl q0 q1 q2 q3 q4 q5 q6 q7 q8 q9 q10 qz p0 p1 p2 p3 p4 pz
  obtain ⟨q0, q1, q2, q3, q4, q5, q6, q7, q8, q9, q10, qz⟩ := Blk10R HQD.out
  go_upto_region 4 with fail
  have hna := ((New.refl wD).alloc (.cells #[.int .u64 0, .int .u64 (zla : Int), .slice zsA zL.length zsc, .slice ztA zL.length ztc] 33)).alloc (.cells #[.int .u64 (vd.t : Int), .int .i64 vd.e] 49)
  have HJB := Lib.hid ((Blk.mk_new wD 33 #[.int .u64 0, .int .u64 (zla : Int), .slice zsA zL.length zsc, .slice ztA zL.length ztc]).alloc (.cells #[.int .u64 (vd.t : Int), .int .i64 vd.e] 49))
  have hvb := Blk.mk_new (wD.alloc (.cells #[.int .u64 0, .int .u64 (zla : Int), .slice zsA zL.length zsc, .slice ztA zL.length ztc] 33)) 49 #[.int .u64 (vd.t : Int), .int .i64 vd.e]
  rw [World.size_alloc] at hvb
  have HVX := Lib.hid hvb
  have HNC := Lib.hid (HND.out.trans hna)
  have HQC := Lib.hid (HQD.out.new hna)
  have HPC := Lib.hid (HPD.out.new hna)
  have HRC := Lib.hid (HRD.out.new hna)
  have HVC := Lib.hid (HVD.out.new hna)
  have HGG : Hid (w.heap.size + 4 ≤ wD.heap.size) := Lib.hid (by have := HVD.out.lt; omega)
  have HZC := Lib.hid (HZK.out.new hna)
  clear hna hvb q0 q1 q2 q3 q4 q5 q6 q7 q8 q9 q10 qz
  generalize (wD.alloc (.cells #[.int .u64 0, .int .u64 (zla : Int), .slice zsA zL.length zsc, .slice ztA zL.length ztc] 33)).alloc (.cells #[.int .u64 (vd.t : Int), .int .i64 vd.e] 49) = wC at *
  generalize wD.heap.size = gj at HJB HVX HGG ⊢
  obtain ⟨q0, q1, q2, q3, q4, q5, q6, q7, q8, q9, q10, qz⟩ := Blk10R HQC.out
  obtain ⟨s0, s1, s2, s3, s4, sz⟩ := Blk4R HJB.out
  go_upto_region 5 with fail
  have hu4 : Upd (· = w.heap.size) wC ((((wC.setCell ⟨w.heap.size, 3, none⟩ (.int .u64 0)).setCell ⟨w.heap.size, 4, none⟩ (.int .u64 (zla : Int))).setCell ⟨w.heap.size, 5, none⟩ (.slice zsA zL.length zsc)).setCell ⟨w.heap.size, 6, none⟩ (.slice ztA zL.length ztc)) := (((((Upd.refl _ wC)).setIn 3 _).setIn 4 _).setIn 5 _).setIn 6 _
  have H15 := Lib.hid (((((HQC.out).set_ 3 (.int .u64 0)).set_ 4 (.int .u64 (zla : Int))).set_ 5 (.slice zsA zL.length zsc)).set_ 6 (.slice ztA zL.length ztc))
  have H25 := Lib.hid (HPC.out.upd hu4 (by omega))
  have H35 := Lib.hid (HRC.out.upd hu4 (by omega))
  have H45 := Lib.hid (HVC.out.upd hu4 (by omega))
  have HJ5 := Lib.hid (HJB.out.upd hu4 (by have := HGG.out; omega))
  have HV5 := Lib.hid (HVX.out.upd hu4 (by have := HGG.out; omega))
  have HN5 := Lib.hid ((New.trans HN.out HNC.out).upd hu4 (fun i e => by omega))
  have hz5 := HZC.out.upd hu4 (fun k hk e => (HZF.out k hk).elim (fun h => by have := HH.out.jk.lt k h; omega) (fun h => by omega)) (Off.blk HQC.out (by decide))
  have HR5 : Hid (RrAt ((((wC.setCell ⟨w.heap.size, 3, none⟩ (.int .u64 0)).setCell ⟨w.heap.size, 4, none⟩ (.int .u64 (zla : Int))).setCell ⟨w.heap.size, 5, none⟩ (.slice zsA zL.length zsc)).setCell ⟨w.heap.size, 6, none⟩ (.slice ztA zL.length ztc)) (B + 1) (⟨id, ep, .slice cA ms.length cc, ⟨zla, zL, .slice zsA zL.length zsc, .slice ztA zL.length ztc⟩, .slice lA l.length lc, cl, .slice oA out.length oc⟩ : RrV) (⟨id, ⟨ep, ms⟩, jx, l, cl, out⟩ : Rpl)) := Lib.hid { (HH.out.new HN5.out).mono (Nat.le_succ B) with jk := hz5, jr := HZR.out, jl := by have h1 := HH.out.jl; have h2 := HZL.out; dsimp only at h1 ⊢; omega }
  have HFAR : Hid (∀ k, RrF (⟨id, ep, .slice cA ms.length cc, ⟨zla, zL, .slice zsA zL.length zsc, .slice ztA zL.length ztc⟩, .slice lA l.length lc, cl, .slice oA out.length oc⟩ : RrV) k → RrF (⟨id, ep, .slice cA ms.length cc, ⟨la, L, .slice sA L.length sc, .slice tA L.length tc⟩, .slice lA l.length lc, cl, .slice oA out.length oc⟩ : RrV) k ∨ w.heap.size + 4 ≤ k) := Lib.hid (fun k hk => hk.elim (fun h => (HZF.out k h).elim (fun h => .inl (.inl h)) .inr) (fun h => .inl (.inr h)))
  have HB5 := Lib.hid (HB.out.new HN5.out)
  clear hu4 hz5 q0 q1 q2 q3 q4 q5 q6 q7 q8 q9 q10 qz s0 s1 s2 s3 s4 sz
  generalize ((((wC.setCell ⟨w.heap.size, 3, none⟩ (.int .u64 0)).setCell ⟨w.heap.size, 4, none⟩ (.int .u64 (zla : Int))).setCell ⟨w.heap.size, 5, none⟩ (.slice zsA zL.length zsc)).setCell ⟨w.heap.size, 6, none⟩ (.slice ztA zL.length ztc)) = w5 at *
  obtain ⟨q0, q1, q2, q3, q4, q5, q6, q7, q8, q9, q10, qz⟩ := Blk10R H15.out
  obtain ⟨p0, p1, p2, p3, p4, pz⟩ := Blk4R H25.out
  obtain ⟨s0, s1, s2, s3, s4, sz⟩ := Blk4R HJ5.out
  have hlb := HLB.out
  by_cases hlt : l.length < zla
  · have hli : (l.length : Int) < (zla : Int) := by omega
    have HE : Hid ((⟨id, ⟨ep, ms⟩, j, l, cl, out⟩ : Rpl).submit ⟨bc, br, bs, bl⟩ = ((⟨id, ⟨ep, ms⟩, jx, l, cl, out⟩ : Rpl).added ⟨bc, br, bs, bl⟩, vd, 0)) := Lib.hid (by rw [Rpl.submit_in HPL.out HJS.out, if_pos (by rw [← HZJ.out]; exact hlt)])
    clear hlt
    go_wp2_with fail
    refine (rradded (y := (⟨id, ep, .slice cA ms.length cc, ⟨zla, zL, .slice zsA zL.length zsc, .slice ztA zL.length ztc⟩, .slice lA l.length lc, cl, .slice oA out.length oc⟩ : RrV)) (b := ⟨⟨bc, br, bs, bl⟩, bA, bcap⟩) HR5.out HB5.out (by omega)).mono ?_
    rintro e w6 h6
    obtain ⟨id6, ep6, ms6, j6, l6, cl6, out6, la6, L6, cA6, cc6, sA6, sc6, tA6, tc6, lA6, lc6, oA6, oc6, hx6, rfl, hr6, hn6, hf6⟩ := h6.form
    have HX6 := Lib.hid hx6
    have HR6 := Lib.hid hr6
    have HF6 : Hid (∀ k, RrF (⟨id6, ep6, .slice cA6 ms6.length cc6, ⟨la6, L6, .slice sA6 L6.length sc6, .slice tA6 L6.length tc6⟩, .slice lA6 l6.length lc6, cl6, .slice oA6 out6.length oc6⟩ : RrV) k → RrF (⟨id, ep, .slice cA ms.length cc, ⟨la, L, .slice sA L.length sc, .slice tA L.length tc⟩, .slice lA l.length lc, cl, .slice oA out.length oc⟩ : RrV) k ∨ w.heap.size + 4 ≤ k) := Lib.hid (fun k hk => (hf6 k hk).elim (fun h => HFAR.out k h) (fun h => .inr (by have := H45.out.lt; omega)))
    have HN6 := Lib.hid (HN5.out.trans hn6)
    have H16 := Lib.hid (H15.out.new hn6)
    have H36 := Lib.hid (H35.out.new hn6)
    have H46 := Lib.hid (H45.out.new hn6)
    have HV6 := Lib.hid (HV5.out.new hn6)
    clear h6 hx6 hr6 hf6 hn6 q0 q1 q2 q3 q4 q5 q6 q7 q8 q9 q10 qz p0 p1 p2 p3 p4 pz s0 s1 s2 s3 s4 sz
    obtain ⟨q0, q1, q2, q3, q4, q5, q6, q7, q8, q9, q10, qz⟩ := Blk10R H16.out
    go_upto_region 7 with fail
    have hu7 : Upd (· = w.heap.size) w6 ((((((((((w6.setCell ⟨w.heap.size, 0, none⟩ (.int .i64 id6)).setCell ⟨w.heap.size, 1, none⟩ (.int .u64 (ep6 : Int))).setCell ⟨w.heap.size, 2, none⟩ (.slice cA6 ms6.length cc6)).setCell ⟨w.heap.size, 3, none⟩ (.int .u64 0)).setCell ⟨w.heap.size, 4, none⟩ (.int .u64 (la6 : Int))).setCell ⟨w.heap.size, 5, none⟩ (.slice sA6 L6.length sc6)).setCell ⟨w.heap.size, 6, none⟩ (.slice tA6 L6.length tc6)).setCell ⟨w.heap.size, 7, none⟩ (.slice lA6 l6.length lc6)).setCell ⟨w.heap.size, 8, none⟩ (.int .u64 (cl6 : Int))).setCell ⟨w.heap.size, 9, none⟩ (.slice oA6 out6.length oc6)) := ((((((((((Upd.refl _ w6).setIn 0 _).setIn 1 _).setIn 2 _).setIn 3 _).setIn 4 _).setIn 5 _).setIn 6 _).setIn 7 _).setIn 8 _).setIn 9 _
    have H17 := Lib.hid (Blk.set10 (.int .i64 id6) (.int .u64 (ep6 : Int)) (.slice cA6 ms6.length cc6) (.int .u64 0) (.int .u64 (la6 : Int)) (.slice sA6 L6.length sc6) (.slice tA6 L6.length tc6) (.slice lA6 l6.length lc6) (.int .u64 (cl6 : Int)) (.slice oA6 out6.length oc6) H16.out)
    have H37 := Lib.hid (H36.out.upd hu7 (by omega))
    have H47 := Lib.hid (H46.out.upd hu7 (by omega))
    have HV7 := Lib.hid (HV6.out.upd hu7 (by have := HGG.out; omega))
    have HN7 := Lib.hid (HN6.out.upd hu7 (fun i e => by omega))
    have HR7 := Lib.hid (HR6.out.box H16.out hu7 (fun k hk e => (HF6.out k hk).elim (fun h => by have := HH.out.lt k h; omega) (fun h => by omega)) (by decide))
    clear hu7 q0 q1 q2 q3 q4 q5 q6 q7 q8 q9 q10 qz
    generalize ((((((((((w6.setCell ⟨w.heap.size, 0, none⟩ (.int .i64 id6)).setCell ⟨w.heap.size, 1, none⟩ (.int .u64 (ep6 : Int))).setCell ⟨w.heap.size, 2, none⟩ (.slice cA6 ms6.length cc6)).setCell ⟨w.heap.size, 3, none⟩ (.int .u64 0)).setCell ⟨w.heap.size, 4, none⟩ (.int .u64 (la6 : Int))).setCell ⟨w.heap.size, 5, none⟩ (.slice sA6 L6.length sc6)).setCell ⟨w.heap.size, 6, none⟩ (.slice tA6 L6.length tc6)).setCell ⟨w.heap.size, 7, none⟩ (.slice lA6 l6.length lc6)).setCell ⟨w.heap.size, 8, none⟩ (.int .u64 (cl6 : Int))).setCell ⟨w.heap.size, 9, none⟩ (.slice oA6 out6.length oc6)) = w7 at *
    obtain ⟨q0, q1, q2, q3, q4, q5, q6, q7, q8, q9, q10, qz⟩ := Blk10R H17.out
    obtain ⟨g0, g1, g2, gz⟩ := Blk2R HV7.out
    refine wp_region_z [3, 4] (fun w' => (w'.cell? ⟨w.heap.size, 0, none⟩ = some (.int .i64 id6) ∧ w'.cell? ⟨w.heap.size, 1, none⟩ = some (.int .u64 (ep6 : Int)) ∧ w'.cell? ⟨w.heap.size, 2, none⟩ = some (.slice cA6 ms6.length cc6) ∧ w'.cell? ⟨w.heap.size, 3, none⟩ = some (.int .u64 0) ∧ w'.cell? ⟨w.heap.size, 4, none⟩ = some (.int .u64 (la6 : Int)) ∧ w'.cell? ⟨w.heap.size, 5, none⟩ = some (.slice sA6 L6.length sc6) ∧ w'.cell? ⟨w.heap.size, 6, none⟩ = some (.slice tA6 L6.length tc6) ∧ w'.cell? ⟨w.heap.size, 7, none⟩ = some (.slice lA6 l6.length lc6) ∧ w'.cell? ⟨w.heap.size, 8, none⟩ = some (.int .u64 (cl6 : Int)) ∧ w'.cell? ⟨w.heap.size, 9, none⟩ = some (.slice oA6 out6.length oc6)) ∧ w'.cell? ⟨gj + 1, 0, none⟩ = some (.int .u64 (vd.t : Int)) ∧ w'.cell? ⟨gj + 1, 1, none⟩ = some (.int .i64 vd.e)) (by kernel_rfl) (⟨⟨q1, q2, q3, q4, q5, q6, q7, q8, q9, q10⟩, g1, g2⟩) (fun hHeld => ?_)
    have HND0 := Lib.hid (HN7.out.drew)
    have hnd := (New.refl w7).drew
    have HA := Lib.hid (H17.out.new hnd)
    have HC := Lib.hid (H37.out.new hnd)
    have HD := Lib.hid (H47.out.new hnd)
    have HE7 := Lib.hid (HV7.out.new hnd)
    have HF := Lib.hid (HR7.out.new hnd)
    clear hnd g0 g1 g2 gz q0 q1 q2 q3 q4 q5 q6 q7 q8 q9 q10 qz
    generalize w7.drew = w0 at *
    obtain ⟨q0, q1, q2, q3, q4, q5, q6, q7, q8, q9, q10, qz⟩ := Blk10R HA.out
    obtain ⟨g0, g1, g2, gz⟩ := Blk2R HE7.out
    obtain ⟨r0, r1, r2, r3, r4, r5, r6, r7, r8, r9, r10, rz⟩ := Blk10R HC.out
    refine tkZ (i := 0) (oi := ⟨some 36, .load 36 (.tmp 2), 36, "ref.go:73", #[], none⟩) (v := ?_) (.inl ⟨by rfl, ?_⟩) ?_
    rotate_left
    · (intro wq hSw; (try dsimp only at hSw); go_simp; first | done | with_reducible rfl)
    try simp only [Act.put, sA, sZ, sS]
    refine tkZ (i := 1) (oi := ⟨some 37, .load 49 (.tmp 8), 49, "ref.go:73", #[⟨2, Ground.gcOnly Departure.lateStores⟩], none⟩) (v := ?_) (.inl ⟨by rfl, ?_⟩) ?_
    rotate_left
    · (intro wq hSw; (try dsimp only at hSw); go_simp; first | done | with_reducible rfl)
    try simp only [Act.put, sA, sZ, sS]
    refine wpZ_ready (rs := [2]) (by kernel_rfl) (by simp) ?_
    refine AllZ.cons (o := ⟨none, .store 36 (.tmp 4) (.tmp 36), 0, "ref.go:73", #[⟨0, .data⟩, ⟨0, .phase⟩, ⟨1, Ground.textOnly Departure.lateStores⟩], none⟩) rfl (fun K hK => ?_) AllZ.nil
    go_simp
    have hu8 : Upd (· = w.heap.size + 2) w0 ((((((((((w0.setCell ⟨w.heap.size + 1 + 1, 0, none⟩ (.int .i64 id6)).setCell ⟨w.heap.size + 1 + 1, 1, none⟩ (.int .u64 (ep6 : Int))).setCell ⟨w.heap.size + 1 + 1, 2, none⟩ (.slice cA6 ms6.length cc6)).setCell ⟨w.heap.size + 1 + 1, 3, none⟩ (.int .u64 0)).setCell ⟨w.heap.size + 1 + 1, 4, none⟩ (.int .u64 (la6 : Int))).setCell ⟨w.heap.size + 1 + 1, 5, none⟩ (.slice sA6 L6.length sc6)).setCell ⟨w.heap.size + 1 + 1, 6, none⟩ (.slice tA6 L6.length tc6)).setCell ⟨w.heap.size + 1 + 1, 7, none⟩ (.slice lA6 l6.length lc6)).setCell ⟨w.heap.size + 1 + 1, 8, none⟩ (.int .u64 (cl6 : Int))).setCell ⟨w.heap.size + 1 + 1, 9, none⟩ (.slice oA6 out6.length oc6)) := ((((((((((Upd.refl _ w0).setIn 0 _).setIn 1 _).setIn 2 _).setIn 3 _).setIn 4 _).setIn 5 _).setIn 6 _).setIn 7 _).setIn 8 _).setIn 9 _
    have H38 := Lib.hid (Blk.set10 (.int .i64 id6) (.int .u64 (ep6 : Int)) (.slice cA6 ms6.length cc6) (.int .u64 0) (.int .u64 (la6 : Int)) (.slice sA6 L6.length sc6) (.slice tA6 L6.length tc6) (.slice lA6 l6.length lc6) (.int .u64 (cl6 : Int)) (.slice oA6 out6.length oc6) HC.out)
    have H48 := Lib.hid (HD.out.upd hu8 (by omega))
    have k0 := fun o => keepR hu8 q0 (by omega) o
    have k1 := fun o => keepR hu8 g0 (by have := HGG.out; omega) o
    have i0 := (k0 0).trans q1
    have i1 := (k0 1).trans q2
    have i2 := (k0 2).trans q3
    have i3 := (k0 3).trans q4
    have i4 := (k0 4).trans q5
    have i5 := (k0 5).trans q6
    have i6 := (k0 6).trans q7
    have i7 := (k0 7).trans q8
    have i8 := (k0 8).trans q9
    have i9 := (k0 9).trans q10
    have j0 := (k1 0).trans g1
    have j1 := (k1 1).trans g2
    have HN8 := Lib.hid (HND0.out.upd hu8 (fun i e => by omega))
    have HR8 := Lib.hid (HF.out.box HC.out hu8 (fun k hk e => (HF6.out k hk).elim (fun h => by have := HH.out.lt k h; omega) (fun h => by omega)) (by decide))
    clear hu8 k0 k1 hHeld g0 g1 g2 gz q0 q1 q2 q3 q4 q5 q6 q7 q8 q9 q10 qz r0 r1 r2 r3 r4 r5 r6 r7 r8 r9 r10 rz
    generalize ((((((((((w0.setCell ⟨w.heap.size + 1 + 1, 0, none⟩ (.int .i64 id6)).setCell ⟨w.heap.size + 1 + 1, 1, none⟩ (.int .u64 (ep6 : Int))).setCell ⟨w.heap.size + 1 + 1, 2, none⟩ (.slice cA6 ms6.length cc6)).setCell ⟨w.heap.size + 1 + 1, 3, none⟩ (.int .u64 0)).setCell ⟨w.heap.size + 1 + 1, 4, none⟩ (.int .u64 (la6 : Int))).setCell ⟨w.heap.size + 1 + 1, 5, none⟩ (.slice sA6 L6.length sc6)).setCell ⟨w.heap.size + 1 + 1, 6, none⟩ (.slice tA6 L6.length tc6)).setCell ⟨w.heap.size + 1 + 1, 7, none⟩ (.slice lA6 l6.length lc6)).setCell ⟨w.heap.size + 1 + 1, 8, none⟩ (.int .u64 (cl6 : Int))).setCell ⟨w.heap.size + 1 + 1, 9, none⟩ (.slice oA6 out6.length oc6)) = w8 at *
    obtain ⟨s0, s1, s2, sz⟩ := Blk2R H48.out
    refine hK.out _ _ ?_ (fun hHeld => ?_)
    · exact ⟨⟨i0, i1, i2, i3, i4, i5, i6, i7, i8, i9⟩, j0, j1⟩
    clear hK K
    try simp only [Act.put, sA, sZ, sS]
    refine wpZ_ready (rs := [3]) (by kernel_rfl) (by simp) ?_
    refine AllZ.consZ (o := ⟨none, .store 49 (.tmp 5) (.tmp 37), 0, "ref.go:73", #[⟨1, .data⟩, ⟨2, .chain⟩, ⟨0, .phase⟩, ⟨1, .phase⟩, ⟨2, .phase⟩], none⟩) rfl (by kernel_rfl) (fun K hK => ?_) AllZ.nil
    go_simp
    refine hK.out _ _ ?_
    clear hK K
    try simp only [Act.put, sA, sZ, sS]
    refine wpZ_ready (rs := [4]) (by kernel_rfl) (by simp) ?_
    refine AllZ.consZ (o := ⟨some 6, .assign (.const (.int .i64 0)), 42, "ref.go:73", #[⟨3, .chain⟩, ⟨0, .phase⟩, ⟨1, .phase⟩, ⟨2, .phase⟩, ⟨3, .phase⟩], none⟩) rfl (by kernel_rfl) (fun K hK => ?_) AllZ.nil
    go_simp
    refine hK.out _ _ ?_
    clear hK K
    try simp only [Act.put, sA, sZ, sS]
    refine wpZ_done (by kernel_rfl) ?_ _
    clear hHeld j0 j1 i0 i1 i2 i3 i4 i5 i6 i7 i8 i9
    have hu9 : Upd (· = w.heap.size + 3) w8 ((w8.setCell ⟨w.heap.size + 3, 0, none⟩ (.int .u64 (vd.t : Int))).setCell ⟨w.heap.size + 3, 1, none⟩ (.int .i64 vd.e)) := ((Upd.refl _ w8).setIn 0 _).setIn 1 _
    have h39 := H38.out.upd hu9 (by omega)
    have h49 := (H48.out.set_ 0 (.int .u64 (vd.t : Int))).set_ 1 (.int .i64 vd.e)
    have HN9 := Lib.hid (HN8.out.upd hu9 (fun i e => by omega))
    have HR9 := Lib.hid (HR8.out.box H48.out hu9 (fun k hk e => (HF6.out k hk).elim (fun h => by have := HH.out.lt k h; omega) (fun h => by omega)) (by decide))
    clear hu9 s0 s1 s2 sz
    generalize (w8.setCell ⟨w.heap.size + 3, 0, none⟩ (.int .u64 (vd.t : Int))).setCell ⟨w.heap.size + 3, 1, none⟩ (.int .i64 vd.e) = w9 at *
    obtain ⟨r0, r1, r2, r3, r4, r5, r6, r7, r8, r9, r10, rz⟩ := Blk10R h39
    obtain ⟨s0, s1, s2, sz⟩ := Blk2R h49
    clear h39 h49
    go_wp2_with fail
    exact bodyPost_ret (v := .tuple #[.agg #[.int .i64 id6, .int .u64 (ep6 : Int), .slice cA6 ms6.length cc6, .int .u64 0, .int .u64 (la6 : Int), .slice sA6 L6.length sc6, .slice tA6 L6.length tc6, .slice lA6 l6.length lc6, .int .u64 (cl6 : Int), .slice oA6 out6.length oc6], .agg #[.int .u64 (vd.t : Int), .int .i64 vd.e], .int .i64 0]) (by simp [results, Tryz.results16, go_sem, r1, r2, r3, r4, r5, r6, r7, r8, r9, r10, s1, s2]) rfl ⟨(⟨id6, ep6, .slice cA6 ms6.length cc6, ⟨la6, L6, .slice sA6 L6.length sc6, .slice tA6 L6.length tc6⟩, .slice lA6 l6.length lc6, cl6, .slice oA6 out6.length oc6⟩ : RrV), by rw [HE.out]; rfl, by rw [HE.out]; exact (by dsimp only; rw [HX6.out]; exact HR9.out.mono (by omega)), HN9.out, fun k hk => (HF6.out k hk).elim .inl (fun h => .inr (by omega))⟩
  · have hli : ¬ (l.length : Int) < (zla : Int) := by omega
    have HE : Hid ((⟨id, ⟨ep, ms⟩, j, l, cl, out⟩ : Rpl).submit ⟨bc, br, bs, bl⟩ = ((⟨id, ⟨ep, ms⟩, jx, l, cl, out⟩ : Rpl), vd, 0)) := Lib.hid (by rw [Rpl.submit_in HPL.out HJS.out, if_neg (by rw [← HZJ.out]; exact hlt)])
    clear hlt p0 p1 p2 p3 p4 pz
    go_upto_region 7 with fail
    clear s0 s1 s2 s3 s4 sz q0 q1 q2 q3 q4 q5 q6 q7 q8 q9 q10 qz
    obtain ⟨q0, q1, q2, q3, q4, q5, q6, q7, q8, q9, q10, qz⟩ := Blk10R H15.out
    obtain ⟨g0, g1, g2, gz⟩ := Blk2R HV5.out
    refine wp_region_z [3, 4] (fun w' => (w'.cell? ⟨w.heap.size, 0, none⟩ = some (.int .i64 id) ∧ w'.cell? ⟨w.heap.size, 1, none⟩ = some (.int .u64 (ep : Int)) ∧ w'.cell? ⟨w.heap.size, 2, none⟩ = some (.slice cA ms.length cc) ∧ w'.cell? ⟨w.heap.size, 3, none⟩ = some (.int .u64 0) ∧ w'.cell? ⟨w.heap.size, 4, none⟩ = some (.int .u64 (zla : Int)) ∧ w'.cell? ⟨w.heap.size, 5, none⟩ = some (.slice zsA zL.length zsc) ∧ w'.cell? ⟨w.heap.size, 6, none⟩ = some (.slice ztA zL.length ztc) ∧ w'.cell? ⟨w.heap.size, 7, none⟩ = some (.slice lA l.length lc) ∧ w'.cell? ⟨w.heap.size, 8, none⟩ = some (.int .u64 (cl : Int)) ∧ w'.cell? ⟨w.heap.size, 9, none⟩ = some (.slice oA out.length oc)) ∧ w'.cell? ⟨gj + 1, 0, none⟩ = some (.int .u64 (vd.t : Int)) ∧ w'.cell? ⟨gj + 1, 1, none⟩ = some (.int .i64 vd.e)) (by kernel_rfl) (⟨⟨q1, q2, q3, q4, q5, q6, q7, q8, q9, q10⟩, g1, g2⟩) (fun hHeld => ?_)
    have HND0 := Lib.hid (HN5.out.drew)
    have hnd := (New.refl w5).drew
    have HA := Lib.hid (H15.out.new hnd)
    have HC := Lib.hid (H35.out.new hnd)
    have HD := Lib.hid (H45.out.new hnd)
    have HE7 := Lib.hid (HV5.out.new hnd)
    have HF := Lib.hid (HR5.out.new hnd)
    clear hnd g0 g1 g2 gz q0 q1 q2 q3 q4 q5 q6 q7 q8 q9 q10 qz
    generalize w5.drew = w0 at *
    obtain ⟨q0, q1, q2, q3, q4, q5, q6, q7, q8, q9, q10, qz⟩ := Blk10R HA.out
    obtain ⟨g0, g1, g2, gz⟩ := Blk2R HE7.out
    obtain ⟨r0, r1, r2, r3, r4, r5, r6, r7, r8, r9, r10, rz⟩ := Blk10R HC.out
    refine tkZ (i := 0) (oi := ⟨some 36, .load 36 (.tmp 2), 36, "ref.go:73", #[], none⟩) (v := ?_) (.inl ⟨by rfl, ?_⟩) ?_
    rotate_left
    · (intro wq hSw; (try dsimp only at hSw); go_simp; first | done | with_reducible rfl)
    try simp only [Act.put, sA, sZ, sS]
    refine tkZ (i := 1) (oi := ⟨some 37, .load 49 (.tmp 8), 49, "ref.go:73", #[⟨2, Ground.gcOnly Departure.lateStores⟩], none⟩) (v := ?_) (.inl ⟨by rfl, ?_⟩) ?_
    rotate_left
    · (intro wq hSw; (try dsimp only at hSw); go_simp; first | done | with_reducible rfl)
    try simp only [Act.put, sA, sZ, sS]
    refine wpZ_ready (rs := [2]) (by kernel_rfl) (by simp) ?_
    refine AllZ.cons (o := ⟨none, .store 36 (.tmp 4) (.tmp 36), 0, "ref.go:73", #[⟨0, .data⟩, ⟨0, .phase⟩, ⟨1, Ground.textOnly Departure.lateStores⟩], none⟩) rfl (fun K hK => ?_) AllZ.nil
    go_simp
    have hu8 : Upd (· = w.heap.size + 2) w0 ((((((((((w0.setCell ⟨w.heap.size + 1 + 1, 0, none⟩ (.int .i64 id)).setCell ⟨w.heap.size + 1 + 1, 1, none⟩ (.int .u64 (ep : Int))).setCell ⟨w.heap.size + 1 + 1, 2, none⟩ (.slice cA ms.length cc)).setCell ⟨w.heap.size + 1 + 1, 3, none⟩ (.int .u64 0)).setCell ⟨w.heap.size + 1 + 1, 4, none⟩ (.int .u64 (zla : Int))).setCell ⟨w.heap.size + 1 + 1, 5, none⟩ (.slice zsA zL.length zsc)).setCell ⟨w.heap.size + 1 + 1, 6, none⟩ (.slice ztA zL.length ztc)).setCell ⟨w.heap.size + 1 + 1, 7, none⟩ (.slice lA l.length lc)).setCell ⟨w.heap.size + 1 + 1, 8, none⟩ (.int .u64 (cl : Int))).setCell ⟨w.heap.size + 1 + 1, 9, none⟩ (.slice oA out.length oc)) := ((((((((((Upd.refl _ w0).setIn 0 _).setIn 1 _).setIn 2 _).setIn 3 _).setIn 4 _).setIn 5 _).setIn 6 _).setIn 7 _).setIn 8 _).setIn 9 _
    have H38 := Lib.hid (Blk.set10 (.int .i64 id) (.int .u64 (ep : Int)) (.slice cA ms.length cc) (.int .u64 0) (.int .u64 (zla : Int)) (.slice zsA zL.length zsc) (.slice ztA zL.length ztc) (.slice lA l.length lc) (.int .u64 (cl : Int)) (.slice oA out.length oc) HC.out)
    have H48 := Lib.hid (HD.out.upd hu8 (by omega))
    have k0 := fun o => keepR hu8 q0 (by omega) o
    have k1 := fun o => keepR hu8 g0 (by have := HGG.out; omega) o
    have i0 := (k0 0).trans q1
    have i1 := (k0 1).trans q2
    have i2 := (k0 2).trans q3
    have i3 := (k0 3).trans q4
    have i4 := (k0 4).trans q5
    have i5 := (k0 5).trans q6
    have i6 := (k0 6).trans q7
    have i7 := (k0 7).trans q8
    have i8 := (k0 8).trans q9
    have i9 := (k0 9).trans q10
    have j0 := (k1 0).trans g1
    have j1 := (k1 1).trans g2
    have HN8 := Lib.hid (HND0.out.upd hu8 (fun i e => by omega))
    have HR8 := Lib.hid (HF.out.box HC.out hu8 (fun k hk e => (HFAR.out k hk).elim (fun h => by have := HH.out.lt k h; omega) (fun h => by omega)) (by decide))
    clear hu8 k0 k1 hHeld g0 g1 g2 gz q0 q1 q2 q3 q4 q5 q6 q7 q8 q9 q10 qz r0 r1 r2 r3 r4 r5 r6 r7 r8 r9 r10 rz
    generalize ((((((((((w0.setCell ⟨w.heap.size + 1 + 1, 0, none⟩ (.int .i64 id)).setCell ⟨w.heap.size + 1 + 1, 1, none⟩ (.int .u64 (ep : Int))).setCell ⟨w.heap.size + 1 + 1, 2, none⟩ (.slice cA ms.length cc)).setCell ⟨w.heap.size + 1 + 1, 3, none⟩ (.int .u64 0)).setCell ⟨w.heap.size + 1 + 1, 4, none⟩ (.int .u64 (zla : Int))).setCell ⟨w.heap.size + 1 + 1, 5, none⟩ (.slice zsA zL.length zsc)).setCell ⟨w.heap.size + 1 + 1, 6, none⟩ (.slice ztA zL.length ztc)).setCell ⟨w.heap.size + 1 + 1, 7, none⟩ (.slice lA l.length lc)).setCell ⟨w.heap.size + 1 + 1, 8, none⟩ (.int .u64 (cl : Int))).setCell ⟨w.heap.size + 1 + 1, 9, none⟩ (.slice oA out.length oc)) = w8 at *
    obtain ⟨s0, s1, s2, sz⟩ := Blk2R H48.out
    refine hK.out _ _ ?_ (fun hHeld => ?_)
    · exact ⟨⟨i0, i1, i2, i3, i4, i5, i6, i7, i8, i9⟩, j0, j1⟩
    clear hK K
    try simp only [Act.put, sA, sZ, sS]
    refine wpZ_ready (rs := [3]) (by kernel_rfl) (by simp) ?_
    refine AllZ.consZ (o := ⟨none, .store 49 (.tmp 5) (.tmp 37), 0, "ref.go:73", #[⟨1, .data⟩, ⟨2, .chain⟩, ⟨0, .phase⟩, ⟨1, .phase⟩, ⟨2, .phase⟩], none⟩) rfl (by kernel_rfl) (fun K hK => ?_) AllZ.nil
    go_simp
    refine hK.out _ _ ?_
    clear hK K
    try simp only [Act.put, sA, sZ, sS]
    refine wpZ_ready (rs := [4]) (by kernel_rfl) (by simp) ?_
    refine AllZ.consZ (o := ⟨some 6, .assign (.const (.int .i64 0)), 42, "ref.go:73", #[⟨3, .chain⟩, ⟨0, .phase⟩, ⟨1, .phase⟩, ⟨2, .phase⟩, ⟨3, .phase⟩], none⟩) rfl (by kernel_rfl) (fun K hK => ?_) AllZ.nil
    go_simp
    refine hK.out _ _ ?_
    clear hK K
    try simp only [Act.put, sA, sZ, sS]
    refine wpZ_done (by kernel_rfl) ?_ _
    clear hHeld j0 j1 i0 i1 i2 i3 i4 i5 i6 i7 i8 i9
    have hu9 : Upd (· = w.heap.size + 3) w8 ((w8.setCell ⟨w.heap.size + 3, 0, none⟩ (.int .u64 (vd.t : Int))).setCell ⟨w.heap.size + 3, 1, none⟩ (.int .i64 vd.e)) := ((Upd.refl _ w8).setIn 0 _).setIn 1 _
    have h39 := H38.out.upd hu9 (by omega)
    have h49 := (H48.out.set_ 0 (.int .u64 (vd.t : Int))).set_ 1 (.int .i64 vd.e)
    have HN9 := Lib.hid (HN8.out.upd hu9 (fun i e => by omega))
    have HR9 := Lib.hid (HR8.out.box H48.out hu9 (fun k hk e => (HFAR.out k hk).elim (fun h => by have := HH.out.lt k h; omega) (fun h => by omega)) (by decide))
    clear hu9 s0 s1 s2 sz
    generalize (w8.setCell ⟨w.heap.size + 3, 0, none⟩ (.int .u64 (vd.t : Int))).setCell ⟨w.heap.size + 3, 1, none⟩ (.int .i64 vd.e) = w9 at *
    obtain ⟨r0, r1, r2, r3, r4, r5, r6, r7, r8, r9, r10, rz⟩ := Blk10R h39
    obtain ⟨s0, s1, s2, sz⟩ := Blk2R h49
    clear h39 h49
    go_wp2_with fail
    exact bodyPost_ret (v := .tuple #[.agg #[.int .i64 id, .int .u64 (ep : Int), .slice cA ms.length cc, .int .u64 0, .int .u64 (zla : Int), .slice zsA zL.length zsc, .slice ztA zL.length ztc, .slice lA l.length lc, .int .u64 (cl : Int), .slice oA out.length oc], .agg #[.int .u64 (vd.t : Int), .int .i64 vd.e], .int .i64 0]) (by simp [results, Tryz.results16, go_sem, r1, r2, r3, r4, r5, r6, r7, r8, r9, r10, s1, s2]) rfl ⟨(⟨id, ep, .slice cA ms.length cc, ⟨zla, zL, .slice zsA zL.length zsc, .slice ztA zL.length ztc⟩, .slice lA l.length lc, cl, .slice oA out.length oc⟩ : RrV), by rw [HE.out]; rfl, by rw [HE.out]; exact HR9.out.mono (by omega), HN9.out, fun k hk => (HFAR.out k hk).elim .inl (fun h => .inr (by omega))⟩
end
end Go.Proofs.YtecniafnihpjmaaGreatDoor
