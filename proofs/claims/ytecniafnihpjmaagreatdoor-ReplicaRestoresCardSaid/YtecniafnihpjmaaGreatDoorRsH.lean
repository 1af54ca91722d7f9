/- Chapter 24's reference: added. Printed by genRsH.py. -/
import Derived.Test.YtecniafnihpjmaaGreatDoorTk
import Derived.Test.YtecniafnihpjmaaGreatDoorRsG
namespace Go.Proofs.YtecniafnihpjmaaGreatDoor
open Go.RowKit Go.Lap C
set_option linter.unusedVariables false
set_option linter.unusedSimpArgs false
section
variable {w w' W : World} {B : Nat} {y : RrV} {x : Rpl} {b : BtV}
theorem Rpl.added_yes {b : Btc} {x5 : Rpl} (h5 : x5 = { x with l := x.l ++ [b] }) (h : (besC x5.cf x5.id 1).2 = true) : x.added b = x5.sndR 1 0 x5.l.length b := by
  subst h5
  rw [besC_next] at h
  unfold Rpl.added Rpl.sndR Rpl.sndC Rpl.la
  dsimp only at h ⊢
  rw [besC_next, if_pos h, if_pos h]
theorem Rpl.added_no {b : Btc} {x5 : Rpl} (h5 : x5 = { x with l := x.l ++ [b] }) (h : (besC x5.cf x5.id 1).2 = false) : x.added b = ({ x5 with cl := x5.l.length } : Rpl).sndR (-1) 1 x5.l.length Btc.none := by
  subst h5
  unfold Rpl.added Rpl.sndR Rpl.sndC Rpl.cleaned Rpl.tell
  rw [besC_next] at h
  rw [besC_bef]
  dsimp only at h ⊢
  rw [if_neg (by rw [h]; exact Bool.false_ne_true)]
  rfl
theorem RrAt.setCl (h : RrAt w B y x) {t : Nat} (ht : t ≤ B) : RrAt w B { y with cl := t } { x with cl := t } := { h with cl := rfl, cb := ht }
set_option maxRecDepth 100000 in
set_option maxHeartbeats 8000000 in
theorem rradded (h : RrAt w B y x) (hb : BtAt w b) (hB : B ≤ 100000) :
    Calls Tryz.prog 46 #[y.val, b.val] w (RrPost w (B + 2) y (x.added b.b)) := by
  obtain ⟨id, ⟨ep, ms⟩, j, l, cl, out⟩ := x
  obtain ⟨la, L, cA, cc, sA, sc, tA, tc, lA, lc, oA, oc, rfl⟩ := h.form
  obtain ⟨⟨bc, br, bs, bl⟩, bA, bcap⟩ := b
  have HB := Lib.hid hb
  have HH := Lib.hid h
  obtain ⟨ps, hps, hrow, hok⟩ := h.l
  dsimp only [RrV.val, RrV.cells, BtV.val, BtV.sl, batV] at hps hrow hok ⊢
  have hpl : ps.length ≤ 100000 := by have := h.ll; rw [← hps, List.length_map] at this; omega
  have HPS := Lib.hid hps
  have HROW := Lib.hid hrow
  have HOK := Lib.hid hok
  have HPL := Lib.hid hpl
  have HM1 : Hid (([] : List BtV).length + ps.length ≤ maxLen) := Lib.hid (by simp; unfold maxLen; omega)
  have HM2 : Hid ((([] : List BtV).length + ps.length) * 48 ≤ 140737488355328) := Lib.hid (by simp; omega)
  have HM3 : Hid (∀ e : BtV, ([] ++ ps).length + [e].length ≤ maxLen) := Lib.hid (fun e => by simp; unfold maxLen; omega)
  have HM4 : Hid (∀ e : BtV, (([] ++ ps).length + [e].length) * 48 ≤ 140737488355328) := Lib.hid (fun e => by simp; omega)
  have hN := (((New.refl w).alloc (.cells #[.int .i64 id, .int .u64 (ep : Int), .slice cA ms.length cc, .int .u64 0, .int .u64 (la : Int), .slice sA L.length sc, .slice tA L.length tc, .slice lA l.length lc, .int .u64 (cl : Int), .slice oA out.length oc] 36)).alloc (.cells #[.int .u64 (bc : Int), .int .u64 (br : Int), .int .u64 (bs : Int), .slice bA bl.length bcap] 40)).alloc (.cells #[.int .i64 0, .int .u64 0, .slice none 0 0, .int .u64 0, .int .u64 0, .slice none 0 0, .slice none 0 0, .slice none 0 0, .int .u64 0, .slice none 0 0] 36)
  have h1 := ((Blk.mk_new (w) 36 #[.int .i64 id, .int .u64 (ep : Int), .slice cA ms.length cc, .int .u64 0, .int .u64 (la : Int), .slice sA L.length sc, .slice tA L.length tc, .slice lA l.length lc, .int .u64 (cl : Int), .slice oA out.length oc]).alloc (.cells #[.int .u64 (bc : Int), .int .u64 (br : Int), .int .u64 (bs : Int), .slice bA bl.length bcap] 40)).alloc (.cells #[.int .i64 0, .int .u64 0, .slice none 0 0, .int .u64 0, .int .u64 0, .slice none 0 0, .slice none 0 0, .slice none 0 0, .int .u64 0, .slice none 0 0] 36)
  have h2 := (Blk.mk_new (w.alloc (.cells #[.int .i64 id, .int .u64 (ep : Int), .slice cA ms.length cc, .int .u64 0, .int .u64 (la : Int), .slice sA L.length sc, .slice tA L.length tc, .slice lA l.length lc, .int .u64 (cl : Int), .slice oA out.length oc] 36)) 40 #[.int .u64 (bc : Int), .int .u64 (br : Int), .int .u64 (bs : Int), .slice bA bl.length bcap]).alloc (.cells #[.int .i64 0, .int .u64 0, .slice none 0 0, .int .u64 0, .int .u64 0, .slice none 0 0, .slice none 0 0, .slice none 0 0, .int .u64 0, .slice none 0 0] 36)
  have h3 := Blk.mk_new ((w.alloc (.cells #[.int .i64 id, .int .u64 (ep : Int), .slice cA ms.length cc, .int .u64 0, .int .u64 (la : Int), .slice sA L.length sc, .slice tA L.length tc, .slice lA l.length lc, .int .u64 (cl : Int), .slice oA out.length oc] 36)).alloc (.cells #[.int .u64 (bc : Int), .int .u64 (br : Int), .int .u64 (bs : Int), .slice bA bl.length bcap] 40)) 36 #[.int .i64 0, .int .u64 0, .slice none 0 0, .int .u64 0, .int .u64 0, .slice none 0 0, .slice none 0 0, .slice none 0 0, .int .u64 0, .slice none 0 0]
  simp only [World.size_alloc] at h2 h3
  have HN := Lib.hid hN
  have H1 := Lib.hid h1
  have H2 := Lib.hid h2
  have H3 := Lib.hid h3
  clear hN h1 h2 h3
  clear h hb hps hrow hok hpl
  go_enter Tryz.func46, Tryz.ntmps46
  go_upto_region 1 with fail
  generalize ((w.alloc (.cells #[.int .i64 id, .int .u64 (ep : Int), .slice cA ms.length cc, .int .u64 0, .int .u64 (la : Int), .slice sA L.length sc, .slice tA L.length tc, .slice lA l.length lc, .int .u64 (cl : Int), .slice oA out.length oc] 36)).alloc (.cells #[.int .u64 (bc : Int), .int .u64 (br : Int), .int .u64 (bs : Int), .slice bA bl.length bcap] 40)).alloc (.cells #[.int .i64 0, .int .u64 0, .slice none 0 0, .int .u64 0, .int .u64 0, .slice none 0 0, .slice none 0 0, .slice none 0 0, .int .u64 0, .slice none 0 0] 36) = W at *
  have HSRC : Hid (SlIn W 4 BtV.enc (.slice lA l.length lc) ps) := Lib.hid ((HROW.out.slIn BtV.encOk).new HN.out)
  have HK : Hid (∀ w', New W w' → (w'.cell? ⟨w.heap.size, 7, none⟩ = some (.slice lA l.length lc) ∧ w'.cell? ⟨w.heap.size + 1, 0, none⟩ = some (.int .u64 (bc : Int)) ∧ w'.cell? ⟨w.heap.size + 1, 1, none⟩ = some (.int .u64 (br : Int)) ∧ w'.cell? ⟨w.heap.size + 1, 2, none⟩ = some (.int .u64 (bs : Int)) ∧ w'.cell? ⟨w.heap.size + 1, 3, none⟩ = some (.slice bA bl.length bcap))) := Lib.hid (fun w' hn => ⟨(H1.out.new hn).cell 7, (H2.out.new hn).cell 0, (H2.out.new hn).cell 1, (H2.out.new hn).cell 2, (H2.out.new hn).cell 3⟩)
  refine wp_region_z [8] (fun w' => w'.cell? ⟨w.heap.size, 7, none⟩ = some (.slice lA l.length lc) ∧ w'.cell? ⟨w.heap.size + 1, 0, none⟩ = some (.int .u64 (bc : Int)) ∧ w'.cell? ⟨w.heap.size + 1, 1, none⟩ = some (.int .u64 (br : Int)) ∧ w'.cell? ⟨w.heap.size + 1, 2, none⟩ = some (.int .u64 (bs : Int)) ∧ w'.cell? ⟨w.heap.size + 1, 3, none⟩ = some (.slice bA bl.length bcap)) (by kernel_rfl) (HK.out _ (New.refl W).drew) (fun hHeld => ?_)
  have HN0 := Lib.hid (New.refl W).drew
  generalize W.drew = w0 at *
  refine tkZ (i := 1) (oi := ⟨some 8, .fieldAddr 36 (.tmp 2) 3, 0, "ref.go:55", #[], none⟩) (v := ?_) (.inl ⟨by rfl, ?_⟩) ?_
  rotate_left
  · (intro wq hSw; (try dsimp only at hSw); go_simp; first | done | with_reducible rfl)
  try simp only [Act.put, sA, sZ, sS]
  refine tkZ (i := 2) (oi := ⟨some 9, .load 26 (.tmp 8), 26, "ref.go:55", #[⟨1, .data⟩], none⟩) (v := ?_) (.inl ⟨by rfl, ?_⟩) ?_
  rotate_left
  · (intro wq hSw; (try dsimp only at hSw); go_simp; first | done | with_reducible rfl)
  try simp only [Act.put, sA, sZ, sS]
  refine tkZ (i := 4) (oi := ⟨some 11, .load 40 (.tmp 3), 40, "ref.go:55", #[], none⟩) (v := ?_) (.inl ⟨by rfl, ?_⟩) ?_
  rotate_left
  · (intro wq hSw; (try dsimp only at hSw); go_simp; first | done | with_reducible rfl)
  try simp only [Act.put, sA, sZ, sS]
  refine wpZ_ready (rs := [0, 5]) (by kernel_rfl) (by simp) ?_
  refine AllZ.cons (o := ⟨some 7, .buildSlice 26 0 #[], 26, "ref.go:55", #[], none⟩) rfl (fun K hK => ?_) (AllZ.cons (o := ⟨some 12, .buildSlice 26 1 #[(0, .tmp 11)], 26, "ref.go:55", #[⟨4, .data⟩], none⟩) rfl (fun K hK => ?_) AllZ.nil)
  · go_simp
    have HN1 := Lib.hid (HN0.out.alloc (.cells #[] 40))
    have HO1 := Lib.hid (Row.fresh (base := W.heap.size) w0 40 BtV.enc 4 HN0.out.size)
    generalize w0.alloc (.cells #[] 40) = w1 at *
    refine hK.out _ _ ?_ (fun hHeld => ?_)
    · exact HK.out _ HN1.out
    clear hK K
    try simp only [Act.put, sA, sZ, sS]
    refine wpZ_ready (rs := [3, 5]) (by kernel_rfl) (by simp) ?_
    refine AllZ.cons (o := ⟨some 10, .call { callee := .builtin .append, args := #[.tmp 7, .tmp 9], argTypes := #[26, 26] }, 26, "ref.go:55", #[⟨0, .data⟩, ⟨2, .data⟩], none⟩) rfl (fun K hK => ?_) (AllZ.cons (o := ⟨some 12, .buildSlice 26 1 #[(0, .tmp 11)], 26, "ref.go:55", #[⟨4, .data⟩], none⟩) rfl (fun K hK => ?_) AllZ.nil)
    · refine step_appR  btTy BtV.encOk rfl (.tmp 7) (.tmp 9) rfl rfl rfl HO1.out (HSRC.out.new HN1.out) HM1.out HM2.out HN1.out.size ?_
      intro v2 w2 h2 hg2 hv2
      obtain ⟨A2, n2, c2, rfl⟩ := h2.shp
      have HN2 := Lib.hid (HN1.out.grown hg2 (fun k hk => (HO1.out.lt k hk).1))
      have HO2 := Lib.hid h2
      clear h2 hg2 hv2
      refine hK.out _ _ ?_ (fun hHeld => ?_)
      · exact HK.out _ HN2.out
      clear hK K
      try simp only [Act.put, sA, sZ, sS]
      refine wpZ_ready (rs := [5]) (by kernel_rfl) (by simp) ?_
      refine AllZ.cons (o := ⟨some 12, .buildSlice 26 1 #[(0, .tmp 11)], 26, "ref.go:55", #[⟨4, .data⟩], none⟩) rfl (fun K hK => ?_) AllZ.nil
      go_simp
      have HN3 := Lib.hid (HN2.out.alloc (.cells #[.int .u64 (bc : Int), .int .u64 (br : Int), .int .u64 (bs : Int), .slice bA bl.length bcap] 40))
      have HP3 := Lib.hid (Blk.mk_new w2 40 #[.int .u64 (bc : Int), .int .u64 (br : Int), .int .u64 (bs : Int), .slice bA bl.length bcap])
      have HO3 := Lib.hid (HO2.out.new ((New.refl _).alloc (.cells #[.int .u64 (bc : Int), .int .u64 (br : Int), .int .u64 (bs : Int), .slice bA bl.length bcap] 40)))
      have HD3 := Lib.hid (row_far HO2.out)
      generalize w2.alloc (.cells #[.int .u64 (bc : Int), .int .u64 (br : Int), .int .u64 (bs : Int), .slice bA bl.length bcap] 40) = w3 at *
      refine hK.out _ _ ?_ (fun hHeld => ?_)
      · exact HK.out _ HN3.out
      clear hK K
      try simp only [Act.put, sA, sZ, sS]
      refine wpZ_ready (rs := [6]) (by kernel_rfl) (by simp) ?_
      refine AllZ.cons (o := ⟨some 13, .call { callee := .builtin .append, args := #[.tmp 10, .tmp 12], argTypes := #[26, 26] }, 26, "ref.go:55", #[⟨3, .data⟩, ⟨5, .data⟩, ⟨3, .chain⟩], none⟩) rfl (fun K hK => ?_) AllZ.nil
      refine step_appR (m := [(⟨⟨bc, br, bs, bl⟩, bA, bcap⟩ : BtV)]) btTy BtV.encOk rfl (.tmp 10) (.tmp 12) rfl rfl rfl HO3.out (SlIn.one HP3.out BtV.encOk rfl) (HM3.out _) (HM4.out _) HN3.out.size ?_
      intro v4 w4 h4 hg4 hv4
      obtain ⟨A4, n4, c4, rfl⟩ := h4.shp
      have HN4 := Lib.hid (HN3.out.grown hg4 (fun k hk => (HO3.out.lt k hk).1))
      have HO4 := Lib.hid h4
      have HP4 := Lib.hid (HP3.out.grown hg4 (fun e => HD3.out _ e.symm rfl))
      have HD4 := Lib.hid (app_far HD3.out HP3.out.lt hv4)
      clear h4 hg4 hv4
      obtain ⟨z0, z1, z2, z3, z4, z5, z6, z7, z8, z9, z10, zz⟩ := Blk10R (H1.out.new HN4.out)
      refine hK.out _ _ ?_ (fun hHeld => ?_)
      · exact HK.out _ HN4.out
      clear hK K
      try simp only [Act.put, sA, sZ, sS]
      refine tkZ (i := 7) (oi := ⟨some 14, .fieldAddr 36 (.tmp 2) 3, 0, "ref.go:55", #[⟨0, .phase⟩, ⟨1, .phase⟩, ⟨2, .phase⟩, ⟨3, .phase⟩, ⟨4, .phase⟩, ⟨5, .phase⟩, ⟨6, .phase⟩], none⟩) (v := ?_) (.inl ⟨by rfl, ?_⟩) ?_
      rotate_left
      · (intro wq hSw; (try dsimp only at hSw); go_simp; first | done | with_reducible rfl)
      try simp only [Act.put, sA, sZ, sS]
      refine wpZ_ready (rs := [8]) (by kernel_rfl) (by simp) ?_
      refine AllZ.consZ (o := ⟨none, .store 26 (.tmp 14) (.tmp 13), 0, "ref.go:55", #[⟨7, .data⟩, ⟨6, .data⟩, ⟨6, .chain⟩, ⟨0, .phase⟩, ⟨1, .phase⟩, ⟨2, .phase⟩, ⟨3, .phase⟩, ⟨4, .phase⟩, ⟨5, .phase⟩, ⟨6, .phase⟩], none⟩) rfl (by kernel_rfl) (fun K hK => ?_) AllZ.nil
      go_simp
      refine hK.out _ _ ?_
      clear hK K
      try simp only [Act.put, sA, sZ, sS]
      refine wpZ_done (by kernel_rfl) ?_ _
      clear hHeld z0 z1 z2 z3 z4 z5 z6 z7 z8 z9 z10 zz
      have hu5 : Upd (· = w.heap.size) w4 (w4.setCell ⟨w.heap.size, 7, none⟩ (.slice A4 n4 c4)) := (Upd.refl _ w4).setIn 7 _
      have H15 := Lib.hid ((H1.out.new HN4.out).set_ 7 (.slice A4 n4 c4))
      have H25 := Lib.hid ((H2.out.new HN4.out).upd hu5 (by omega))
      have H35 := Lib.hid ((H3.out.new HN4.out).upd hu5 (by omega))
      have hr5 := HO4.out.upd hu5 (fun k hk e => by have := (HO4.out.lt k hk).1; have := H3.out.lt; omega)
      have HN5b := Lib.hid ((New.trans HN.out HN4.out).upd hu5 (fun i e => by omega))
      have HLT : Hid (w.heap.size + 3 ≤ W.heap.size) := Lib.hid (by have := H3.out.lt; omega)
      have HOWN : Hid (∀ k, (.slice A4 n4 c4 : Value).ownBlock = some k → w.heap.size + 3 ≤ k) := Lib.hid (fun k hk => by have := (HO4.out.lt k hk).1; have := HLT.out; omega)
      have hnl : n4 = l.length + 1 := by
        obtain ⟨xA, xc, hx⟩ := hr5.shape
        have hl : (([] ++ ps) ++ [(⟨⟨bc, br, bs, bl⟩, bA, bcap⟩ : BtV)]).length = l.length + 1 := by rw [List.length_append, List.nil_append, List.length_singleton, ← HPS.out, List.length_map]
        rw [hl] at hx
        injection hx
      have HNL := Lib.hid hnl
      have hnb : n4 ≤ 100001 := by have := HPL.out; rw [← HPS.out, List.length_map] at hnl; omega
      have HNX := Lib.hid hnb
      have HR5 := Lib.hid (HH.out.setL HN5b.out (HB.out.new HN5b.out) HPS.out (fun p hp => (HOK.out p hp).new HN5b.out) hr5)
      clear hu5 hr5 hnl
      generalize w4.setCell ⟨w.heap.size, 7, none⟩ (.slice A4 n4 c4) = w5 at *
      dsimp only at HR5
      have HFAR : Hid (∀ k, RrF (⟨id, ep, .slice cA ms.length cc, ⟨la, L, .slice sA L.length sc, .slice tA L.length tc⟩, .slice A4 n4 c4, cl, .slice oA out.length oc⟩ : RrV) k → RrF (⟨id, ep, .slice cA ms.length cc, ⟨la, L, .slice sA L.length sc, .slice tA L.length tc⟩, .slice lA l.length lc, cl, .slice oA out.length oc⟩ : RrV) k ∨ w.heap.size + 3 ≤ k) := Lib.hid (fun k hk => hk.elim (fun h => .inl (.inl h)) (fun h => h.elim (fun h => .inr (HOWN.out k h)) (fun h => .inl (.inr (.inr h)))))
      have HB5 := Lib.hid (HB.out.new HN5b.out)
      obtain ⟨q0, q1, q2, q3, q4, q5, q6, q7, q8, q9, q10, qz⟩ := Blk10R H15.out
      obtain ⟨p0, p1, p2, p3, p4, pz⟩ := Blk4R H25.out
      go_wp2_with fail
      refine (rbes (y := (⟨id, ep, .slice cA ms.length cc, ⟨la, L, .slice sA L.length sc, .slice tA L.length tc⟩, .slice A4 n4 c4, cl, .slice oA out.length oc⟩ : RrV)) HR5.out 1 (.inl rfl)).mono ?_
      rintro e wX ⟨rfl, hnX⟩
      dsimp only at hnX ⊢
      have HNXX := Lib.hid hnX
      generalize hbr : besC (⟨ep, ms⟩ : Cfg) id 1 = br0 at *
      obtain ⟨td, ok⟩ := br0
      have HBR := Lib.hid hbr
      clear hbr hnX q0 q1 q2 q3 q4 q5 q6 q7 q8 q9 q10 qz p0 p1 p2 p3 p4 pz
      have H1X := Lib.hid (H15.out.new HNXX.out)
      have H2X := Lib.hid (H25.out.new HNXX.out)
      have HNT := Lib.hid (HN5b.out.trans HNXX.out)
      have HRX := Lib.hid (HR5.out.new HNXX.out)
      have HBX := Lib.hid (HB5.out.new HNXX.out)
      have HSX : Hid (w.heap.size + 1 + 1 < wX.heap.size) := Lib.hid (H35.out.new HNXX.out).lt
      obtain ⟨q0, q1, q2, q3, q4, q5, q6, q7, q8, q9, q10, qz⟩ := Blk10R H1X.out
      obtain ⟨p0, p1, p2, p3, p4, pz⟩ := Blk4R H2X.out
      dsimp only
      cases ok
      case true =>
        have HADD : Hid ((⟨id, ⟨ep, ms⟩, j, l, cl, out⟩ : Rpl).added ⟨bc, br, bs, bl⟩ = (⟨id, ⟨ep, ms⟩, j, l ++ [⟨bc, br, bs, bl⟩], cl, out⟩ : Rpl).sndR 1 0 n4 ⟨bc, br, bs, bl⟩) := Lib.hid (by
          rw [Rpl.added_yes (x5 := (⟨id, ⟨ep, ms⟩, j, l ++ [⟨bc, br, bs, bl⟩], cl, out⟩ : Rpl)) rfl (by dsimp only; rw [HBR.out])]
          dsimp only
          rw [List.length_append, List.length_singleton, ← HNL.out])
        go_wp2_with fail
        refine (rrsend (y := (⟨id, ep, .slice cA ms.length cc, ⟨la, L, .slice sA L.length sc, .slice tA L.length tc⟩, .slice A4 n4 c4, cl, .slice oA out.length oc⟩ : RrV)) (b := (⟨⟨bc, br, bs, bl⟩, bA, bcap⟩ : BtV)) HRX.out 1 0 (.inl rfl) n4 HBX.out (by omega)).mono ?_
        rintro e w6 h6
        obtain ⟨id6, ep6, ms6, j6, l6, cl6, out6, la6, L6, cA6, cc6, sA6, sc6, tA6, tc6, lA6, lc6, oA6, oc6, hx6, rfl, hr6, hn6, hf6⟩ := h6.form
        (try dsimp only [BtV.nil] at hx6)
        have HX6 := Lib.hid hx6
        have HR6 := Lib.hid hr6
        have HF6 := Lib.hid hf6
        have HN6 := Lib.hid (HNT.out.trans hn6)
        have HB6 := Lib.hid (H35.out.new (HNXX.out.trans hn6))
        clear h6 hx6 hr6 hf6 hn6 q0 q1 q2 q3 q4 q5 q6 q7 q8 q9 q10 qz
        obtain ⟨r0, r1, r2, r3, r4, r5, r6, r7, r8, r9, r10, rz⟩ := Blk10R HB6.out
        go_wp2_with fail
        have hu9 : Upd (· = w.heap.size + 2) w6 ((((((((((w6.setCell ⟨w.heap.size + 2, 0, none⟩ (.int .i64 id6)).setCell ⟨w.heap.size + 2, 1, none⟩ (.int .u64 (ep6 : Int))).setCell ⟨w.heap.size + 2, 2, none⟩ (.slice cA6 ms6.length cc6)).setCell ⟨w.heap.size + 2, 3, none⟩ (.int .u64 0)).setCell ⟨w.heap.size + 2, 4, none⟩ (.int .u64 (la6 : Int))).setCell ⟨w.heap.size + 2, 5, none⟩ (.slice sA6 L6.length sc6)).setCell ⟨w.heap.size + 2, 6, none⟩ (.slice tA6 L6.length tc6)).setCell ⟨w.heap.size + 2, 7, none⟩ (.slice lA6 l6.length lc6)).setCell ⟨w.heap.size + 2, 8, none⟩ (.int .u64 (cl6 : Int))).setCell ⟨w.heap.size + 2, 9, none⟩ (.slice oA6 out6.length oc6)) := ((((((((((Upd.refl _ w6).setIn 0 _).setIn 1 _).setIn 2 _).setIn 3 _).setIn 4 _).setIn 5 _).setIn 6 _).setIn 7 _).setIn 8 _).setIn 9 _
        have hn9 := HN6.out.upd hu9 (fun i e => by omega)
        have hfar : ∀ k, RrF _ k → RrF (⟨id, ep, .slice cA ms.length cc, ⟨la, L, .slice sA L.length sc, .slice tA L.length tc⟩, .slice lA l.length lc, cl, .slice oA out.length oc⟩ : RrV) k ∨ w.heap.size + 3 ≤ k := fun k hk => by
          rcases HF6.out k hk with h1 | h1
          · exact HFAR.out k h1
          · have := HLT.out; have := HSX.out; exact .inr (by omega)
        exact bodyPost_ret (v := .agg #[.int .i64 id6, .int .u64 (ep6 : Int), .slice cA6 ms6.length cc6, .int .u64 0, .int .u64 (la6 : Int), .slice sA6 L6.length sc6, .slice tA6 L6.length tc6, .slice lA6 l6.length lc6, .int .u64 (cl6 : Int), .slice oA6 out6.length oc6]) (by simp [results, Tryz.results46, go_sem, r1, r2, r3, r4, r5, r6, r7, r8, r9, r10]) rfl ⟨_, rfl, by
          rw [HADD.out, HX6.out]
          exact HR6.out.box HB6.out hu9 (fun k hk e => (hfar k hk).elim (fun h => by have := HH.out.lt k h; omega) (fun h => by omega)) (by decide), hn9, fun k hk => (hfar k hk).elim .inl (fun h => .inr (by omega))⟩
      case false =>
        have HADD : Hid ((⟨id, ⟨ep, ms⟩, j, l, cl, out⟩ : Rpl).added ⟨bc, br, bs, bl⟩ = (⟨id, ⟨ep, ms⟩, j, l ++ [⟨bc, br, bs, bl⟩], n4, out⟩ : Rpl).sndR (-1) 1 n4 Btc.none) := Lib.hid (by
          rw [Rpl.added_no (x5 := (⟨id, ⟨ep, ms⟩, j, l ++ [⟨bc, br, bs, bl⟩], cl, out⟩ : Rpl)) rfl (by dsimp only; rw [HBR.out])]
          dsimp only
          rw [List.length_append, List.length_singleton, ← HNL.out])
        go_upto_region 6 with fail
        have hu7 : Upd (· = w.heap.size) wX (wX.setCell ⟨w.heap.size, 8, none⟩ (.int .u64 (n4 : Int))) := (Upd.refl _ wX).setIn 8 _
        have H1Y := Lib.hid (H1X.out.set_ 8 (.int .u64 (n4 : Int)))
        have H3Y := Lib.hid ((H35.out.new HNXX.out).upd hu7 (by omega))
        have HNY := Lib.hid (HNT.out.upd hu7 (fun i e => by omega))
        have HRY := Lib.hid ((HRX.out.box (H1X.out) hu7 (fun k hk e => (HFAR.out k hk).elim (fun h => by have := HH.out.lt k h; omega) (fun h => by omega)) (by decide)).setCl (t := n4) (by have := HNL.out; have := HH.out.ll; dsimp only at this; omega))
        have HSY : Hid (w.heap.size + 1 + 1 < (wX.setCell ⟨w.heap.size, 8, none⟩ (.int .u64 (n4 : Int))).heap.size) := Lib.hid H3Y.out.lt
        clear hu7 q0 q1 q2 q3 q4 q5 q6 q7 q8 q9 q10 qz p0 p1 p2 p3 p4 pz
        generalize wX.setCell ⟨w.heap.size, 8, none⟩ (.int .u64 (n4 : Int)) = wY at *
        dsimp only at HRY
        obtain ⟨q0, q1, q2, q3, q4, q5, q6, q7, q8, q9, q10, qz⟩ := Blk10R H1Y.out
        go_wp2_with fail
        refine (rrsend (y := (⟨id, ep, .slice cA ms.length cc, ⟨la, L, .slice sA L.length sc, .slice tA L.length tc⟩, .slice A4 n4 c4, n4, .slice oA out.length oc⟩ : RrV)) (b := BtV.nil) HRY.out (-1) 1 (.inr rfl) n4 (BtAt.nil wY) (by omega)).mono ?_
        rintro e w6 h6
        obtain ⟨id6, ep6, ms6, j6, l6, cl6, out6, la6, L6, cA6, cc6, sA6, sc6, tA6, tc6, lA6, lc6, oA6, oc6, hx6, rfl, hr6, hn6, hf6⟩ := h6.form
        (try dsimp only [BtV.nil] at hx6)
        have HX6 := Lib.hid hx6
        have HR6 := Lib.hid hr6
        have HF6 := Lib.hid hf6
        have HN6 := Lib.hid (HNY.out.trans hn6)
        have HB6 := Lib.hid (H3Y.out.new hn6)
        clear h6 hx6 hr6 hf6 hn6 q0 q1 q2 q3 q4 q5 q6 q7 q8 q9 q10 qz
        obtain ⟨r0, r1, r2, r3, r4, r5, r6, r7, r8, r9, r10, rz⟩ := Blk10R HB6.out
        go_wp2_with fail
        have hu9 : Upd (· = w.heap.size + 2) w6 ((((((((((w6.setCell ⟨w.heap.size + 2, 0, none⟩ (.int .i64 id6)).setCell ⟨w.heap.size + 2, 1, none⟩ (.int .u64 (ep6 : Int))).setCell ⟨w.heap.size + 2, 2, none⟩ (.slice cA6 ms6.length cc6)).setCell ⟨w.heap.size + 2, 3, none⟩ (.int .u64 0)).setCell ⟨w.heap.size + 2, 4, none⟩ (.int .u64 (la6 : Int))).setCell ⟨w.heap.size + 2, 5, none⟩ (.slice sA6 L6.length sc6)).setCell ⟨w.heap.size + 2, 6, none⟩ (.slice tA6 L6.length tc6)).setCell ⟨w.heap.size + 2, 7, none⟩ (.slice lA6 l6.length lc6)).setCell ⟨w.heap.size + 2, 8, none⟩ (.int .u64 (cl6 : Int))).setCell ⟨w.heap.size + 2, 9, none⟩ (.slice oA6 out6.length oc6)) := ((((((((((Upd.refl _ w6).setIn 0 _).setIn 1 _).setIn 2 _).setIn 3 _).setIn 4 _).setIn 5 _).setIn 6 _).setIn 7 _).setIn 8 _).setIn 9 _
        have hn9 := HN6.out.upd hu9 (fun i e => by omega)
        have hfar : ∀ k, RrF _ k → RrF (⟨id, ep, .slice cA ms.length cc, ⟨la, L, .slice sA L.length sc, .slice tA L.length tc⟩, .slice lA l.length lc, cl, .slice oA out.length oc⟩ : RrV) k ∨ w.heap.size + 3 ≤ k := fun k hk => by
          rcases HF6.out k hk with h1 | h1
          · exact HFAR.out k h1
          · have := HLT.out; have := HSY.out; exact .inr (by omega)
        exact bodyPost_ret (v := .agg #[.int .i64 id6, .int .u64 (ep6 : Int), .slice cA6 ms6.length cc6, .int .u64 0, .int .u64 (la6 : Int), .slice sA6 L6.length sc6, .slice tA6 L6.length tc6, .slice lA6 l6.length lc6, .int .u64 (cl6 : Int), .slice oA6 out6.length oc6]) (by simp [results, Tryz.results46, go_sem, r1, r2, r3, r4, r5, r6, r7, r8, r9, r10]) rfl ⟨_, rfl, by
          rw [HADD.out, HX6.out]
          exact HR6.out.box HB6.out hu9 (fun k hk e => (hfar k hk).elim (fun h => by have := HH.out.lt k h; omega) (fun h => by omega)) (by decide), hn9, fun k hk => (hfar k hk).elim .inl (fun h => .inr (by omega))⟩
    · go_simp
      have HN5 := Lib.hid (HN1.out.alloc (.cells #[.int .u64 (bc : Int), .int .u64 (br : Int), .int .u64 (bs : Int), .slice bA bl.length bcap] 40))
      have HP5 := Lib.hid (Blk.mk_new w1 40 #[.int .u64 (bc : Int), .int .u64 (br : Int), .int .u64 (bs : Int), .slice bA bl.length bcap])
      have HO5 := Lib.hid (HO1.out.new ((New.refl _).alloc (.cells #[.int .u64 (bc : Int), .int .u64 (br : Int), .int .u64 (bs : Int), .slice bA bl.length bcap] 40)))
      have HD5 := Lib.hid (row_far HO1.out)
      generalize w1.alloc (.cells #[.int .u64 (bc : Int), .int .u64 (br : Int), .int .u64 (bs : Int), .slice bA bl.length bcap] 40) = w5 at *
      refine hK.out _ _ ?_ (fun hHeld => ?_)
      · exact HK.out _ HN5.out
      clear hK K
      try simp only [Act.put, sA, sZ, sS]
      refine wpZ_ready (rs := [3]) (by kernel_rfl) (by simp) ?_
      refine AllZ.cons (o := ⟨some 10, .call { callee := .builtin .append, args := #[.tmp 7, .tmp 9], argTypes := #[26, 26] }, 26, "ref.go:55", #[⟨0, .data⟩, ⟨2, .data⟩], none⟩) rfl (fun K hK => ?_) AllZ.nil
      refine step_appR  btTy BtV.encOk rfl (.tmp 7) (.tmp 9) rfl rfl rfl HO5.out (HSRC.out.new HN5.out) HM1.out HM2.out HN5.out.size ?_
      intro v6 w6 h6 hg6 hv6
      obtain ⟨A6, n6, c6, rfl⟩ := h6.shp
      have HN6 := Lib.hid (HN5.out.grown hg6 (fun k hk => (HO5.out.lt k hk).1))
      have HO6 := Lib.hid h6
      have HP6 := Lib.hid (HP5.out.grown hg6 (fun e => HD5.out _ e.symm rfl))
      have HD6 := Lib.hid (app_far HD5.out HP5.out.lt hv6)
      clear h6 hg6 hv6
      refine hK.out _ _ ?_ (fun hHeld => ?_)
      · exact HK.out _ HN6.out
      clear hK K
      try simp only [Act.put, sA, sZ, sS]
      refine wpZ_ready (rs := [6]) (by kernel_rfl) (by simp) ?_
      refine AllZ.cons (o := ⟨some 13, .call { callee := .builtin .append, args := #[.tmp 10, .tmp 12], argTypes := #[26, 26] }, 26, "ref.go:55", #[⟨3, .data⟩, ⟨5, .data⟩, ⟨3, .chain⟩], none⟩) rfl (fun K hK => ?_) AllZ.nil
      refine step_appR (m := [(⟨⟨bc, br, bs, bl⟩, bA, bcap⟩ : BtV)]) btTy BtV.encOk rfl (.tmp 10) (.tmp 12) rfl rfl rfl HO6.out (SlIn.one HP6.out BtV.encOk rfl) (HM3.out _) (HM4.out _) HN6.out.size ?_
      intro v7 w7 h7 hg7 hv7
      obtain ⟨A7, n7, c7, rfl⟩ := h7.shp
      have HN7 := Lib.hid (HN6.out.grown hg7 (fun k hk => (HO6.out.lt k hk).1))
      have HO7 := Lib.hid h7
      have HP7 := Lib.hid (HP6.out.grown hg7 (fun e => HD6.out _ e.symm rfl))
      have HD7 := Lib.hid (app_far HD6.out HP6.out.lt hv7)
      clear h7 hg7 hv7
      obtain ⟨z0, z1, z2, z3, z4, z5, z6, z7, z8, z9, z10, zz⟩ := Blk10R (H1.out.new HN7.out)
      refine hK.out _ _ ?_ (fun hHeld => ?_)
      · exact HK.out _ HN7.out
      clear hK K
      try simp only [Act.put, sA, sZ, sS]
      refine tkZ (i := 7) (oi := ⟨some 14, .fieldAddr 36 (.tmp 2) 3, 0, "ref.go:55", #[⟨0, .phase⟩, ⟨1, .phase⟩, ⟨2, .phase⟩, ⟨3, .phase⟩, ⟨4, .phase⟩, ⟨5, .phase⟩, ⟨6, .phase⟩], none⟩) (v := ?_) (.inl ⟨by rfl, ?_⟩) ?_
      rotate_left
      · (intro wq hSw; (try dsimp only at hSw); go_simp; first | done | with_reducible rfl)
      try simp only [Act.put, sA, sZ, sS]
      refine wpZ_ready (rs := [8]) (by kernel_rfl) (by simp) ?_
      refine AllZ.consZ (o := ⟨none, .store 26 (.tmp 14) (.tmp 13), 0, "ref.go:55", #[⟨7, .data⟩, ⟨6, .data⟩, ⟨6, .chain⟩, ⟨0, .phase⟩, ⟨1, .phase⟩, ⟨2, .phase⟩, ⟨3, .phase⟩, ⟨4, .phase⟩, ⟨5, .phase⟩, ⟨6, .phase⟩], none⟩) rfl (by kernel_rfl) (fun K hK => ?_) AllZ.nil
      go_simp
      refine hK.out _ _ ?_
      clear hK K
      try simp only [Act.put, sA, sZ, sS]
      refine wpZ_done (by kernel_rfl) ?_ _
      clear hHeld z0 z1 z2 z3 z4 z5 z6 z7 z8 z9 z10 zz
      have hu5 : Upd (· = w.heap.size) w7 (w7.setCell ⟨w.heap.size, 7, none⟩ (.slice A7 n7 c7)) := (Upd.refl _ w7).setIn 7 _
      have H15 := Lib.hid ((H1.out.new HN7.out).set_ 7 (.slice A7 n7 c7))
      have H25 := Lib.hid ((H2.out.new HN7.out).upd hu5 (by omega))
      have H35 := Lib.hid ((H3.out.new HN7.out).upd hu5 (by omega))
      have hr5 := HO7.out.upd hu5 (fun k hk e => by have := (HO7.out.lt k hk).1; have := H3.out.lt; omega)
      have HN5b := Lib.hid ((New.trans HN.out HN7.out).upd hu5 (fun i e => by omega))
      have HLT : Hid (w.heap.size + 3 ≤ W.heap.size) := Lib.hid (by have := H3.out.lt; omega)
      have HOWN : Hid (∀ k, (.slice A7 n7 c7 : Value).ownBlock = some k → w.heap.size + 3 ≤ k) := Lib.hid (fun k hk => by have := (HO7.out.lt k hk).1; have := HLT.out; omega)
      have hnl : n7 = l.length + 1 := by
        obtain ⟨xA, xc, hx⟩ := hr5.shape
        have hl : (([] ++ ps) ++ [(⟨⟨bc, br, bs, bl⟩, bA, bcap⟩ : BtV)]).length = l.length + 1 := by rw [List.length_append, List.nil_append, List.length_singleton, ← HPS.out, List.length_map]
        rw [hl] at hx
        injection hx
      have HNL := Lib.hid hnl
      have hnb : n7 ≤ 100001 := by have := HPL.out; rw [← HPS.out, List.length_map] at hnl; omega
      have HNX := Lib.hid hnb
      have HR5 := Lib.hid (HH.out.setL HN5b.out (HB.out.new HN5b.out) HPS.out (fun p hp => (HOK.out p hp).new HN5b.out) hr5)
      clear hu5 hr5 hnl
      generalize w7.setCell ⟨w.heap.size, 7, none⟩ (.slice A7 n7 c7) = w5 at *
      dsimp only at HR5
      have HFAR : Hid (∀ k, RrF (⟨id, ep, .slice cA ms.length cc, ⟨la, L, .slice sA L.length sc, .slice tA L.length tc⟩, .slice A7 n7 c7, cl, .slice oA out.length oc⟩ : RrV) k → RrF (⟨id, ep, .slice cA ms.length cc, ⟨la, L, .slice sA L.length sc, .slice tA L.length tc⟩, .slice lA l.length lc, cl, .slice oA out.length oc⟩ : RrV) k ∨ w.heap.size + 3 ≤ k) := Lib.hid (fun k hk => hk.elim (fun h => .inl (.inl h)) (fun h => h.elim (fun h => .inr (HOWN.out k h)) (fun h => .inl (.inr (.inr h)))))
      have HB5 := Lib.hid (HB.out.new HN5b.out)
      obtain ⟨q0, q1, q2, q3, q4, q5, q6, q7, q8, q9, q10, qz⟩ := Blk10R H15.out
      obtain ⟨p0, p1, p2, p3, p4, pz⟩ := Blk4R H25.out
      go_wp2_with fail
      refine (rbes (y := (⟨id, ep, .slice cA ms.length cc, ⟨la, L, .slice sA L.length sc, .slice tA L.length tc⟩, .slice A7 n7 c7, cl, .slice oA out.length oc⟩ : RrV)) HR5.out 1 (.inl rfl)).mono ?_
      rintro e wX ⟨rfl, hnX⟩
      dsimp only at hnX ⊢
      have HNXX := Lib.hid hnX
      generalize hbr : besC (⟨ep, ms⟩ : Cfg) id 1 = br0 at *
      obtain ⟨td, ok⟩ := br0
      have HBR := Lib.hid hbr
      clear hbr hnX q0 q1 q2 q3 q4 q5 q6 q7 q8 q9 q10 qz p0 p1 p2 p3 p4 pz
      have H1X := Lib.hid (H15.out.new HNXX.out)
      have H2X := Lib.hid (H25.out.new HNXX.out)
      have HNT := Lib.hid (HN5b.out.trans HNXX.out)
      have HRX := Lib.hid (HR5.out.new HNXX.out)
      have HBX := Lib.hid (HB5.out.new HNXX.out)
      have HSX : Hid (w.heap.size + 1 + 1 < wX.heap.size) := Lib.hid (H35.out.new HNXX.out).lt
      obtain ⟨q0, q1, q2, q3, q4, q5, q6, q7, q8, q9, q10, qz⟩ := Blk10R H1X.out
      obtain ⟨p0, p1, p2, p3, p4, pz⟩ := Blk4R H2X.out
      dsimp only
      cases ok
      case true =>
        have HADD : Hid ((⟨id, ⟨ep, ms⟩, j, l, cl, out⟩ : Rpl).added ⟨bc, br, bs, bl⟩ = (⟨id, ⟨ep, ms⟩, j, l ++ [⟨bc, br, bs, bl⟩], cl, out⟩ : Rpl).sndR 1 0 n7 ⟨bc, br, bs, bl⟩) := Lib.hid (by
          rw [Rpl.added_yes (x5 := (⟨id, ⟨ep, ms⟩, j, l ++ [⟨bc, br, bs, bl⟩], cl, out⟩ : Rpl)) rfl (by dsimp only; rw [HBR.out])]
          dsimp only
          rw [List.length_append, List.length_singleton, ← HNL.out])
        go_wp2_with fail
        refine (rrsend (y := (⟨id, ep, .slice cA ms.length cc, ⟨la, L, .slice sA L.length sc, .slice tA L.length tc⟩, .slice A7 n7 c7, cl, .slice oA out.length oc⟩ : RrV)) (b := (⟨⟨bc, br, bs, bl⟩, bA, bcap⟩ : BtV)) HRX.out 1 0 (.inl rfl) n7 HBX.out (by omega)).mono ?_
        rintro e w6 h6
        obtain ⟨id6, ep6, ms6, j6, l6, cl6, out6, la6, L6, cA6, cc6, sA6, sc6, tA6, tc6, lA6, lc6, oA6, oc6, hx6, rfl, hr6, hn6, hf6⟩ := h6.form
        (try dsimp only [BtV.nil] at hx6)
        have HX6 := Lib.hid hx6
        have HR6 := Lib.hid hr6
        have HF6 := Lib.hid hf6
        have HN6 := Lib.hid (HNT.out.trans hn6)
        have HB6 := Lib.hid (H35.out.new (HNXX.out.trans hn6))
        clear h6 hx6 hr6 hf6 hn6 q0 q1 q2 q3 q4 q5 q6 q7 q8 q9 q10 qz
        obtain ⟨r0, r1, r2, r3, r4, r5, r6, r7, r8, r9, r10, rz⟩ := Blk10R HB6.out
        go_wp2_with fail
        have hu9 : Upd (· = w.heap.size + 2) w6 ((((((((((w6.setCell ⟨w.heap.size + 2, 0, none⟩ (.int .i64 id6)).setCell ⟨w.heap.size + 2, 1, none⟩ (.int .u64 (ep6 : Int))).setCell ⟨w.heap.size + 2, 2, none⟩ (.slice cA6 ms6.length cc6)).setCell ⟨w.heap.size + 2, 3, none⟩ (.int .u64 0)).setCell ⟨w.heap.size + 2, 4, none⟩ (.int .u64 (la6 : Int))).setCell ⟨w.heap.size + 2, 5, none⟩ (.slice sA6 L6.length sc6)).setCell ⟨w.heap.size + 2, 6, none⟩ (.slice tA6 L6.length tc6)).setCell ⟨w.heap.size + 2, 7, none⟩ (.slice lA6 l6.length lc6)).setCell ⟨w.heap.size + 2, 8, none⟩ (.int .u64 (cl6 : Int))).setCell ⟨w.heap.size + 2, 9, none⟩ (.slice oA6 out6.length oc6)) := ((((((((((Upd.refl _ w6).setIn 0 _).setIn 1 _).setIn 2 _).setIn 3 _).setIn 4 _).setIn 5 _).setIn 6 _).setIn 7 _).setIn 8 _).setIn 9 _
        have hn9 := HN6.out.upd hu9 (fun i e => by omega)
        have hfar : ∀ k, RrF _ k → RrF (⟨id, ep, .slice cA ms.length cc, ⟨la, L, .slice sA L.length sc, .slice tA L.length tc⟩, .slice lA l.length lc, cl, .slice oA out.length oc⟩ : RrV) k ∨ w.heap.size + 3 ≤ k := fun k hk => by
          rcases HF6.out k hk with h1 | h1
          · exact HFAR.out k h1
          · have := HLT.out; have := HSX.out; exact .inr (by omega)
        exact bodyPost_ret (v := .agg #[.int .i64 id6, .int .u64 (ep6 : Int), .slice cA6 ms6.length cc6, .int .u64 0, .int .u64 (la6 : Int), .slice sA6 L6.length sc6, .slice tA6 L6.length tc6, .slice lA6 l6.length lc6, .int .u64 (cl6 : Int), .slice oA6 out6.length oc6]) (by simp [results, Tryz.results46, go_sem, r1, r2, r3, r4, r5, r6, r7, r8, r9, r10]) rfl ⟨_, rfl, by
          rw [HADD.out, HX6.out]
          exact HR6.out.box HB6.out hu9 (fun k hk e => (hfar k hk).elim (fun h => by have := HH.out.lt k h; omega) (fun h => by omega)) (by decide), hn9, fun k hk => (hfar k hk).elim .inl (fun h => .inr (by omega))⟩
      case false =>
        have HADD : Hid ((⟨id, ⟨ep, ms⟩, j, l, cl, out⟩ : Rpl).added ⟨bc, br, bs, bl⟩ = (⟨id, ⟨ep, ms⟩, j, l ++ [⟨bc, br, bs, bl⟩], n7, out⟩ : Rpl).sndR (-1) 1 n7 Btc.none) := Lib.hid (by
          rw [Rpl.added_no (x5 := (⟨id, ⟨ep, ms⟩, j, l ++ [⟨bc, br, bs, bl⟩], cl, out⟩ : Rpl)) rfl (by dsimp only; rw [HBR.out])]
          dsimp only
          rw [List.length_append, List.length_singleton, ← HNL.out])
        go_upto_region 6 with fail
        have hu7 : Upd (· = w.heap.size) wX (wX.setCell ⟨w.heap.size, 8, none⟩ (.int .u64 (n7 : Int))) := (Upd.refl _ wX).setIn 8 _
        have H1Y := Lib.hid (H1X.out.set_ 8 (.int .u64 (n7 : Int)))
        have H3Y := Lib.hid ((H35.out.new HNXX.out).upd hu7 (by omega))
        have HNY := Lib.hid (HNT.out.upd hu7 (fun i e => by omega))
        have HRY := Lib.hid ((HRX.out.box (H1X.out) hu7 (fun k hk e => (HFAR.out k hk).elim (fun h => by have := HH.out.lt k h; omega) (fun h => by omega)) (by decide)).setCl (t := n7) (by have := HNL.out; have := HH.out.ll; dsimp only at this; omega))
        have HSY : Hid (w.heap.size + 1 + 1 < (wX.setCell ⟨w.heap.size, 8, none⟩ (.int .u64 (n7 : Int))).heap.size) := Lib.hid H3Y.out.lt
        clear hu7 q0 q1 q2 q3 q4 q5 q6 q7 q8 q9 q10 qz p0 p1 p2 p3 p4 pz
        generalize wX.setCell ⟨w.heap.size, 8, none⟩ (.int .u64 (n7 : Int)) = wY at *
        dsimp only at HRY
        obtain ⟨q0, q1, q2, q3, q4, q5, q6, q7, q8, q9, q10, qz⟩ := Blk10R H1Y.out
        go_wp2_with fail
        refine (rrsend (y := (⟨id, ep, .slice cA ms.length cc, ⟨la, L, .slice sA L.length sc, .slice tA L.length tc⟩, .slice A7 n7 c7, n7, .slice oA out.length oc⟩ : RrV)) (b := BtV.nil) HRY.out (-1) 1 (.inr rfl) n7 (BtAt.nil wY) (by omega)).mono ?_
        rintro e w6 h6
        obtain ⟨id6, ep6, ms6, j6, l6, cl6, out6, la6, L6, cA6, cc6, sA6, sc6, tA6, tc6, lA6, lc6, oA6, oc6, hx6, rfl, hr6, hn6, hf6⟩ := h6.form
        (try dsimp only [BtV.nil] at hx6)
        have HX6 := Lib.hid hx6
        have HR6 := Lib.hid hr6
        have HF6 := Lib.hid hf6
        have HN6 := Lib.hid (HNY.out.trans hn6)
        have HB6 := Lib.hid (H3Y.out.new hn6)
        clear h6 hx6 hr6 hf6 hn6 q0 q1 q2 q3 q4 q5 q6 q7 q8 q9 q10 qz
        obtain ⟨r0, r1, r2, r3, r4, r5, r6, r7, r8, r9, r10, rz⟩ := Blk10R HB6.out
        go_wp2_with fail
        have hu9 : Upd (· = w.heap.size + 2) w6 ((((((((((w6.setCell ⟨w.heap.size + 2, 0, none⟩ (.int .i64 id6)).setCell ⟨w.heap.size + 2, 1, none⟩ (.int .u64 (ep6 : Int))).setCell ⟨w.heap.size + 2, 2, none⟩ (.slice cA6 ms6.length cc6)).setCell ⟨w.heap.size + 2, 3, none⟩ (.int .u64 0)).setCell ⟨w.heap.size + 2, 4, none⟩ (.int .u64 (la6 : Int))).setCell ⟨w.heap.size + 2, 5, none⟩ (.slice sA6 L6.length sc6)).setCell ⟨w.heap.size + 2, 6, none⟩ (.slice tA6 L6.length tc6)).setCell ⟨w.heap.size + 2, 7, none⟩ (.slice lA6 l6.length lc6)).setCell ⟨w.heap.size + 2, 8, none⟩ (.int .u64 (cl6 : Int))).setCell ⟨w.heap.size + 2, 9, none⟩ (.slice oA6 out6.length oc6)) := ((((((((((Upd.refl _ w6).setIn 0 _).setIn 1 _).setIn 2 _).setIn 3 _).setIn 4 _).setIn 5 _).setIn 6 _).setIn 7 _).setIn 8 _).setIn 9 _
        have hn9 := HN6.out.upd hu9 (fun i e => by omega)
        have hfar : ∀ k, RrF _ k → RrF (⟨id, ep, .slice cA ms.length cc, ⟨la, L, .slice sA L.length sc, .slice tA L.length tc⟩, .slice lA l.length lc, cl, .slice oA out.length oc⟩ : RrV) k ∨ w.heap.size + 3 ≤ k := fun k hk => by
          rcases HF6.out k hk with h1 | h1
          · exact HFAR.out k h1
          · have := HLT.out; have := HSY.out; exact .inr (by omega)
        exact bodyPost_ret (v := .agg #[.int .i64 id6, .int .u64 (ep6 : Int), .slice cA6 ms6.length cc6, .int .u64 0, .int .u64 (la6 : Int), .slice sA6 L6.length sc6, .slice tA6 L6.length tc6, .slice lA6 l6.length lc6, .int .u64 (cl6 : Int), .slice oA6 out6.length oc6]) (by simp [results, Tryz.results46, go_sem, r1, r2, r3, r4, r5, r6, r7, r8, r9, r10]) rfl ⟨_, rfl, by
          rw [HADD.out, HX6.out]
          exact HR6.out.box HB6.out hu9 (fun k hk e => (hfar k hk).elim (fun h => by have := HH.out.lt k h; omega) (fun h => by omega)) (by decide), hn9, fun k hk => (hfar k hk).elim .inl (fun h => .inr (by omega))⟩
  · go_simp
    have HN8 := Lib.hid (HN0.out.alloc (.cells #[.int .u64 (bc : Int), .int .u64 (br : Int), .int .u64 (bs : Int), .slice bA bl.length bcap] 40))
    have HP8 := Lib.hid (Blk.mk_new w0 40 #[.int .u64 (bc : Int), .int .u64 (br : Int), .int .u64 (bs : Int), .slice bA bl.length bcap])
    generalize w0.alloc (.cells #[.int .u64 (bc : Int), .int .u64 (br : Int), .int .u64 (bs : Int), .slice bA bl.length bcap] 40) = w8 at *
    refine hK.out _ _ ?_ (fun hHeld => ?_)
    · exact HK.out _ HN8.out
    clear hK K
    try simp only [Act.put, sA, sZ, sS]
    refine wpZ_ready (rs := [0]) (by kernel_rfl) (by simp) ?_
    refine AllZ.cons (o := ⟨some 7, .buildSlice 26 0 #[], 26, "ref.go:55", #[], none⟩) rfl (fun K hK => ?_) AllZ.nil
    go_simp
    have HN9 := Lib.hid (HN8.out.alloc (.cells #[] 40))
    have HO9 := Lib.hid (Row.fresh (base := W.heap.size) w8 40 BtV.enc 4 HN8.out.size)
    have HP9 := Lib.hid (HP8.out.alloc (.cells #[] 40))
    have HD9 := Lib.hid (fresh_far HP8.out.lt)
    generalize w8.alloc (.cells #[] 40) = w9 at *
    refine hK.out _ _ ?_ (fun hHeld => ?_)
    · exact HK.out _ HN9.out
    clear hK K
    try simp only [Act.put, sA, sZ, sS]
    refine wpZ_ready (rs := [3]) (by kernel_rfl) (by simp) ?_
    refine AllZ.cons (o := ⟨some 10, .call { callee := .builtin .append, args := #[.tmp 7, .tmp 9], argTypes := #[26, 26] }, 26, "ref.go:55", #[⟨0, .data⟩, ⟨2, .data⟩], none⟩) rfl (fun K hK => ?_) AllZ.nil
    refine step_appR  btTy BtV.encOk rfl (.tmp 7) (.tmp 9) rfl rfl rfl HO9.out (HSRC.out.new HN9.out) HM1.out HM2.out HN9.out.size ?_
    intro v10 w10 h10 hg10 hv10
    obtain ⟨A10, n10, c10, rfl⟩ := h10.shp
    have HN10 := Lib.hid (HN9.out.grown hg10 (fun k hk => (HO9.out.lt k hk).1))
    have HO10 := Lib.hid h10
    have HP10 := Lib.hid (HP9.out.grown hg10 (fun e => HD9.out _ e.symm rfl))
    have HD10 := Lib.hid (app_far HD9.out HP9.out.lt hv10)
    clear h10 hg10 hv10
    refine hK.out _ _ ?_ (fun hHeld => ?_)
    · exact HK.out _ HN10.out
    clear hK K
    try simp only [Act.put, sA, sZ, sS]
    refine wpZ_ready (rs := [6]) (by kernel_rfl) (by simp) ?_
    refine AllZ.cons (o := ⟨some 13, .call { callee := .builtin .append, args := #[.tmp 10, .tmp 12], argTypes := #[26, 26] }, 26, "ref.go:55", #[⟨3, .data⟩, ⟨5, .data⟩, ⟨3, .chain⟩], none⟩) rfl (fun K hK => ?_) AllZ.nil
    refine step_appR (m := [(⟨⟨bc, br, bs, bl⟩, bA, bcap⟩ : BtV)]) btTy BtV.encOk rfl (.tmp 10) (.tmp 12) rfl rfl rfl HO10.out (SlIn.one HP10.out BtV.encOk rfl) (HM3.out _) (HM4.out _) HN10.out.size ?_
    intro v11 w11 h11 hg11 hv11
    obtain ⟨A11, n11, c11, rfl⟩ := h11.shp
    have HN11 := Lib.hid (HN10.out.grown hg11 (fun k hk => (HO10.out.lt k hk).1))
    have HO11 := Lib.hid h11
    have HP11 := Lib.hid (HP10.out.grown hg11 (fun e => HD10.out _ e.symm rfl))
    have HD11 := Lib.hid (app_far HD10.out HP10.out.lt hv11)
    clear h11 hg11 hv11
    obtain ⟨z0, z1, z2, z3, z4, z5, z6, z7, z8, z9, z10, zz⟩ := Blk10R (H1.out.new HN11.out)
    refine hK.out _ _ ?_ (fun hHeld => ?_)
    · exact HK.out _ HN11.out
    clear hK K
    try simp only [Act.put, sA, sZ, sS]
    refine tkZ (i := 7) (oi := ⟨some 14, .fieldAddr 36 (.tmp 2) 3, 0, "ref.go:55", #[⟨0, .phase⟩, ⟨1, .phase⟩, ⟨2, .phase⟩, ⟨3, .phase⟩, ⟨4, .phase⟩, ⟨5, .phase⟩, ⟨6, .phase⟩], none⟩) (v := ?_) (.inl ⟨by rfl, ?_⟩) ?_
    rotate_left
    · (intro wq hSw; (try dsimp only at hSw); go_simp; first | done | with_reducible rfl)
    try simp only [Act.put, sA, sZ, sS]
    refine wpZ_ready (rs := [8]) (by kernel_rfl) (by simp) ?_
    refine AllZ.consZ (o := ⟨none, .store 26 (.tmp 14) (.tmp 13), 0, "ref.go:55", #[⟨7, .data⟩, ⟨6, .data⟩, ⟨6, .chain⟩, ⟨0, .phase⟩, ⟨1, .phase⟩, ⟨2, .phase⟩, ⟨3, .phase⟩, ⟨4, .phase⟩, ⟨5, .phase⟩, ⟨6, .phase⟩], none⟩) rfl (by kernel_rfl) (fun K hK => ?_) AllZ.nil
    go_simp
    refine hK.out _ _ ?_
    clear hK K
    try simp only [Act.put, sA, sZ, sS]
    refine wpZ_done (by kernel_rfl) ?_ _
    clear hHeld z0 z1 z2 z3 z4 z5 z6 z7 z8 z9 z10 zz
    have hu5 : Upd (· = w.heap.size) w11 (w11.setCell ⟨w.heap.size, 7, none⟩ (.slice A11 n11 c11)) := (Upd.refl _ w11).setIn 7 _
    have H15 := Lib.hid ((H1.out.new HN11.out).set_ 7 (.slice A11 n11 c11))
    have H25 := Lib.hid ((H2.out.new HN11.out).upd hu5 (by omega))
    have H35 := Lib.hid ((H3.out.new HN11.out).upd hu5 (by omega))
    have hr5 := HO11.out.upd hu5 (fun k hk e => by have := (HO11.out.lt k hk).1; have := H3.out.lt; omega)
    have HN5b := Lib.hid ((New.trans HN.out HN11.out).upd hu5 (fun i e => by omega))
    have HLT : Hid (w.heap.size + 3 ≤ W.heap.size) := Lib.hid (by have := H3.out.lt; omega)
    have HOWN : Hid (∀ k, (.slice A11 n11 c11 : Value).ownBlock = some k → w.heap.size + 3 ≤ k) := Lib.hid (fun k hk => by have := (HO11.out.lt k hk).1; have := HLT.out; omega)
    have hnl : n11 = l.length + 1 := by
      obtain ⟨xA, xc, hx⟩ := hr5.shape
      have hl : (([] ++ ps) ++ [(⟨⟨bc, br, bs, bl⟩, bA, bcap⟩ : BtV)]).length = l.length + 1 := by rw [List.length_append, List.nil_append, List.length_singleton, ← HPS.out, List.length_map]
      rw [hl] at hx
      injection hx
    have HNL := Lib.hid hnl
    have hnb : n11 ≤ 100001 := by have := HPL.out; rw [← HPS.out, List.length_map] at hnl; omega
    have HNX := Lib.hid hnb
    have HR5 := Lib.hid (HH.out.setL HN5b.out (HB.out.new HN5b.out) HPS.out (fun p hp => (HOK.out p hp).new HN5b.out) hr5)
    clear hu5 hr5 hnl
    generalize w11.setCell ⟨w.heap.size, 7, none⟩ (.slice A11 n11 c11) = w5 at *
    dsimp only at HR5
    have HFAR : Hid (∀ k, RrF (⟨id, ep, .slice cA ms.length cc, ⟨la, L, .slice sA L.length sc, .slice tA L.length tc⟩, .slice A11 n11 c11, cl, .slice oA out.length oc⟩ : RrV) k → RrF (⟨id, ep, .slice cA ms.length cc, ⟨la, L, .slice sA L.length sc, .slice tA L.length tc⟩, .slice lA l.length lc, cl, .slice oA out.length oc⟩ : RrV) k ∨ w.heap.size + 3 ≤ k) := Lib.hid (fun k hk => hk.elim (fun h => .inl (.inl h)) (fun h => h.elim (fun h => .inr (HOWN.out k h)) (fun h => .inl (.inr (.inr h)))))
    have HB5 := Lib.hid (HB.out.new HN5b.out)
    obtain ⟨q0, q1, q2, q3, q4, q5, q6, q7, q8, q9, q10, qz⟩ := Blk10R H15.out
    obtain ⟨p0, p1, p2, p3, p4, pz⟩ := Blk4R H25.out
    go_wp2_with fail
    refine (rbes (y := (⟨id, ep, .slice cA ms.length cc, ⟨la, L, .slice sA L.length sc, .slice tA L.length tc⟩, .slice A11 n11 c11, cl, .slice oA out.length oc⟩ : RrV)) HR5.out 1 (.inl rfl)).mono ?_
    rintro e wX ⟨rfl, hnX⟩
    dsimp only at hnX ⊢
    have HNXX := Lib.hid hnX
    generalize hbr : besC (⟨ep, ms⟩ : Cfg) id 1 = br0 at *
    obtain ⟨td, ok⟩ := br0
    have HBR := Lib.hid hbr
    clear hbr hnX q0 q1 q2 q3 q4 q5 q6 q7 q8 q9 q10 qz p0 p1 p2 p3 p4 pz
    have H1X := Lib.hid (H15.out.new HNXX.out)
    have H2X := Lib.hid (H25.out.new HNXX.out)
    have HNT := Lib.hid (HN5b.out.trans HNXX.out)
    have HRX := Lib.hid (HR5.out.new HNXX.out)
    have HBX := Lib.hid (HB5.out.new HNXX.out)
    have HSX : Hid (w.heap.size + 1 + 1 < wX.heap.size) := Lib.hid (H35.out.new HNXX.out).lt
    obtain ⟨q0, q1, q2, q3, q4, q5, q6, q7, q8, q9, q10, qz⟩ := Blk10R H1X.out
    obtain ⟨p0, p1, p2, p3, p4, pz⟩ := Blk4R H2X.out
    dsimp only
    cases ok
    case true =>
      have HADD : Hid ((⟨id, ⟨ep, ms⟩, j, l, cl, out⟩ : Rpl).added ⟨bc, br, bs, bl⟩ = (⟨id, ⟨ep, ms⟩, j, l ++ [⟨bc, br, bs, bl⟩], cl, out⟩ : Rpl).sndR 1 0 n11 ⟨bc, br, bs, bl⟩) := Lib.hid (by
        rw [Rpl.added_yes (x5 := (⟨id, ⟨ep, ms⟩, j, l ++ [⟨bc, br, bs, bl⟩], cl, out⟩ : Rpl)) rfl (by dsimp only; rw [HBR.out])]
        dsimp only
        rw [List.length_append, List.length_singleton, ← HNL.out])
      go_wp2_with fail
      refine (rrsend (y := (⟨id, ep, .slice cA ms.length cc, ⟨la, L, .slice sA L.length sc, .slice tA L.length tc⟩, .slice A11 n11 c11, cl, .slice oA out.length oc⟩ : RrV)) (b := (⟨⟨bc, br, bs, bl⟩, bA, bcap⟩ : BtV)) HRX.out 1 0 (.inl rfl) n11 HBX.out (by omega)).mono ?_
      rintro e w6 h6
      obtain ⟨id6, ep6, ms6, j6, l6, cl6, out6, la6, L6, cA6, cc6, sA6, sc6, tA6, tc6, lA6, lc6, oA6, oc6, hx6, rfl, hr6, hn6, hf6⟩ := h6.form
      (try dsimp only [BtV.nil] at hx6)
      have HX6 := Lib.hid hx6
      have HR6 := Lib.hid hr6
      have HF6 := Lib.hid hf6
      have HN6 := Lib.hid (HNT.out.trans hn6)
      have HB6 := Lib.hid (H35.out.new (HNXX.out.trans hn6))
      clear h6 hx6 hr6 hf6 hn6 q0 q1 q2 q3 q4 q5 q6 q7 q8 q9 q10 qz
      obtain ⟨r0, r1, r2, r3, r4, r5, r6, r7, r8, r9, r10, rz⟩ := Blk10R HB6.out
      go_wp2_with fail
      have hu9 : Upd (· = w.heap.size + 2) w6 ((((((((((w6.setCell ⟨w.heap.size + 2, 0, none⟩ (.int .i64 id6)).setCell ⟨w.heap.size + 2, 1, none⟩ (.int .u64 (ep6 : Int))).setCell ⟨w.heap.size + 2, 2, none⟩ (.slice cA6 ms6.length cc6)).setCell ⟨w.heap.size + 2, 3, none⟩ (.int .u64 0)).setCell ⟨w.heap.size + 2, 4, none⟩ (.int .u64 (la6 : Int))).setCell ⟨w.heap.size + 2, 5, none⟩ (.slice sA6 L6.length sc6)).setCell ⟨w.heap.size + 2, 6, none⟩ (.slice tA6 L6.length tc6)).setCell ⟨w.heap.size + 2, 7, none⟩ (.slice lA6 l6.length lc6)).setCell ⟨w.heap.size + 2, 8, none⟩ (.int .u64 (cl6 : Int))).setCell ⟨w.heap.size + 2, 9, none⟩ (.slice oA6 out6.length oc6)) := ((((((((((Upd.refl _ w6).setIn 0 _).setIn 1 _).setIn 2 _).setIn 3 _).setIn 4 _).setIn 5 _).setIn 6 _).setIn 7 _).setIn 8 _).setIn 9 _
      have hn9 := HN6.out.upd hu9 (fun i e => by omega)
      have hfar : ∀ k, RrF _ k → RrF (⟨id, ep, .slice cA ms.length cc, ⟨la, L, .slice sA L.length sc, .slice tA L.length tc⟩, .slice lA l.length lc, cl, .slice oA out.length oc⟩ : RrV) k ∨ w.heap.size + 3 ≤ k := fun k hk => by
        rcases HF6.out k hk with h1 | h1
        · exact HFAR.out k h1
        · have := HLT.out; have := HSX.out; exact .inr (by omega)
      exact bodyPost_ret (v := .agg #[.int .i64 id6, .int .u64 (ep6 : Int), .slice cA6 ms6.length cc6, .int .u64 0, .int .u64 (la6 : Int), .slice sA6 L6.length sc6, .slice tA6 L6.length tc6, .slice lA6 l6.length lc6, .int .u64 (cl6 : Int), .slice oA6 out6.length oc6]) (by simp [results, Tryz.results46, go_sem, r1, r2, r3, r4, r5, r6, r7, r8, r9, r10]) rfl ⟨_, rfl, by
        rw [HADD.out, HX6.out]
        exact HR6.out.box HB6.out hu9 (fun k hk e => (hfar k hk).elim (fun h => by have := HH.out.lt k h; omega) (fun h => by omega)) (by decide), hn9, fun k hk => (hfar k hk).elim .inl (fun h => .inr (by omega))⟩
    case false =>
      have HADD : Hid ((⟨id, ⟨ep, ms⟩, j, l, cl, out⟩ : Rpl).added ⟨bc, br, bs, bl⟩ = (⟨id, ⟨ep, ms⟩, j, l ++ [⟨bc, br, bs, bl⟩], n11, out⟩ : Rpl).sndR (-1) 1 n11 Btc.none) := Lib.hid (by
        rw [Rpl.added_no (x5 := (⟨id, ⟨ep, ms⟩, j, l ++ [⟨bc, br, bs, bl⟩], cl, out⟩ : Rpl)) rfl (by dsimp only; rw [HBR.out])]
        dsimp only
        rw [List.length_append, List.length_singleton, ← HNL.out])
      go_upto_region 6 with fail
      have hu7 : Upd (· = w.heap.size) wX (wX.setCell ⟨w.heap.size, 8, none⟩ (.int .u64 (n11 : Int))) := (Upd.refl _ wX).setIn 8 _
      have H1Y := Lib.hid (H1X.out.set_ 8 (.int .u64 (n11 : Int)))
      have H3Y := Lib.hid ((H35.out.new HNXX.out).upd hu7 (by omega))
      have HNY := Lib.hid (HNT.out.upd hu7 (fun i e => by omega))
      have HRY := Lib.hid ((HRX.out.box (H1X.out) hu7 (fun k hk e => (HFAR.out k hk).elim (fun h => by have := HH.out.lt k h; omega) (fun h => by omega)) (by decide)).setCl (t := n11) (by have := HNL.out; have := HH.out.ll; dsimp only at this; omega))
      have HSY : Hid (w.heap.size + 1 + 1 < (wX.setCell ⟨w.heap.size, 8, none⟩ (.int .u64 (n11 : Int))).heap.size) := Lib.hid H3Y.out.lt
      clear hu7 q0 q1 q2 q3 q4 q5 q6 q7 q8 q9 q10 qz p0 p1 p2 p3 p4 pz
      generalize wX.setCell ⟨w.heap.size, 8, none⟩ (.int .u64 (n11 : Int)) = wY at *
      dsimp only at HRY
      obtain ⟨q0, q1, q2, q3, q4, q5, q6, q7, q8, q9, q10, qz⟩ := Blk10R H1Y.out
      go_wp2_with fail
      refine (rrsend (y := (⟨id, ep, .slice cA ms.length cc, ⟨la, L, .slice sA L.length sc, .slice tA L.length tc⟩, .slice A11 n11 c11, n11, .slice oA out.length oc⟩ : RrV)) (b := BtV.nil) HRY.out (-1) 1 (.inr rfl) n11 (BtAt.nil wY) (by omega)).mono ?_
      rintro e w6 h6
      obtain ⟨id6, ep6, ms6, j6, l6, cl6, out6, la6, L6, cA6, cc6, sA6, sc6, tA6, tc6, lA6, lc6, oA6, oc6, hx6, rfl, hr6, hn6, hf6⟩ := h6.form
      (try dsimp only [BtV.nil] at hx6)
      have HX6 := Lib.hid hx6
      have HR6 := Lib.hid hr6
      have HF6 := Lib.hid hf6
      have HN6 := Lib.hid (HNY.out.trans hn6)
      have HB6 := Lib.hid (H3Y.out.new hn6)
      clear h6 hx6 hr6 hf6 hn6 q0 q1 q2 q3 q4 q5 q6 q7 q8 q9 q10 qz
      obtain ⟨r0, r1, r2, r3, r4, r5, r6, r7, r8, r9, r10, rz⟩ := Blk10R HB6.out
      go_wp2_with fail
      have hu9 : Upd (· = w.heap.size + 2) w6 ((((((((((w6.setCell ⟨w.heap.size + 2, 0, none⟩ (.int .i64 id6)).setCell ⟨w.heap.size + 2, 1, none⟩ (.int .u64 (ep6 : Int))).setCell ⟨w.heap.size + 2, 2, none⟩ (.slice cA6 ms6.length cc6)).setCell ⟨w.heap.size + 2, 3, none⟩ (.int .u64 0)).setCell ⟨w.heap.size + 2, 4, none⟩ (.int .u64 (la6 : Int))).setCell ⟨w.heap.size + 2, 5, none⟩ (.slice sA6 L6.length sc6)).setCell ⟨w.heap.size + 2, 6, none⟩ (.slice tA6 L6.length tc6)).setCell ⟨w.heap.size + 2, 7, none⟩ (.slice lA6 l6.length lc6)).setCell ⟨w.heap.size + 2, 8, none⟩ (.int .u64 (cl6 : Int))).setCell ⟨w.heap.size + 2, 9, none⟩ (.slice oA6 out6.length oc6)) := ((((((((((Upd.refl _ w6).setIn 0 _).setIn 1 _).setIn 2 _).setIn 3 _).setIn 4 _).setIn 5 _).setIn 6 _).setIn 7 _).setIn 8 _).setIn 9 _
      have hn9 := HN6.out.upd hu9 (fun i e => by omega)
      have hfar : ∀ k, RrF _ k → RrF (⟨id, ep, .slice cA ms.length cc, ⟨la, L, .slice sA L.length sc, .slice tA L.length tc⟩, .slice lA l.length lc, cl, .slice oA out.length oc⟩ : RrV) k ∨ w.heap.size + 3 ≤ k := fun k hk => by
        rcases HF6.out k hk with h1 | h1
        · exact HFAR.out k h1
        · have := HLT.out; have := HSY.out; exact .inr (by omega)
      exact bodyPost_ret (v := .agg #[.int .i64 id6, .int .u64 (ep6 : Int), .slice cA6 ms6.length cc6, .int .u64 0, .int .u64 (la6 : Int), .slice sA6 L6.length sc6, .slice tA6 L6.length tc6, .slice lA6 l6.length lc6, .int .u64 (cl6 : Int), .slice oA6 out6.length oc6]) (by simp [results, Tryz.results46, go_sem, r1, r2, r3, r4, r5, r6, r7, r8, r9, r10]) rfl ⟨_, rfl, by
        rw [HADD.out, HX6.out]
        exact HR6.out.box HB6.out hu9 (fun k hk e => (hfar k hk).elim (fun h => by have := HH.out.lt k h; omega) (fun h => by omega)) (by decide), hn9, fun k hk => (hfar k hk).elim .inl (fun h => .inr (by omega))⟩
end
end Go.Proofs.YtecniafnihpjmaaGreatDoor
