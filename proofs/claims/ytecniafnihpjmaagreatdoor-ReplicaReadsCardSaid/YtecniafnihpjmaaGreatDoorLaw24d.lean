/- ReplicaReads, walked. -/
import Derived.Test.YtecniafnihpjmaaGreatDoorTk
import Derived.Test.YtecniafnihpjmaaGreatDoorRdL
import Derived.Test.YtecniafnihpjmaaGreatDoorRdD
import Derived.Test.YtecniafnihpjmaaGreatDoorRdE
import Derived.Test.YtecniafnihpjmaaGreatDoorMg14
namespace Go.Proofs.YtecniafnihpjmaaGreatDoor
open Go.RowKit Go.Lap C
set_option linter.unusedVariables false
set_option linter.unusedSimpArgs false
theorem Blk7D {w : World} {g t : Nat} {a b c d e f h : Value} (hb : Blk w g t #[a, b, c, d, e, f, h]) : g < w.heap.size ∧ w.cell? ⟨g, 0, none⟩ = some a ∧ w.cell? ⟨g, 1, none⟩ = some b ∧ w.cell? ⟨g, 2, none⟩ = some c ∧ w.cell? ⟨g, 3, none⟩ = some d ∧ w.cell? ⟨g, 4, none⟩ = some e ∧ w.cell? ⟨g, 5, none⟩ = some f ∧ w.cell? ⟨g, 6, none⟩ = some h ∧ (∀ i, w.frozen? ⟨g, i, none⟩ = false) :=
  ⟨hb.lt, hb.cell 0, hb.cell 1, hb.cell 2, hb.cell 3, hb.cell 4, hb.cell 5, hb.cell 6, hb.frozen⟩
def qC (key : ByteArray) (r : Rng) (a : Nat) : Array Value := #[.string key, .string r.fr, .string r.te, .bool r.op, .bool r.bk, .int .i64 r.lim, .int .u64 (a : Int)]
theorem docScan_len {P : List (Nat × Wri)} {x : Rng} (h : P.length ≤ 1000000) : (docScan P x).length ≤ 1000000 := by
  unfold docScan limC
  have h1 := scanD_len P x (P.map fun p => p.2.key)
  rw [List.length_map] at h1
  split
  · rw [List.length_take]; omega
  · omega
/-- The replica in the midst of the batches. -/
structure RdSt (w : World) (key : ByteArray) (r : Rng) (a : Nat) (wr : World) (rp k : Nat) (L : RpL) (x : Rpl) : Prop where
  at_ : RpAt wr rp (20 * k) L x
  lone : Lone x
  len : x.l.length ≤ k
  own : ∀ q, RpF rp L q → w.heap.size ≤ q
  nw : New w wr
  q : Blk wr w.heap.size 79 (qC key r a)
theorem RdSt.new {w wr w' : World} {key : ByteArray} {r : Rng} {a rp k : Nat} {L : RpL} {x : Rpl} (h : RdSt w key r a wr rp k L x) (hn : New wr w') : RdSt w key r a w' rp k L x := ⟨h.at_.new hn, h.lone, h.len, h.own, h.nw.trans hn, h.q.new hn⟩
theorem RdSt.submit {w wr w' : World} {key : ByteArray} {r : Rng} {a rp k : Nat} {L : RpL} {x : Rpl} (h : RdSt w key r a wr rp k L x) (b : Btc) (hp : RpPost wr rp (20 * k + 20) L (x.submit b).1 w') : ∃ L', RdSt w key r a w' rp (k + 1) L' (x.submit b).1 := by
  obtain ⟨L', h1, h2, h3⟩ := hp
  obtain ⟨h4, h5⟩ := h.lone.submit b
  refine ⟨L', by rw [show 20 * (k + 1) = 20 * k + 20 by omega]; exact h1, h4, by have := h.len; omega, fun q hq => ?_, h.nw.upd h3 h.own, h.q.upd h3 (h.at_.off (by decide) (by decide) (by decide) (by decide) _ _ h.q)⟩
  rcases h2 q hq with h6 | h6
  · exact h.own q h6
  · exact Nat.le_trans h.nw.size h6
theorem RdSt.hok {w wr : World} {key : ByteArray} {r : Rng} {a rp k : Nat} {L : RpL} {x : Rpl} (h : RdSt w key r a wr rp k L x) : ∀ b ∈ x.l, b.l.length ≤ 1000 ∧ ∀ y ∈ b.l, okS y.key := fun b hb => by
  obtain ⟨h1, _, h3⟩ := chk_rise (h.lone.ok b hb)
  exact ⟨by omega, fun y hy => chk1_okS (h3 y hy)⟩
set_option maxRecDepth 100000 in
set_option maxHeartbeats 16000000 in
theorem replicaReads_walk (l0 : List BtV) (v0 : Value) (key : ByteArray) (r : Rng) (a : Nat) (w : World) (hl0 : SlIn w 4 BtV.enc v0 l0) (hk0 : ∀ p ∈ l0, BvIn w p) (hll : l0.length ≤ maxLen) (hkey : key.size ≤ maxLen) (ha : a < big) :
    Calls Tryz.prog 7 #[v0, .agg (qC key r a)] w fun e w' => e = .returned (.bool true) ∧ New w w' := by
  obtain ⟨A0, n0, hv0, hcap0, hor0⟩ := id hl0
  subst hv0
  have H0 := Lib.hid hl0
  have HK0 := Lib.hid hk0
  have hN := ((New.refl w).alloc (.cells (qC key r a) 79)).alloc (.cells #[.int .i64 0] 3)
  have hQ := (Blk.mk_new w 79 (qC key r a)).alloc (.cells #[.int .i64 0] 3)
  have hI := Blk.mk_new (w.alloc (.cells (qC key r a) 79)) 3 #[.int .i64 0]
  rw [World.size_alloc] at hI
  have HN := Lib.hid hN
  have HQ := Lib.hid hQ
  have HCS : Hid (SlIn ((w.alloc (.cells (qC key r a) 79)).alloc (.cells #[.int .i64 0] 3)) 1 iEnc (.slice (some ⟨w.heap.size + 1, 0, none⟩) 1 1) [0]) := Lib.hid (SlIn.one (x := (0 : Int)) hI iEncOk rfl)
  have HBIG := Lib.hid ha
  have HKEY := Lib.hid hkey
  have hll2 : l0.length ≤ 9223372036854775807 := hll
  clear hl0 hk0 hcap0 hor0 hN hQ hI ha hkey hll
  unfold qC at HN HQ HCS ⊢
  go_enter Tryz.func7, Tryz.ntmps7
  go_upto_region 1 with fail
  go_wp2_with fail
  generalize (w.alloc (.cells #[.string key, .string r.fr, .string r.te, .bool r.op, .bool r.bk, .int .i64 r.lim, .int .u64 (a : Int)] 79)).alloc (.cells #[.int .i64 0] 3) = W at *
  refine (rnew 0 ⟨1, [0]⟩ HCS.out (by decide) (by decide)).mono ?_
  rintro e w1 h1
  unfold NewPost at h1
  rw [if_pos (by decide)] at h1
  obtain ⟨rp, L0, rfl, hr1, hg1, hn1⟩ := h1
  have HST1 : Hid (RdSt w key r a w1 rp 0 L0 (Rpl.new_ 0 ⟨1, [0]⟩)) := Lib.hid ⟨hr1, Lone.new, Nat.le_refl _, fun q hq => Nat.le_trans HN.out.size (hg1 q hq), HN.out.trans hn1, HQ.out.new hn1⟩
  have HQ1 := Lib.hid (HQ.out.new hn1)
  clear hr1 hg1 hn1 HCS
  go_wp2_with fail
  refine (awake24 w1).mono ?_
  rintro e w2 ⟨rfl, hn2⟩
  have HST := Lib.hid (HST1.out.new hn2)
  have HQ2 := Lib.hid (HQ1.out.new hn2)
  clear hn2 HST1 HQ1
  obtain ⟨q0, q1, q2, q3, q4, q5, q6, q7, qz⟩ := Blk7D HQ2.out
  by_cases hlong : 300 < key.size
  · have hl2 : (300 : Int) < (key.size : Int) := by omega
    go_wp2_with fail
    refine (awake24 w2).mono ?_
    rintro e w3 ⟨rfl, hn3⟩
    go_wp2_with fail
    go_ret
    exact ⟨rfl, HST.out.nw.trans hn3⟩
  have hl2 : ¬ (300 : Int) < (key.size : Int) := by omega
  generalize Rpl.new_ 0 ⟨1, [0]⟩ = x0 at HST
  go_wp2_with fail
  go_loopw [6] (fun u6 wr => ∃ (k : Nat) (L : RpL) (x : Rpl), k ≤ l0.length ∧ k ≤ 30 ∧ u6 = .int .i64 (k : Int) ∧ RdSt w key r a wr rp k L x) (fun u6 _ => 30 - (intOf u6).toNat)
  case atStart => exact ⟨0, L0, x0, by omega, by omega, rfl, HST.out⟩
  case round =>
    obtain ⟨k, L, x, hk, hk30, rfl, hst⟩ := hrel
    clear HST q0 q1 q2 q3 q4 q5 q6 q7 qz
    have HS := Lib.hid hst
    have i0 : (0 : Int) ≤ (k : Int) := by omega
    by_cases hgo : k < l0.length ∧ k < 30
    · obtain ⟨hlt, h30⟩ := hgo
      obtain ⟨p, hp⟩ : ∃ p, l0[k]? = some p := ⟨_, List.getElem?_eq_getElem hlt⟩
      obtain ⟨gq, oq, capq, hv, hgq, e0, e1, e2, e3⟩ := bvi_at H0.out hp hst.nw
      cases hv
      have HBO := Lib.hid (HK0.out p (List.mem_of_getElem? hp))
      obtain ⟨⟨bc, br, bs, bl⟩, bA, bcap⟩ := p
      dsimp only at e0 e1 e2 e3
      have i1 : (k : Int) < (l0.length : Int) := by omega
      have i2 : (k : Int) < 30 := by omega
      have H30 := Lib.hid h30
      clear hp hst h30
      go_wp2_with fail
      refine (few_any ⟨bc, br, bs, bl⟩ (HBO.out.sl.new HS.out.nw) HBO.out.ll).mono ?_
      rintro e wa ⟨A3, n3, rfl, hts, hna⟩
      dsimp only [batV]
      have HBT : Hid (BtAt wa (⟨Btc.cut ⟨bc, br, bs, bl⟩, A3, n3⟩ : BtV)) := Lib.hid ⟨hts, ⟨HBO.out.c, HBO.out.r, HBO.out.s, by have := cutL_len bl; show (cutL bl).length ≤ 1000; omega⟩⟩
      have HSA := Lib.hid (HS.out.new hna)
      clear hts hna e0 e1 e2 e3
      go_wp2_with fail
      refine (rsubmit (b := (⟨Btc.cut ⟨bc, br, bs, bl⟩, A3, n3⟩ : BtV)) HSA.out.at_ HBT.out (by have := H30.out; omega)).mono ?_
      rintro e wb ⟨rfl, hpo⟩
      obtain ⟨L', hst'⟩ := HSA.out.submit (Btc.cut ⟨bc, br, bs, bl⟩) hpo
      have HS' := Lib.hid hst'
      generalize (x.submit (Btc.cut ⟨bc, br, bs, bl⟩)) = r' at HS' ⊢
      clear hpo hst'
      go_wp2_with fail
      go_roundw
      case rel => exact ⟨k + 1, L', _, by omega, by have := H30.out; omega, by go_num, HS'.out⟩
      case measure => have := H30.out; simp [intOf]; omega
    · obtain ⟨q0, q1, q2, q3, q4, q5, q6, q7, qz⟩ := Blk7D hst.q
      have HB20 : Hid (20 * k ≤ 1000) := Lib.hid (by omega)
      have HLEN : Hid (x.l.length ≤ 30) := Lib.hid (by have := hst.len; omega)
      clear hst
      rcases (show (¬ (k : Int) < (l0.length : Int)) ∨ ((k : Int) < (l0.length : Int) ∧ ¬ (k : Int) < 30) by omega) with i1 | ⟨i1, i2⟩
      all_goals (
        clear hgo
        go_wp2_with fail
        refine (rlist HS.out.at_ (by have := HB20.out; omega)).mono ?_
        rintro e wl ⟨lv, rfl, hlrow, hnl⟩
        obtain ⟨lA, lc, rfl⟩ := hlrow.shape
        have hlc := hlrow.capR.2
        have HLR := Lib.hid (hlrow.lower (Nat.zero_le _))
        have HSL := Lib.hid (HS.out.new hnl)
        clear q0 q1 q2 q3 q4 q5 q6 q7 qz hlrow hnl
        obtain ⟨q0, q1, q2, q3, q4, q5, q6, q7, qz⟩ := Blk7D HSL.out.q
        have HRISE : Hid (∀ k, Rise (vsOf (wsUp x.l a) k)) := Lib.hid (fun k => wsUp_rise HSL.out.lone.ok k a)
        go_wp2_with fail
        refine (rget HSL.out.at_ key a HKEY.out (by rw [HSL.out.lone.cl]; exact Nat.le_refl _) HB20.out HSL.out.hok (HRISE.out key)).mono ?_
        rintro e wg ⟨rfl, hng⟩
        obtain ⟨ge, hge⟩ : ∃ ge, ge = x.get key a := ⟨_, rfl⟩
        have HGE := Lib.hid hge
        rw [← hge]
        obtain ⟨gs, gn⟩ := ge
        dsimp only
        have HSG := Lib.hid (HSL.out.new hng)
        have HLG := Lib.hid (HLR.out.new hng)
        clear q0 q1 q2 q3 q4 q5 q6 q7 qz hng hge
        obtain ⟨q0, q1, q2, q3, q4, q5, q6, q7, qz⟩ := Blk7D HSG.out.q
        have hu1 : IntKind.u64.wrap (x.l.length : Int) = (x.l.length : Int) := IntWalk.u64_in _ (by have := HLEN.out; omega)
        have hne : ((x.l.length : Int) != (x.l.length : Int)) = false := by simp
        have a0 : (0 : Int) ≤ (a : Int) := by omega
        by_cases hal : x.l.length < a
        · have hal2 : (x.l.length : Int) < (a : Int) := by omega
          have hsc := rscan_no HSG.out.at_ r (show x.cl < a by rw [HSG.out.lone.cl]; exact hal)
          unfold rngC at hsc
          have hg : (gs, gn) = (⟨#[]⟩, 242) := HGE.out.trans (get_new (by rw [HSG.out.lone.cl]; exact hal))
          injection hg with hg1 hg2
          subst hg1 hg2
          clear hal
          go_wp2_with fail
          refine hsc.mono ?_
          rintro e ws ⟨rfl, hns⟩
          have HSS := Lib.hid (HSG.out.new hns)
          clear q0 q1 q2 q3 q4 q5 q6 q7 qz hns hsc
          obtain ⟨q0, q1, q2, q3, q4, q5, q6, q7, qz⟩ := Blk7D HSS.out.q
          go_wp2_with fail
          refine (rcleanV HSS.out.at_ (c := x.l.length) HSS.out.lone.cl).mono ?_
          rintro e wc ⟨rfl, hwc⟩
          subst wc
          go_wp2_with fail
          go_ret
          exact ⟨rfl, HSS.out.nw⟩
        · have hal2 : ¬ (x.l.length : Int) < (a : Int) := by omega
          have HAL := Lib.hid (show a ≤ x.l.length by omega)
          have hac : (a : Int) ≤ (lc : Int) := by omega
          have hsc := rscan HSG.out.at_ r (show a ≤ x.cl by rw [HSG.out.lone.cl]; omega) (by rw [HSG.out.lone.cl]; exact Nat.le_refl _) HB20.out HSG.out.hok HRISE.out
          unfold rngC at hsc
          have HG := Lib.hid (HGE.out.trans (get_val (key := key) (show a ≤ x.cl by rw [HSG.out.lone.cl]; omega)))
          clear hal
          go_wp2_with fail
          refine hsc.mono ?_
          rintro e ws ⟨u, rfl, hus, hns⟩
          obtain ⟨uA, uc, hu, -, -⟩ := id hus
          subst hu
          have HSS := Lib.hid (HSG.out.new hns)
          have HLS := Lib.hid (HLG.out.new hns)
          have HUS := Lib.hid hus
          have HDL : Hid ((docScan (wsUp x.l a) r).length ≤ 1000000) := Lib.hid (docScan_len (by have h1 := wsUp_len (fun b hb => (HSG.out.hok b hb).1) a; have h2 : a * 1000 ≤ 30 * 1000 := Nat.mul_le_mul_right _ (by have := HLEN.out; have := HAL.out; omega); omega))
          clear q0 q1 q2 q3 q4 q5 q6 q7 qz hns hsc hus
          obtain ⟨q0, q1, q2, q3, q4, q5, q6, q7, qz⟩ := Blk7D HSS.out.q
          go_wp2_with fail
          refine (rcleanV HSS.out.at_ (c := x.l.length) HSS.out.lone.cl).mono ?_
          rintro e wc ⟨rfl, hwc⟩
          subst wc
          have HTK := Lib.hid (HLS.out.takeR (k := a) HAL.out (by omega))
          have HTL : Hid ((x.l.take a).length = a) := Lib.hid (by rw [List.length_take]; have := HAL.out; omega)
          have HTW : Hid (wsUp (x.l.take a) (x.l.take a).length = wsUp x.l a) := Lib.hid (by rw [HTL.out]; exact wsUp_take (Nat.le_refl _))
          have HTO : Hid (∀ b ∈ x.l.take a, b.l.length ≤ 1000) := Lib.hid (fun b hb => (HSS.out.hok b (List.mem_of_mem_take hb)).1)
          obtain ⟨D, hD⟩ : ∃ D, D = docScan (wsUp x.l a) r := ⟨_, rfl⟩
          have HD := Lib.hid hD.symm
          rw [← hD] at HUS HDL ⊢
          clear hD
          go_upto_region 15 with fail
          refine wp_region_held_drew (S := fun w' => New ws w' ∧ (∀ o, w'.cell? ⟨w.heap.size, o, none⟩ = ws.cell? ⟨w.heap.size, o, none⟩)) (by kernel_rfl) ⟨(New.refl _).drew, fun _ => rfl⟩ (fun hHeld => ?_)
          refine tkN (i := 0) rfl ?_
          try simp only [Act.put, sA, sZ, sS]
          refine tkN (i := 1) rfl ?_
          try simp only [Act.put, sA, sZ, sS]
          refine tkN (i := 2) rfl ?_
          try simp only [Act.put, sA, sZ, sS]
          refine tkN (i := 3) rfl ?_
          try simp only [Act.put, sA, sZ, sS]
          refine tkN (i := 4) rfl ?_
          try simp only [Act.put, sA, sZ, sS]
          refine tkN (i := 5) rfl ?_
          try simp only [Act.put, sA, sZ, sS]
          refine stN (i := 6) rfl (fun K hK => ?_)
          go_simp
          refine (refValue (HTK.out.new (New.refl ws).drew) key (by rw [HTL.out]; have := HAL.out; have := HLEN.out; omega) HTO.out).mono ?_
          rintro e wv ⟨rfl, hnv⟩
          rw [HTW.out]
          have hnvW := (New.refl ws).drew.trans hnv
          have HNV := Lib.hid hnvW
          have kk := fun o => keepR (S := fun _ => False) (Upd.new hnvW) q0 (fun h => h) o
          refine hK.out _ _ ?_ (fun hHeld => ?_)
          · exact ⟨hnvW, kk⟩
          clear hK K
          try simp only [Act.put, sA, sZ, sS]
          refine tkN (i := 7) rfl ?_
          try simp only [Act.put, sA, sZ, sS]
          refine tkN (i := 8) rfl ?_
          try simp only [Act.put, sA, sZ, sS]
          refine tkN (i := 9) rfl ?_
          try simp only [Act.put, sA, sZ, sS]
          refine tkN (i := 10) rfl ?_
          try simp only [Act.put, sA, sZ, sS]
          refine tkN (i := 11) rfl ?_
          try simp only [Act.put, sA, sZ, sS]
          refine wpAnyH_done (by kernel_rfl) ?_ _
          have HQL := Lib.hid q0
          have hrs := refScan (x := r) ((HTK.out.new HNV.out).new (New.refl wv).drew) (by rw [HTL.out]; have := HAL.out; have := HLEN.out; omega) HTO.out
          rw [HTW.out] at hrs
          unfold RScanPost at hrs
          rw [HD.out] at hrs
          unfold rngC at hrs
          clear hHeld kk hnv hnvW q0 q1 q2 q3 q4 q5 q6 q7 qz
          obtain ⟨q0, q1, q2, q3, q4, q5, q6, q7, qz⟩ := Blk7D ((HSS.out.new HNV.out).q)
          cases hvp : valP (wsUp x.l a) key with
          | none =>
            have hg := HG.out
            rw [hvp] at hg
            injection hg with hg1 hg2
            subst hg1 hg2
            clear hvp
            go_wp2_with fail
            go_upto_region 18 with fail
            refine wp_region_held_drew (S := fun w' => ∀ o, w'.cell? ⟨w.heap.size, o, none⟩ = wv.cell? ⟨w.heap.size, o, none⟩) (by kernel_rfl) (fun _ => rfl) (fun hHeld => ?_)
            refine tkN (i := 0) rfl ?_
            try simp only [Act.put, sA, sZ, sS]
            refine tkN (i := 1) rfl ?_
            try simp only [Act.put, sA, sZ, sS]
            refine tkN (i := 2) rfl ?_
            try simp only [Act.put, sA, sZ, sS]
            refine tkN (i := 3) rfl ?_
            try simp only [Act.put, sA, sZ, sS]
            refine tkN (i := 4) rfl ?_
            try simp only [Act.put, sA, sZ, sS]
            refine tkN (i := 5) rfl ?_
            try simp only [Act.put, sA, sZ, sS]
            refine tkN (i := 6) rfl ?_
            try simp only [Act.put, sA, sZ, sS]
            refine tkN (i := 7) rfl ?_
            try simp only [Act.put, sA, sZ, sS]
            refine tkN (i := 8) rfl ?_
            try simp only [Act.put, sA, sZ, sS]
            refine tkN (i := 9) rfl ?_
            try simp only [Act.put, sA, sZ, sS]
            refine stN (i := 10) rfl (fun K hK => ?_)
            go_simp
            refine hrs.mono ?_
            rintro e wz ⟨z, rfl, hzs, hnz⟩
            have HZS := Lib.hid hzs
            have HNZ := Lib.hid hnz
            have kk := fun o => keepR (S := fun _ => False) (Upd.new ((New.refl wv).drew.trans hnz)) (Nat.lt_of_lt_of_le HQL.out HNV.out.size) (fun h => h) o
            refine hK.out _ _ ?_ (fun hHeld => ?_)
            · exact kk
            clear hK K
            try simp only [Act.put, sA, sZ, sS]
            refine stN (i := 11) rfl (fun K hK => ?_)
            go_simp
            refine (same14 ((HUS.out.new HNV.out).new ((New.refl wv).drew.trans HNZ.out)) HZS.out HDL.out).mono ?_
            rintro e wy ⟨rfl, hny⟩
            have HNY := Lib.hid (((New.refl wv).drew.trans HNZ.out).trans hny)
            have kk2 := fun o => keepR (S := fun _ => False) (Upd.new HNY.out) (Nat.lt_of_lt_of_le HQL.out HNV.out.size) (fun h => h) o
            refine hK.out _ _ ?_ (fun hHeld => ?_)
            · exact kk2
            clear hK K
            try simp only [Act.put, sA, sZ, sS]
            refine tkN (i := 12) rfl ?_
            try simp only [Act.put, sA, sZ, sS]
            refine tkN (i := 13) rfl ?_
            try simp only [Act.put, sA, sZ, sS]
            refine wpAnyH_done (by kernel_rfl) ?_ _
            go_wp2_with fail
            go_ret
            exact ⟨rfl, (HSS.out.nw.trans HNV.out).trans HNY.out⟩
          | some sv =>
            have hg := HG.out
            rw [hvp] at hg
            injection hg with hg1 hg2
            subst hg1 hg2
            clear hvp
            have hss : (gs.toList != gs.toList) = false := by simp
            have hss2 : gs.toList = gs.toList := rfl
            go_upto_region 18 with fail
            refine wp_region_held_drew (S := fun w' => ∀ o, w'.cell? ⟨w.heap.size, o, none⟩ = wv.cell? ⟨w.heap.size, o, none⟩) (by kernel_rfl) (fun _ => rfl) (fun hHeld => ?_)
            refine tkN (i := 0) rfl ?_
            try simp only [Act.put, sA, sZ, sS]
            refine tkN (i := 1) rfl ?_
            try simp only [Act.put, sA, sZ, sS]
            refine tkN (i := 2) rfl ?_
            try simp only [Act.put, sA, sZ, sS]
            refine tkN (i := 3) rfl ?_
            try simp only [Act.put, sA, sZ, sS]
            refine tkN (i := 4) rfl ?_
            try simp only [Act.put, sA, sZ, sS]
            refine tkN (i := 5) rfl ?_
            try simp only [Act.put, sA, sZ, sS]
            refine tkN (i := 6) rfl ?_
            try simp only [Act.put, sA, sZ, sS]
            refine tkN (i := 7) rfl ?_
            try simp only [Act.put, sA, sZ, sS]
            refine tkN (i := 8) rfl ?_
            try simp only [Act.put, sA, sZ, sS]
            refine tkN (i := 9) rfl ?_
            try simp only [Act.put, sA, sZ, sS]
            refine stN (i := 10) rfl (fun K hK => ?_)
            go_simp
            refine hrs.mono ?_
            rintro e wz ⟨z, rfl, hzs, hnz⟩
            have HZS := Lib.hid hzs
            have HNZ := Lib.hid hnz
            have kk := fun o => keepR (S := fun _ => False) (Upd.new ((New.refl wv).drew.trans hnz)) (Nat.lt_of_lt_of_le HQL.out HNV.out.size) (fun h => h) o
            refine hK.out _ _ ?_ (fun hHeld => ?_)
            · exact kk
            clear hK K
            try simp only [Act.put, sA, sZ, sS]
            refine stN (i := 11) rfl (fun K hK => ?_)
            go_simp
            refine (same14 ((HUS.out.new HNV.out).new ((New.refl wv).drew.trans HNZ.out)) HZS.out HDL.out).mono ?_
            rintro e wy ⟨rfl, hny⟩
            have HNY := Lib.hid (((New.refl wv).drew.trans HNZ.out).trans hny)
            have kk2 := fun o => keepR (S := fun _ => False) (Upd.new HNY.out) (Nat.lt_of_lt_of_le HQL.out HNV.out.size) (fun h => h) o
            refine hK.out _ _ ?_ (fun hHeld => ?_)
            · exact kk2
            clear hK K
            try simp only [Act.put, sA, sZ, sS]
            refine tkN (i := 12) rfl ?_
            try simp only [Act.put, sA, sZ, sS]
            refine tkN (i := 13) rfl ?_
            try simp only [Act.put, sA, sZ, sS]
            refine wpAnyH_done (by kernel_rfl) ?_ _
            go_wp2_with fail
            go_ret
            exact ⟨rfl, (HSS.out.nw.trans HNV.out).trans HNY.out⟩)
end Go.Proofs.YtecniafnihpjmaaGreatDoor
