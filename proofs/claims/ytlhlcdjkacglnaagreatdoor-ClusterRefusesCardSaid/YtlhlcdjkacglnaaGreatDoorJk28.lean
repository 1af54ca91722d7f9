/- Chapter 26 (cluster): New, the walk. Printed by genCu19.py. -/
import Derived.Test.YtlhlcdjkacglnaaGreatDoorJk1
import Derived.Test.YtlhlcdjkacglnaaGreatDoorJk6
import Derived.Test.YtlhlcdjkacglnaaGreatDoorJk27
namespace Go.Proofs.YtlhlcdjkacglnaaGreatDoor
open Go.RowKit Go.Lap C
set_option linter.unusedVariables false
set_option linter.unusedSimpArgs false
section
variable {w w' W : World} {b0 up n j m : Nat} {L L' : CuL} {x x' : Clu} {fl fl' : List Int} {dv dv' : Value}
theorem rnew0 {n k : Nat} (h : 1 ≤ n ∧ n ≤ 5) {v : Value} (hs : SlIn w 1 iEnc v (firstC n).ms) : Calls Tryz.prog 79 #[.int .i64 (k : Int), .agg #[.int .u64 1, v]] w
    fun e w' => ∃ g l, e = .returned (.pointer (some ⟨g, 0, none⟩)) ∧ RpAt w' g 1 l (Rpl.new_ (k : Int) (firstC n)) ∧ (∀ j, RpF g l j → w.heap.size ≤ j) ∧ New w w' := by
  have hck : ∀ n : Nat, n < 6 → 1 ≤ n → chkC (firstC n) = true := by decide
  have hl : (firstC n).ms.length ≤ 1000 := by simp [firstC]; omega
  have hc := rnew (w := w) (k : Int) (firstC n) hs hl (show 1 < big by decide)
  refine Calls.mono hc ?_
  intro e w' hp
  unfold NewPost at hp
  rw [if_pos (hck n (by omega) h.1)] at hp
  obtain ⟨rp, l, h1, h2, h3, h4⟩ := hp
  exact ⟨rp, l, h1, h2.mono (by omega), h3, h4⟩
set_option maxRecDepth 100000 in
set_option maxHeartbeats 16000000 in
theorem cNew (w : World) {n m : Nat} (hnm : 1 ≤ n ∧ n ≤ 5 ∧ 1 ≤ m ∧ m ≤ 4) : Calls Tryz.prog 35 #[.int .i64 (n : Int), .int .i64 (m : Int)] w (CNew w n m) := by
  have h1 : ¬ (n : Int) < 1 := by omega
  have h2 : ¬ (5 : Int) < (n : Int) := by omega
  have h3 : ¬ (m : Int) < 1 := by omega
  have h4 : ¬ (4 : Int) < (m : Int) := by omega
  have hg0 : D.MpI (w.alloc (.map #[] 0)) w.heap.size 0 (fun _ => none) := MpAt.made _ _ _ _ w
  have hw0 : D.MpI ((w.alloc (.map #[] 0)).alloc (.map #[] 0)) (w.alloc (.map #[] 0)).heap.size 0 (fun _ => none) := MpAt.made _ _ _ _ _
  rw [World.size_alloc] at hw0
  have hn2 := (New.refl ((w.alloc (.map #[] 0)).alloc (.map #[] 0))).alloc (.cells #[.slice none 0 0, .map (some w.heap.size), .slice none 0 0, .pointer none, .int .u64 1, .slice none 0 0, .pointer none, .map (some (w.heap.size + 1)), .map none] 101)
  have HG0 := Lib.hid ((hg0.new ((New.refl _).alloc (.map #[] 0))).new hn2)
  have HW0 := Lib.hid (hw0.new hn2)
  have HB0 : Hid (Blk (((w.alloc (.map #[] 0)).alloc (.map #[] 0)).alloc (.cells #[.slice none 0 0, .map (some w.heap.size), .slice none 0 0, .pointer none, .int .u64 1, .slice none 0 0, .pointer none, .map (some (w.heap.size + 1)), .map none] 101)) (w.heap.size + 1 + 1) 101 #[.slice none 0 0, .map (some w.heap.size), .slice none 0 0, .pointer none, .int .u64 1, .slice none 0 0, .pointer none, .map (some (w.heap.size + 1)), .map none]) := Lib.hid (by have := Blk.mk_new ((w.alloc (.map #[] 0)).alloc (.map #[] 0)) 101 #[.slice none 0 0, .map (some w.heap.size), .slice none 0 0, .pointer none, .int .u64 1, .slice none 0 0, .pointer none, .map (some (w.heap.size + 1)), .map none]; rw [World.size_alloc, World.size_alloc] at this; exact this)
  have HN0 : Hid (New w (((w.alloc (.map #[] 0)).alloc (.map #[] 0)).alloc (.cells #[.slice none 0 0, .map (some w.heap.size), .slice none 0 0, .pointer none, .int .u64 1, .slice none 0 0, .pointer none, .map (some (w.heap.size + 1)), .map none] 101))) := Lib.hid ((((New.refl w).alloc _).alloc _).alloc _)
  have HNM := Lib.hid hnm
  clear hg0 hw0 hn2 hnm
  have hmk := @run_makeMap Tryz.prog
  go_enter Tryz.func35, Tryz.ntmps35
  go_upto_region 4 with fail
  clear hmk
  generalize ((w.alloc _).alloc _).alloc _ = W0 at *
  obtain ⟨up, hup⟩ : ∃ up, w.heap.size + 1 + 1 = up := ⟨_, rfl⟩
  rw [hup] at HB0 ⊢
  have HUP := Lib.hid hup
  clear hup
  have g0 := HB0.out.lt
  have gz := HB0.out.frozen
  go_wp2_with fail
  refine (D.gnew 3 (by decide) (by decide) W0).mono ?_
  rintro e w1 ⟨gp, GL, rfl, hgp, hge, hn1⟩
  have HS0 : Hid (w.heap.size + 2 < W0.heap.size) := Lib.hid (by have := HUP.out; omega)
  obtain ⟨G, hgr, hG⟩ := GrAt.of (G := fun k => W0.heap.size ≤ k) ⟨GL, hgp, hge, fun k hk => Nat.le_trans hn1.size hk, zero_okG⟩
  have hb1 := HB0.out.new hn1
  have hu2 : Upd (· = up) w1 (w1.setCell ⟨up, 3, none⟩ (.pointer (some ⟨gp, 0, none⟩))) := (Upd.refl _ w1).setIn 3 _
  have HB2 := Lib.hid (hb1.set_ 3 (.pointer (some ⟨gp, 0, none⟩)))
  have HGR2 := Lib.hid (hgr.upd hu2 (fun k hk e => by have := hG k hk; have := HUP.out; have := HS0.out; omega))
  have HG2 := Lib.hid ((HG0.out.new hn1).upd hu2 (fun e => Blk.ne_map HB0.out HG0.out e.symm))
  have HW2 := Lib.hid ((HW0.out.new hn1).upd hu2 (fun e => Blk.ne_map HB0.out HW0.out e.symm))
  have HN2 : Hid (New w (w1.setCell ⟨up, 3, none⟩ (.pointer (some ⟨gp, 0, none⟩)))) := Lib.hid ((HN0.out.trans hn1).upd hu2 (fun k e => by have := HUP.out; omega))
  have HGG := Lib.hid hG
  have HS1 : Hid (W0.heap.size ≤ (w1.setCell ⟨up, 3, none⟩ (.pointer (some ⟨gp, 0, none⟩))).heap.size) := Lib.hid (by rw [World.size_setCell]; exact hn1.size)
  have g1 := hb1.lt
  have gz1 := hb1.frozen
  have c1 := hb1.cell 3
  simp at c1
  clear hgp hge hn1 hgr hG hb1 hu2 g0 gz
  go_upto_region 5 with fail
  generalize w1.setCell _ _ = w2 at *
  have g2 := HB2.out.lt
  have gz2 := HB2.out.frozen
  clear g1 gz1 c1
  go_wp2_with fail
  refine (D.bnew w2).mono ?_
  rintro e w3 ⟨rfl, hbg3, hn3⟩
  have hb3 := HB2.out.new hn3
  have hu4 : Upd (· = up) w3 (w3.setCell ⟨up, 6, none⟩ (.pointer (some ⟨w2.heap.size, 0, none⟩))) := (Upd.refl _ w3).setIn 6 _
  have hbn : w2.heap.size ≠ up := by omega
  have HB4 := Lib.hid (hb3.set_ 6 (.pointer (some ⟨w2.heap.size, 0, none⟩)))
  have HGR4 := Lib.hid ((HGR2.out.upd (S := fun _ => False) (Upd.new hn3) (fun _ _ h => h)).upd hu4 (fun k hk e => by have := HGG.out k hk; have := HUP.out; have := HS0.out; omega))
  have HG4 := Lib.hid ((HG2.out.new hn3).upd hu4 (fun e => Blk.ne_map HB0.out HG0.out e.symm))
  have HW4 := Lib.hid ((HW2.out.new hn3).upd hu4 (fun e => Blk.ne_map HB0.out HW0.out e.symm))
  have HBG4 := Lib.hid (hbg3.upd hu4 (fun k hk e => by rcases hk with hk | hk; omega; cases hk))
  have HN4 : Hid (New w (w3.setCell ⟨up, 6, none⟩ (.pointer (some ⟨w2.heap.size, 0, none⟩)))) := Lib.hid ((HN2.out.trans hn3).upd hu4 (fun k e => by have := HUP.out; omega))
  have hpa := PAt.start (n := n) (b0 := w.heap.size) HB4.out HG4.out HW4.out HGR4.out HBG4.out (by omega) (fun k hk => by have := HGG.out k hk; have := HUP.out; have := HS0.out; have := (HGR2.out.2.2 k hk).1; exact ⟨by omega, by omega, by omega, by omega, by omega⟩) (by omega) (by omega) (by have := HUP.out; omega) (by have := HS1.out; have := HS0.out; omega)
  have g3 := hb3.lt
  have gz3 := hb3.frozen
  have c3 := hb3.cell 6
  simp at c3
  clear hb3 hu4 hbg3 hn3 g2 gz2
  obtain ⟨L0, l1, l2, l3, l4, l5, hp0⟩ := hpa
  have HP0 := Lib.hid hp0
  have HL0 := Lib.hid (show L0.n = 0 ∧ L0.m = 0 ∧ L0.fv = .slice none 0 0 ∧ L0.rv = .slice none 0 0 ∧ L0.cv = .slice none 0 0 from ⟨l1, l2, l3, l4, l5⟩)
  clear l1 l2 l3 l4 l5 hp0 HB4 HGR4 HG4 HW4 HBG4 HB2 HGR2 HG2 HW2 HB0 HG0 HW0 HGG
  go_upto_region 6 with fail
  generalize w3.setCell _ _ = w4 at *
  clear g3 gz3 hbn c3
  have hn5 : n ≤ 5 := HNM.out.2.1
  have hm4 : m ≤ 4 := HNM.out.2.2.2
  go_wp2_with fail
  go_loopw [44] (fun idx wr => ∃ (k : Nat) (L : CuL), idx = .int .i64 (k : Int) ∧ k ≤ n ∧ PAt wr w.heap.size up L (Clu.part n 0 0) ((List.range k).map fun (i : Nat) => (i : Int)) (.map none) ∧ (L.n = 0 ∧ L.m = 0 ∧ L.rv = .slice none 0 0 ∧ L.cv = .slice none 0 0) ∧ New w wr) (fun idx _ => n - (intOf idx).toNat)
  case atStart => exact ⟨0, L0, rfl, Nat.zero_le _, HP0.out, ⟨HL0.out.1, HL0.out.2.1, HL0.out.2.2.2.1, HL0.out.2.2.2.2⟩, HN4.out⟩
  case round =>
    obtain ⟨k, L1, rfl, hk, hp1, hl1, hnw⟩ := hrel
    have hk0 : (0 : Int) ≤ (k : Int) := by omega
    have HP1 := Lib.hid hp1
    have HL1 := Lib.hid hl1
    have HNW := Lib.hid hnw
    clear hp1 hl1 hnw HP0 HL0 HN4
    by_cases hlt : k < n
    · have hlt2 : (k : Int) < (n : Int) := by omega
      have g0 := HP1.out.blk.lt
      have gz := HP1.out.blk.frozen
      have c5 : wr.cell? ⟨up, 5, none⟩ = some L1.fv := HP1.out.blk.cell 5
      have hn5 := (New.refl wr).alloc (.cells #[.int .i64 (k : Int)] 3)
      have HN5 := Lib.hid hn5
      have HPB := Lib.hid (Blk.mk_new wr 3 #[.int .i64 (k : Int)])
      have HRW := Lib.hid (HP1.out.fv.new hn5)
      have HLEN : Hid (((List.range k).map fun (i : Nat) => (i : Int)).length = k) := Lib.hid (by simp)
      clear hn5
      go_wp2_with (at_builtin; refine wpList_appR (m := [(k : Int)]) iTy iEncOk rfl _ _ rfl rfl rfl HRW.out (SlIn.one HPB.out iEncOk rfl) (by rw [HLEN.out]; simp only [List.length_singleton]; unfold maxLen; omega) (by rw [HLEN.out]; simp only [List.length_singleton]; omega) (by have := HNW.out.size; have := HN5.out.size; omega) ?_; intro v6 w6 h6 hg6 hv6; obtain ⟨A6, n6, q6, hvv⟩ := h6.shp; subst hvv; have hbk := (HP1.out.blk.new HN5.out).grown hg6 (fun e => HP1.out.fv.ne_blk HP1.out.blk (by decide) e.symm); have d5 : w6.cell? ⟨up, 5, none⟩ = some L1.fv := hbk.cell 5; have gd := hbk.lt; have gzd := hbk.frozen; have H6 := Lib.hid h6; have HG6 := Lib.hid hg6; clear h6 hg6 hv6 hbk)
      have HPU : Hid (PAt (w6.setCell ⟨up, 5, none⟩ (.slice A6 n6 q6)) w.heap.size up { L1 with fv := .slice A6 n6 q6 } (Clu.part n 0 0) ((List.range (k + 1)).map fun (i : Nat) => (i : Int)) (.map none)) := Lib.hid (by
        have := (HP1.out.new HN5.out).pushF HL1.out.1 H6.out HG6.out (Nat.le_trans HNW.out.size HN5.out.size)
        rw [range_snoc]
        exact this)
      have HNX : Hid (New w (w6.setCell ⟨up, 5, none⟩ (.slice A6 n6 q6))) := Lib.hid ((HNW.out.trans HN5.out).upd (((Upd.refl (fun j => j = up ∨ L1.fv.ownBlock = some j) _).grown HG6.out (fun j _ e => .inr e)).setCell (fun _ => .inl rfl) _) (fun j hj => by
        rcases hj with e | e
        · have := HUP.out; omega
        · exact (HP1.out.fv.lt j e).1))
      clear d5 gd gzd
      go_wp2_with fail
      refine ⟨⟨k + 1, _, by go_num, by omega, HPU.out, HL1.out, HNX.out⟩, ?_⟩
      simp [intOf]; omega
    · have hkn : n = k := by omega
      subst hkn
      have HPF : Hid (PAt wr w.heap.size up L1 (Clu.part n 0 0) (firstC n).ms (.map none)) := HP1
      have hn1 : 1 ≤ n := HNM.out.1
      have hm4 : m ≤ 4 := HNM.out.2.2.2
      obtain ⟨W1, hW1⟩ : ∃ W1, W1 = wr := ⟨_, rfl⟩
      rw [← hW1] at HPF HNW ⊢
      clear hW1 HP1 wr hk hk0 hlt
      go_wp2_with fail
      go_loopw [61] (fun idx wr => ∃ (k : Nat) (L : CuL), idx = .int .i64 (k : Int) ∧ k ≤ n ∧ PAt wr w.heap.size up L (Clu.part n k 0) (firstC n).ms (.map none) ∧ (L.n = k ∧ L.m = 0 ∧ L.cv = .slice none 0 0) ∧ New w wr) (fun idx _ => n - (intOf idx).toNat)
      case atStart => exact ⟨0, L1, rfl, Nat.zero_le _, HPF.out, ⟨HL1.out.1, HL1.out.2.1, HL1.out.2.2.2⟩, HNW.out⟩
      case round =>
        obtain ⟨k, L2, rfl, hk, hp2, hl2, hnw⟩ := hrel
        have hk0 : (0 : Int) ≤ (k : Int) := by omega
        have HP2 := Lib.hid hp2
        have HL2 := Lib.hid hl2
        clear HNW
        have HNW := Lib.hid hnw
        clear hp2 hl2 hnw HPF HL1
        by_cases hlt : k < n
        · have hlt2 : (k : Int) < (n : Int) := by omega
          have g0 := HP2.out.blk.lt
          have gz := HP2.out.blk.frozen
          have HRV : Hid (Row wr 0 37 1 pE L2.rv ((List.range k).map L2.rp)) := Lib.hid (by have := HP2.out.pt .rv (by simp) (by simp); rw [← HL2.out.1]; exact this)
          have HQ : Hid (¬ L2.rv.ownBlock = some up) := Lib.hid (fun e => HRV.out.ne_blk HP2.out.blk (by decide) e)
          have HLN : Hid (((List.range k).map L2.rp).length ≤ 5) := Lib.hid (by simp; omega)
          have c0 : wr.cell? ⟨up, 0, none⟩ = some L2.rv := HP2.out.blk.cell 0
          have c4 : wr.cell? ⟨up, 4, none⟩ = some (.int .u64 1) := HP2.out.blk.cell 4
          have c5 : wr.cell? ⟨up, 5, none⟩ = some L2.fv := HP2.out.blk.cell 5
          go_upto_region 14 with fail
          refine wp_region_z [13, 14, 15] (fun w' => w'.cell? ⟨up, 0, none⟩ = some L2.rv ∧ w'.cell? ⟨up, 4, none⟩ = some (.int .u64 1) ∧ w'.cell? ⟨up, 5, none⟩ = some L2.fv) (by kernel_rfl) (⟨c0, c4, c5⟩) (fun hHeld => ?_)
          refine tkZN (i := 0) rfl ?_
          try simp only [Act.put, sA, sZ, sS]
          refine tkZN (i := 1) rfl ?_
          try simp only [Act.put, sA, sZ, sS]
          refine tkZN (i := 2) rfl ?_
          try simp only [Act.put, sA, sZ, sS]
          refine tkZN (i := 3) rfl ?_
          try simp only [Act.put, sA, sZ, sS]
          refine tkZN (i := 4) rfl ?_
          try simp only [Act.put, sA, sZ, sS]
          refine tkZN (i := 5) rfl ?_
          try simp only [Act.put, sA, sZ, sS]
          refine tkZN (i := 6) rfl ?_
          try simp only [Act.put, sA, sZ, sS]
          refine tkZN (i := 7) rfl ?_
          try simp only [Act.put, sA, sZ, sS]
          refine tkZN (i := 8) rfl ?_
          try simp only [Act.put, sA, sZ, sS]
          refine tkZN (i := 9) rfl ?_
          try simp only [Act.put, sA, sZ, sS]
          refine stZN (i := 10) rfl (fun K hK => ?_)
          go_simp
          refine (rnew0 (k := k) ⟨hn1, hn5⟩ ((HP2.out.fv.slIn iEncOk).new (New.refl wr).drew)).mono ?_
          rintro e wa ⟨g, l, rfl, hra, hfa, hna⟩
          have HNA : Hid (New wr wa) := Lib.hid ((New.refl wr).drew.trans hna)
          have HRA := Lib.hid hra
          have HFA : Hid (∀ j, RpF g l j → wr.heap.size ≤ j) := Lib.hid hfa
          have d0 := (HNA.out.cells.1 _ _ g0).trans c0
          have d4 := (HNA.out.cells.1 _ _ g0).trans c4
          have d5 := (HNA.out.cells.1 _ _ g0).trans c5
          clear hra hfa hna
          refine hK.out _ _ ?_ (fun hHeld => ?_)
          · exact ⟨d0, d4, d5⟩
          clear hK K
          try simp only [Act.put, sA, sZ, sS]
          refine stZN (i := 11) rfl (fun K hK => ?_)
          go_simp
          have HNB : Hid (New wa (wa.alloc (.cells #[.pointer (some ⟨g, 0, none⟩)] 37))) := Lib.hid ((New.refl wa).alloc _)
          have HPB : Hid (Blk (wa.alloc (.cells #[.pointer (some ⟨g, 0, none⟩)] 37)) wa.heap.size 37 #[.pointer (some ⟨g, 0, none⟩)]) := Lib.hid (Blk.mk_new wa _ _)
          generalize wa.alloc (.cells #[.pointer (some ⟨g, 0, none⟩)] 37) = wb at *
          have e0 := (HNB.out.cells.1 _ _ (Nat.lt_of_lt_of_le g0 HNA.out.size)).trans d0
          have e4 := (HNB.out.cells.1 _ _ (Nat.lt_of_lt_of_le g0 HNA.out.size)).trans d4
          have e5 := (HNB.out.cells.1 _ _ (Nat.lt_of_lt_of_le g0 HNA.out.size)).trans d5
          refine hK.out _ _ ?_ (fun hHeld => ?_)
          · exact ⟨e0, e4, e5⟩
          clear hK K
          try simp only [Act.put, sA, sZ, sS]
          refine stZN (i := 12) rfl (fun K hK => ?_)
          refine step_appR (v := L2.rv) (vx := .slice (some ⟨wa.heap.size, 0, none⟩) 1 1) (m := [g]) prTy pEok rfl (.tmp 68) (.tmp 75) rfl rfl rfl ((HRV.out.new HNA.out).new HNB.out) (SlIn.one (x := g) HPB.out pEok rfl) (by have := HLN.out; simp only [List.length_singleton]; unfold maxLen; omega) (by have := HLN.out; simp only [List.length_singleton]; omega) (Nat.zero_le _) ?_
          intro v7 w7 h7 hg7 hv7
          have HU7 : Hid (Upd (fun j => (L2.rv : Value).ownBlock = some j) wb w7) := Lib.hid ((Upd.refl _ wb).grown hg7 (fun j _ e => e))
          obtain ⟨A7, n7, q7, hvv⟩ := h7.shp
          subst hvv
          have H7 := Lib.hid h7
          have HG7 := Lib.hid hg7
          have HV7 := Lib.hid hv7
          have gb := Nat.lt_of_lt_of_le (Nat.lt_of_lt_of_le g0 HNA.out.size) HNB.out.size
          have f0 := (keepR HU7.out gb HQ.out _).trans e0
          have f4 := (keepR HU7.out gb HQ.out _).trans e4
          have f5 := (keepR HU7.out gb HQ.out _).trans e5
          have gc := Nat.lt_of_lt_of_le gb HU7.out.size
          have gzc : ∀ i, w7.frozen? ⟨up, i, none⟩ = false := ((((HP2.out.blk.new HNA.out).new HNB.out).grown hg7 (fun e => HQ.out e.symm))).frozen
          clear h7 hg7 hv7
          refine hK.out _ _ ?_ (fun hHeld => ?_)
          · exact ⟨f0, f4, f5⟩
          clear hK K
          try simp only [Act.put, sA, sZ, sS]
          refine stZZ (i := 13) rfl (fun K hK => ?_)
          go_simp
          refine hK.out _ _ ?_
          clear hK K
          try simp only [Act.put, sA, sZ, sS]
          refine stZZ (i := 14) rfl (fun K hK => ?_)
          go_simp
          refine hK.out _ _ ?_
          clear hK K
          try simp only [Act.put, sA, sZ, sS]
          refine stZZ (i := 15) rfl (fun K hK => ?_)
          go_simp
          refine hK.out _ _ ?_
          clear hK K
          try simp only [Act.put, sA, sZ, sS]
          refine wpZ_done (by kernel_rfl) ?_ _
          clear hHeld f0 f4 f5 e0 e4 e5 d0 d4 d5 gb gc gzc
          have HPU : Hid (PAt (w7.setCell ⟨up, 0, none⟩ (.slice A7 n7 q7)) w.heap.size up { L2 with n := k + 1, rv := .slice A7 n7 q7, rp := setD L2.rp k g, rl := setD L2.rl k l } (Clu.part n (k + 1) 0) (firstC n).ms (.map none)) := Lib.hid (HP2.out.pushR HL2.out.1 HNA.out HRA.out HFA.out HNB.out H7.out HG7.out HV7.out HNW.out.size)
          have HNX : Hid (New w (w7.setCell ⟨up, 0, none⟩ (.slice A7 n7 q7))) := Lib.hid (((HNW.out.trans HNA.out).trans HNB.out).upd (((Upd.refl (fun j => j = up ∨ L2.rv.ownBlock = some j) _).grown HG7.out (fun j _ e => .inr e)).setCell (fun _ => .inl rfl) _) (fun j hj => by
            rcases hj with e | e
            · have := HUP.out; omega
            · exact HP2.out.nw .rv (by simp) j e))
          go_wp2_with fail
          refine ⟨⟨k + 1, _, by go_num, by omega, HPU.out, ⟨rfl, HL2.out.2.1, HL2.out.2.2⟩, HNX.out⟩, ?_⟩
          simp [intOf]; omega
        · have hkn : n = k := by omega
          subst hkn
          obtain ⟨W1, hW1⟩ : ∃ W1, W1 = wr := ⟨_, rfl⟩
          rw [← hW1] at HP2 HNW ⊢
          clear hW1 wr hk hk0 hlt
          have HPF := HP2
          clear HP2
          go_wp2_with fail
          go_loopw [81] (fun idx wr => ∃ (k : Nat) (L : CuL), idx = .int .i64 (k : Int) ∧ k ≤ m ∧ PAt wr w.heap.size up L (Clu.part n n k) (firstC n).ms (.map none) ∧ (L.n = n ∧ L.m = k) ∧ New w wr) (fun idx _ => m - (intOf idx).toNat)
          case atStart => exact ⟨0, L2, rfl, Nat.zero_le _, HPF.out, ⟨HL2.out.1, HL2.out.2.1⟩, HNW.out⟩
          case round =>
            obtain ⟨k, L3, rfl, hk, hp2, hl3, hnw⟩ := hrel
            have hk0 : (0 : Int) ≤ (k : Int) := by omega
            have HP2 := Lib.hid hp2
            have HL3 := Lib.hid hl3
            clear HNW
            have HNW := Lib.hid hnw
            clear hp2 hl3 hnw HPF HL2
            by_cases hlt : k < m
            · have hlt2 : (k : Int) < (m : Int) := by omega
              have g0 := HP2.out.blk.lt
              have gz := HP2.out.blk.frozen
              have HRV : Hid (Row wr 0 79 1 pE L3.cv ((List.range k).map L3.cp)) := Lib.hid (by have := HP2.out.pt .cv (by simp) (by simp); rw [← HL3.out.2]; exact this)
              have HQ : Hid (¬ L3.cv.ownBlock = some up) := Lib.hid (fun e => HRV.out.ne_blk HP2.out.blk (by decide) e)
              have HLN : Hid (((List.range k).map L3.cp).length ≤ 5) := Lib.hid (by simp; omega)
              have c2 : wr.cell? ⟨up, 2, none⟩ = some L3.cv := HP2.out.blk.cell 2
              go_upto_region 19 with fail
              refine wp_region_z [10, 11, 12] (fun w' => w'.cell? ⟨up, 2, none⟩ = some L3.cv) (by kernel_rfl) (c2) (fun hHeld => ?_)
              refine tkZN (i := 0) rfl ?_
              try simp only [Act.put, sA, sZ, sS]
              refine tkZN (i := 1) rfl ?_
              try simp only [Act.put, sA, sZ, sS]
              refine tkZN (i := 2) rfl ?_
              try simp only [Act.put, sA, sZ, sS]
              refine tkZN (i := 3) rfl ?_
              try simp only [Act.put, sA, sZ, sS]
              refine tkZN (i := 4) rfl ?_
              try simp only [Act.put, sA, sZ, sS]
              refine tkZN (i := 5) rfl ?_
              try simp only [Act.put, sA, sZ, sS]
              refine tkZN (i := 6) rfl ?_
              try simp only [Act.put, sA, sZ, sS]
              refine stZN (i := 7) rfl (fun K hK => ?_)
              go_simp
              rw [show IntKind.u64.wrap (k : Int) = (k : Int) by rw [IntKind.wrap_u64]; omega]
              refine (cnew k wr.drew).mono ?_
              rintro e wa ⟨rfl, hra, hna⟩
              have HNA : Hid (New wr wa) := Lib.hid ((New.refl wr).drew.trans hna)
              have HRA := Lib.hid hra
              have d2 := (HNA.out.cells.1 _ _ g0).trans c2
              obtain ⟨g, hg0⟩ : ∃ g, wr.drew.heap.size = g := ⟨_, rfl⟩
              rw [hg0]
              rw [hg0] at HRA
              have HGS := Lib.hid (show wr.heap.size = g from hg0)
              clear hra hna hg0
              refine hK.out _ _ ?_ (fun hHeld => ?_)
              · exact d2
              clear hK K
              try simp only [Act.put, sA, sZ, sS]
              refine stZN (i := 8) rfl (fun K hK => ?_)
              go_simp
              have HNB : Hid (New wa (wa.alloc (.cells #[.pointer (some ⟨g, 0, none⟩)] 79))) := Lib.hid ((New.refl wa).alloc _)
              have HPB : Hid (Blk (wa.alloc (.cells #[.pointer (some ⟨g, 0, none⟩)] 79)) wa.heap.size 79 #[.pointer (some ⟨g, 0, none⟩)]) := Lib.hid (Blk.mk_new wa _ _)
              generalize wa.alloc (.cells #[.pointer (some ⟨g, 0, none⟩)] 79) = wb at *
              have e2 := (HNB.out.cells.1 _ _ (Nat.lt_of_lt_of_le g0 HNA.out.size)).trans d2
              refine hK.out _ _ ?_ (fun hHeld => ?_)
              · exact e2
              clear hK K
              try simp only [Act.put, sA, sZ, sS]
              refine stZN (i := 9) rfl (fun K hK => ?_)
              refine step_appR (v := L3.cv) (vx := .slice (some ⟨wa.heap.size, 0, none⟩) 1 1) (m := [g]) pcTy pEok rfl (.tmp 88) (.tmp 92) rfl rfl rfl ((HRV.out.new HNA.out).new HNB.out) (SlIn.one (x := g) HPB.out pEok rfl) (by have := HLN.out; simp only [List.length_singleton]; unfold maxLen; omega) (by have := HLN.out; simp only [List.length_singleton]; omega) (Nat.zero_le _) ?_
              intro v7 w7 h7 hg7 hv7
              have HU7 : Hid (Upd (fun j => (L3.cv : Value).ownBlock = some j) wb w7) := Lib.hid ((Upd.refl _ wb).grown hg7 (fun j _ e => e))
              obtain ⟨A7, n7, q7, hvv⟩ := h7.shp
              subst hvv
              have H7 := Lib.hid h7
              have HG7 := Lib.hid hg7
              have HV7 := Lib.hid hv7
              have gb := Nat.lt_of_lt_of_le (Nat.lt_of_lt_of_le g0 HNA.out.size) HNB.out.size
              have f2 := (keepR HU7.out gb HQ.out _).trans e2
              have gc := Nat.lt_of_lt_of_le gb HU7.out.size
              have gzc : ∀ i, w7.frozen? ⟨up, i, none⟩ = false := ((((HP2.out.blk.new HNA.out).new HNB.out).grown hg7 (fun e => HQ.out e.symm))).frozen
              clear h7 hg7 hv7
              refine hK.out _ _ ?_ (fun hHeld => ?_)
              · exact f2
              clear hK K
              try simp only [Act.put, sA, sZ, sS]
              refine stZZ (i := 10) rfl (fun K hK => ?_)
              go_simp
              refine hK.out _ _ ?_
              clear hK K
              try simp only [Act.put, sA, sZ, sS]
              refine stZZ (i := 11) rfl (fun K hK => ?_)
              go_simp
              refine hK.out _ _ ?_
              clear hK K
              try simp only [Act.put, sA, sZ, sS]
              refine stZZ (i := 12) rfl (fun K hK => ?_)
              go_simp
              refine hK.out _ _ ?_
              clear hK K
              try simp only [Act.put, sA, sZ, sS]
              refine wpZ_done (by kernel_rfl) ?_ _
              clear hHeld f2 e2 d2 gb gc gzc
              have HPU : Hid (PAt (w7.setCell ⟨up, 2, none⟩ (.slice A7 n7 q7)) w.heap.size up { L3 with m := k + 1, cv := .slice A7 n7 q7, cp := setD L3.cp k g, cl := setD L3.cl k ⟨g, none, 0⟩ } (Clu.part n n (k + 1)) (firstC n).ms (.map none)) := Lib.hid (HP2.out.pushC HL3.out.2 HNA.out HRA.out (fun j hj => by have := HGS.out; rcases hj with e | e <;> (first | (subst e; omega) | (dsimp only at e; omega))) HNB.out H7.out HG7.out HV7.out HNW.out.size)
              have HNX : Hid (New w (w7.setCell ⟨up, 2, none⟩ (.slice A7 n7 q7))) := Lib.hid (((HNW.out.trans HNA.out).trans HNB.out).upd (((Upd.refl (fun j => j = up ∨ L3.cv.ownBlock = some j) _).grown HG7.out (fun j _ e => .inr e)).setCell (fun _ => .inl rfl) _) (fun j hj => by
                rcases hj with e | e
                · have := HUP.out; omega
                · exact HP2.out.nw .cv (by simp) j e))
              go_wp2_with fail
              refine ⟨⟨k + 1, _, by go_num, by omega, HPU.out, ⟨HL3.out.1, rfl⟩, HNX.out⟩, ?_⟩
              simp [intOf]; omega
            · have hkn : m = k := by omega
              subst hkn
              obtain ⟨W1, hW1⟩ : ∃ W1, W1 = wr := ⟨_, rfl⟩
              rw [← hW1] at HP2 HNW ⊢
              clear hW1 wr hk hk0 hlt
              have g0 := HP2.out.blk.lt
              have gz := HP2.out.blk.frozen
              have HPG : Hid (PAt W1 w.heap.size up L3 (Clu.part n n m) (firstC n).ms (.map none)) := HP2
              have HBK : Hid (Blk W1 up 101 (PaCells L3 (.map none))) := Lib.hid HP2.out.blk
              have hm0 : D.MpI (W1.alloc (.map #[] 0)) W1.heap.size 0 (fun _ => none) := MpAt.made _ _ _ _ W1
              have HM0 := Lib.hid hm0
              have HNA : Hid (New W1 (W1.alloc (.map #[] 0))) := Lib.hid ((New.refl W1).alloc _)
              clear hm0
              have hmk := @run_makeMap Tryz.prog
              obtain ⟨w5, hrun5, hm5, hu5⟩ := mpPutR D.keyI64 HM0.out Tryz.underlying99 (by decide) (0 : Int) (show (Lit.int .i64 0).wf = true by decide) (.agg #[.func (.func 81) #[.pointer (some ⟨up, 0, none⟩)] #[]])
              have HM5 : Hid (D.MpI w5 W1.heap.size 1 _) := Lib.hid hm5
              have HU5 := Lib.hid hu5
              clear hm5 hu5
              obtain ⟨w6, hrun6, hm6, hu6⟩ := mpPutR D.keyI64 HM5.out Tryz.underlying99 (by decide) (1 : Int) (show (Lit.int .i64 1).wf = true by decide) (.agg #[.func (.func 82) #[.pointer (some ⟨up, 0, none⟩)] #[]])
              have HM6 : Hid (D.MpI w6 W1.heap.size 2 _) := Lib.hid hm6
              have HU6 := Lib.hid hu6
              clear hm6 hu6
              obtain ⟨w7, hrun7, hm7, hu7⟩ := mpPutR D.keyI64 HM6.out Tryz.underlying99 (by decide) (2 : Int) (show (Lit.int .i64 2).wf = true by decide) (.agg #[.func (.func 83) #[.pointer (some ⟨up, 0, none⟩)] #[]])
              have HM7 : Hid (D.MpI w7 W1.heap.size 3 _) := Lib.hid hm7
              have HU7 := Lib.hid hu7
              clear hm7 hu7
              have HUA : Hid (Upd (· = W1.heap.size) (W1.alloc (.map #[] 0)) w7) := Lib.hid ((HU5.out.trans HU6.out (fun _ _ e => e)).trans HU7.out (fun _ _ e => e))
              have HNE : Hid (up ≠ W1.heap.size) := Lib.hid (by omega)
              have HB7 := Lib.hid ((HBK.out.new HNA.out).upd HUA.out HNE.out)
              have c7 : w7.cell? ⟨up, 7, none⟩ = some (.map (some L3.wm)) := HB7.out.cell 7
              have c8 : w7.cell? ⟨up, 8, none⟩ = some (.map none) := HB7.out.cell 8
              have g7 := HB7.out.lt
              have gz7 := HB7.out.frozen
              have HD7 : Hid (D.MpI w7 W1.heap.size 3 (doesV up)) := Lib.hid (by
                have h := HM7.out
                have e : (fun j : Int => if j = 2 then some (Value.agg #[.func (.func 83) #[.pointer (some ⟨up, 0, none⟩)] #[]]) else if j = 1 then some (Value.agg #[.func (.func 82) #[.pointer (some ⟨up, 0, none⟩)] #[]]) else if j = 0 then some (Value.agg #[.func (.func 81) #[.pointer (some ⟨up, 0, none⟩)] #[]]) else none) = doesV up := by
                  funext j
                  unfold doesV
                  by_cases h0 : j = 0
                  · subst h0; rfl
                  by_cases h1 : j = 1
                  · subst h1; rfl
                  by_cases h2 : j = 2
                  · subst h2; rfl
                  simp [h0, h1, h2]
                rw [← e]
                exact h)
              clear HM0 HM5 HM6 HM7
              go_wp2_with fail
              have hu8 : Upd (· = up) w7 (w7.setCell ⟨up, 8, none⟩ (.map (some W1.heap.size))) := (Upd.refl _ w7).setIn 8 _
              have hua : Upd (· = up) W1 (w7.setCell ⟨up, 8, none⟩ (.map (some W1.heap.size))) := ((Upd.new (S := (· = up)) HNA.out).trans HUA.out (fun k hlt e => by omega)).trans hu8 (fun _ _ e => e)
              have hdn := PAt.done HPG.out HL3.out HNM.out (Nat.le_refl _) HNW.out.size hua (HD7.out.upd hu8 (fun e => HNE.out e.symm)) (HB7.out.set_ 8 (.map (some W1.heap.size)))
              have hnw := ((HNW.out.trans HNA.out).upd HUA.out (fun i e => by have := HNW.out.size; omega)).upd hu8 (fun i e => by have := HUP.out; omega)
              go_ret2
              exact ⟨up, _, rfl, hdn.1, HL3.out.1, HL3.out.2, hdn.2, hnw⟩
end
end Go.Proofs.YtlhlcdjkacglnaaGreatDoor
/- Chapter 26 (cluster), plain: what holds of all numbers holds after each act. -/
namespace Go.Proofs.YtlhlcdjkacglnaaGreatDoor
open Go.RowKit Go.Lap C
set_option linter.unusedVariables false
set_option linter.unusedSimpArgs false
/-- All batches of a replica are as they may be. -/
structure RpG (x : Rpl) : Prop where
  l : ∀ b ∈ x.l, b.Ok
  out : ∀ n ∈ x.out, n.b.Ok
section
variable {x : Rpl}
theorem RpG.send (h : RpG x) (ds k : Int) (t : Nat) {b : Btc} (hb : b.Ok) : RpG (x.send ds k t b) := ⟨h.l, fun n hn => by
  rcases List.mem_append.1 hn with hn | hn
  · exact h.out n hn
  · rw [List.mem_singleton] at hn; subst hn; exact hb⟩
theorem RpG.tell (h : RpG x) : RpG x.tell := by unfold Rpl.tell; split; exact h.send _ _ _ Btc.none_ok; exact h
theorem RpG.ask (h : RpG x) : RpG x.ask := by unfold Rpl.ask; split; exact h.send _ _ _ Btc.none_ok; exact h
theorem RpG.cleaned (h : RpG x) (t : Nat) : RpG (x.cleaned t) := by unfold Rpl.cleaned; exact RpG.tell ⟨h.l, h.out⟩
theorem RpG.added (h : RpG x) {b : Btc} (hb : b.Ok) : RpG (x.added b) := by
  have h2 : RpG { x with l := x.l ++ [b] } := ⟨fun c hc => by
    rcases List.mem_append.1 hc with hc | hc
    · exact h.l c hc
    · rw [List.mem_singleton] at hc; subst hc; exact hb, h.out⟩
  unfold Rpl.added
  dsimp only
  split
  · exact h2.send _ _ _ hb
  · exact h2.cleaned _
theorem RpG.jdg (h : RpG x) (j : Jd) : RpG { x with j := j } := ⟨h.l, h.out⟩
theorem RpG.some_ (h : RpG x) (ds : Int) (t : Nat) : RpG (x.some_ ds t) := by
  unfold Rpl.some_
  have hg : ∀ i : Nat, ((x.l[i]?).getD Btc.none).Ok := fun i => by
    cases hb : x.l[i]? with
    | none => exact Btc.none_ok
    | some b => exact h.l b (List.mem_of_getElem? hb)
  have hgo : ∀ (l : List Nat) (y : Rpl), RpG y → RpG (l.foldl (fun y i => if 1 ≤ t ∧ t + i ≤ x.la then y.send ds 0 (t + i) ((x.l[t + i - 1]?).getD Btc.none) else y) y) := by
    intro l
    induction l with
    | nil => intro y hy; exact hy
    | cons i l ih =>
      intro y hy
      rw [List.foldl_cons]
      apply ih
      split
      · exact hy.send _ _ _ (hg _)
      · exact hy
  exact hgo _ x h
theorem RpG.submit (h : RpG x) {b : Btc} (hb : b.Ok) : RpG (x.submit b).1 := by
  unfold Rpl.submit
  split
  · exact h
  · dsimp only
    split
    · exact (h.jdg _).added hb
    · exact h.jdg _
theorem RpG.receive (h : RpG x) {n : Nt} (hn : n.b.Ok) : RpG (x.receive n) := by
  unfold Rpl.receive
  split
  · exact h
  · split
    · split
      · unfold Rpl.forwarded
        split
        · split
          · exact h
          · exact (h.jdg _).added hn
        · split
          · exact h.ask
          · split
            · exact h.tell
            · exact h
      · split
        · unfold Rpl.acked
          split
          · exact h.cleaned _
          · exact h
        · exact h.some_ _ _
    · exact h
theorem RpG.tick (h : RpG x) : RpG x.tick := by
  have h2 : RpG (if (nextC x.cf x.id).2 = true then x.some_ (nextC x.cf x.id).1 (x.cl + 1) else x) := by
    split
    · exact h.some_ _ _
    · exact h
  unfold Rpl.tick
  apply RpG.ask
  generalize (if (nextC x.cf x.id).2 = true then x.some_ (nextC x.cf x.id).1 (x.cl + 1) else x) = y at *
  split
  · exact h2.tell
  · exact h2
/-! a replica's number and the judge's last timestamp -/
theorem tellI (x : Rpl) : x.tell.id = x.id := by unfold Rpl.tell; split <;> rfl
theorem askI (x : Rpl) : x.ask.id = x.id := by unfold Rpl.ask; split <;> rfl
theorem cleanedI (x : Rpl) (t : Nat) : (x.cleaned t).id = x.id := by unfold Rpl.cleaned; rw [tellI]
theorem addedI (x : Rpl) (b : Btc) : (x.added b).id = x.id := by
  unfold Rpl.added
  dsimp only
  split
  · rfl
  · rw [cleanedI]
theorem someI (x : Rpl) (ds : Int) (t : Nat) : (x.some_ ds t).id = x.id := by
  unfold Rpl.some_
  have hgo : ∀ (l : List Nat) (y : Rpl), y.id = x.id → (l.foldl (fun y i => if 1 ≤ t ∧ t + i ≤ x.la then y.send ds 0 (t + i) ((x.l[t + i - 1]?).getD Btc.none) else y) y).id = x.id := by
    intro l
    induction l with
    | nil => intro y hy; exact hy
    | cons i l ih =>
      intro y hy
      rw [List.foldl_cons]
      apply ih
      split
      · exact hy
      · exact hy
  exact hgo _ x rfl
theorem submitI (x : Rpl) (b : Btc) : (x.submit b).1.id = x.id := by
  unfold Rpl.submit
  split
  · rfl
  · dsimp only
    split
    · rw [addedI]
    · rfl
theorem receiveI (x : Rpl) (n : Nt) : (x.receive n).id = x.id := by
  unfold Rpl.receive
  split
  · rfl
  · split
    · split
      · unfold Rpl.forwarded
        split
        · split
          · rfl
          · rw [addedI]
        · split
          · rw [askI]
          · split
            · rw [tellI]
            · rfl
      · split
        · unfold Rpl.acked
          split
          · rw [cleanedI]
          · rfl
        · rw [someI]
    · rfl
theorem tickI (x : Rpl) : x.tick.id = x.id := by
  have h2 : (if (nextC x.cf x.id).2 = true then x.some_ (nextC x.cf x.id).1 (x.cl + 1) else x).id = x.id := by
    split
    · rw [someI]
    · rfl
  unfold Rpl.tick
  rw [askI]
  generalize (if (nextC x.cf x.id).2 = true then x.some_ (nextC x.cf x.id).1 (x.cl + 1) else x) = y at *
  split
  · rw [tellI, h2]
  · exact h2
theorem la_new (j : Jd) (b : Btc) : (j.new_ b).1.la ≤ j.la + 1 := by
  unfold Jd.new_
  split
  · exact Nat.le_succ _
  · split
    · exact Nat.le_succ _
    · split
      · exact Nat.le_succ _
      · exact Nat.le_refl _
theorem la_say (j : Jd) (b : Btc) : (j.say b).1.la ≤ j.la + 1 := by
  unfold Jd.say
  split
  · exact Nat.le_succ _
  · split
    · split
      · exact Nat.le_succ _
      · split
        · exact Nat.le_succ _
        · exact la_new j b
    · exact la_new j b
theorem submit_la (x : Rpl) (b : Btc) : (x.submit b).1.j.la ≤ x.j.la + 1 := by
  unfold Rpl.submit
  split
  · exact Nat.le_succ _
  · dsimp only
    split
    · rw [addedJ]; exact la_say _ _
    · exact la_say _ _
theorem submit_ll (x : Rpl) (b : Btc) : (x.submit b).1.l.length ≤ x.l.length + 1 := by
  have hc : ∀ (y : Rpl) (t : Nat), (y.cleaned t).l = y.l := fun y t => by unfold Rpl.cleaned Rpl.tell; split <;> rfl
  unfold Rpl.submit
  split
  · exact Nat.le_succ _
  · dsimp only
    split
    · unfold Rpl.added
      dsimp only
      split
      · simp [Rpl.send]
      · rw [hc]; simp
    · exact Nat.le_succ _
end
section
variable {w w' : World} {up B C m : Nat} {L : CuL} {x : Clu} {r : Rpl}
theorem BtRow.oks {base : Nat} {v : Value} {l : List Btc} (h : BtRow w base v l) : ∀ b ∈ l, b.Ok := by
  obtain ⟨ps, rfl, _, h3⟩ := h
  intro b hb
  obtain ⟨p, hp, rfl⟩ := List.mem_map.1 hb
  exact (h3 p hp).ok
theorem RpAt.good {rp : Nat} {l : RpL} (h : RpAt w rp B l r) (ho : r.out = []) : RpG r := ⟨BtRow.oks h.l, fun n hn => by rw [ho] at hn; cases hn⟩
/-- As CluOk, but one replica still has something to say. -/
structure CluPre (m B : Nat) (i : Nat) (x : Clu) : Prop where
  rp : ∀ (j : Nat) (r : Rpl), x.rs[j]? = some r → r.id = (j : Int) ∧ (j ≠ i → r.out = []) ∧ chkC r.cf = true ∧ JdV r.j
  cl : ∀ (i : Nat) (c : Cli), x.cs[i]? = some c → CliOk B i c
  bg : ∀ p ∈ x.bg, p.Ok m
  wt : ∀ i, ∀ y ∈ x.wt i, y.Ok m
  ot : ∀ r, x.rs[i]? = some r → ∀ n ∈ r.out, NtOk n ∧ n.b.Ok
  sm : i < 1000
theorem sendL_bg : ∀ (l : List CPk) (x : Clu), (∀ p ∈ (l.foldl Clu.send x).bg, p ∈ x.bg ∨ p ∈ l) ∧ (l.foldl Clu.send x).rs = x.rs ∧ (l.foldl Clu.send x).cs = x.cs ∧ (l.foldl Clu.send x).wt = x.wt ∧ (l.foldl Clu.send x).gone = x.gone ∧ (l.foldl Clu.send x).g = x.g := by
  intro l
  induction l with
  | nil => intro x; exact ⟨fun p hp => .inl hp, rfl, rfl, rfl, rfl, rfl⟩
  | cons q l ih =>
    intro x
    obtain ⟨h1, h2⟩ := ih (x.send q)
    rw [List.foldl_cons]
    have hs : (∀ p ∈ (x.send q).bg, p ∈ x.bg ∨ p = q) ∧ (x.send q).rs = x.rs ∧ (x.send q).cs = x.cs ∧ (x.send q).wt = x.wt ∧ (x.send q).gone = x.gone ∧ (x.send q).g = x.g := by
      unfold Clu.send
      split
      · exact ⟨fun p hp => by simpa using hp, rfl, rfl, rfl, rfl, rfl⟩
      · exact ⟨fun p hp => .inl hp, rfl, rfl, rfl, rfl, rfl⟩
    obtain ⟨s1, s2, s3, s4, s5, s6⟩ := hs
    rw [s2, s3, s4, s5, s6] at h2
    refine ⟨fun p hp => ?_, h2⟩
    rcases h1 p hp with h | h
    · rcases s1 p h with h | h
      · exact .inl h
      · exact .inr (by rw [h]; exact List.mem_cons_self ..)
    · exact .inr (List.mem_cons_of_mem _ h)
theorem notePk_ok {i : Nat} {n : Nt} (h : NtOk n) (hb : n.b.Ok) (hi : i < 1000) : (notePk (i : Int) n).Ok m := ⟨⟨by show -9223372036854775808 ≤ (i : Int); omega, by show (i : Int) ≤ 9223372036854775807; omega⟩, h.ds, h.k.1, h.k.2, h.ep, h.t, wireB_ok hb, wire_wire _⟩
theorem ansPk_ok {i : Nat} {y : Wt} (h : y.Ok m) (hi : i < 1000) (hm : m ≤ 4) : (ansPk (i : Int) y).Ok m := ⟨⟨by show -9223372036854775808 ≤ (i : Int); omega, by show (i : Int) ≤ 9223372036854775807; omega⟩, by have := h.d; show inI y.dst; unfold isCl at this; exact ⟨by omega, by omega⟩, h.r, h.v, h.d⟩
/-- After the flush all has been said. -/
theorem CluPre.flush {i : Nat} (h : CluPre m B i x) (hm : m ≤ 4) (hi : x.rs[i]? = some r) : CluOk m B (x.flush (i : Int)) := by
  have hlt : i < x.rs.length := (List.getElem?_eq_some_iff.1 hi).1
  unfold Clu.flush
  rw [atL_nat, hi]
  dsimp only
  have ha := sendL_bg (r.out.map (notePk (i : Int))) (x.setR (i : Int) { r with out := [] })
  generalize (r.out.map (notePk (i : Int))).foldl Clu.send (x.setR (i : Int) { r with out := [] }) = x1 at *
  obtain ⟨a1, a2, a3, a4, a5, a6⟩ := ha
  have ha := sendL_bg (((x1.wt (i : Int)).filter fun y => decide (y.un ≤ r.cl)).map (ansPk (i : Int))) x1
  generalize (((x1.wt (i : Int)).filter fun y => decide (y.un ≤ r.cl)).map (ansPk (i : Int))).foldl Clu.send x1 = x2 at *
  obtain ⟨b1, b2, b3, b4, b5, b6⟩ := ha
  have hw1 : x1.wt = x.wt := a4
  have hrs : x2.rs = x.rs.set i { r with out := [] } := by rw [b2, a2]; show x.rs.set (i : Int).toNat _ = _; rw [Int.toNat_natCast]
  refine ⟨fun j q hq => ?_, fun j c hc => ?_, fun p hp => ?_, fun j y hy => ?_⟩
  · replace hq : x2.rs[j]? = some q := hq
    rw [hrs] at hq
    by_cases e : i = j
    · subst e
      rw [List.getElem?_set_self hlt] at hq
      cases hq
      obtain ⟨h1, h2, h3, h4⟩ := h.rp i r hi
      exact ⟨h1, rfl, h3, h4⟩
    · rw [List.getElem?_set_ne e] at hq
      obtain ⟨h1, h2, h3, h4⟩ := h.rp j q hq
      exact ⟨h1, h2 (fun e2 => e e2.symm), h3, h4⟩
  · have hc : x2.cs[j]? = some c := hc
    rw [b3, a3] at hc
    exact h.cl j c hc
  · rcases b1 p hp with hp | hp
    · rcases a1 p hp with hp | hp
      · exact h.bg p hp
      · obtain ⟨n, hn, rfl⟩ := List.mem_map.1 hp
        obtain ⟨h1, h2⟩ := h.ot r hi n hn
        exact notePk_ok h1 h2 h.sm
    · obtain ⟨y, hy, rfl⟩ := List.mem_map.1 hp
      have := (List.mem_filter.1 hy).1
      rw [hw1] at this
      exact ansPk_ok (h.wt _ y this) h.sm hm
  · have hy : y ∈ setD x2.wt (i : Int) ((x2.wt (i : Int)).filter fun y => !decide (y.un ≤ r.cl)) j := hy
    rw [b4, hw1] at hy
    unfold setD at hy
    split at hy
    · rename_i e; exact h.wt _ y (List.mem_filter.1 hy).1
    · exact h.wt j y hy
/-- A replica turns. -/
theorem CluOk.pre (h : CluOk m B x) {i : Nat} {r' : Rpl} (hi : x.rs[i]? = some r) (hid : r'.id = r.id) (hn : RpN r') (hg : RpG r') (hj : JdV r'.j) (hs : i < 1000) : CluPre m B i (x.setR (i : Int) r') := by
  have hlt : i < x.rs.length := (List.getElem?_eq_some_iff.1 hi).1
  have hrs : (x.setR (i : Int) r').rs = x.rs.set i r' := by show x.rs.set (i : Int).toNat _ = _; rw [Int.toNat_natCast]
  refine ⟨fun j q hq => ?_, h.cl, h.bg, h.wt, fun q hq => ?_, hs⟩
  · rw [hrs] at hq
    by_cases e : i = j
    · subst e
      rw [List.getElem?_set_self hlt] at hq
      cases hq
      exact ⟨by rw [hid]; exact (h.rp i r hi).1, fun e => absurd rfl e, hn.ck, hj⟩
    · rw [List.getElem?_set_ne e] at hq
      obtain ⟨h1, h2, h3, h4⟩ := h.rp j q hq
      exact ⟨h1, fun _ => h2, h3, h4⟩
  · rw [hrs, List.getElem?_set_self hlt] at hq
    cases hq
    exact fun n hn2 => ⟨hn.out n hn2, hg.out n hn2⟩
theorem CluPre.wts {i : Nat} (h : CluPre m B i x) {wt : Int → List Wt} (hw : ∀ i, ∀ y ∈ wt i, y.Ok m) : CluPre m B i { x with wt := wt } := ⟨h.rp, h.cl, h.bg, hw, h.ot, h.sm⟩
end
end Go.Proofs.YtlhlcdjkacglnaaGreatDoor
/- Chapter 26 (cluster), plain: each act keeps what holds of all numbers. -/
namespace Go.Proofs.YtlhlcdjkacglnaaGreatDoor
open Go.RowKit Go.Lap C
set_option linter.unusedVariables false
set_option linter.unusedSimpArgs false
section
variable {w w' : World} {up B C m n : Nat} {L : CuL} {x : Clu} {r : Rpl}
theorem CluOk.mono (h : CluOk m B x) (hB : B ≤ C) : CluOk m C x := ⟨h.rp, fun i c hc => (h.cl i c hc).mono hB, h.bg, h.wt⟩
theorem CluOk.new_ (hn : 1 ≤ n ∧ n ≤ 5) : CluOk m B (Clu.new_ n m) := by
  have hck : ∀ n : Nat, n < 6 → 1 ≤ n → chkC (firstC n) = true := by decide
  refine ⟨fun i r hr => ?_, fun i c hc => ?_, fun p hp => (by cases hp), fun i y hy => (by cases hy)⟩
  · have hr : ((List.range n).map fun (i : Nat) => Rpl.new_ (i : Int) (firstC n))[i]? = some r := hr
    rw [List.getElem?_map, Option.map_eq_some_iff] at hr
    obtain ⟨k, hk, rfl⟩ := hr
    obtain ⟨_, rfl⟩ := List.getElem?_eq_some_iff.1 hk
    rw [List.getElem_range]
    exact ⟨rfl, rfl, hck n (by omega) hn.1, JdV.zero⟩
  · have hc : ((List.range m).map fun (i : Nat) => Cli.new_ i)[i]? = some c := hc
    rw [List.getElem?_map, Option.map_eq_some_iff] at hc
    obtain ⟨k, hk, rfl⟩ := hc
    obtain ⟨_, rfl⟩ := List.getElem?_eq_some_iff.1 hk
    rw [List.getElem_range]
    exact ⟨rfl, ⟨Nat.le_refl _, by show 1 ≤ B + 1; omega⟩, (show 0 < big by decide), ⟨(show 0 < big by decide), (show (0 : Int) ≤ 0 by decide), (show (0 : Int) ≤ 1000 by decide)⟩, (show 0 < big by decide), fun b t hb => by cases hb⟩
/-- What memory says of the replicas, as plain numbers. -/
def RpsOk (m B : Nat) (x : Clu) : Prop := m ≤ 4 ∧ ∀ (i : Nat) (r : Rpl), x.rs[i]? = some r → RpG r ∧ i < 1000 ∧ r.l.length ≤ B ∧ r.j.la ≤ B ∧ RpN r
theorem CuAt.good (hc : CuAt w up B L x) (h : CluOk L.m B x) (hB : B ≤ 8000000) : RpsOk L.m B x := ⟨by have := hc.nm; omega, fun i r hr => by
  have hp := hc.pt (.rp i) r hr
  exact ⟨hp.good (h.rp i r hr).2.1, by have := hc.rlt hr; have := hc.nm; omega, hp.ll, hp.j.la, rpn_of hc h (by omega) hr⟩⟩
theorem CluOk.setC (h : CluOk m B x) {i : Nat} {c : Cli} (hc : CliOk B i c) : CluOk m B (x.setC (i : Int) c) := ⟨h.rp, fun j d hd => by
  replace hd : (x.cs.set (i : Int).toNat c)[j]? = some d := hd
  rw [Int.toNat_natCast] at hd
  by_cases e : i = j
  · subst e
    by_cases hl : i < x.cs.length
    · rw [List.getElem?_set_self hl] at hd; cases hd; exact hc
    · rw [List.getElem?_eq_none (by rw [List.length_set]; omega)] at hd; cases hd
  · rw [List.getElem?_set_ne e] at hd; exact h.cl j d hd, h.bg, h.wt⟩
theorem CluOk.send (h : CluOk m B x) {p : CPk} (hp : p.Ok m) : CluOk m B (x.send p) := by
  unfold Clu.send
  split
  · exact ⟨h.rp, h.cl, fun q hq => by
      rcases List.mem_append.1 hq with hq | hq
      · exact h.bg q hq
      · rw [List.mem_singleton] at hq; subst hq; exact hp, h.wt⟩
  · exact h
theorem set_sameL {α : Type} {l : List α} {i : Nat} {a : α} (h : l[i]? = some a) : l.set i a = l := by
  obtain ⟨hl, rfl⟩ := List.getElem?_eq_some_iff.1 h
  exact List.set_getElem_self hl
theorem setR_atk {i : Nat} {r' : Rpl} (hr : x.rs[i]? = some r) : (x.setR (i : Int) r').rs[i]? = some r' := by
  show (x.rs.set (i : Int).toNat _)[i]? = _
  rw [Int.toNat_natCast, List.getElem?_set_self ((List.getElem?_eq_some_iff.1 hr).1)]
theorem CluOk.tick (hc : RpsOk m B x) (h : CluOk m B x) (hB : B ≤ 8000000) (i : Int) : CluOk m B (x.tick i).1 := by
  unfold Clu.tick
  cases hx : x.rep i with
  | none => exact h
  | some r =>
    obtain ⟨k, rfl, hr, hg⟩ := rep_at hx
    obtain ⟨h1, h2, h3, h4, h5⟩ := hc.2 _ _ hr
    have hp := h.pre hr (tickI r) h5.tick h1.tick (by rw [tickJ]; exact (h.rp k r hr).2.2.2) h2
    exact hp.flush hc.1 (setR_atk hr)
theorem CluOk.requested (hc : RpsOk m B x) (h : CluOk m B x) (hB : B ≤ 8000000) {p : CPk} {b : Btc} (hb : b.Ok) (hf : isCl m p.fr) : CluOk m B (x.requested p b) := by
  unfold Clu.requested
  cases hx : x.rep p.ds with
  | none => exact h
  | some r =>
    obtain ⟨k, hk, hr, hg⟩ := rep_at hx
    rw [hk]
    obtain ⟨h1, h2, h3, h4, h5⟩ := hc.2 _ _ hr
    have hv := submitV (h.rp k r hr).2.2.2 b
    have hp := h.pre hr (submitI r b) (h5.submit b (by omega)) (h1.submit hb) hv.1 h2
    have hla := submit_la r b
    have hll := submit_ll r b
    dsimp only
    split
    · refine (hp.wts (fun j y hy => ?_)).flush hc.1 (setR_atk hr)
      unfold setD at hy
      split at hy
      · rcases List.mem_append.1 hy with hy | hy
        · exact h.wt _ y hy
        · rw [List.mem_singleton] at hy
          subst hy
          have hvb : (r.submit b).2.1.t < big := Nat.lt_of_le_of_lt (Nat.le_trans hv.2.1 hla) (by unfold big; omega)
          refine ⟨hf, hb.r, ⟨hvb, hv.2.2⟩, ?_⟩
          dsimp only
          split
          · exact Nat.lt_of_le_of_lt hll (by unfold big; omega)
          · exact hvb
      · exact h.wt j y hy
    · exact hp.flush hc.1 (setR_atk hr)
theorem CluOk.noted (hc : RpsOk m B x) (h : CluOk m B x) (hB : B ≤ 8000000) {p : CPk} {k : Int} {ep t : Nat} {b : Btc} (hb : b.Ok) : CluOk m B (x.noted p k ep t b) := by
  unfold Clu.noted
  cases hx : x.rep p.ds with
  | none => exact h
  | some r =>
    obtain ⟨i, hi, hr, hg⟩ := rep_at hx
    rw [hi]
    obtain ⟨h1, h2, h3, h4, h5⟩ := hc.2 _ _ hr
    exact (h.pre hr (receiveI r _) (h5.receive _ (by omega)) (h1.receive hb) (receiveV (h.rp i r hr).2.2.2 _) h2).flush hc.1 (setR_atk hr)
theorem CliOk.answer {i : Nat} {c : Cli} (h : CliOk B i c) {rq : Nat} {v : Vd} (hr : rq < big) (hv : VdOk v) : CliOk B i (c.answer rq v) := by
  unfold Cli.answer
  split
  · split
    · refine ⟨h.id, h.nx, hr, hv, ?_, fun b t hb => by cases hb⟩
      dsimp only
      have := hv.t; have := h.saw
      split
      · omega
      · exact h.saw
    · exact h
  · exact h
theorem atL_some {α : Type} {l : List α} {i : Int} {c : α} (h : atL l i = some c) : ∃ k : Nat, i = (k : Int) ∧ l[k]? = some c := by
  unfold atL at h
  split at h
  · exact ⟨i.toNat, by omega, h⟩
  · cases h
theorem CluOk.answered (h : CluOk m B x) {p : CPk} {rq : Nat} {v : Vd} (hr : rq < big) (hv : VdOk v) : CluOk m B (x.answered p rq v) := by
  unfold Clu.answered
  cases hx : atL x.cs (p.ds - 100) with
  | none => exact h
  | some c =>
    obtain ⟨k, hk, hc⟩ := atL_some hx
    rw [hk]
    exact h.setC ((h.cl k c hc).answer hr hv)
theorem CluOk.deliver (hc : RpsOk m B x) (h : CluOk m B x) (hB : B ≤ 8000000) (i : Int) : CluOk m B (x.deliver i).1 := by
  unfold Clu.deliver
  cases hx : atL x.bg i with
  | none => exact h
  | some p =>
    obtain ⟨k, rfl, hp⟩ := atL_some hx
    obtain ⟨h1, h2, h3⟩ := h.bg p (List.mem_of_getElem? hp)
    have hk := h.bag (l := x.bg.eraseIdx (k : Int).toNat) (fun q hq => List.mem_of_mem_eraseIdx hq)
    have hc2 : RpsOk m B { x with bg := x.bg.eraseIdx (k : Int).toNat } := hc
    dsimp only
    unfold Clu.arrive
    obtain ⟨fr, ds, msg⟩ := p
    cases msg with
    | req b => exact hk.requested hc2 hB h3.1 h3.2.2
    | note k ep t b => exact hk.noted hc2 hB h3.2.2.2.2.1
    | ans rq v => exact hk.answered h3.1 h3.2.1
theorem CluOk.start (hm : m ≤ 4) (hl : x.cs.length = m) (h : CluOk m B x) (hB : B ≤ 8000000) (i : Int) {s : Nat} (hs : s < big) (l : List Wri) : CluOk m (B + 1) (x.start i s l).1 := by
  unfold Clu.start
  cases hx : atL x.cs i with
  | none => exact h.mono (Nat.le_succ _)
  | some c =>
    obtain ⟨k, rfl, hc⟩ := atL_some hx
    refine (h.mono (Nat.le_succ _)).setC ?_
    have hk := h.cl k c hc
    have hlt := (List.getElem?_eq_some_iff.1 hc).1
    unfold Cli.start
    split
    · exact hk.mono (Nat.le_succ _)
    · split
      · exact hk.mono (Nat.le_succ _)
      · rename_i hch
        have hch : chk l = 0 := Classical.not_not.1 hch
        refine ⟨hk.id, ⟨by dsimp only; omega, by have := hk.nx; dsimp only; omega⟩, hk.lr, hk.lv, hk.saw, fun b t hb => ?_⟩
        cases hb
        have := hk.nx
        exact ⟨⟨by show c.id < big; rw [hk.id]; unfold big; omega, by show c.nx < big; unfold big; omega, hs, by have := chk_ok hch; show l.length ≤ 1000; omega⟩, hk.id, Nat.lt_succ_self _, by omega, hch⟩
theorem CluOk.ask (hm : m ≤ 4) (hl : x.cs.length = m) (hn : x.rs.length ≤ 5) (h : CluOk m B x) (hB : B ≤ 8000000) (i nd : Int) : CluOk m (B + 1) (x.ask i nd).1 := by
  unfold Clu.ask
  cases hx : atL x.cs i with
  | none => exact h.mono (Nat.le_succ _)
  | some c => cases hy : atL x.rs nd with
    | none => exact h.mono (Nat.le_succ _)
    | some r =>
      obtain ⟨k, rfl, hc⟩ := atL_some hx
      obtain ⟨j, rfl, hr⟩ := atL_some hy
      have hk := h.cl k c hc
      have hlt := (List.getElem?_eq_some_iff.1 hc).1
      have hltr := (List.getElem?_eq_some_iff.1 hr).1
      dsimp only
      cases hnow : c.now with
      | none => exact h.mono (Nat.le_succ _)
      | some bt =>
        obtain ⟨b, t⟩ := bt
        have e : c.again = ({ c with now := some (b, t + 1) }, b, 0) := by unfold Cli.again; rw [hnow]
        obtain ⟨n1, n2, n3, n4, n5⟩ := hk.now b t hnow
        dsimp only
        rw [e]
        show CluOk m (B + 1) ((x.setC (k : Int) { c with now := some (b, t + 1) }).send ⟨100 + (k : Int), (j : Int), .req (wireB b)⟩)
        have hci : CliOk (B + 1) k { c with now := some (b, t + 1) } := ⟨hk.id, ⟨hk.nx.1, by have := hk.nx; show c.nx ≤ B + 1 + 1; omega⟩, hk.lr, hk.lv, hk.saw, fun b' t' hb => by cases hb; exact ⟨n1, n2, n3, by omega, n5⟩⟩
        exact ((h.mono (Nat.le_succ _)).setC hci).send ⟨(show inI (100 + (k : Int)) by unfold inI; omega), (show inI (j : Int) by unfold inI; omega), wireB_ok n1, wire_wire _, (show isCl m (100 + (k : Int)) by unfold isCl; omega)⟩
theorem CluOk.kill (h : CluOk m B x) (i : Int) : CluOk m B (x.kill i).1 := by
  unfold Clu.kill
  split
  · exact h
  · refine ⟨h.rp, h.cl, h.bg, fun j y hy => ?_⟩
    replace hy : y ∈ setD x.wt i [] j := hy
    unfold setD at hy
    split at hy
    · cases hy
    · exact h.wt j y hy
theorem CluOk.copy (h : CluOk m B x) (i : Int) : CluOk m B (x.copy i).1 := by
  unfold Clu.copy
  cases hx : atL x.bg i with
  | none => exact h
  | some p =>
    obtain ⟨k, rfl, hp⟩ := atL_some hx
    dsimp only
    split
    · exact h
    · exact ⟨h.rp, h.cl, fun q hq => by
        rcases List.mem_append.1 hq with hq | hq
        · exact h.bg q hq
        · rw [List.mem_singleton] at hq; subst hq; exact h.bg _ (List.mem_of_getElem? hp), h.wt⟩
theorem CluOk.suspect (h : CluOk m B x) (k i : Int) : CluOk m B (x.suspect k i).1 := by
  unfold Clu.suspect
  split
  · exact h
  · split
    · exact ⟨h.rp, h.cl, h.bg, h.wt⟩
    · exact h
end
end Go.Proofs.YtlhlcdjkacglnaaGreatDoor
/- Chapter 26 (cluster): a cluster that lives since a world; run, awake, made. -/
namespace Go.Proofs.YtlhlcdjkacglnaaGreatDoor
open Go.RowKit Go.Lap C
set_option linter.unusedVariables false
set_option linter.unusedSimpArgs false
/-- A cluster that was made since w. -/
structure CLv (w : World) (up n m B : Nat) (L : CuL) (x : Clu) (wr : World) : Prop where
  at_ : CuAt wr up B L x
  ok : CluOk m B x
  ln : L.n = n
  lm : L.m = m
  nw : ∀ p k, CuF up L p k → w.heap.size ≤ k
  new : New w wr
/-- So many deliveries. -/
def Clu.run : Nat → Clu → Clu
  | 0, x => x
  | k + 1, x => if x.bg.length = 0 then x else (x.deliver 0).1.run k
section
variable {w w' wr : World} {up n m B C : Nat} {L : CuL} {x x' : Clu}
theorem CLv.okL (h : CLv w up n m B L x wr) : CluOk L.m B x := by rw [h.lm]; exact h.ok
theorem CLv.good (h : CLv w up n m B L x wr) (hB : B ≤ 8000000) : RpsOk m B x := by have := h.at_.good h.okL hB; rw [h.lm] at this; exact this
theorem CLv.turn (h : CLv w up n m B L x wr) (ht : Turned wr up C L x' w') (hok : CluOk m C x') : ∃ L', CLv w up n m C L' x' w' := by
  obtain ⟨L', h1, h2, h3, h4⟩ := ht
  refine ⟨L', h2, hok, h1.1.trans h.ln, h1.2.1.trans h.lm, fun p k hk => ?_, h.new.upd h4 (fun k ⟨p, hp⟩ => h.nw p k hp)⟩
  rcases h3 p k hk with ⟨q, hq⟩ | h5
  · exact h.nw q k hq
  · exact Nat.le_trans h.new.size h5
theorem CLv.mono (h : CLv w up n m B L x wr) (hB : B ≤ C) : CLv w up n m C L x wr := ⟨h.at_.mono hB, h.ok.mono hB, h.ln, h.lm, h.nw, h.new⟩
theorem CLv.newer (h : CLv w up n m B L x wr) (hn : New wr w') : CLv w up n m B L x w' := ⟨h.at_.new hn, h.ok, h.ln, h.lm, h.nw, h.new.trans hn⟩
set_option maxHeartbeats 2000000 in
theorem cRun (h : CLv w up n m B L x wr) (most : Nat) (hB : B + 60 * most ≤ 8000000) : Calls Tryz.prog 37 #[.pointer (some ⟨up, 0, none⟩), .int .i64 (most : Int)] wr
    fun e w' => e = .returned (.tuple #[]) ∧ ∃ L', CLv w up n m (B + 60 * most) L' (x.run most) w' := by
  have H := Lib.hid h
  have HB := Lib.hid hB
  clear h hB
  go_enter Tryz.func37, Tryz.ntmps37
  go_wp2_with fail
  go_loopw [4] (fun i w1 => ∃ (k : Nat) (L1 : CuL) (x1 : Clu), i = .int .i64 (k : Int) ∧ k ≤ most ∧ CLv w up n m (B + 60 * k) L1 x1 w1 ∧ x1.run (most - k) = x.run most) (fun i _ => most - (intOf i).toNat)
  case atStart => exact ⟨0, L, x, rfl, Nat.zero_le _, H.out, rfl⟩
  case round =>
    obtain ⟨k, L1, x1, rfl, hk, hc1, hx1⟩ := hrel
    have H1 := Lib.hid hc1
    have HX := Lib.hid hx1
    clear hc1 hx1 H
    have hm : most ≤ 200000 := by have := HB.out; omega
    by_cases hlt : k < most
    · have hlt2 : (k : Int) < (most : Int) := by omega
      go_wp2_with fail
      refine (cUnder H1.out.at_).mono ?_
      rintro e w2 ⟨rfl, rfl⟩
      by_cases hb : x1.bg.length = 0
      · have hb2 : ((x1.bg.length : Nat) : Int) = 0 := by omega
        have HE : Hid (x.run most = x1) := Lib.hid (by rw [← HX.out, show most - k = (most - k - 1) + 1 by omega]; unfold Clu.run; rw [if_pos hb])
        clear hb
        rw [hb2]
        go_wp2_with fail
        refine bodyPost_end (v := .tuple #[]) (by simp [results, Tryz.results37, go_sem]) rfl ⟨rfl, L1, ?_⟩
        rw [HE.out]
        exact H1.out.mono (by omega)
      · have hb2 : (0 : Int) < ((x1.bg.length : Nat) : Int) := by omega
        have HE : Hid ((x1.deliver 0).1.run (most - (k + 1)) = x.run most) := Lib.hid (by rw [← HX.out, show most - k = (most - (k + 1)) + 1 by omega]; conv => rhs; unfold Clu.run; rw [if_neg hb])
        clear hb
        go_wp2_with fail
        refine (cDeliver H1.out.at_ H1.out.okL (by have := HB.out; omega) 0).mono ?_
        rintro e w3 ⟨rfl, ht⟩
        obtain ⟨L3, hc3⟩ := H1.out.turn ht (((H1.out.ok.deliver (H1.out.good (by have := HB.out; omega)) (by have := HB.out; omega) 0)).mono (show B + 60 * k ≤ B + 60 * k + 60 by omega))
        have H3 := Lib.hid hc3
        clear ht hc3
        go_wp2_with fail
        refine ⟨⟨k + 1, L3, _, by go_num, by omega, H3.out, HE.out⟩, ?_⟩
        simp [intOf]; omega
    · have hkn : k = most := by omega
      subst hkn
      have HE : Hid (x.run k = x1) := Lib.hid (by rw [← HX.out, Nat.sub_self]; rfl)
      go_wp2_with fail
      refine bodyPost_end (v := .tuple #[]) (by simp [results, Tryz.results37, go_sem]) rfl ⟨rfl, L1, ?_⟩
      rw [HE.out]
      exact H1.out
theorem TSl.oneW {w : World} {b : Nat} {y : Wri} (h : Blk w b 34 #[.string y.key, .string y.val, .bool y.gone]) : TSl w 34 3 Wri.enc (.slice (some ⟨b, 0, none⟩) 1 1) [y] :=
  ⟨some ⟨b, 0, none⟩, 1, rfl, Nat.le_refl _, .inr ⟨b, 0, _, rfl, h, fun k x hx j u hu => by
    match k, hx with
    | 0, hx =>
      cases hx
      match j, hu with
      | 0, hu => exact hu
      | 1, hu => exact hu
      | 2, hu => exact hu⟩⟩
def awW : Wri := ⟨⟨#[97]⟩, ⟨#[120]⟩, false⟩
def awX0 : Clu := Clu.new_ 2 1
def awX1 : Clu := (awX0.start 0 0 [awW]).1
def awX2 : Clu := (awX1.ask 0 0).1
def awX3 : Clu := awX2.run 50
theorem aw26a : awX0.start 0 0 [awW] = (awX1, 1, 0) := by kernel_rfl
theorem aw26b : awX1.ask 0 0 = (awX2, 0) := by kernel_rfl
theorem aw26c : awX2.bg.length = 1 := by kernel_rfl
theorem aw26d : awX3.told 0 = (1, ⟨1, 0⟩, true) := by kernel_rfl
theorem aw26e : (awX3.list 0).length = 1 := by kernel_rfl
theorem aw26f : (awX3.list 1).length = 1 := by kernel_rfl
theorem aw26g : awX0.cs.length = 1 := by kernel_rfl
theorem aw26h : awX1.cs.length = 1 := by kernel_rfl
theorem aw26i : awX1.rs.length = 2 := by kernel_rfl
theorem aw26 : ∃ X0 X1 X2 X3 : Clu, Clu.new_ 2 1 = X0 ∧ X0.start 0 0 [awW] = (X1, 1, 0) ∧ X1.ask 0 0 = (X2, 0) ∧ X2.bg.length = 1 ∧ X2.run 50 = X3 ∧ X3.told 0 = (1, ⟨1, 0⟩, true) ∧ (X3.list 0).length = 1 ∧ (X3.list 1).length = 1 ∧ X0.cs.length = 1 ∧ X1.cs.length = 1 ∧ X1.rs.length = 2 :=
  ⟨awX0, awX1, awX2, awX3, rfl, aw26a, aw26b, aw26c, rfl, aw26d, aw26e, aw26f, aw26g, aw26h, aw26i⟩
set_option maxRecDepth 100000 in
set_option maxHeartbeats 8000000 in
theorem awake26 (w : World) : Calls Tryz.prog 8 #[] w fun e w' => e = .returned (.bool true) ∧ New w w' := by
  obtain ⟨X0, X1, X2, X3, q0, q1, q2, q3, q4, q5, q6, q7, q8, q9, q10⟩ := aw26
  have Q0 := Lib.hid q0
  have Q1 := Lib.hid q1
  have Q2 := Lib.hid q2
  have Q3 := Lib.hid q3
  have Q4 := Lib.hid q4
  have Q5 := Lib.hid q5
  have Q6 := Lib.hid q6
  have Q7 := Lib.hid q7
  have Q8 := Lib.hid q8
  have Q9 := Lib.hid q9
  have Q10 := Lib.hid q10
  clear q0 q1 q2 q3 q4 q5 q6 q7 q8 q9 q10
  go_enter Tryz.func8, Tryz.ntmps8
  go_wp2_with fail
  refine (cNew w (n := 2) (m := 1) (by decide)).mono ?_
  rintro e w1 ⟨up, L1, rfl, h1, h2, h3, h4, h5⟩
  rw [Q0.out] at h1
  have HC1 : Hid (CLv w up 2 1 1 L1 X0 w1) := Lib.hid ⟨h1, by rw [← Q0.out]; exact CluOk.new_ (by decide), h2, h3, h4, h5⟩
  clear h1 h2 h3 h4 h5
  go_wp2_with fail
  refine (cMasters HC1.out.at_).mono ?_
  rintro e w2 ⟨rfl, rfl⟩
  go_upto_region 4 with fail
  have hn3 := (New.refl w2).alloc (.cells #[.string ⟨#[97]⟩, .string ⟨#[120]⟩, .bool false] 34)
  have HT3 := Lib.hid (TSl.oneW (y := awW) (Blk.mk_new w2 34 #[.string ⟨#[97]⟩, .string ⟨#[120]⟩, .bool false]))
  have HC3 := Lib.hid (HC1.out.newer hn3)
  clear hn3
  go_wp2_with fail
  have hcs := cStart HC3.out.at_ HC3.out.okL (by decide) 0 (s := 0) (l := [awW]) (A := some ⟨w2.heap.size, 0, none⟩) (cap := 1) (by decide) HT3.out (by decide)
  refine hcs.mono ?_
  clear hcs
  rintro e w4 ⟨rfl, ht⟩
  rw [Q1.out] at ht ⊢
  obtain ⟨L4, hc4⟩ := HC3.out.turn (ht.mono (show 1 ≤ 2 by decide)) (by have := CluOk.start (s := 0) (by decide) Q8.out HC3.out.ok (by decide) 0 (by decide) [awW]; rw [Q1.out] at this; exact this)
  have HC4 := Lib.hid hc4
  clear ht hc4
  go_wp2_with fail
  refine (cAsk HC4.out.at_ HC4.out.okL (by decide) 0 0).mono ?_
  rintro e w5 ⟨rfl, ht⟩
  rw [Q2.out] at ht ⊢
  obtain ⟨L5, hc5⟩ := HC4.out.turn (ht.mono (show 2 ≤ 3 by decide)) (by have := CluOk.ask (by decide) Q9.out (by rw [Q10.out]; decide) HC4.out.ok (by decide) 0 0; rw [Q2.out] at this; exact this)
  have HC5 := Lib.hid hc5
  clear ht hc5
  go_wp2_with fail
  refine (cUnder HC5.out.at_).mono ?_
  rintro e w6 ⟨rfl, rfl⟩
  rw [Q3.out]
  go_wp2_with fail
  refine (cRun HC5.out 50 (by decide)).mono ?_
  rintro e w7 ⟨rfl, L7, hc7⟩
  rw [Q4.out] at hc7
  have HC7 := Lib.hid hc7
  clear hc7
  go_wp2_with fail
  refine (cTold HC7.out.at_ 0).mono ?_
  rw [Q5.out]
  rintro e w8 ⟨rfl, hn8⟩
  have HV := Lib.hid (Blk.mk_new w8 46 #[.int .u64 1, .int .i64 0])
  have HC9 := Lib.hid (HC7.out.newer (hn8.alloc (.cells #[.int .u64 1, .int .i64 0] 46)))
  clear hn8
  obtain ⟨z0, z1, z2, zz⟩ := Blk2F HV.out
  dsimp only
  rw [show ((1 : Nat) : Int) = 1 from rfl]
  go_upto_region 9 with fail
  generalize w8.alloc _ = w9 at *
  go_wp2_with fail
  refine (cList HC9.out.at_ (by decide) 0).mono ?_
  rintro e w10 ⟨v10, rfl, hr10, hn10⟩
  obtain ⟨A10, c10, rfl⟩ := hr10.shape
  rw [Q6.out]
  have HC10 := Lib.hid (HC9.out.newer hn10)
  clear hr10 hn10 z0 z1 z2 zz
  go_wp2_with fail
  refine (cList HC10.out.at_ (by decide) 1).mono ?_
  rintro e w11 ⟨v11, rfl, hr11, hn11⟩
  obtain ⟨A11, c11, rfl⟩ := hr11.shape
  rw [Q7.out]
  have HN11 := Lib.hid (HC10.out.new.trans hn11)
  clear hr11 hn11
  go_wp2_with fail
  go_ret
  exact ⟨rfl, HN11.out⟩
theorem made_yes (w : World) {n m : Nat} (h : 1 ≤ n ∧ n ≤ 5 ∧ 1 ≤ m ∧ m ≤ 4) : Calls Tryz.prog 7 #[.int .i64 (n : Int), .int .i64 (m : Int)] w
    fun e w' => ∃ up L, e = .returned (.tuple #[.pointer (some ⟨up, 0, none⟩), .bool true]) ∧ CLv w up n m 1 L (Clu.new_ n m) w' := by
  have HNM := Lib.hid h
  clear h
  go_enter Tryz.func7, Tryz.ntmps7
  go_wp2_with fail
  refine (cNew w HNM.out).mono ?_
  rintro e w1 ⟨up, L1, rfl, h1, h2, h3, h4, h5⟩
  have HC1 : Hid (CLv w up n m 1 L1 (Clu.new_ n m) w1) := Lib.hid ⟨h1, CluOk.new_ ⟨HNM.out.1, HNM.out.2.1⟩, h2, h3, h4, h5⟩
  clear h1 h2 h3 h4 h5
  go_wp2_with fail
  refine (cMasters HC1.out.at_).mono ?_
  rintro e w2 ⟨rfl, rfl⟩
  go_wp2_with fail
  go_ret2
  exact ⟨up, L1, rfl, HC1.out⟩
theorem made_no (w : World) (n m : Int) (h : ¬ (1 ≤ n ∧ n ≤ 5 ∧ 1 ≤ m ∧ m ≤ 4)) : Calls Tryz.prog 7 #[.int .i64 n, .int .i64 m] w
    fun e w' => e = .returned (.tuple #[.pointer none, .bool false]) ∧ w' = w := by
  go_enter Tryz.func7, Tryz.ntmps7
  go_wp2_with fail
  refine (cNew_no n m h).mono ?_
  rintro e w1 ⟨rfl, rfl⟩
  clear h
  go_wp2_with fail
  go_ret2
  exact ⟨rfl, rfl⟩
end
end Go.Proofs.YtlhlcdjkacglnaaGreatDoor
