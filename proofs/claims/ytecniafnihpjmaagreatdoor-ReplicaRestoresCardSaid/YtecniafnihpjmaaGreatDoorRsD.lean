/- Chapter 19's reference beside the judge: Load. Printed by genRsD.py. -/
import Derived.Test.YtecniafnihpjmaaGreatDoorRsC
import Derived.Test.YtecniafnihpjmaaGreatDoorMg15
namespace Go.Proofs.YtecniafnihpjmaaGreatDoor
open Go.RowKit Go.Lap C
set_option linter.unusedVariables false
set_option linter.unusedSimpArgs false
/-- The reference's judge says what the judge says. -/
structure JR (x : RjV) (j : Jd) : Prop where
  la : x.la = j.la
  wh : ∀ k, j.when_ k = whenR x.L k
  sn : ∀ c, j.sn c = seenR x.L c
theorem fold_has (k : ByteArray) (t : Nat) : ∀ (l : List Wri) (f : ByteArray → Option Nat), (l.foldl (fun f x => setD f x.key (some t)) f) k = if hasK k l = true then some t else f k
  | [], f => by simp [hasK]
  | x :: l, f => by
    rw [List.foldl_cons, fold_has k t l]
    have hc : hasK k (x :: l) = (keyEq x k || hasK k l) := by unfold hasK; rw [List.any_cons]
    rw [hc]
    cases h2 : hasK k l
    · by_cases h1 : x.key = k
      · have : keyEq x k = true := by unfold keyEq; rw [h1]; simp
        rw [this]; subst h1; simp [setD]
      · have : keyEq x k = false := by unfold keyEq; exact decide_eq_false (fun h => h1 (toList_inj24 h))
        rw [this]
        have h1' : ¬ k = x.key := fun h => h1 h.symm
        simp [setD, h1']
    · simp
theorem commit_when (j : Jd) (b : Btc) (k : ByteArray) : (j.commit b).when_ k = if hasK k b.l = true then j.la + 1 else j.when_ k := by
  unfold Jd.commit Jd.when_
  dsimp only
  rw [fold_has]
  split <;> rfl
section
variable {w w' W : World} {x y : RjV} {j : Jd} {b : BtV}
theorem JR.ok_ (h : JR x j) (ht : x.told ⟨b, ⟨x.la + 1, 0⟩, false⟩ y) : JR y { j.commit b.b with sn := setD j.sn b.b.c (some (b.b.r, ⟨j.la + 1, 0⟩)) } := by
  obtain ⟨h1, h2⟩ := ht
  refine ⟨by rw [h2]; show x.la + 1 = j.la + 1; rw [h.la], fun k => ?_, fun c => ?_⟩
  · rw [h1, whenR_snoc, ← h.wh]
    have := commit_when j b.b k
    unfold Jd.when_ at this ⊢
    dsimp only at this ⊢
    rw [this, h.la]
    simp
  · rw [h1, seenR_snoc, ← h.sn, h.la]
    unfold setD
    by_cases hc : b.b.c = c
    · simp [hc]
    · have hc' : ¬ c = b.b.c := fun h => hc h.symm
      simp [hc, hc']
theorem JR.late_ (h : JR x j) (ht : x.told ⟨b, ⟨x.la + 1, 0⟩, true⟩ y) : JR y (j.commit b.b) := by
  obtain ⟨h1, h2⟩ := ht
  refine ⟨by rw [h2]; show x.la + 1 = j.la + 1; rw [h.la], fun k => ?_, fun c => ?_⟩
  · rw [h1, whenR_snoc, ← h.wh, commit_when, h.la]
    simp
  · rw [h1, seenR_snoc, ← h.sn]
    simp [Jd.commit]
theorem JR.conf_ (h : JR x j) (ht : x.told ⟨b, ⟨0, 191⟩, false⟩ y) : JR y { j with sn := setD j.sn b.b.c (some (b.b.r, ⟨0, 191⟩)) } := by
  obtain ⟨h1, h2⟩ := ht
  refine ⟨by rw [h2]; exact h.la, fun k => ?_, fun c => ?_⟩
  · rw [h1, whenR_snoc, ← h.wh]
    simp [Jd.when_]
  · rw [h1, seenR_snoc, ← h.sn]
    unfold setD
    by_cases hc : b.b.c = c
    · simp [hc]
    · have hc' : ¬ c = b.b.c := fun h => hc h.symm
      simp [hc, hc']
/-- What Load answers. -/
def RLoadPost (w : World) (x : RjV) (j : Jd) (b : Btc) (e : Ending) (w' : World) : Prop := ∃ (y : RjV) (a : Nat), e = .returned (.tuple #[y.val, .int .u64 (a : Int), .int .i64 (j.load b).2]) ∧ RkAt w' y ∧ JR y (j.load b).1 ∧ y.L.length ≤ x.L.length + 1 ∧ New w w' ∧ ∀ k, RjF y k → RjF x k ∨ w.heap.size ≤ k
theorem Jd.load_bad {b : Btc} (h : chk b.l ≠ 0) : j.load b = (j, chk b.l) := by unfold Jd.load; rw [if_pos h]
theorem Jd.load_end {b : Btc} (h : chk b.l = 0) (h2 : maxT ≤ j.la) : j.load b = (j, 192) := by unfold Jd.load; rw [if_neg (fun h3 => h3 h), if_pos h2]
theorem Jd.load_none {b : Btc} (h : chk b.l = 0) (h2 : j.la < maxT) (h3 : j.sn b.c = none) : j.load b = ({ j.commit b with sn := setD j.sn b.c (some (b.r, ⟨j.la + 1, 0⟩)) }, 0) := by unfold Jd.load; rw [if_neg (fun h3 => h3 h), if_neg (by omega), h3]
theorem Jd.load_new {b : Btc} {q : Nat} {v : Vd} (h : chk b.l = 0) (h2 : j.la < maxT) (h3 : j.sn b.c = some (q, v)) (h4 : ¬ b.r < q) : j.load b = ({ j.commit b with sn := setD j.sn b.c (some (b.r, ⟨j.la + 1, 0⟩)) }, 0) := by unfold Jd.load; rw [if_neg (fun h3 => h3 h), if_neg (by omega), h3]; dsimp only; rw [if_neg h4]
theorem Jd.load_late {b : Btc} {q : Nat} {v : Vd} (h : chk b.l = 0) (h2 : j.la < maxT) (h3 : j.sn b.c = some (q, v)) (h4 : b.r < q) : j.load b = (j.commit b, 0) := by unfold Jd.load; rw [if_neg (fun h3 => h3 h), if_neg (by omega), h3]; dsimp only; rw [if_pos h4]
set_option maxRecDepth 100000 in
set_option maxHeartbeats 4000000 in
theorem rload_any (h : RkAt w x) (hj : JR x j) (hb : BtAt w b) (hl : x.L.length < 100000) :
    Calls Tryz.prog 39 #[x.val, b.val] w (RLoadPost w x j b.b) := by
  have HRK := Lib.hid h
  have HJ := Lib.hid hj
  have HB := Lib.hid hb
  have HL := Lib.hid hl
  have hcb := hb.ok.c
  have hrb := hb.ok.r
  obtain ⟨la, L, sv, tv⟩ := x
  obtain ⟨⟨bc, br, bs, bl⟩, bA, bcap⟩ := b
  have hss := h.s.shape
  dsimp only at hss
  obtain ⟨sA, sc, rfl⟩ := hss
  have hts := h.t.shape
  rw [List.length_map] at hts
  dsimp only at hts
  obtain ⟨tA, tc, rfl⟩ := hts
  have HCH := Lib.hid (refCheck_any bc br bs (.slice bA bl.length bcap) bl)
  have hbl : bl.length ≤ 1000 := hb.ok.l
  have hla := h.la
  have hjl := hj.la
  dsimp only [RjV.val, BtV.val, BtV.sl, batV] at hcb hrb hla hjl ⊢
  have hN := (((New.refl w).alloc (.cells #[.int .u64 0, .int .u64 (la : Int), .slice sA L.length sc, .slice tA L.length tc] 33)).alloc (.cells #[.int .u64 (bc : Int), .int .u64 (br : Int), .int .u64 (bs : Int), .slice bA bl.length bcap] 40)).alloc (.cells #[.int .u64 0, .int .u64 0, .slice none 0 0, .slice none 0 0] 33)
  have h1 := ((Blk.mk_new w 33 #[.int .u64 0, .int .u64 (la : Int), .slice sA L.length sc, .slice tA L.length tc]).alloc (.cells #[.int .u64 (bc : Int), .int .u64 (br : Int), .int .u64 (bs : Int), .slice bA bl.length bcap] 40)).alloc (.cells #[.int .u64 0, .int .u64 0, .slice none 0 0, .slice none 0 0] 33)
  have h2 := (Blk.mk_new (w.alloc (.cells #[.int .u64 0, .int .u64 (la : Int), .slice sA L.length sc, .slice tA L.length tc] 33)) 40 #[.int .u64 (bc : Int), .int .u64 (br : Int), .int .u64 (bs : Int), .slice bA bl.length bcap]).alloc (.cells #[.int .u64 0, .int .u64 0, .slice none 0 0, .slice none 0 0] 33)
  have h3 := Blk.mk_new ((w.alloc (.cells #[.int .u64 0, .int .u64 (la : Int), .slice sA L.length sc, .slice tA L.length tc] 33)).alloc (.cells #[.int .u64 (bc : Int), .int .u64 (br : Int), .int .u64 (bs : Int), .slice bA bl.length bcap] 40)) 33 #[.int .u64 0, .int .u64 0, .slice none 0 0, .slice none 0 0]
  simp only [World.size_alloc] at h2 h3
  have HN := Lib.hid hN
  have H1 := Lib.hid h1
  have H2 := Lib.hid h2
  have H3 := Lib.hid h3
  have HLA := Lib.hid hla
  have HRB := Lib.hid hrb
  have HBL := Lib.hid hbl
  have HJL := Lib.hid hjl
  clear hN h1 h2 h3 hj hb hl h hla hrb hjl
  go_enter Tryz.func39, Tryz.ntmps39
  go_upto_region 1 with fail
  generalize ((w.alloc (.cells #[.int .u64 0, .int .u64 (la : Int), .slice sA L.length sc, .slice tA L.length tc] 33)).alloc (.cells #[.int .u64 (bc : Int), .int .u64 (br : Int), .int .u64 (bs : Int), .slice bA bl.length bcap] 40)).alloc (.cells #[.int .u64 0, .int .u64 0, .slice none 0 0, .slice none 0 0] 33) = W at *
  obtain ⟨q0, q1, q2, q3, q4, qz⟩ := Blk4R H1.out
  obtain ⟨p0, p1, p2, p3, p4, pz⟩ := Blk4R H2.out
  go_wp2_with fail
  refine (HCH.out W (by omega) ((HB.out.sl.slIn).new HN.out)).mono ?_
  rintro e w1 ⟨rfl, hn1⟩
  have HN1 := Lib.hid hn1
  clear q0 q1 q2 q3 q4 qz p0 p1 p2 p3 p4 pz hn1 hbl
  obtain ⟨q0, q1, q2, q3, q4, qz⟩ := Blk4R (H1.out.new HN1.out)
  obtain ⟨p0, p1, p2, p3, p4, pz⟩ := Blk4R (H2.out.new HN1.out)
  obtain ⟨r0, r1, r2, r3, r4, rz⟩ := Blk4R (H3.out.new HN1.out)
  by_cases hck : chk bl = 0
  case neg =>
    have hcb2 : (chk bl == 0) = false := beq_eq_false_iff_ne.2 hck
    have HE : Hid (j.load ⟨bc, br, bs, bl⟩ = (j, chk bl)) := Lib.hid (Jd.load_bad hck)
    clear hck
    go_wp2_with fail
    have hu9 : Upd (· = w.heap.size + 2) w1 ((((w1.setCell ⟨w.heap.size + 2, 0, none⟩ (.int .u64 0)).setCell ⟨w.heap.size + 2, 1, none⟩ (.int .u64 (la : Int))).setCell ⟨w.heap.size + 2, 2, none⟩ (.slice sA L.length sc)).setCell ⟨w.heap.size + 2, 3, none⟩ (.slice tA L.length tc)) := ((((Upd.refl _ w1).setIn 0 _).setIn 1 _).setIn 2 _).setIn 3 _
    have hn9 := (New.trans HN.out HN1.out).upd hu9 (fun i e => by omega)
    exact bodyPost_ret (v := .tuple #[.agg #[.int .u64 0, .int .u64 (la : Int), .slice sA L.length sc, .slice tA L.length tc], .int .u64 0, .int .i64 (chk bl)]) (by simp [results, Tryz.results39, go_sem, r1, r2, r3, r4]) rfl ⟨⟨la, L, _, _⟩, 0, by rw [HE.out]; rfl, HRK.out.new hn9, by rw [HE.out]; exact HJ.out, by dsimp only; omega, hn9, fun k hk => .inl hk⟩
  have HCK := Lib.hid hck
  rw [hck]
  have hz0 : ((0 : Int) == 0) = true := rfl
  clear hck
  by_cases hmx : maxT ≤ la
  · have hmb : (9223372036854775807 : Int) ≤ (la : Int) := by unfold maxT at hmx; omega
    have HE : Hid (j.load ⟨bc, br, bs, bl⟩ = (j, 192)) := Lib.hid (Jd.load_end HCK.out (by rw [← HJL.out]; exact hmx))
    clear hmx
    go_wp2_with fail
    have hu9 : Upd (· = w.heap.size + 2) w1 ((((w1.setCell ⟨w.heap.size + 2, 0, none⟩ (.int .u64 0)).setCell ⟨w.heap.size + 2, 1, none⟩ (.int .u64 (la : Int))).setCell ⟨w.heap.size + 2, 2, none⟩ (.slice sA L.length sc)).setCell ⟨w.heap.size + 2, 3, none⟩ (.slice tA L.length tc)) := ((((Upd.refl _ w1).setIn 0 _).setIn 1 _).setIn 2 _).setIn 3 _
    have hn9 := (New.trans HN.out HN1.out).upd hu9 (fun i e => by omega)
    exact bodyPost_ret (v := .tuple #[.agg #[.int .u64 0, .int .u64 (la : Int), .slice sA L.length sc, .slice tA L.length tc], .int .u64 0, .int .i64 192]) (by simp [results, Tryz.results39, go_sem, r1, r2, r3, r4]) rfl ⟨⟨la, L, _, _⟩, 0, by rw [HE.out]; rfl, HRK.out.new hn9, by rw [HE.out]; exact HJ.out, by dsimp only; omega, hn9, fun k hk => .inl hk⟩
  have HMX := Lib.hid hmx
  have hl3 : decide (9223372036854775807 ≤ la) = false := decide_eq_false hmx
  have hl4 : decide ((9223372036854775807 : Int) ≤ (la : Int)) = false := decide_eq_false (by unfold maxT at hmx; omega)
  clear hmx
  go_wp2_with fail
  refine (seen_any (x := ⟨la, L, .slice sA L.length sc, .slice tA L.length tc⟩) (HRK.out.new (HN.out.trans HN1.out)).at_ bc hcb).mono ?_
  rintro e w2 ⟨rfl, hn2⟩
  have HN2 := Lib.hid (HN1.out.trans hn2)
  clear q0 q1 q2 q3 q4 qz p0 p1 p2 p3 p4 pz hn2 r0 r1 r2 r3 r4 rz
  obtain ⟨q0, q1, q2, q3, q4, qz⟩ := Blk4R (H1.out.new HN2.out)
  obtain ⟨p0, p1, p2, p3, p4, pz⟩ := Blk4R (H2.out.new HN2.out)
  have hsn := HJ.out.sn bc
  dsimp only at hsn ⊢
  rw [← hsn]
  clear hsn
  have HSN : Hid (∀ o, j.sn bc = o → j.sn bc = o) := Lib.hid (fun _ h => h)
  cases hsq : j.sn bc with
  | none =>
    have HE : Hid (j.load ⟨bc, br, bs, bl⟩ = ({ j.commit ⟨bc, br, bs, bl⟩ with sn := setD j.sn bc (some (br, ⟨j.la + 1, 0⟩)) }, 0)) := Lib.hid (Jd.load_none HCK.out (by rw [← HJL.out]; have := HMX.out; omega) hsq)
    clear hsq
    dsimp only [seenQ, seenV, Option.map, Option.getD, Option.isSome]
    go_wp2_with fail
    rw [show IntKind.u64.wrap ((la : Int) + 1) = ((la + 1 : Nat) : Int) from by have := HMX.out; unfold maxT at this; rw [IntKind.wrap_u64]; omega]
    have hna := (New.refl w2).alloc (.cells #[.int .u64 0, .int .i64 0] 49)
    have HNA := Lib.hid (HN2.out.trans hna)
    clear q0 q1 q2 q3 q4 qz p0 p1 p2 p3 p4 pz hna hl3 hl4
    generalize w2.alloc (.cells #[.int .u64 0, .int .i64 0] 49) = w3 at *
    refine (tell_any (x := ⟨la, L, .slice sA L.length sc, .slice tA L.length tc⟩) (HRK.out.new (HN.out.trans HNA.out)) ⟨⟨bc, br, bs, bl⟩, bA, bcap⟩ (HB.out.new (HN.out.trans HNA.out)) ⟨la + 1, 0⟩ (by have := HMX.out; unfold maxT at this; unfold big; dsimp only; omega) false HL.out).mono ?_
    rintro e w4 ⟨y, rfl, hyk, hyt, hn4, hyf⟩
    obtain ⟨yla, yL, ysv, ytv⟩ := y
    have hss := hyk.s.shape
    have hts := hyk.t.shape
    rw [List.length_map] at hts
    dsimp only at hss hts
    obtain ⟨ysA, ysc, rfl⟩ := hss
    obtain ⟨ytA, ytc, rfl⟩ := hts
    dsimp only [RjV.val]
    have HYK := Lib.hid hyk
    have HYT := Lib.hid hyt
    have HYF := Lib.hid hyf
    have HN4 := Lib.hid (HNA.out.trans hn4)
    have hsz := (New.trans HN.out HNA.out).size
    have H34 := Lib.hid (H3.out.new HN4.out)
    have HF4 : Hid (∀ k, RjF ⟨yla, yL, .slice ysA yL.length ysc, .slice ytA yL.length ytc⟩ k → w.heap.size + 3 ≤ k) := Lib.hid (fun k hk => by have := HYF.out k hk; have := (H3.out.new HNA.out).lt; omega)
    clear hyk hyt hyf hn4 hsz
    obtain ⟨r0, r1, r2, r3, r4, rz⟩ := Blk4R H34.out
    go_wp2_with fail
    have hu9 : Upd (· = w.heap.size + 2) w4 ((((w4.setCell ⟨w.heap.size + 2, 0, none⟩ (.int .u64 0)).setCell ⟨w.heap.size + 2, 1, none⟩ (.int .u64 (yla : Int))).setCell ⟨w.heap.size + 2, 2, none⟩ (.slice ysA yL.length ysc)).setCell ⟨w.heap.size + 2, 3, none⟩ (.slice ytA yL.length ytc)) := ((((Upd.refl _ w4).setIn 0 _).setIn 1 _).setIn 2 _).setIn 3 _
    have hn9 := (New.trans HN.out HN4.out).upd hu9 (fun i e => by omega)
    exact bodyPost_ret (v := .tuple #[.agg #[.int .u64 0, .int .u64 (yla : Int), .slice ysA yL.length ysc, .slice ytA yL.length ytc], .int .u64 ((la + 1 : Nat) : Int), .int .i64 0]) (by simp [results, Tryz.results39, go_sem, r1, r2, r3, r4]) rfl ⟨⟨yla, yL, _, _⟩, la + 1, by rw [HE.out]; rfl, HYK.out.upd hu9 (fun k hk e => by have := HF4.out k hk; omega) (Off.blk H34.out (by decide)), by rw [HE.out]; exact HJ.out.ok_ HYT.out, by have := HYT.out.1; dsimp only at this ⊢; rw [this, List.length_append]; simp, hn9, fun k hk => .inr (by have := HF4.out k hk; omega)⟩
  | some p =>
    obtain ⟨q, v⟩ := p
    dsimp only [seenQ, seenV, Option.map, Option.getD, Option.isSome]
    by_cases hbq : br < q
    · have HE : Hid (j.load ⟨bc, br, bs, bl⟩ = (j.commit ⟨bc, br, bs, bl⟩, 0)) := Lib.hid (Jd.load_late HCK.out (by rw [← HJL.out]; have := HMX.out; omega) hsq hbq)
      have hbi : (br : Int) < (q : Int) := by omega
      clear hsq hbq
      go_wp2_with fail
      rw [show IntKind.u64.wrap ((la : Int) + 1) = ((la + 1 : Nat) : Int) from by have := HMX.out; unfold maxT at this; rw [IntKind.wrap_u64]; omega]
      have hna := (New.refl w2).alloc (.cells #[.int .u64 (v.t : Int), .int .i64 v.e] 49)
      have HNA := Lib.hid (HN2.out.trans hna)
      clear q0 q1 q2 q3 q4 qz p0 p1 p2 p3 p4 pz hna hl3 hl4
      generalize w2.alloc (.cells #[.int .u64 (v.t : Int), .int .i64 v.e] 49) = w3 at *
      refine (tell_any (x := ⟨la, L, .slice sA L.length sc, .slice tA L.length tc⟩) (HRK.out.new (HN.out.trans HNA.out)) ⟨⟨bc, br, bs, bl⟩, bA, bcap⟩ (HB.out.new (HN.out.trans HNA.out)) ⟨la + 1, 0⟩ (by have := HMX.out; unfold maxT at this; unfold big; dsimp only; omega) true HL.out).mono ?_
      rintro e w4 ⟨y, rfl, hyk, hyt, hn4, hyf⟩
      obtain ⟨yla, yL, ysv, ytv⟩ := y
      have hss := hyk.s.shape
      have hts := hyk.t.shape
      rw [List.length_map] at hts
      dsimp only at hss hts
      obtain ⟨ysA, ysc, rfl⟩ := hss
      obtain ⟨ytA, ytc, rfl⟩ := hts
      dsimp only [RjV.val]
      have HYK := Lib.hid hyk
      have HYT := Lib.hid hyt
      have HYF := Lib.hid hyf
      have HN4 := Lib.hid (HNA.out.trans hn4)
      have hsz := (New.trans HN.out HNA.out).size
      have H34 := Lib.hid (H3.out.new HN4.out)
      have HF4 : Hid (∀ k, RjF ⟨yla, yL, .slice ysA yL.length ysc, .slice ytA yL.length ytc⟩ k → w.heap.size + 3 ≤ k) := Lib.hid (fun k hk => by have := HYF.out k hk; have := (H3.out.new HNA.out).lt; omega)
      clear hyk hyt hyf hn4 hsz
      obtain ⟨r0, r1, r2, r3, r4, rz⟩ := Blk4R H34.out
      go_wp2_with fail
      have hu9 : Upd (· = w.heap.size + 2) w4 ((((w4.setCell ⟨w.heap.size + 2, 0, none⟩ (.int .u64 0)).setCell ⟨w.heap.size + 2, 1, none⟩ (.int .u64 (yla : Int))).setCell ⟨w.heap.size + 2, 2, none⟩ (.slice ysA yL.length ysc)).setCell ⟨w.heap.size + 2, 3, none⟩ (.slice ytA yL.length ytc)) := ((((Upd.refl _ w4).setIn 0 _).setIn 1 _).setIn 2 _).setIn 3 _
      have hn9 := (New.trans HN.out HN4.out).upd hu9 (fun i e => by omega)
      exact bodyPost_ret (v := .tuple #[.agg #[.int .u64 0, .int .u64 (yla : Int), .slice ysA yL.length ysc, .slice ytA yL.length ytc], .int .u64 ((la + 1 : Nat) : Int), .int .i64 0]) (by simp [results, Tryz.results39, go_sem, r1, r2, r3, r4]) rfl ⟨⟨yla, yL, _, _⟩, la + 1, by rw [HE.out]; rfl, HYK.out.upd hu9 (fun k hk e => by have := HF4.out k hk; omega) (Off.blk H34.out (by decide)), by rw [HE.out]; exact HJ.out.late_ HYT.out, by have := HYT.out.1; dsimp only at this ⊢; rw [this, List.length_append]; simp, hn9, fun k hk => .inr (by have := HF4.out k hk; omega)⟩
    · have HE : Hid (j.load ⟨bc, br, bs, bl⟩ = ({ j.commit ⟨bc, br, bs, bl⟩ with sn := setD j.sn bc (some (br, ⟨j.la + 1, 0⟩)) }, 0)) := Lib.hid (Jd.load_new HCK.out (by rw [← HJL.out]; have := HMX.out; omega) hsq hbq)
      have hbi : ¬ (br : Int) < (q : Int) := by omega
      clear hsq hbq
      go_wp2_with fail
      rw [show IntKind.u64.wrap ((la : Int) + 1) = ((la + 1 : Nat) : Int) from by have := HMX.out; unfold maxT at this; rw [IntKind.wrap_u64]; omega]
      have hna := (New.refl w2).alloc (.cells #[.int .u64 (v.t : Int), .int .i64 v.e] 49)
      have HNA := Lib.hid (HN2.out.trans hna)
      clear q0 q1 q2 q3 q4 qz p0 p1 p2 p3 p4 pz hna hl3 hl4
      generalize w2.alloc (.cells #[.int .u64 (v.t : Int), .int .i64 v.e] 49) = w3 at *
      refine (tell_any (x := ⟨la, L, .slice sA L.length sc, .slice tA L.length tc⟩) (HRK.out.new (HN.out.trans HNA.out)) ⟨⟨bc, br, bs, bl⟩, bA, bcap⟩ (HB.out.new (HN.out.trans HNA.out)) ⟨la + 1, 0⟩ (by have := HMX.out; unfold maxT at this; unfold big; dsimp only; omega) false HL.out).mono ?_
      rintro e w4 ⟨y, rfl, hyk, hyt, hn4, hyf⟩
      obtain ⟨yla, yL, ysv, ytv⟩ := y
      have hss := hyk.s.shape
      have hts := hyk.t.shape
      rw [List.length_map] at hts
      dsimp only at hss hts
      obtain ⟨ysA, ysc, rfl⟩ := hss
      obtain ⟨ytA, ytc, rfl⟩ := hts
      dsimp only [RjV.val]
      have HYK := Lib.hid hyk
      have HYT := Lib.hid hyt
      have HYF := Lib.hid hyf
      have HN4 := Lib.hid (HNA.out.trans hn4)
      have hsz := (New.trans HN.out HNA.out).size
      have H34 := Lib.hid (H3.out.new HN4.out)
      have HF4 : Hid (∀ k, RjF ⟨yla, yL, .slice ysA yL.length ysc, .slice ytA yL.length ytc⟩ k → w.heap.size + 3 ≤ k) := Lib.hid (fun k hk => by have := HYF.out k hk; have := (H3.out.new HNA.out).lt; omega)
      clear hyk hyt hyf hn4 hsz
      obtain ⟨r0, r1, r2, r3, r4, rz⟩ := Blk4R H34.out
      go_wp2_with fail
      have hu9 : Upd (· = w.heap.size + 2) w4 ((((w4.setCell ⟨w.heap.size + 2, 0, none⟩ (.int .u64 0)).setCell ⟨w.heap.size + 2, 1, none⟩ (.int .u64 (yla : Int))).setCell ⟨w.heap.size + 2, 2, none⟩ (.slice ysA yL.length ysc)).setCell ⟨w.heap.size + 2, 3, none⟩ (.slice ytA yL.length ytc)) := ((((Upd.refl _ w4).setIn 0 _).setIn 1 _).setIn 2 _).setIn 3 _
      have hn9 := (New.trans HN.out HN4.out).upd hu9 (fun i e => by omega)
      exact bodyPost_ret (v := .tuple #[.agg #[.int .u64 0, .int .u64 (yla : Int), .slice ysA yL.length ysc, .slice ytA yL.length ytc], .int .u64 ((la + 1 : Nat) : Int), .int .i64 0]) (by simp [results, Tryz.results39, go_sem, r1, r2, r3, r4]) rfl ⟨⟨yla, yL, _, _⟩, la + 1, by rw [HE.out]; rfl, HYK.out.upd hu9 (fun k hk e => by have := HF4.out k hk; omega) (Off.blk H34.out (by decide)), by rw [HE.out]; exact HJ.out.ok_ HYT.out, by have := HYT.out.1; dsimp only at this ⊢; rw [this, List.length_append]; simp, hn9, fun k hk => .inr (by have := HF4.out k hk; omega)⟩
end
end Go.Proofs.YtecniafnihpjmaaGreatDoor
