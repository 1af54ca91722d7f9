/- Chapter 19's reference beside the judge: Say. Printed by genRsE.py. -/
import Derived.Test.YtecniafnihpjmaaGreatDoorTk
import Derived.Test.YtecniafnihpjmaaGreatDoorRsD
namespace Go.Proofs.YtecniafnihpjmaaGreatDoor
open Go.RowKit Go.Lap C
set_option linter.unusedVariables false
set_option linter.unusedSimpArgs false
section
variable {w w' W : World} {x y : RjV} {j : Jd} {b : BtV}
/-- What Say answers. -/
def RSayPost (w : World) (x : RjV) (j : Jd) (b : Btc) (e : Ending) (w' : World) : Prop := ∃ y : RjV, e = .returned (.tuple #[y.val, .agg #[.int .u64 ((j.say b).2.t : Int), .int .i64 (j.say b).2.e]]) ∧ RkAt w' y ∧ JR y (j.say b).1 ∧ y.L.length ≤ x.L.length + 1 ∧ New w w' ∧ ∀ k, RjF y k → RjF x k ∨ w.heap.size ≤ k
theorem Jd.say_bad {b : Btc} (h : chk b.l ≠ 0) : j.say b = (j, ⟨0, chk b.l⟩) := by unfold Jd.say; rw [if_pos h]
theorem Jd.say_none {b : Btc} (h : chk b.l = 0) (h3 : j.sn b.c = none) : j.say b = j.new_ b := by unfold Jd.say; rw [if_neg (fun h3 => h3 h), h3]
theorem Jd.say_same {b : Btc} {q : Nat} {v : Vd} (h : chk b.l = 0) (h3 : j.sn b.c = some (q, v)) (h4 : q = b.r) : j.say b = (j, v) := by unfold Jd.say; rw [if_neg (fun h3 => h3 h), h3]; dsimp only; rw [if_pos h4]
theorem Jd.say_old {b : Btc} {q : Nat} {v : Vd} (h : chk b.l = 0) (h3 : j.sn b.c = some (q, v)) (h4 : ¬ q = b.r) (h5 : b.r < q) : j.say b = (j, ⟨0, 193⟩) := by unfold Jd.say; rw [if_neg (fun h3 => h3 h), h3]; dsimp only; rw [if_neg h4, if_pos h5]
theorem Jd.say_new {b : Btc} {q : Nat} {v : Vd} (h : chk b.l = 0) (h3 : j.sn b.c = some (q, v)) (h4 : ¬ q = b.r) (h5 : ¬ b.r < q) : j.say b = j.new_ b := by unfold Jd.say; rw [if_neg (fun h3 => h3 h), h3]; dsimp only; rw [if_neg h4, if_neg h5]
theorem Jd.new_start {b : Btc} (h : j.la < b.s) : j.new_ b = (j, ⟨0, 190⟩) := by unfold Jd.new_; rw [if_pos h]
theorem Jd.new_end {b : Btc} (h : ¬ j.la < b.s) (h2 : maxT ≤ j.la) : j.new_ b = (j, ⟨0, 192⟩) := by unfold Jd.new_; rw [if_neg h, if_pos h2]
/-- Is one of the keys written behind the start? -/
def wrR (L : List SdV) (s : Nat) (l : List Wri) : Bool := l.any fun y => decide (s < whenR L y.key)
theorem wrR_snoc (L : List SdV) (s : Nat) (l : List Wri) (y : Wri) : wrR L s (l ++ [y]) = (wrR L s l || decide (s < whenR L y.key)) := by unfold wrR; rw [List.any_append]; simp
def vdX (la : Nat) (c : Bool) : Vd := if c = true then ⟨0, 191⟩ else ⟨la + 1, 0⟩
theorem JR.written (h : JR x j) (b : Btc) : j.written b = wrR x.L b.s b.l := by unfold Jd.written wrR; congr 1; funext y; rw [h.wh]
theorem Jd.new_rest {b : Btc} (hj : JR x j) (h : ¬ j.la < b.s) (h2 : ¬ maxT ≤ j.la) : (j.new_ b).2 = vdX x.la (wrR x.L b.s b.l) := by
  unfold Jd.new_ vdX; rw [if_neg h, if_neg h2, hj.written]
  cases wrR x.L b.s b.l <;> simp [hj.la]
theorem JR.rest {y : RjV} (hj : JR x j) (h : ¬ j.la < b.b.s) (h2 : ¬ maxT ≤ j.la) (ht : x.told ⟨b, vdX x.la (wrR x.L b.b.s b.b.l), false⟩ y) : JR y (j.new_ b.b).1 := by
  unfold Jd.new_; rw [if_neg h, if_neg h2, hj.written]
  unfold vdX at ht
  cases hw : wrR x.L b.b.s b.b.l
  · rw [hw] at ht; exact hj.ok_ ht
  · rw [hw] at ht; exact hj.conf_ ht
structure SayRel (w3 wr : World) (g9 la : Nat) (L : List SdV) (s : Nat) (l : List Wri) (i : Nat) : Prop where
  nw : New w3 wr
  bk : Blk wr g9 49 #[.int .u64 ((vdX la (wrR L s (l.take i))).t : Int), .int .i64 (vdX la (wrR L s (l.take i))).e]
theorem vdX_lt {la : Nat} {c : Bool} (h : ¬ maxT ≤ la) : (vdX la c).t < big := by
  unfold vdX; unfold maxT at h; unfold big; cases c <;> simp <;> omega
set_option maxRecDepth 100000 in
set_option maxHeartbeats 8000000 in
theorem rsay_any (h : RkAt w x) (hj : JR x j) (hb : BtAt w b) (hl : x.L.length < 100000) :
    Calls Tryz.prog 45 #[x.val, b.val] w (RSayPost w x j b.b) := by
  have HRK := Lib.hid h
  have HJ := Lib.hid hj
  have HB := Lib.hid hb
  have HL := Lib.hid hl
  have hcb := hb.ok.c
  have hrb := hb.ok.r
  obtain ⟨la, L, sv, tv⟩ := x
  obtain ⟨⟨bc, br, bs, bl⟩, bA, bcap⟩ := b
  have hss := h.s.shape
  dsimp only at hss
  obtain ⟨sA, sc, rfl⟩ := hss
  have hts := h.t.shape
  rw [List.length_map] at hts
  dsimp only at hts
  obtain ⟨tA, tc, rfl⟩ := hts
  have HCH := Lib.hid (refCheck_any bc br bs (.slice bA bl.length bcap) bl)
  have hbl : bl.length ≤ 1000 := hb.ok.l
  have hla := h.la
  have hjl := hj.la
  dsimp only [RjV.val, BtV.val, BtV.sl, batV] at hcb hrb hla hjl ⊢
  have hN := ((((New.refl w).alloc (.cells #[.int .u64 0, .int .u64 (la : Int), .slice sA L.length sc, .slice tA L.length tc] 33)).alloc (.cells #[.int .u64 (bc : Int), .int .u64 (br : Int), .int .u64 (bs : Int), .slice bA bl.length bcap] 40)).alloc (.cells #[.int .u64 0, .int .u64 0, .slice none 0 0, .slice none 0 0] 33)).alloc (.cells #[.int .u64 0, .int .i64 0] 49)
  have h1 := (((Blk.mk_new (w) 33 #[.int .u64 0, .int .u64 (la : Int), .slice sA L.length sc, .slice tA L.length tc]).alloc (.cells #[.int .u64 (bc : Int), .int .u64 (br : Int), .int .u64 (bs : Int), .slice bA bl.length bcap] 40)).alloc (.cells #[.int .u64 0, .int .u64 0, .slice none 0 0, .slice none 0 0] 33)).alloc (.cells #[.int .u64 0, .int .i64 0] 49)
  have h2 := ((Blk.mk_new ((w).alloc (.cells #[.int .u64 0, .int .u64 (la : Int), .slice sA L.length sc, .slice tA L.length tc] 33)) 40 #[.int .u64 (bc : Int), .int .u64 (br : Int), .int .u64 (bs : Int), .slice bA bl.length bcap]).alloc (.cells #[.int .u64 0, .int .u64 0, .slice none 0 0, .slice none 0 0] 33)).alloc (.cells #[.int .u64 0, .int .i64 0] 49)
  have h3 := (Blk.mk_new (((w).alloc (.cells #[.int .u64 0, .int .u64 (la : Int), .slice sA L.length sc, .slice tA L.length tc] 33)).alloc (.cells #[.int .u64 (bc : Int), .int .u64 (br : Int), .int .u64 (bs : Int), .slice bA bl.length bcap] 40)) 33 #[.int .u64 0, .int .u64 0, .slice none 0 0, .slice none 0 0]).alloc (.cells #[.int .u64 0, .int .i64 0] 49)
  have h4 := Blk.mk_new ((((w).alloc (.cells #[.int .u64 0, .int .u64 (la : Int), .slice sA L.length sc, .slice tA L.length tc] 33)).alloc (.cells #[.int .u64 (bc : Int), .int .u64 (br : Int), .int .u64 (bs : Int), .slice bA bl.length bcap] 40)).alloc (.cells #[.int .u64 0, .int .u64 0, .slice none 0 0, .slice none 0 0] 33)) 49 #[.int .u64 0, .int .i64 0]
  simp only [World.size_alloc] at h2 h3 h4
  have HN := Lib.hid hN
  have H1 := Lib.hid h1
  have H2 := Lib.hid h2
  have H3 := Lib.hid h3
  have H4 := Lib.hid h4
  have HLA := Lib.hid hla
  have HRB := Lib.hid hrb
  have HBL := Lib.hid hbl
  have HJL := Lib.hid hjl
  clear hN h1 h2 h3 h4 hj hb hl h hla hrb hjl
  go_enter Tryz.func45, Tryz.ntmps45
  go_upto_region 1 with fail
  generalize (((((w).alloc (.cells #[.int .u64 0, .int .u64 (la : Int), .slice sA L.length sc, .slice tA L.length tc] 33)).alloc (.cells #[.int .u64 (bc : Int), .int .u64 (br : Int), .int .u64 (bs : Int), .slice bA bl.length bcap] 40)).alloc (.cells #[.int .u64 0, .int .u64 0, .slice none 0 0, .slice none 0 0] 33)).alloc (.cells #[.int .u64 0, .int .i64 0] 49)) = W at *
  obtain ⟨q0, q1, q2, q3, q4, qz⟩ := Blk4R H1.out
  obtain ⟨p0, p1, p2, p3, p4, pz⟩ := Blk4R H2.out
  go_wp2_with fail
  refine (HCH.out W (by omega) ((HB.out.sl.slIn).new HN.out)).mono ?_
  rintro e w1 ⟨rfl, hn1⟩
  have HN1 := Lib.hid hn1
  clear q0 q1 q2 q3 q4 qz p0 p1 p2 p3 p4 pz hn1 hbl
  obtain ⟨q0, q1, q2, q3, q4, qz⟩ := Blk4R (H1.out.new HN1.out)
  obtain ⟨p0, p1, p2, p3, p4, pz⟩ := Blk4R (H2.out.new HN1.out)
  obtain ⟨r0, r1, r2, r3, r4, rz⟩ := Blk4R (H3.out.new HN1.out)
  obtain ⟨s0, s1, s2, sz⟩ := Blk2R (H4.out.new HN1.out)
  by_cases hck : chk bl = 0
  case neg =>
    have hcb2 : (chk bl == 0) = false := beq_eq_false_iff_ne.2 hck
    have HE : Hid (j.say ⟨bc, br, bs, bl⟩ = (j, ⟨0, chk bl⟩)) := Lib.hid (Jd.say_bad hck)
    clear hck
    go_wp2_with fail
    have hu9 : Upd (fun i => i = w.heap.size + 2 ∨ i = w.heap.size + 3) w1 ((((((w1.setCell ⟨w.heap.size + 2, 0, none⟩ (.int .u64 0)).setCell ⟨w.heap.size + 2, 1, none⟩ (.int .u64 (la : Int))).setCell ⟨w.heap.size + 2, 2, none⟩ (.slice sA L.length sc)).setCell ⟨w.heap.size + 2, 3, none⟩ (.slice tA L.length tc)).setCell ⟨w.heap.size + 3, 0, none⟩ (.int .u64 0)).setCell ⟨w.heap.size + 3, 1, none⟩ (.int .i64 (chk bl))) := ((((((Upd.refl _ w1).setCell (fun _ => .inl rfl) _).setCell (fun _ => .inl rfl) _).setCell (fun _ => .inl rfl) _).setCell (fun _ => .inl rfl) _).setCell (fun _ => .inr rfl) _).setCell (fun _ => .inr rfl) _
    have hn9 := (New.trans HN.out HN1.out).upd hu9 (fun i e => by omega)
    exact bodyPost_ret (v := .tuple #[.agg #[.int .u64 0, .int .u64 (la : Int), .slice sA L.length sc, .slice tA L.length tc], .agg #[.int .u64 0, .int .i64 (chk bl)]]) (by simp [results, Tryz.results45, go_sem, r1, r2, r3, r4, s1, s2]) rfl ⟨⟨la, L, _, _⟩, by rw [HE.out]; rfl, HRK.out.new hn9, by rw [HE.out]; exact HJ.out, by dsimp only; omega, hn9, fun k hk => .inl hk⟩
  have HCK := Lib.hid hck
  rw [hck]
  have hz0 : ((0 : Int) == 0) = true := rfl
  clear hck r0 r1 r2 r3 r4 rz s0 s1 s2 sz
  go_wp2_with fail
  refine (seen_any (x := ⟨la, L, .slice sA L.length sc, .slice tA L.length tc⟩) (HRK.out.new (HN.out.trans HN1.out)).at_ bc hcb).mono ?_
  rintro e w2 ⟨rfl, hn2⟩
  have HN2 := Lib.hid (HN1.out.trans hn2)
  clear q0 q1 q2 q3 q4 qz p0 p1 p2 p3 p4 pz hn2
  obtain ⟨q0, q1, q2, q3, q4, qz⟩ := Blk4R (H1.out.new HN2.out)
  obtain ⟨p0, p1, p2, p3, p4, pz⟩ := Blk4R (H2.out.new HN2.out)
  obtain ⟨r0, r1, r2, r3, r4, rz⟩ := Blk4R (H3.out.new HN2.out)
  obtain ⟨s0, s1, s2, sz⟩ := Blk2R (H4.out.new HN2.out)
  have hsn := HJ.out.sn bc
  dsimp only at hsn ⊢
  rw [← hsn]
  clear hsn
  cases hsq : j.sn bc with
  | none =>
    have HE0 : Hid (j.say ⟨bc, br, bs, bl⟩ = j.new_ ⟨bc, br, bs, bl⟩) := Lib.hid (Jd.say_none HCK.out hsq)
    clear hsq
    dsimp only [seenQ, seenV, Option.map, Option.getD, Option.isSome]
    go_upto_region 9 with fail
    have hna := (New.refl w2).alloc (.cells #[.int .u64 0, .int .i64 0] 49)
    have HG := Lib.hid (Blk.mk_new w2 49 #[.int .u64 0, .int .i64 0])
    have HN3 := Lib.hid (HN2.out.trans hna)
    have HG8 : Hid (w.heap.size + 4 ≤ w2.heap.size) := Lib.hid (by have := (H4.out.new HN2.out).lt; omega)
    clear q0 q1 q2 q3 q4 qz p0 p1 p2 p3 p4 pz r0 r1 r2 r3 r4 rz s0 s1 s2 sz hna
    generalize w2.alloc (.cells #[.int .u64 0, .int .i64 0] 49) = w3 at *
    generalize w2.heap.size = g8 at *
    obtain ⟨q0, q1, q2, q3, q4, qz⟩ := Blk4R (H1.out.new HN3.out)
    obtain ⟨p0, p1, p2, p3, p4, pz⟩ := Blk4R (H2.out.new HN3.out)
    obtain ⟨r0, r1, r2, r3, r4, rz⟩ := Blk4R (H3.out.new HN3.out)
    obtain ⟨s0, s1, s2, sz⟩ := Blk2R (H4.out.new HN3.out)
    obtain ⟨g0, g1, g2, gz⟩ := Blk2R HG.out
    by_cases hst : la < bs
    · have HE : Hid (j.say ⟨bc, br, bs, bl⟩ = (j, ⟨0, 190⟩)) := Lib.hid (by rw [HE0.out]; exact Jd.new_start (by rw [← HJL.out]; exact hst))
      have hsi : (la : Int) < (bs : Int) := by omega
      clear hst
      go_wp2_with fail
      have hu9 : Upd (fun i => i = w.heap.size + 2 ∨ i = w.heap.size + 3) w3 ((((((w3.setCell ⟨w.heap.size + 2, 0, none⟩ (.int .u64 0)).setCell ⟨w.heap.size + 2, 1, none⟩ (.int .u64 (la : Int))).setCell ⟨w.heap.size + 2, 2, none⟩ (.slice sA L.length sc)).setCell ⟨w.heap.size + 2, 3, none⟩ (.slice tA L.length tc)).setCell ⟨w.heap.size + 3, 0, none⟩ (.int .u64 0)).setCell ⟨w.heap.size + 3, 1, none⟩ (.int .i64 190)) := ((((((Upd.refl _ w3).setCell (fun _ => .inl rfl) _).setCell (fun _ => .inl rfl) _).setCell (fun _ => .inl rfl) _).setCell (fun _ => .inl rfl) _).setCell (fun _ => .inr rfl) _).setCell (fun _ => .inr rfl) _
      have hn9 := (New.trans HN.out HN3.out).upd hu9 (fun i e => by omega)
      exact bodyPost_ret (v := .tuple #[.agg #[.int .u64 0, .int .u64 (la : Int), .slice sA L.length sc, .slice tA L.length tc], .agg #[.int .u64 0, .int .i64 190]]) (by simp [results, Tryz.results45, go_sem, r1, r2, r3, r4, s1, s2]) rfl ⟨⟨la, L, _, _⟩, by rw [HE.out]; rfl, HRK.out.new hn9, by rw [HE.out]; exact HJ.out, by dsimp only; omega, hn9, fun k hk => .inl hk⟩
    have HST := Lib.hid hst
    have hsi : ¬ (la : Int) < (bs : Int) := by omega
    clear hst
    by_cases hmx : maxT ≤ la
    · have hmb : (9223372036854775807 : Int) ≤ (la : Int) := by unfold maxT at hmx; omega
      have HE : Hid (j.say ⟨bc, br, bs, bl⟩ = (j, ⟨0, 192⟩)) := Lib.hid (by rw [HE0.out]; exact Jd.new_end (by rw [← HJL.out]; exact HST.out) (by rw [← HJL.out]; exact hmx))
      clear hmx
      go_wp2_with fail
      have hu9 : Upd (fun i => i = w.heap.size + 2 ∨ i = w.heap.size + 3) w3 ((((((w3.setCell ⟨w.heap.size + 2, 0, none⟩ (.int .u64 0)).setCell ⟨w.heap.size + 2, 1, none⟩ (.int .u64 (la : Int))).setCell ⟨w.heap.size + 2, 2, none⟩ (.slice sA L.length sc)).setCell ⟨w.heap.size + 2, 3, none⟩ (.slice tA L.length tc)).setCell ⟨w.heap.size + 3, 0, none⟩ (.int .u64 0)).setCell ⟨w.heap.size + 3, 1, none⟩ (.int .i64 192)) := ((((((Upd.refl _ w3).setCell (fun _ => .inl rfl) _).setCell (fun _ => .inl rfl) _).setCell (fun _ => .inl rfl) _).setCell (fun _ => .inl rfl) _).setCell (fun _ => .inr rfl) _).setCell (fun _ => .inr rfl) _
      have hn9 := (New.trans HN.out HN3.out).upd hu9 (fun i e => by omega)
      exact bodyPost_ret (v := .tuple #[.agg #[.int .u64 0, .int .u64 (la : Int), .slice sA L.length sc, .slice tA L.length tc], .agg #[.int .u64 0, .int .i64 192]]) (by simp [results, Tryz.results45, go_sem, r1, r2, r3, r4, s1, s2]) rfl ⟨⟨la, L, _, _⟩, by rw [HE.out]; rfl, HRK.out.new hn9, by rw [HE.out]; exact HJ.out, by dsimp only; omega, hn9, fun k hk => .inl hk⟩
    have HMX := Lib.hid hmx
    have hl3 : decide (9223372036854775807 ≤ la) = false := decide_eq_false hmx
    have hl4 : decide ((9223372036854775807 : Int) ≤ (la : Int)) = false := decide_eq_false (by unfold maxT at hmx; omega)
    clear hmx
    go_upto_region 14 with fail
    rw [show IntKind.u64.wrap ((la : Int) + 1) = ((la + 1 : Nat) : Int) from by have := HMX.out; unfold maxT at this; rw [IntKind.wrap_u64]; omega]
    have HG9 := Lib.hid (Blk.mk_new w3 49 #[.int .u64 ((la + 1 : Nat) : Int), .int .i64 0])
    have HRL : Hid (SayRel w3 (w3.alloc (.cells #[.int .u64 ((la + 1 : Nat) : Int), .int .i64 0] 49)) w3.heap.size la L bs bl 0) := Lib.hid ⟨(New.refl w3).alloc _, HG9.out⟩
    have HG98 : Hid (w.heap.size + 4 ≤ w3.heap.size) := Lib.hid (by have := HG.out.lt; have := HG8.out; omega)
    have HG93 : Hid (w3.heap.size ≤ w3.heap.size) := Lib.hid (Nat.le_refl _)
    clear hl3 hl4 HG9 q0 q1 q2 q3 q4 qz p0 p1 p2 p3 p4 pz r0 r1 r2 r3 r4 rz s0 s1 s2 sz g0 g1 g2 gz
    generalize w3.alloc (.cells #[.int .u64 ((la + 1 : Nat) : Int), .int .i64 0] 49) = w4 at *
    generalize hgg : w3.heap.size = g9 at HRL HG98 ⊢
    have HG9 : Hid (w3.heap.size ≤ g9) := Lib.hid (Nat.le_of_eq hgg)
    clear hgg HG93
    go_wp2_with fail
    go_loopw [11] (fun u11 wr => ∃ i : Nat, i ≤ bl.length ∧ u11 = .int .i64 (i : Int) ∧ SayRel w3 wr g9 la L bs bl i) (fun u11 _ => bl.length - (intOf u11).toNat)
    case atStart => exact ⟨0, Nat.zero_le _, rfl, HRL.out⟩
    case round =>
      obtain ⟨i, hi, rfl, hrel⟩ := hrel
      clear HRL
      have HR := Lib.hid hrel
      have HNW := Lib.hid (HN3.out.trans hrel.nw)
      have HNw := Lib.hid (HN.out.trans HNW.out)
      have hi0 : (0 : Int) ≤ (i : Int) := by omega
      clear hrel
      obtain ⟨q0, q1, q2, q3, q4, qz⟩ := Blk4R (H1.out.new HNW.out)
      obtain ⟨p0, p1, p2, p3, p4, pz⟩ := Blk4R (H2.out.new HNW.out)
      obtain ⟨g0, g1, g2, gz⟩ := Blk2R HR.out.bk
      by_cases hlt : i < bl.length
      · have hlt2 : (i : Int) < (bl.length : Int) := by omega
        obtain ⟨y, hy⟩ : ∃ y, bl[i]? = some y := ⟨_, List.getElem?_eq_getElem hlt⟩
        have HTK : Hid (wrR L bs (bl.take (i + 1)) = (wrR L bs (bl.take i) || decide (bs < whenR L y.key))) := Lib.hid (by rw [take_snocT hy, wrR_snoc])
        obtain ⟨A', c', hv', _, hh2⟩ := HB.out.sl
        unfold BtV.sl at hv'
        dsimp only at hv' hh2
        cases hv'
        rcases hh2 with h0 | ⟨gw, ow, cs2, rfl, hbw, hcw⟩
        · exact absurd hlt (by rw [h0]; simp)
        obtain ⟨e0, e1, e2⟩ := SlIn.three (fun k x h j u hu => (hbw.cell _).trans (hcw k x h j u hu)) hy
        have e4 := (HNw.out.cells.1 gw _ hbw.lt).trans e0
        have e4l : gw < wr.heap.size := Nat.lt_of_lt_of_le hbw.lt HNw.out.size
        have HE4 : Hid (gw < wr.heap.size) := Lib.hid e4l
        clear hy hcw hbw e0 e1 e2
        by_cases hwh : bs < whenR L y.key
        · have hwb : (bs : Int) < (whenR L y.key : Int) := by omega
          have HTK2 : Hid (wrR L bs (bl.take (i + 1)) = true) := Lib.hid (by rw [HTK.out, decide_eq_true hwh]; simp)
          clear hwh
          go_upto_region 17 with fail
          refine wp_region_held_drew (S := fun w' => (w'.cell? ⟨w.heap.size, 0, none⟩ = some (.int .u64 0) ∧ w'.cell? ⟨w.heap.size, 1, none⟩ = some (.int .u64 (la : Int)) ∧ w'.cell? ⟨w.heap.size, 2, none⟩ = some (.slice sA L.length sc) ∧ w'.cell? ⟨w.heap.size, 3, none⟩ = some (.slice tA L.length tc)) ∧ w'.cell? ⟨w.heap.size + 1, 2, none⟩ = some (.int .u64 (bs : Int)) ∧ w'.cell? ⟨w.heap.size + 1, 3, none⟩ = some (.slice (some ⟨gw, ow, none⟩) bl.length bcap) ∧ w'.cell? ⟨gw, ow + i * 3, none⟩ = some (.string y.key)) (by kernel_rfl) (⟨⟨q1, q2, q3, q4⟩, p3, p4, e4⟩) (fun hHeld => ?_)
          refine tkH (i := 0) (oi := ⟨some 68, .load 33 (.tmp 2), 33, "ref.go:75", #[], none⟩) (v := ?_) (.inl ⟨by rfl, ?_⟩) ?_
          rotate_left
          · (intro wq hSw; (try dsimp only at hSw); go_simp; first | done | with_reducible rfl)
          try simp only [Act.put, sA, sZ, sS]
          refine tkH (i := 1) (oi := ⟨some 69, .fieldAddr 40 (.tmp 3) 3, 0, "ref.go:75", #[], none⟩) (v := ?_) (.inl ⟨by rfl, ?_⟩) ?_
          rotate_left
          · (intro wq hSw; (try dsimp only at hSw); go_simp; first | done | with_reducible rfl)
          try simp only [Act.put, sA, sZ, sS]
          refine tkH (i := 2) (oi := ⟨some 70, .load 38 (.tmp 69), 38, "ref.go:75", #[⟨1, .data⟩], none⟩) (v := ?_) (.inl ⟨by rfl, ?_⟩) ?_
          rotate_left
          · (intro wq hSw; (try dsimp only at hSw); go_simp; first | done | with_reducible rfl)
          try simp only [Act.put, sA, sZ, sS]
          refine tkH (i := 3) (oi := ⟨some 71, .move (.tmp 11), 3, "ref.go:75", #[], none⟩) (v := ?_) (.inl ⟨by rfl, ?_⟩) ?_
          rotate_left
          · (intro wq hSw; (try dsimp only at hSw); go_simp; first | done | with_reducible rfl)
          try simp only [Act.put, sA, sZ, sS]
          refine tkH (i := 4) (oi := ⟨some 72, .indexAddr 38 (.tmp 70) (.tmp 71), 0, "ref.go:75", #[⟨2, .data⟩, ⟨3, .data⟩], none⟩) (v := ?_) (.inl ⟨by rfl, ?_⟩) ?_
          rotate_left
          · (intro wq hSw; (try dsimp only at hSw); go_simp; first | done | with_reducible rfl)
          try simp only [Act.put, sA, sZ, sS]
          refine tkH (i := 5) (oi := ⟨some 73, .fieldAddr 97 (.tmp 72) 0, 0, "ref.go:75", #[⟨4, .data⟩], none⟩) (v := ?_) (.inl ⟨by rfl, ?_⟩) ?_
          rotate_left
          · (intro wq hSw; (try dsimp only at hSw); go_simp; first | done | with_reducible rfl)
          try simp only [Act.put, sA, sZ, sS]
          refine tkH (i := 6) (oi := ⟨some 74, .load 9 (.tmp 73), 9, "ref.go:75", #[⟨5, .data⟩], none⟩) (v := ?_) (.inl ⟨by rfl, ?_⟩) ?_
          rotate_left
          · (intro wq hSw; (try dsimp only at hSw); go_simp; first | done | with_reducible rfl)
          try simp only [Act.put, sA, sZ, sS]
          refine tkH (i := 8) (oi := ⟨some 76, .fieldAddr 40 (.tmp 3) 2, 0, "ref.go:75", #[], none⟩) (v := ?_) (.inl ⟨by rfl, ?_⟩) ?_
          rotate_left
          · (intro wq hSw; (try dsimp only at hSw); go_simp; first | done | with_reducible rfl)
          try simp only [Act.put, sA, sZ, sS]
          refine tkH (i := 9) (oi := ⟨some 77, .load 22 (.tmp 76), 22, "ref.go:75", #[⟨8, .data⟩], none⟩) (v := ?_) (.inl ⟨by rfl, ?_⟩) ?_
          rotate_left
          · (intro wq hSw; (try dsimp only at hSw); go_simp; first | done | with_reducible rfl)
          try simp only [Act.put, sA, sZ, sS]
          refine wpAnyH_ready (rs := [7]) (by kernel_rfl) (by simp) ?_
          refine AllReadyH.cons (o := ⟨some 75, .call { callee := .value (.func 78), args := #[.tmp 68, .tmp 74], argTypes := #[33, 9] }, 22, "ref.go:75", #[⟨0, .data⟩, ⟨6, .data⟩], none⟩) rfl (fun K hK => ?_) AllReadyH.nil
          go_simp
          refine (when_any (x := ⟨la, L, .slice sA L.length sc, .slice tA L.length tc⟩) ((HRK.out.new HNw.out).new (New.refl wr).drew).at_ y.key).mono ?_
          rintro e w5 ⟨rfl, hn5⟩
          have HN5 := Lib.hid ((New.refl wr).drew.trans hn5)
          have HNW5 := Lib.hid (HNW.out.trans HN5.out)
          have e5 := (HN5.out.cells.1 gw _ e4l).trans e4
          have HR5 := Lib.hid (HR.out.bk.new HN5.out)
          clear q0 q1 q2 q3 q4 qz p0 p1 p2 p3 p4 pz g0 g1 g2 gz hn5 hHeld
          obtain ⟨q0, q1, q2, q3, q4, qz⟩ := Blk4R (H1.out.new HNW5.out)
          obtain ⟨p0, p1, p2, p3, p4, pz⟩ := Blk4R (H2.out.new HNW5.out)
          obtain ⟨g0, g1, g2, gz⟩ := Blk2R HR5.out
          refine hK.out _ _ ?_ (fun hHeld => ?_)
          · exact ⟨⟨q1, q2, q3, q4⟩, p3, p4, e5⟩
          clear hK K
          try simp only [Act.put, sA, sZ, sS]
          refine tkH (i := 10) (oi := ⟨some 78, .binOp .gtr 22 (.tmp 75) (.tmp 77) 22, 4, "ref.go:75", #[⟨7, .data⟩, ⟨9, .data⟩], none⟩) (v := ?_) (.inl ⟨by rfl, ?_⟩) ?_
          rotate_left
          · (intro wq hSw; (try dsimp only at hSw); go_simp; first | done | with_reducible rfl)
          try simp only [Act.put, sA, sZ, sS]
          refine wpAnyH_done (by kernel_rfl) ?_ _
          clear hHeld
          have hbl1 := HBL.out
          go_wp2_with fail
          go_roundw
          case rel => exact ⟨i + 1, by omega, by go_num, ⟨(HR.out.nw.trans HN5.out).upd (((Upd.refl (· = g9) _).setIn 0 _).setIn 1 _) (fun j e => by rw [e]; exact HG9.out), by have := (HR5.out.set_ 0 (.int .u64 0)).set_ 1 (.int .i64 191); rw [HTK2.out]; exact this⟩⟩
          case measure => simp [intOf]; omega
        · have hwb : ¬ (bs : Int) < (whenR L y.key : Int) := by omega
          have HTK2 : Hid (wrR L bs (bl.take (i + 1)) = wrR L bs (bl.take i)) := Lib.hid (by rw [HTK.out, decide_eq_false hwh]; simp)
          clear hwh
          go_upto_region 17 with fail
          refine wp_region_held_drew (S := fun w' => (w'.cell? ⟨w.heap.size, 0, none⟩ = some (.int .u64 0) ∧ w'.cell? ⟨w.heap.size, 1, none⟩ = some (.int .u64 (la : Int)) ∧ w'.cell? ⟨w.heap.size, 2, none⟩ = some (.slice sA L.length sc) ∧ w'.cell? ⟨w.heap.size, 3, none⟩ = some (.slice tA L.length tc)) ∧ w'.cell? ⟨w.heap.size + 1, 2, none⟩ = some (.int .u64 (bs : Int)) ∧ w'.cell? ⟨w.heap.size + 1, 3, none⟩ = some (.slice (some ⟨gw, ow, none⟩) bl.length bcap) ∧ w'.cell? ⟨gw, ow + i * 3, none⟩ = some (.string y.key)) (by kernel_rfl) (⟨⟨q1, q2, q3, q4⟩, p3, p4, e4⟩) (fun hHeld => ?_)
          refine tkH (i := 0) (oi := ⟨some 68, .load 33 (.tmp 2), 33, "ref.go:75", #[], none⟩) (v := ?_) (.inl ⟨by rfl, ?_⟩) ?_
          rotate_left
          · (intro wq hSw; (try dsimp only at hSw); go_simp; first | done | with_reducible rfl)
          try simp only [Act.put, sA, sZ, sS]
          refine tkH (i := 1) (oi := ⟨some 69, .fieldAddr 40 (.tmp 3) 3, 0, "ref.go:75", #[], none⟩) (v := ?_) (.inl ⟨by rfl, ?_⟩) ?_
          rotate_left
          · (intro wq hSw; (try dsimp only at hSw); go_simp; first | done | with_reducible rfl)
          try simp only [Act.put, sA, sZ, sS]
          refine tkH (i := 2) (oi := ⟨some 70, .load 38 (.tmp 69), 38, "ref.go:75", #[⟨1, .data⟩], none⟩) (v := ?_) (.inl ⟨by rfl, ?_⟩) ?_
          rotate_left
          · (intro wq hSw; (try dsimp only at hSw); go_simp; first | done | with_reducible rfl)
          try simp only [Act.put, sA, sZ, sS]
          refine tkH (i := 3) (oi := ⟨some 71, .move (.tmp 11), 3, "ref.go:75", #[], none⟩) (v := ?_) (.inl ⟨by rfl, ?_⟩) ?_
          rotate_left
          · (intro wq hSw; (try dsimp only at hSw); go_simp; first | done | with_reducible rfl)
          try simp only [Act.put, sA, sZ, sS]
          refine tkH (i := 4) (oi := ⟨some 72, .indexAddr 38 (.tmp 70) (.tmp 71), 0, "ref.go:75", #[⟨2, .data⟩, ⟨3, .data⟩], none⟩) (v := ?_) (.inl ⟨by rfl, ?_⟩) ?_
          rotate_left
          · (intro wq hSw; (try dsimp only at hSw); go_simp; first | done | with_reducible rfl)
          try simp only [Act.put, sA, sZ, sS]
          refine tkH (i := 5) (oi := ⟨some 73, .fieldAddr 97 (.tmp 72) 0, 0, "ref.go:75", #[⟨4, .data⟩], none⟩) (v := ?_) (.inl ⟨by rfl, ?_⟩) ?_
          rotate_left
          · (intro wq hSw; (try dsimp only at hSw); go_simp; first | done | with_reducible rfl)
          try simp only [Act.put, sA, sZ, sS]
          refine tkH (i := 6) (oi := ⟨some 74, .load 9 (.tmp 73), 9, "ref.go:75", #[⟨5, .data⟩], none⟩) (v := ?_) (.inl ⟨by rfl, ?_⟩) ?_
          rotate_left
          · (intro wq hSw; (try dsimp only at hSw); go_simp; first | done | with_reducible rfl)
          try simp only [Act.put, sA, sZ, sS]
          refine tkH (i := 8) (oi := ⟨some 76, .fieldAddr 40 (.tmp 3) 2, 0, "ref.go:75", #[], none⟩) (v := ?_) (.inl ⟨by rfl, ?_⟩) ?_
          rotate_left
          · (intro wq hSw; (try dsimp only at hSw); go_simp; first | done | with_reducible rfl)
          try simp only [Act.put, sA, sZ, sS]
          refine tkH (i := 9) (oi := ⟨some 77, .load 22 (.tmp 76), 22, "ref.go:75", #[⟨8, .data⟩], none⟩) (v := ?_) (.inl ⟨by rfl, ?_⟩) ?_
          rotate_left
          · (intro wq hSw; (try dsimp only at hSw); go_simp; first | done | with_reducible rfl)
          try simp only [Act.put, sA, sZ, sS]
          refine wpAnyH_ready (rs := [7]) (by kernel_rfl) (by simp) ?_
          refine AllReadyH.cons (o := ⟨some 75, .call { callee := .value (.func 78), args := #[.tmp 68, .tmp 74], argTypes := #[33, 9] }, 22, "ref.go:75", #[⟨0, .data⟩, ⟨6, .data⟩], none⟩) rfl (fun K hK => ?_) AllReadyH.nil
          go_simp
          refine (when_any (x := ⟨la, L, .slice sA L.length sc, .slice tA L.length tc⟩) ((HRK.out.new HNw.out).new (New.refl wr).drew).at_ y.key).mono ?_
          rintro e w5 ⟨rfl, hn5⟩
          have HN5 := Lib.hid ((New.refl wr).drew.trans hn5)
          have HNW5 := Lib.hid (HNW.out.trans HN5.out)
          have e5 := (HN5.out.cells.1 gw _ e4l).trans e4
          have HR5 := Lib.hid (HR.out.bk.new HN5.out)
          clear q0 q1 q2 q3 q4 qz p0 p1 p2 p3 p4 pz g0 g1 g2 gz hn5 hHeld
          obtain ⟨q0, q1, q2, q3, q4, qz⟩ := Blk4R (H1.out.new HNW5.out)
          obtain ⟨p0, p1, p2, p3, p4, pz⟩ := Blk4R (H2.out.new HNW5.out)
          obtain ⟨g0, g1, g2, gz⟩ := Blk2R HR5.out
          refine hK.out _ _ ?_ (fun hHeld => ?_)
          · exact ⟨⟨q1, q2, q3, q4⟩, p3, p4, e5⟩
          clear hK K
          try simp only [Act.put, sA, sZ, sS]
          refine tkH (i := 10) (oi := ⟨some 78, .binOp .gtr 22 (.tmp 75) (.tmp 77) 22, 4, "ref.go:75", #[⟨7, .data⟩, ⟨9, .data⟩], none⟩) (v := ?_) (.inl ⟨by rfl, ?_⟩) ?_
          rotate_left
          · (intro wq hSw; (try dsimp only at hSw); go_simp; first | done | with_reducible rfl)
          try simp only [Act.put, sA, sZ, sS]
          refine wpAnyH_done (by kernel_rfl) ?_ _
          clear hHeld
          have hbl1 := HBL.out
          go_wp2_with fail
          go_roundw
          case rel => exact ⟨i + 1, by omega, by go_num, ⟨HR.out.nw.trans HN5.out, by rw [HTK2.out]; exact HR5.out⟩⟩
          case measure => simp [intOf]; omega
      · obtain rfl : i = bl.length := by omega
        have hlt2 : ¬ ((bl.length : Nat) : Int) < (bl.length : Int) := by omega
        have HV : Hid (vdX la (wrR L bs (bl.take bl.length)) = vdX la (wrR L bs bl)) := Lib.hid (by rw [List.take_length])
        rw [HV.out] at g1 g2
        go_upto_region 19 with fail
        refine wp_region_z [6] (fun w' => (w'.cell? ⟨w.heap.size, 0, none⟩ = some (.int .u64 0) ∧ w'.cell? ⟨w.heap.size, 1, none⟩ = some (.int .u64 (la : Int)) ∧ w'.cell? ⟨w.heap.size, 2, none⟩ = some (.slice sA L.length sc) ∧ w'.cell? ⟨w.heap.size, 3, none⟩ = some (.slice tA L.length tc)) ∧ (w'.cell? ⟨w.heap.size + 1, 0, none⟩ = some (.int .u64 (bc : Int)) ∧ w'.cell? ⟨w.heap.size + 1, 1, none⟩ = some (.int .u64 (br : Int)) ∧ w'.cell? ⟨w.heap.size + 1, 2, none⟩ = some (.int .u64 (bs : Int)) ∧ w'.cell? ⟨w.heap.size + 1, 3, none⟩ = some (.slice bA bl.length bcap)) ∧ w'.cell? ⟨g9, 0, none⟩ = some (.int .u64 ((vdX la (wrR L bs bl)).t : Int)) ∧ w'.cell? ⟨g9, 1, none⟩ = some (.int .i64 (vdX la (wrR L bs bl)).e)) (by kernel_rfl) (⟨⟨q1, q2, q3, q4⟩, ⟨p1, p2, p3, p4⟩, g1, g2⟩) (fun hHeld => ?_)
        refine tkZ (i := 0) (oi := ⟨some 80, .load 33 (.tmp 2), 33, "ref.go:79", #[], none⟩) (v := ?_) (.inl ⟨by rfl, ?_⟩) ?_
        rotate_left
        · (intro wq hSw; (try dsimp only at hSw); go_simp; first | done | with_reducible rfl)
        try simp only [Act.put, sA, sZ, sS]
        refine tkZ (i := 1) (oi := ⟨some 81, .load 40 (.tmp 3), 40, "ref.go:79", #[], none⟩) (v := ?_) (.inl ⟨by rfl, ?_⟩) ?_
        rotate_left
        · (intro wq hSw; (try dsimp only at hSw); go_simp; first | done | with_reducible rfl)
        try simp only [Act.put, sA, sZ, sS]
        refine tkZ (i := 2) (oi := ⟨some 82, .load 49 (.tmp 10), 49, "ref.go:79", #[], none⟩) (v := ?_) (.inl ⟨by rfl, ?_⟩) ?_
        rotate_left
        · (intro wq hSw; (try dsimp only at hSw); go_simp; first | done | with_reducible rfl)
        try simp only [Act.put, sA, sZ, sS]
        refine tkZ (i := 4) (oi := ⟨some 84, .load 49 (.tmp 10), 49, "ref.go:79", #[⟨5, Ground.gcOnly Departure.lateStores⟩], none⟩) (v := ?_) (.inl ⟨by rfl, ?_⟩) ?_
        rotate_left
        · (intro wq hSw; (try dsimp only at hSw); go_simp; first | done | with_reducible rfl)
        try simp only [Act.put, sA, sZ, sS]
        refine wpZ_ready (rs := [3]) (by kernel_rfl) (by simp) ?_
        refine AllZ.cons (o := ⟨some 83, .call { callee := .value (.func 72), args := #[.tmp 80, .tmp 81, .tmp 82, .const (.bool false)], argTypes := #[33, 40, 49, 4] }, 33, "ref.go:79", #[⟨0, .data⟩, ⟨1, .data⟩, ⟨2, .data⟩], none⟩) rfl (fun K hK => ?_) AllZ.nil
        go_simp
        refine (tell_any (x := ⟨la, L, .slice sA L.length sc, .slice tA L.length tc⟩) ((HRK.out.new HNw.out).new (New.refl wr).drew) ⟨⟨bc, br, bs, bl⟩, bA, bcap⟩ ((HB.out.new HNw.out).new (New.refl wr).drew) (vdX la (wrR L bs bl)) (vdX_lt HMX.out) false HL.out).mono ?_
        rintro e w5 ⟨y, rfl, hyk, hyt, hn5, hyf⟩
        obtain ⟨yla, yL, ysv, ytv⟩ := y
        have hss := hyk.s.shape
        have hts := hyk.t.shape
        rw [List.length_map] at hts
        dsimp only at hss hts
        obtain ⟨ysA, ysc, rfl⟩ := hss
        obtain ⟨ytA, ytc, rfl⟩ := hts
        dsimp only [RjV.val]
        have HYK := Lib.hid hyk
        have HYT := Lib.hid hyt
        have HN5 := Lib.hid ((New.refl wr).drew.trans hn5)
        have HNW5 := Lib.hid (HNW.out.trans HN5.out)
        have HYF : Hid (∀ k, RjF ⟨yla, yL, .slice ysA yL.length ysc, .slice ytA yL.length ytc⟩ k → w.heap.size + 4 ≤ k) := Lib.hid (fun k hk => by have h1 := hyf k hk; have h2 := HR.out.bk.lt; have h3 := HG98.out; have h4 : wr.drew.heap.size = wr.heap.size := rfl; omega)
        have HR5 := Lib.hid (HR.out.bk.new HN5.out)
        clear hyk hyt hyf q0 q1 q2 q3 q4 qz p0 p1 p2 p3 p4 pz g0 g1 g2 gz hn5 hHeld
        obtain ⟨q0, q1, q2, q3, q4, qz⟩ := Blk4R (H1.out.new HNW5.out)
        obtain ⟨p0, p1, p2, p3, p4, pz⟩ := Blk4R (H2.out.new HNW5.out)
        obtain ⟨r0, r1, r2, r3, r4, rz⟩ := Blk4R (H3.out.new HNW5.out)
        obtain ⟨s0, s1, s2, sz⟩ := Blk2R (H4.out.new HNW5.out)
        obtain ⟨g0, g1, g2, gz⟩ := Blk2R HR5.out
        rw [HV.out] at g1 g2
        refine hK.out _ _ ?_ (fun hHeld => ?_)
        · exact ⟨⟨q1, q2, q3, q4⟩, ⟨p1, p2, p3, p4⟩, g1, g2⟩
        clear hK K
        try simp only [Act.put, sA, sZ, sS]
        refine wpZ_ready (rs := [5]) (by kernel_rfl) (by simp) ?_
        refine AllZ.cons (o := ⟨none, .store 33 (.tmp 4) (.tmp 83), 0, "ref.go:79", #[⟨3, .data⟩, ⟨3, .chain⟩, ⟨0, .phase⟩, ⟨1, .phase⟩, ⟨2, .phase⟩, ⟨3, .phase⟩, ⟨4, Ground.textOnly Departure.lateStores⟩], none⟩) rfl (fun K hK => ?_) AllZ.nil
        go_simp
        have hu7 : Upd (· = w.heap.size + 2) w5 ((((w5.setCell ⟨w.heap.size + 1 + 1, 0, none⟩ (.int .u64 0)).setCell ⟨w.heap.size + 1 + 1, 1, none⟩ (.int .u64 (yla : Int))).setCell ⟨w.heap.size + 1 + 1, 2, none⟩ (.slice ysA yL.length ysc)).setCell ⟨w.heap.size + 1 + 1, 3, none⟩ (.slice ytA yL.length ytc)) := ((((Upd.refl _ w5).setIn 0 _).setIn 1 _).setIn 2 _).setIn 3 _
        have H37 := Lib.hid ((((((H3.out.new HNW5.out).set_ 0 (.int .u64 0)).set_ 1 (.int .u64 (yla : Int))).set_ 2 (.slice ysA yL.length ysc)).set_ 3 (.slice ytA yL.length ytc)))
        have H47 := Lib.hid ((H4.out.new HNW5.out).upd hu7 (by omega))
        have k0 := fun o => keepR hu7 q0 (by omega) o
        have k1 := fun o => keepR hu7 p0 (by omega) o
        have k2 := fun o => keepR hu7 g0 (by have := HG98.out; omega) o
        have HU7 := Lib.hid hu7
        have j0 := (k0 0).trans q1
        have j1 := (k0 1).trans q2
        have j2 := (k0 2).trans q3
        have j3 := (k0 3).trans q4
        have i0 := (k1 0).trans p1
        have i1 := (k1 1).trans p2
        have i2 := (k1 2).trans p3
        have i3 := (k1 3).trans p4
        have j4 := (k2 0).trans g1
        have j5 := (k2 1).trans g2
        clear hu7 k0 k1 k2 q0 q1 q2 q3 q4 qz p0 p1 p2 p3 p4 pz r0 r1 r2 r3 r4 rz s0 s1 s2 sz g0 g1 g2 gz hHeld
        generalize ((((w5.setCell ⟨w.heap.size + 1 + 1, 0, none⟩ (.int .u64 0)).setCell ⟨w.heap.size + 1 + 1, 1, none⟩ (.int .u64 (yla : Int))).setCell ⟨w.heap.size + 1 + 1, 2, none⟩ (.slice ysA yL.length ysc)).setCell ⟨w.heap.size + 1 + 1, 3, none⟩ (.slice ytA yL.length ytc)) = w7 at *
        obtain ⟨s0, s1, s2, sz⟩ := Blk2R H47.out
        refine hK.out _ _ ?_ (fun hHeld => ?_)
        · exact ⟨⟨j0, j1, j2, j3⟩, ⟨i0, i1, i2, i3⟩, j4, j5⟩
        clear hK K
        try simp only [Act.put, sA, sZ, sS]
        refine wpZ_ready (rs := [6]) (by kernel_rfl) (by simp) ?_
        refine AllZ.consZ (o := ⟨none, .store 49 (.tmp 5) (.tmp 84), 0, "ref.go:79", #[⟨4, .data⟩, ⟨5, .chain⟩, ⟨0, .phase⟩, ⟨1, .phase⟩, ⟨2, .phase⟩, ⟨3, .phase⟩, ⟨4, .phase⟩, ⟨5, .phase⟩], none⟩) rfl (by kernel_rfl) (fun K hK => ?_) AllZ.nil
        go_simp
        refine hK.out _ _ ?_
        clear hK K
        try simp only [Act.put, sA, sZ, sS]
        refine wpZ_done (by kernel_rfl) ?_ _
        clear hHeld j0 j1 j2 j3 j4 j5 i0 i1 i2 i3
        have hu8 : Upd (· = w.heap.size + 3) w7 ((w7.setCell ⟨w.heap.size + 3, 0, none⟩ (.int .u64 ((vdX la (wrR L bs bl)).t : Int))).setCell ⟨w.heap.size + 3, 1, none⟩ (.int .i64 (vdX la (wrR L bs bl)).e)) := ((Upd.refl _ w7).setIn 0 _).setIn 1 _
        have h39 := H37.out.upd hu8 (by omega)
        have h49 := (H47.out.set_ 0 (.int .u64 ((vdX la (wrR L bs bl)).t : Int))).set_ 1 (.int .i64 (vdX la (wrR L bs bl)).e)
        have hn9 := ((New.trans HN.out HNW5.out).upd HU7.out (fun i e => by omega)).upd hu8 (fun i e => by omega)
        have HK9 := Lib.hid ((HYK.out.upd HU7.out (fun k hk e => by have := HYF.out k hk; omega) (Off.blk (H3.out.new HNW5.out) (by decide))).upd hu8 (fun k hk e => by have := HYF.out k hk; omega) (Off.blk H47.out (by decide)))
        have HN9 := Lib.hid hn9
        clear hu8 hn9 s0 s1 s2 sz
        generalize (w7.setCell ⟨w.heap.size + 3, 0, none⟩ (.int .u64 ((vdX la (wrR L bs bl)).t : Int))).setCell ⟨w.heap.size + 3, 1, none⟩ (.int .i64 (vdX la (wrR L bs bl)).e) = w9 at *
        obtain ⟨r0, r1, r2, r3, r4, rz⟩ := Blk4R h39
        obtain ⟨s0, s1, s2, sz⟩ := Blk2R h49
        clear h39 h49
        go_wp2_with fail
        exact bodyPost_ret (v := .tuple #[.agg #[.int .u64 0, .int .u64 (yla : Int), .slice ysA yL.length ysc, .slice ytA yL.length ytc], .agg #[.int .u64 ((vdX la (wrR L bs bl)).t : Int), .int .i64 (vdX la (wrR L bs bl)).e]]) (by simp [results, Tryz.results45, go_sem, r1, r2, r3, r4, s1, s2]) rfl ⟨⟨yla, yL, _, _⟩, by rw [HE0.out, Jd.new_rest HJ.out (by rw [← HJL.out]; exact HST.out) (by rw [← HJL.out]; exact HMX.out)]; rfl, HK9.out, by rw [HE0.out]; exact HJ.out.rest (by rw [← HJL.out]; exact HST.out) (by rw [← HJL.out]; exact HMX.out) HYT.out, by have := HYT.out.1; dsimp only at this ⊢; rw [this, List.length_append]; simp, HN9.out, fun k hk => .inr (by have := HYF.out k hk; omega)⟩
  | some p =>
    obtain ⟨q, v⟩ := p
    dsimp only [seenQ, seenV, Option.map, Option.getD, Option.isSome]
    by_cases hqr : q = br
    · have HE : Hid (j.say ⟨bc, br, bs, bl⟩ = (j, v)) := Lib.hid (Jd.say_same HCK.out hsq hqr)
      have hb1 : ((q : Int) == (br : Int)) = true := by rw [hqr]; simp
      have hb2 : (q == br) = true := by rw [hqr]; simp
      clear hsq hqr
      go_upto_region 6 with fail
      have hna := (New.refl w2).alloc (.cells #[.int .u64 (v.t : Int), .int .i64 v.e] 49)
      have HG := Lib.hid (Blk.mk_new w2 49 #[.int .u64 (v.t : Int), .int .i64 v.e])
      have HN3 := Lib.hid (HN2.out.trans hna)
      have HG8 : Hid (w.heap.size + 4 ≤ w2.heap.size) := Lib.hid (by have := (H4.out.new HN2.out).lt; omega)
      clear q0 q1 q2 q3 q4 qz p0 p1 p2 p3 p4 pz r0 r1 r2 r3 r4 rz s0 s1 s2 sz hna
      generalize w2.alloc (.cells #[.int .u64 (v.t : Int), .int .i64 v.e] 49) = w3 at *
      generalize w2.heap.size = g8 at *
      obtain ⟨q0, q1, q2, q3, q4, qz⟩ := Blk4R (H1.out.new HN3.out)
      obtain ⟨p0, p1, p2, p3, p4, pz⟩ := Blk4R (H2.out.new HN3.out)
      obtain ⟨r0, r1, r2, r3, r4, rz⟩ := Blk4R (H3.out.new HN3.out)
      obtain ⟨s0, s1, s2, sz⟩ := Blk2R (H4.out.new HN3.out)
      obtain ⟨g0, g1, g2, gz⟩ := Blk2R HG.out
      clear p0 p1 p2 p3 p4 pz r0 r1 r2 r3 r4 rz s0 s1 s2 sz
      refine wp_region_z [3] (fun w' => (w'.cell? ⟨w.heap.size, 0, none⟩ = some (.int .u64 0) ∧ w'.cell? ⟨w.heap.size, 1, none⟩ = some (.int .u64 (la : Int)) ∧ w'.cell? ⟨w.heap.size, 2, none⟩ = some (.slice sA L.length sc) ∧ w'.cell? ⟨w.heap.size, 3, none⟩ = some (.slice tA L.length tc)) ∧ w'.cell? ⟨g8, 0, none⟩ = some (.int .u64 (v.t : Int)) ∧ w'.cell? ⟨g8, 1, none⟩ = some (.int .i64 v.e)) (by kernel_rfl) (⟨⟨q1, q2, q3, q4⟩, g1, g2⟩) (fun hHeld => ?_)
      have HN0 := Lib.hid (HN3.out.trans (New.refl w3).drew)
      have HGD := Lib.hid (HG.out.drew)
      clear q0 q1 q2 q3 q4 qz g0 g1 g2 gz
      generalize w3.drew = w0 at *
      obtain ⟨q0, q1, q2, q3, q4, qz⟩ := Blk4R (H1.out.new HN0.out)
      obtain ⟨r0, r1, r2, r3, r4, rz⟩ := Blk4R (H3.out.new HN0.out)
      obtain ⟨g0, g1, g2, gz⟩ := Blk2R HGD.out
      refine tkZ (i := 0) (oi := ⟨some 34, .load 33 (.tmp 2), 33, "ref.go:62", #[], none⟩) (v := ?_) (.inl ⟨by rfl, ?_⟩) ?_
      rotate_left
      · (intro wq hSw; (try dsimp only at hSw); go_simp; first | done | with_reducible rfl)
      try simp only [Act.put, sA, sZ, sS]
      refine tkZ (i := 1) (oi := ⟨some 35, .load 49 (.tmp 8), 49, "ref.go:62", #[⟨2, Ground.gcOnly Departure.lateStores⟩], none⟩) (v := ?_) (.inl ⟨by rfl, ?_⟩) ?_
      rotate_left
      · (intro wq hSw; (try dsimp only at hSw); go_simp; first | done | with_reducible rfl)
      try simp only [Act.put, sA, sZ, sS]
      refine wpZ_ready (rs := [2]) (by kernel_rfl) (by simp) ?_
      refine AllZ.cons (o := ⟨none, .store 33 (.tmp 4) (.tmp 34), 0, "ref.go:62", #[⟨0, .data⟩, ⟨0, .phase⟩, ⟨1, Ground.textOnly Departure.lateStores⟩], none⟩) rfl (fun K hK => ?_) AllZ.nil
      go_simp
      have hu7 : Upd (· = w.heap.size + 2) w0 ((((w0.setCell ⟨w.heap.size + 1 + 1, 0, none⟩ (.int .u64 0)).setCell ⟨w.heap.size + 1 + 1, 1, none⟩ (.int .u64 (la : Int))).setCell ⟨w.heap.size + 1 + 1, 2, none⟩ (.slice sA L.length sc)).setCell ⟨w.heap.size + 1 + 1, 3, none⟩ (.slice tA L.length tc)) := ((((Upd.refl _ w0).setIn 0 _).setIn 1 _).setIn 2 _).setIn 3 _
      have H37 := Lib.hid ((((((H3.out.new HN0.out).set_ 0 (.int .u64 0)).set_ 1 (.int .u64 (la : Int))).set_ 2 (.slice sA L.length sc)).set_ 3 (.slice tA L.length tc)))
      have H47 := Lib.hid ((H4.out.new HN0.out).upd hu7 (by omega))
      have k0 := fun o => keepR hu7 q0 (by omega) o
      have k1 := fun o => keepR hu7 g0 (by have := HG8.out; omega) o
      have HU7 := Lib.hid hu7
      have j0 := (k0 0).trans q1
      have j1 := (k0 1).trans q2
      have j2 := (k0 2).trans q3
      have j3 := (k0 3).trans q4
      have j4 := (k1 0).trans g1
      have j5 := (k1 1).trans g2
      clear hu7 k0 k1 q0 q1 q2 q3 q4 qz r0 r1 r2 r3 r4 rz g0 g1 g2 gz hHeld
      generalize ((((w0.setCell ⟨w.heap.size + 1 + 1, 0, none⟩ (.int .u64 0)).setCell ⟨w.heap.size + 1 + 1, 1, none⟩ (.int .u64 (la : Int))).setCell ⟨w.heap.size + 1 + 1, 2, none⟩ (.slice sA L.length sc)).setCell ⟨w.heap.size + 1 + 1, 3, none⟩ (.slice tA L.length tc)) = w7 at *
      obtain ⟨s0, s1, s2, sz⟩ := Blk2R H47.out
      refine hK.out _ _ ?_ (fun hHeld => ?_)
      · exact ⟨⟨j0, j1, j2, j3⟩, j4, j5⟩
      clear hK K
      try simp only [Act.put, sA, sZ, sS]
      refine wpZ_ready (rs := [3]) (by kernel_rfl) (by simp) ?_
      refine AllZ.consZ (o := ⟨none, .store 49 (.tmp 5) (.tmp 35), 0, "ref.go:62", #[⟨1, .data⟩, ⟨2, .chain⟩, ⟨0, .phase⟩, ⟨1, .phase⟩, ⟨2, .phase⟩], none⟩) rfl (by kernel_rfl) (fun K hK => ?_) AllZ.nil
      go_simp
      refine hK.out _ _ ?_
      clear hK K
      try simp only [Act.put, sA, sZ, sS]
      refine wpZ_done (by kernel_rfl) ?_ _
      clear hHeld j0 j1 j2 j3 j4 j5
      have hu8 : Upd (· = w.heap.size + 3) w7 ((w7.setCell ⟨w.heap.size + 3, 0, none⟩ (.int .u64 (v.t : Int))).setCell ⟨w.heap.size + 3, 1, none⟩ (.int .i64 v.e)) := ((Upd.refl _ w7).setIn 0 _).setIn 1 _
      have h39 := H37.out.upd hu8 (by omega)
      have h49 := (H47.out.set_ 0 (.int .u64 (v.t : Int))).set_ 1 (.int .i64 v.e)
      have hn9 := ((New.trans HN.out HN0.out).upd HU7.out (fun i e => by omega)).upd hu8 (fun i e => by omega)
      have HN9 := Lib.hid hn9
      clear hu8 hn9 s0 s1 s2 sz
      generalize (w7.setCell ⟨w.heap.size + 3, 0, none⟩ (.int .u64 (v.t : Int))).setCell ⟨w.heap.size + 3, 1, none⟩ (.int .i64 v.e) = w9 at *
      obtain ⟨r0, r1, r2, r3, r4, rz⟩ := Blk4R h39
      obtain ⟨s0, s1, s2, sz⟩ := Blk2R h49
      clear h39 h49
      go_wp2_with fail
      exact bodyPost_ret (v := .tuple #[.agg #[.int .u64 0, .int .u64 (la : Int), .slice sA L.length sc, .slice tA L.length tc], .agg #[.int .u64 (v.t : Int), .int .i64 v.e]]) (by simp [results, Tryz.results45, go_sem, r1, r2, r3, r4, s1, s2]) rfl ⟨⟨la, L, _, _⟩, by rw [HE.out]; rfl, HRK.out.new HN9.out, by rw [HE.out]; exact HJ.out, by dsimp only; omega, HN9.out, fun k hk => .inl hk⟩
    · have hb1 : ((q : Int) == (br : Int)) = false := beq_eq_false_iff_ne.2 (by omega)
      have hb2 : (q == br) = false := beq_eq_false_iff_ne.2 hqr
      by_cases hbq : br < q
      · have HE : Hid (j.say ⟨bc, br, bs, bl⟩ = (j, ⟨0, 193⟩)) := Lib.hid (Jd.say_old HCK.out hsq hqr hbq)
        have hbi : (br : Int) < (q : Int) := by omega
        clear hsq hqr hbq
        go_upto_region 8 with fail
        have hna := (New.refl w2).alloc (.cells #[.int .u64 (v.t : Int), .int .i64 v.e] 49)
        have HG := Lib.hid (Blk.mk_new w2 49 #[.int .u64 (v.t : Int), .int .i64 v.e])
        have HN3 := Lib.hid (HN2.out.trans hna)
        have HG8 : Hid (w.heap.size + 4 ≤ w2.heap.size) := Lib.hid (by have := (H4.out.new HN2.out).lt; omega)
        clear q0 q1 q2 q3 q4 qz p0 p1 p2 p3 p4 pz r0 r1 r2 r3 r4 rz s0 s1 s2 sz hna
        generalize w2.alloc (.cells #[.int .u64 (v.t : Int), .int .i64 v.e] 49) = w3 at *
        generalize w2.heap.size = g8 at *
        obtain ⟨q0, q1, q2, q3, q4, qz⟩ := Blk4R (H1.out.new HN3.out)
        obtain ⟨p0, p1, p2, p3, p4, pz⟩ := Blk4R (H2.out.new HN3.out)
        obtain ⟨r0, r1, r2, r3, r4, rz⟩ := Blk4R (H3.out.new HN3.out)
        obtain ⟨s0, s1, s2, sz⟩ := Blk2R (H4.out.new HN3.out)
        obtain ⟨g0, g1, g2, gz⟩ := Blk2R HG.out
        go_wp2_with fail
        have hu9 : Upd (fun i => i = w.heap.size + 2 ∨ i = w.heap.size + 3) w3 ((((((w3.setCell ⟨w.heap.size + 2, 0, none⟩ (.int .u64 0)).setCell ⟨w.heap.size + 2, 1, none⟩ (.int .u64 (la : Int))).setCell ⟨w.heap.size + 2, 2, none⟩ (.slice sA L.length sc)).setCell ⟨w.heap.size + 2, 3, none⟩ (.slice tA L.length tc)).setCell ⟨w.heap.size + 3, 0, none⟩ (.int .u64 0)).setCell ⟨w.heap.size + 3, 1, none⟩ (.int .i64 193)) := ((((((Upd.refl _ w3).setCell (fun _ => .inl rfl) _).setCell (fun _ => .inl rfl) _).setCell (fun _ => .inl rfl) _).setCell (fun _ => .inl rfl) _).setCell (fun _ => .inr rfl) _).setCell (fun _ => .inr rfl) _
        have hn9 := (New.trans HN.out HN3.out).upd hu9 (fun i e => by omega)
        exact bodyPost_ret (v := .tuple #[.agg #[.int .u64 0, .int .u64 (la : Int), .slice sA L.length sc, .slice tA L.length tc], .agg #[.int .u64 0, .int .i64 193]]) (by simp [results, Tryz.results45, go_sem, r1, r2, r3, r4, s1, s2]) rfl ⟨⟨la, L, _, _⟩, by rw [HE.out]; rfl, HRK.out.new hn9, by rw [HE.out]; exact HJ.out, by dsimp only; omega, hn9, fun k hk => .inl hk⟩
      · have HE0 : Hid (j.say ⟨bc, br, bs, bl⟩ = j.new_ ⟨bc, br, bs, bl⟩) := Lib.hid (Jd.say_new HCK.out hsq hqr hbq)
        have hbi : ¬ (br : Int) < (q : Int) := by omega
        clear hsq hqr hbq
        go_upto_region 9 with fail
        have hna := (New.refl w2).alloc (.cells #[.int .u64 (v.t : Int), .int .i64 v.e] 49)
        have HG := Lib.hid (Blk.mk_new w2 49 #[.int .u64 (v.t : Int), .int .i64 v.e])
        have HN3 := Lib.hid (HN2.out.trans hna)
        have HG8 : Hid (w.heap.size + 4 ≤ w2.heap.size) := Lib.hid (by have := (H4.out.new HN2.out).lt; omega)
        clear q0 q1 q2 q3 q4 qz p0 p1 p2 p3 p4 pz r0 r1 r2 r3 r4 rz s0 s1 s2 sz hna
        generalize w2.alloc (.cells #[.int .u64 (v.t : Int), .int .i64 v.e] 49) = w3 at *
        generalize w2.heap.size = g8 at *
        obtain ⟨q0, q1, q2, q3, q4, qz⟩ := Blk4R (H1.out.new HN3.out)
        obtain ⟨p0, p1, p2, p3, p4, pz⟩ := Blk4R (H2.out.new HN3.out)
        obtain ⟨r0, r1, r2, r3, r4, rz⟩ := Blk4R (H3.out.new HN3.out)
        obtain ⟨s0, s1, s2, sz⟩ := Blk2R (H4.out.new HN3.out)
        obtain ⟨g0, g1, g2, gz⟩ := Blk2R HG.out
        by_cases hst : la < bs
        · have HE : Hid (j.say ⟨bc, br, bs, bl⟩ = (j, ⟨0, 190⟩)) := Lib.hid (by rw [HE0.out]; exact Jd.new_start (by rw [← HJL.out]; exact hst))
          have hsi : (la : Int) < (bs : Int) := by omega
          clear hst
          go_wp2_with fail
          have hu9 : Upd (fun i => i = w.heap.size + 2 ∨ i = w.heap.size + 3) w3 ((((((w3.setCell ⟨w.heap.size + 2, 0, none⟩ (.int .u64 0)).setCell ⟨w.heap.size + 2, 1, none⟩ (.int .u64 (la : Int))).setCell ⟨w.heap.size + 2, 2, none⟩ (.slice sA L.length sc)).setCell ⟨w.heap.size + 2, 3, none⟩ (.slice tA L.length tc)).setCell ⟨w.heap.size + 3, 0, none⟩ (.int .u64 0)).setCell ⟨w.heap.size + 3, 1, none⟩ (.int .i64 190)) := ((((((Upd.refl _ w3).setCell (fun _ => .inl rfl) _).setCell (fun _ => .inl rfl) _).setCell (fun _ => .inl rfl) _).setCell (fun _ => .inl rfl) _).setCell (fun _ => .inr rfl) _).setCell (fun _ => .inr rfl) _
          have hn9 := (New.trans HN.out HN3.out).upd hu9 (fun i e => by omega)
          exact bodyPost_ret (v := .tuple #[.agg #[.int .u64 0, .int .u64 (la : Int), .slice sA L.length sc, .slice tA L.length tc], .agg #[.int .u64 0, .int .i64 190]]) (by simp [results, Tryz.results45, go_sem, r1, r2, r3, r4, s1, s2]) rfl ⟨⟨la, L, _, _⟩, by rw [HE.out]; rfl, HRK.out.new hn9, by rw [HE.out]; exact HJ.out, by dsimp only; omega, hn9, fun k hk => .inl hk⟩
        have HST := Lib.hid hst
        have hsi : ¬ (la : Int) < (bs : Int) := by omega
        clear hst
        by_cases hmx : maxT ≤ la
        · have hmb : (9223372036854775807 : Int) ≤ (la : Int) := by unfold maxT at hmx; omega
          have HE : Hid (j.say ⟨bc, br, bs, bl⟩ = (j, ⟨0, 192⟩)) := Lib.hid (by rw [HE0.out]; exact Jd.new_end (by rw [← HJL.out]; exact HST.out) (by rw [← HJL.out]; exact hmx))
          clear hmx
          go_wp2_with fail
          have hu9 : Upd (fun i => i = w.heap.size + 2 ∨ i = w.heap.size + 3) w3 ((((((w3.setCell ⟨w.heap.size + 2, 0, none⟩ (.int .u64 0)).setCell ⟨w.heap.size + 2, 1, none⟩ (.int .u64 (la : Int))).setCell ⟨w.heap.size + 2, 2, none⟩ (.slice sA L.length sc)).setCell ⟨w.heap.size + 2, 3, none⟩ (.slice tA L.length tc)).setCell ⟨w.heap.size + 3, 0, none⟩ (.int .u64 0)).setCell ⟨w.heap.size + 3, 1, none⟩ (.int .i64 192)) := ((((((Upd.refl _ w3).setCell (fun _ => .inl rfl) _).setCell (fun _ => .inl rfl) _).setCell (fun _ => .inl rfl) _).setCell (fun _ => .inl rfl) _).setCell (fun _ => .inr rfl) _).setCell (fun _ => .inr rfl) _
          have hn9 := (New.trans HN.out HN3.out).upd hu9 (fun i e => by omega)
          exact bodyPost_ret (v := .tuple #[.agg #[.int .u64 0, .int .u64 (la : Int), .slice sA L.length sc, .slice tA L.length tc], .agg #[.int .u64 0, .int .i64 192]]) (by simp [results, Tryz.results45, go_sem, r1, r2, r3, r4, s1, s2]) rfl ⟨⟨la, L, _, _⟩, by rw [HE.out]; rfl, HRK.out.new hn9, by rw [HE.out]; exact HJ.out, by dsimp only; omega, hn9, fun k hk => .inl hk⟩
        have HMX := Lib.hid hmx
        have hl3 : decide (9223372036854775807 ≤ la) = false := decide_eq_false hmx
        have hl4 : decide ((9223372036854775807 : Int) ≤ (la : Int)) = false := decide_eq_false (by unfold maxT at hmx; omega)
        clear hmx
        go_upto_region 14 with fail
        rw [show IntKind.u64.wrap ((la : Int) + 1) = ((la + 1 : Nat) : Int) from by have := HMX.out; unfold maxT at this; rw [IntKind.wrap_u64]; omega]
        have HG9 := Lib.hid (Blk.mk_new w3 49 #[.int .u64 ((la + 1 : Nat) : Int), .int .i64 0])
        have HRL : Hid (SayRel w3 (w3.alloc (.cells #[.int .u64 ((la + 1 : Nat) : Int), .int .i64 0] 49)) w3.heap.size la L bs bl 0) := Lib.hid ⟨(New.refl w3).alloc _, HG9.out⟩
        have HG98 : Hid (w.heap.size + 4 ≤ w3.heap.size) := Lib.hid (by have := HG.out.lt; have := HG8.out; omega)
        have HG93 : Hid (w3.heap.size ≤ w3.heap.size) := Lib.hid (Nat.le_refl _)
        clear hl3 hl4 HG9 q0 q1 q2 q3 q4 qz p0 p1 p2 p3 p4 pz r0 r1 r2 r3 r4 rz s0 s1 s2 sz g0 g1 g2 gz
        generalize w3.alloc (.cells #[.int .u64 ((la + 1 : Nat) : Int), .int .i64 0] 49) = w4 at *
        generalize hgg : w3.heap.size = g9 at HRL HG98 ⊢
        have HG9 : Hid (w3.heap.size ≤ g9) := Lib.hid (Nat.le_of_eq hgg)
        clear hgg HG93
        go_wp2_with fail
        go_loopw [11] (fun u11 wr => ∃ i : Nat, i ≤ bl.length ∧ u11 = .int .i64 (i : Int) ∧ SayRel w3 wr g9 la L bs bl i) (fun u11 _ => bl.length - (intOf u11).toNat)
        case atStart => exact ⟨0, Nat.zero_le _, rfl, HRL.out⟩
        case round =>
          obtain ⟨i, hi, rfl, hrel⟩ := hrel
          clear HRL
          have HR := Lib.hid hrel
          have HNW := Lib.hid (HN3.out.trans hrel.nw)
          have HNw := Lib.hid (HN.out.trans HNW.out)
          have hi0 : (0 : Int) ≤ (i : Int) := by omega
          clear hrel
          obtain ⟨q0, q1, q2, q3, q4, qz⟩ := Blk4R (H1.out.new HNW.out)
          obtain ⟨p0, p1, p2, p3, p4, pz⟩ := Blk4R (H2.out.new HNW.out)
          obtain ⟨g0, g1, g2, gz⟩ := Blk2R HR.out.bk
          by_cases hlt : i < bl.length
          · have hlt2 : (i : Int) < (bl.length : Int) := by omega
            obtain ⟨y, hy⟩ : ∃ y, bl[i]? = some y := ⟨_, List.getElem?_eq_getElem hlt⟩
            have HTK : Hid (wrR L bs (bl.take (i + 1)) = (wrR L bs (bl.take i) || decide (bs < whenR L y.key))) := Lib.hid (by rw [take_snocT hy, wrR_snoc])
            obtain ⟨A', c', hv', _, hh2⟩ := HB.out.sl
            unfold BtV.sl at hv'
            dsimp only at hv' hh2
            cases hv'
            rcases hh2 with h0 | ⟨gw, ow, cs2, rfl, hbw, hcw⟩
            · exact absurd hlt (by rw [h0]; simp)
            obtain ⟨e0, e1, e2⟩ := SlIn.three (fun k x h j u hu => (hbw.cell _).trans (hcw k x h j u hu)) hy
            have e4 := (HNw.out.cells.1 gw _ hbw.lt).trans e0
            have e4l : gw < wr.heap.size := Nat.lt_of_lt_of_le hbw.lt HNw.out.size
            have HE4 : Hid (gw < wr.heap.size) := Lib.hid e4l
            clear hy hcw hbw e0 e1 e2
            by_cases hwh : bs < whenR L y.key
            · have hwb : (bs : Int) < (whenR L y.key : Int) := by omega
              have HTK2 : Hid (wrR L bs (bl.take (i + 1)) = true) := Lib.hid (by rw [HTK.out, decide_eq_true hwh]; simp)
              clear hwh
              go_upto_region 17 with fail
              refine wp_region_held_drew (S := fun w' => (w'.cell? ⟨w.heap.size, 0, none⟩ = some (.int .u64 0) ∧ w'.cell? ⟨w.heap.size, 1, none⟩ = some (.int .u64 (la : Int)) ∧ w'.cell? ⟨w.heap.size, 2, none⟩ = some (.slice sA L.length sc) ∧ w'.cell? ⟨w.heap.size, 3, none⟩ = some (.slice tA L.length tc)) ∧ w'.cell? ⟨w.heap.size + 1, 2, none⟩ = some (.int .u64 (bs : Int)) ∧ w'.cell? ⟨w.heap.size + 1, 3, none⟩ = some (.slice (some ⟨gw, ow, none⟩) bl.length bcap) ∧ w'.cell? ⟨gw, ow + i * 3, none⟩ = some (.string y.key)) (by kernel_rfl) (⟨⟨q1, q2, q3, q4⟩, p3, p4, e4⟩) (fun hHeld => ?_)
              refine tkH (i := 0) (oi := ⟨some 68, .load 33 (.tmp 2), 33, "ref.go:75", #[], none⟩) (v := ?_) (.inl ⟨by rfl, ?_⟩) ?_
              rotate_left
              · (intro wq hSw; (try dsimp only at hSw); go_simp; first | done | with_reducible rfl)
              try simp only [Act.put, sA, sZ, sS]
              refine tkH (i := 1) (oi := ⟨some 69, .fieldAddr 40 (.tmp 3) 3, 0, "ref.go:75", #[], none⟩) (v := ?_) (.inl ⟨by rfl, ?_⟩) ?_
              rotate_left
              · (intro wq hSw; (try dsimp only at hSw); go_simp; first | done | with_reducible rfl)
              try simp only [Act.put, sA, sZ, sS]
              refine tkH (i := 2) (oi := ⟨some 70, .load 38 (.tmp 69), 38, "ref.go:75", #[⟨1, .data⟩], none⟩) (v := ?_) (.inl ⟨by rfl, ?_⟩) ?_
              rotate_left
              · (intro wq hSw; (try dsimp only at hSw); go_simp; first | done | with_reducible rfl)
              try simp only [Act.put, sA, sZ, sS]
              refine tkH (i := 3) (oi := ⟨some 71, .move (.tmp 11), 3, "ref.go:75", #[], none⟩) (v := ?_) (.inl ⟨by rfl, ?_⟩) ?_
              rotate_left
              · (intro wq hSw; (try dsimp only at hSw); go_simp; first | done | with_reducible rfl)
              try simp only [Act.put, sA, sZ, sS]
              refine tkH (i := 4) (oi := ⟨some 72, .indexAddr 38 (.tmp 70) (.tmp 71), 0, "ref.go:75", #[⟨2, .data⟩, ⟨3, .data⟩], none⟩) (v := ?_) (.inl ⟨by rfl, ?_⟩) ?_
              rotate_left
              · (intro wq hSw; (try dsimp only at hSw); go_simp; first | done | with_reducible rfl)
              try simp only [Act.put, sA, sZ, sS]
              refine tkH (i := 5) (oi := ⟨some 73, .fieldAddr 97 (.tmp 72) 0, 0, "ref.go:75", #[⟨4, .data⟩], none⟩) (v := ?_) (.inl ⟨by rfl, ?_⟩) ?_
              rotate_left
              · (intro wq hSw; (try dsimp only at hSw); go_simp; first | done | with_reducible rfl)
              try simp only [Act.put, sA, sZ, sS]
              refine tkH (i := 6) (oi := ⟨some 74, .load 9 (.tmp 73), 9, "ref.go:75", #[⟨5, .data⟩], none⟩) (v := ?_) (.inl ⟨by rfl, ?_⟩) ?_
              rotate_left
              · (intro wq hSw; (try dsimp only at hSw); go_simp; first | done | with_reducible rfl)
              try simp only [Act.put, sA, sZ, sS]
              refine tkH (i := 8) (oi := ⟨some 76, .fieldAddr 40 (.tmp 3) 2, 0, "ref.go:75", #[], none⟩) (v := ?_) (.inl ⟨by rfl, ?_⟩) ?_
              rotate_left
              · (intro wq hSw; (try dsimp only at hSw); go_simp; first | done | with_reducible rfl)
              try simp only [Act.put, sA, sZ, sS]
              refine tkH (i := 9) (oi := ⟨some 77, .load 22 (.tmp 76), 22, "ref.go:75", #[⟨8, .data⟩], none⟩) (v := ?_) (.inl ⟨by rfl, ?_⟩) ?_
              rotate_left
              · (intro wq hSw; (try dsimp only at hSw); go_simp; first | done | with_reducible rfl)
              try simp only [Act.put, sA, sZ, sS]
              refine wpAnyH_ready (rs := [7]) (by kernel_rfl) (by simp) ?_
              refine AllReadyH.cons (o := ⟨some 75, .call { callee := .value (.func 78), args := #[.tmp 68, .tmp 74], argTypes := #[33, 9] }, 22, "ref.go:75", #[⟨0, .data⟩, ⟨6, .data⟩], none⟩) rfl (fun K hK => ?_) AllReadyH.nil
              go_simp
              refine (when_any (x := ⟨la, L, .slice sA L.length sc, .slice tA L.length tc⟩) ((HRK.out.new HNw.out).new (New.refl wr).drew).at_ y.key).mono ?_
              rintro e w5 ⟨rfl, hn5⟩
              have HN5 := Lib.hid ((New.refl wr).drew.trans hn5)
              have HNW5 := Lib.hid (HNW.out.trans HN5.out)
              have e5 := (HN5.out.cells.1 gw _ e4l).trans e4
              have HR5 := Lib.hid (HR.out.bk.new HN5.out)
              clear q0 q1 q2 q3 q4 qz p0 p1 p2 p3 p4 pz g0 g1 g2 gz hn5 hHeld
              obtain ⟨q0, q1, q2, q3, q4, qz⟩ := Blk4R (H1.out.new HNW5.out)
              obtain ⟨p0, p1, p2, p3, p4, pz⟩ := Blk4R (H2.out.new HNW5.out)
              obtain ⟨g0, g1, g2, gz⟩ := Blk2R HR5.out
              refine hK.out _ _ ?_ (fun hHeld => ?_)
              · exact ⟨⟨q1, q2, q3, q4⟩, p3, p4, e5⟩
              clear hK K
              try simp only [Act.put, sA, sZ, sS]
              refine tkH (i := 10) (oi := ⟨some 78, .binOp .gtr 22 (.tmp 75) (.tmp 77) 22, 4, "ref.go:75", #[⟨7, .data⟩, ⟨9, .data⟩], none⟩) (v := ?_) (.inl ⟨by rfl, ?_⟩) ?_
              rotate_left
              · (intro wq hSw; (try dsimp only at hSw); go_simp; first | done | with_reducible rfl)
              try simp only [Act.put, sA, sZ, sS]
              refine wpAnyH_done (by kernel_rfl) ?_ _
              clear hHeld
              have hbl1 := HBL.out
              go_wp2_with fail
              go_roundw
              case rel => exact ⟨i + 1, by omega, by go_num, ⟨(HR.out.nw.trans HN5.out).upd (((Upd.refl (· = g9) _).setIn 0 _).setIn 1 _) (fun j e => by rw [e]; exact HG9.out), by have := (HR5.out.set_ 0 (.int .u64 0)).set_ 1 (.int .i64 191); rw [HTK2.out]; exact this⟩⟩
              case measure => simp [intOf]; omega
            · have hwb : ¬ (bs : Int) < (whenR L y.key : Int) := by omega
              have HTK2 : Hid (wrR L bs (bl.take (i + 1)) = wrR L bs (bl.take i)) := Lib.hid (by rw [HTK.out, decide_eq_false hwh]; simp)
              clear hwh
              go_upto_region 17 with fail
              refine wp_region_held_drew (S := fun w' => (w'.cell? ⟨w.heap.size, 0, none⟩ = some (.int .u64 0) ∧ w'.cell? ⟨w.heap.size, 1, none⟩ = some (.int .u64 (la : Int)) ∧ w'.cell? ⟨w.heap.size, 2, none⟩ = some (.slice sA L.length sc) ∧ w'.cell? ⟨w.heap.size, 3, none⟩ = some (.slice tA L.length tc)) ∧ w'.cell? ⟨w.heap.size + 1, 2, none⟩ = some (.int .u64 (bs : Int)) ∧ w'.cell? ⟨w.heap.size + 1, 3, none⟩ = some (.slice (some ⟨gw, ow, none⟩) bl.length bcap) ∧ w'.cell? ⟨gw, ow + i * 3, none⟩ = some (.string y.key)) (by kernel_rfl) (⟨⟨q1, q2, q3, q4⟩, p3, p4, e4⟩) (fun hHeld => ?_)
              refine tkH (i := 0) (oi := ⟨some 68, .load 33 (.tmp 2), 33, "ref.go:75", #[], none⟩) (v := ?_) (.inl ⟨by rfl, ?_⟩) ?_
              rotate_left
              · (intro wq hSw; (try dsimp only at hSw); go_simp; first | done | with_reducible rfl)
              try simp only [Act.put, sA, sZ, sS]
              refine tkH (i := 1) (oi := ⟨some 69, .fieldAddr 40 (.tmp 3) 3, 0, "ref.go:75", #[], none⟩) (v := ?_) (.inl ⟨by rfl, ?_⟩) ?_
              rotate_left
              · (intro wq hSw; (try dsimp only at hSw); go_simp; first | done | with_reducible rfl)
              try simp only [Act.put, sA, sZ, sS]
              refine tkH (i := 2) (oi := ⟨some 70, .load 38 (.tmp 69), 38, "ref.go:75", #[⟨1, .data⟩], none⟩) (v := ?_) (.inl ⟨by rfl, ?_⟩) ?_
              rotate_left
              · (intro wq hSw; (try dsimp only at hSw); go_simp; first | done | with_reducible rfl)
              try simp only [Act.put, sA, sZ, sS]
              refine tkH (i := 3) (oi := ⟨some 71, .move (.tmp 11), 3, "ref.go:75", #[], none⟩) (v := ?_) (.inl ⟨by rfl, ?_⟩) ?_
              rotate_left
              · (intro wq hSw; (try dsimp only at hSw); go_simp; first | done | with_reducible rfl)
              try simp only [Act.put, sA, sZ, sS]
              refine tkH (i := 4) (oi := ⟨some 72, .indexAddr 38 (.tmp 70) (.tmp 71), 0, "ref.go:75", #[⟨2, .data⟩, ⟨3, .data⟩], none⟩) (v := ?_) (.inl ⟨by rfl, ?_⟩) ?_
              rotate_left
              · (intro wq hSw; (try dsimp only at hSw); go_simp; first | done | with_reducible rfl)
              try simp only [Act.put, sA, sZ, sS]
              refine tkH (i := 5) (oi := ⟨some 73, .fieldAddr 97 (.tmp 72) 0, 0, "ref.go:75", #[⟨4, .data⟩], none⟩) (v := ?_) (.inl ⟨by rfl, ?_⟩) ?_
              rotate_left
              · (intro wq hSw; (try dsimp only at hSw); go_simp; first | done | with_reducible rfl)
              try simp only [Act.put, sA, sZ, sS]
              refine tkH (i := 6) (oi := ⟨some 74, .load 9 (.tmp 73), 9, "ref.go:75", #[⟨5, .data⟩], none⟩) (v := ?_) (.inl ⟨by rfl, ?_⟩) ?_
              rotate_left
              · (intro wq hSw; (try dsimp only at hSw); go_simp; first | done | with_reducible rfl)
              try simp only [Act.put, sA, sZ, sS]
              refine tkH (i := 8) (oi := ⟨some 76, .fieldAddr 40 (.tmp 3) 2, 0, "ref.go:75", #[], none⟩) (v := ?_) (.inl ⟨by rfl, ?_⟩) ?_
              rotate_left
              · (intro wq hSw; (try dsimp only at hSw); go_simp; first | done | with_reducible rfl)
              try simp only [Act.put, sA, sZ, sS]
              refine tkH (i := 9) (oi := ⟨some 77, .load 22 (.tmp 76), 22, "ref.go:75", #[⟨8, .data⟩], none⟩) (v := ?_) (.inl ⟨by rfl, ?_⟩) ?_
              rotate_left
              · (intro wq hSw; (try dsimp only at hSw); go_simp; first | done | with_reducible rfl)
              try simp only [Act.put, sA, sZ, sS]
              refine wpAnyH_ready (rs := [7]) (by kernel_rfl) (by simp) ?_
              refine AllReadyH.cons (o := ⟨some 75, .call { callee := .value (.func 78), args := #[.tmp 68, .tmp 74], argTypes := #[33, 9] }, 22, "ref.go:75", #[⟨0, .data⟩, ⟨6, .data⟩], none⟩) rfl (fun K hK => ?_) AllReadyH.nil
              go_simp
              refine (when_any (x := ⟨la, L, .slice sA L.length sc, .slice tA L.length tc⟩) ((HRK.out.new HNw.out).new (New.refl wr).drew).at_ y.key).mono ?_
              rintro e w5 ⟨rfl, hn5⟩
              have HN5 := Lib.hid ((New.refl wr).drew.trans hn5)
              have HNW5 := Lib.hid (HNW.out.trans HN5.out)
              have e5 := (HN5.out.cells.1 gw _ e4l).trans e4
              have HR5 := Lib.hid (HR.out.bk.new HN5.out)
              clear q0 q1 q2 q3 q4 qz p0 p1 p2 p3 p4 pz g0 g1 g2 gz hn5 hHeld
              obtain ⟨q0, q1, q2, q3, q4, qz⟩ := Blk4R (H1.out.new HNW5.out)
              obtain ⟨p0, p1, p2, p3, p4, pz⟩ := Blk4R (H2.out.new HNW5.out)
              obtain ⟨g0, g1, g2, gz⟩ := Blk2R HR5.out
              refine hK.out _ _ ?_ (fun hHeld => ?_)
              · exact ⟨⟨q1, q2, q3, q4⟩, p3, p4, e5⟩
              clear hK K
              try simp only [Act.put, sA, sZ, sS]
              refine tkH (i := 10) (oi := ⟨some 78, .binOp .gtr 22 (.tmp 75) (.tmp 77) 22, 4, "ref.go:75", #[⟨7, .data⟩, ⟨9, .data⟩], none⟩) (v := ?_) (.inl ⟨by rfl, ?_⟩) ?_
              rotate_left
              · (intro wq hSw; (try dsimp only at hSw); go_simp; first | done | with_reducible rfl)
              try simp only [Act.put, sA, sZ, sS]
              refine wpAnyH_done (by kernel_rfl) ?_ _
              clear hHeld
              have hbl1 := HBL.out
              go_wp2_with fail
              go_roundw
              case rel => exact ⟨i + 1, by omega, by go_num, ⟨HR.out.nw.trans HN5.out, by rw [HTK2.out]; exact HR5.out⟩⟩
              case measure => simp [intOf]; omega
          · obtain rfl : i = bl.length := by omega
            have hlt2 : ¬ ((bl.length : Nat) : Int) < (bl.length : Int) := by omega
            have HV : Hid (vdX la (wrR L bs (bl.take bl.length)) = vdX la (wrR L bs bl)) := Lib.hid (by rw [List.take_length])
            rw [HV.out] at g1 g2
            go_upto_region 19 with fail
            refine wp_region_z [6] (fun w' => (w'.cell? ⟨w.heap.size, 0, none⟩ = some (.int .u64 0) ∧ w'.cell? ⟨w.heap.size, 1, none⟩ = some (.int .u64 (la : Int)) ∧ w'.cell? ⟨w.heap.size, 2, none⟩ = some (.slice sA L.length sc) ∧ w'.cell? ⟨w.heap.size, 3, none⟩ = some (.slice tA L.length tc)) ∧ (w'.cell? ⟨w.heap.size + 1, 0, none⟩ = some (.int .u64 (bc : Int)) ∧ w'.cell? ⟨w.heap.size + 1, 1, none⟩ = some (.int .u64 (br : Int)) ∧ w'.cell? ⟨w.heap.size + 1, 2, none⟩ = some (.int .u64 (bs : Int)) ∧ w'.cell? ⟨w.heap.size + 1, 3, none⟩ = some (.slice bA bl.length bcap)) ∧ w'.cell? ⟨g9, 0, none⟩ = some (.int .u64 ((vdX la (wrR L bs bl)).t : Int)) ∧ w'.cell? ⟨g9, 1, none⟩ = some (.int .i64 (vdX la (wrR L bs bl)).e)) (by kernel_rfl) (⟨⟨q1, q2, q3, q4⟩, ⟨p1, p2, p3, p4⟩, g1, g2⟩) (fun hHeld => ?_)
            refine tkZ (i := 0) (oi := ⟨some 80, .load 33 (.tmp 2), 33, "ref.go:79", #[], none⟩) (v := ?_) (.inl ⟨by rfl, ?_⟩) ?_
            rotate_left
            · (intro wq hSw; (try dsimp only at hSw); go_simp; first | done | with_reducible rfl)
            try simp only [Act.put, sA, sZ, sS]
            refine tkZ (i := 1) (oi := ⟨some 81, .load 40 (.tmp 3), 40, "ref.go:79", #[], none⟩) (v := ?_) (.inl ⟨by rfl, ?_⟩) ?_
            rotate_left
            · (intro wq hSw; (try dsimp only at hSw); go_simp; first | done | with_reducible rfl)
            try simp only [Act.put, sA, sZ, sS]
            refine tkZ (i := 2) (oi := ⟨some 82, .load 49 (.tmp 10), 49, "ref.go:79", #[], none⟩) (v := ?_) (.inl ⟨by rfl, ?_⟩) ?_
            rotate_left
            · (intro wq hSw; (try dsimp only at hSw); go_simp; first | done | with_reducible rfl)
            try simp only [Act.put, sA, sZ, sS]
            refine tkZ (i := 4) (oi := ⟨some 84, .load 49 (.tmp 10), 49, "ref.go:79", #[⟨5, Ground.gcOnly Departure.lateStores⟩], none⟩) (v := ?_) (.inl ⟨by rfl, ?_⟩) ?_
            rotate_left
            · (intro wq hSw; (try dsimp only at hSw); go_simp; first | done | with_reducible rfl)
            try simp only [Act.put, sA, sZ, sS]
            refine wpZ_ready (rs := [3]) (by kernel_rfl) (by simp) ?_
            refine AllZ.cons (o := ⟨some 83, .call { callee := .value (.func 72), args := #[.tmp 80, .tmp 81, .tmp 82, .const (.bool false)], argTypes := #[33, 40, 49, 4] }, 33, "ref.go:79", #[⟨0, .data⟩, ⟨1, .data⟩, ⟨2, .data⟩], none⟩) rfl (fun K hK => ?_) AllZ.nil
            go_simp
            refine (tell_any (x := ⟨la, L, .slice sA L.length sc, .slice tA L.length tc⟩) ((HRK.out.new HNw.out).new (New.refl wr).drew) ⟨⟨bc, br, bs, bl⟩, bA, bcap⟩ ((HB.out.new HNw.out).new (New.refl wr).drew) (vdX la (wrR L bs bl)) (vdX_lt HMX.out) false HL.out).mono ?_
            rintro e w5 ⟨y, rfl, hyk, hyt, hn5, hyf⟩
            obtain ⟨yla, yL, ysv, ytv⟩ := y
            have hss := hyk.s.shape
            have hts := hyk.t.shape
            rw [List.length_map] at hts
            dsimp only at hss hts
            obtain ⟨ysA, ysc, rfl⟩ := hss
            obtain ⟨ytA, ytc, rfl⟩ := hts
            dsimp only [RjV.val]
            have HYK := Lib.hid hyk
            have HYT := Lib.hid hyt
            have HN5 := Lib.hid ((New.refl wr).drew.trans hn5)
            have HNW5 := Lib.hid (HNW.out.trans HN5.out)
            have HYF : Hid (∀ k, RjF ⟨yla, yL, .slice ysA yL.length ysc, .slice ytA yL.length ytc⟩ k → w.heap.size + 4 ≤ k) := Lib.hid (fun k hk => by have h1 := hyf k hk; have h2 := HR.out.bk.lt; have h3 := HG98.out; have h4 : wr.drew.heap.size = wr.heap.size := rfl; omega)
            have HR5 := Lib.hid (HR.out.bk.new HN5.out)
            clear hyk hyt hyf q0 q1 q2 q3 q4 qz p0 p1 p2 p3 p4 pz g0 g1 g2 gz hn5 hHeld
            obtain ⟨q0, q1, q2, q3, q4, qz⟩ := Blk4R (H1.out.new HNW5.out)
            obtain ⟨p0, p1, p2, p3, p4, pz⟩ := Blk4R (H2.out.new HNW5.out)
            obtain ⟨r0, r1, r2, r3, r4, rz⟩ := Blk4R (H3.out.new HNW5.out)
            obtain ⟨s0, s1, s2, sz⟩ := Blk2R (H4.out.new HNW5.out)
            obtain ⟨g0, g1, g2, gz⟩ := Blk2R HR5.out
            rw [HV.out] at g1 g2
            refine hK.out _ _ ?_ (fun hHeld => ?_)
            · exact ⟨⟨q1, q2, q3, q4⟩, ⟨p1, p2, p3, p4⟩, g1, g2⟩
            clear hK K
            try simp only [Act.put, sA, sZ, sS]
            refine wpZ_ready (rs := [5]) (by kernel_rfl) (by simp) ?_
            refine AllZ.cons (o := ⟨none, .store 33 (.tmp 4) (.tmp 83), 0, "ref.go:79", #[⟨3, .data⟩, ⟨3, .chain⟩, ⟨0, .phase⟩, ⟨1, .phase⟩, ⟨2, .phase⟩, ⟨3, .phase⟩, ⟨4, Ground.textOnly Departure.lateStores⟩], none⟩) rfl (fun K hK => ?_) AllZ.nil
            go_simp
            have hu7 : Upd (· = w.heap.size + 2) w5 ((((w5.setCell ⟨w.heap.size + 1 + 1, 0, none⟩ (.int .u64 0)).setCell ⟨w.heap.size + 1 + 1, 1, none⟩ (.int .u64 (yla : Int))).setCell ⟨w.heap.size + 1 + 1, 2, none⟩ (.slice ysA yL.length ysc)).setCell ⟨w.heap.size + 1 + 1, 3, none⟩ (.slice ytA yL.length ytc)) := ((((Upd.refl _ w5).setIn 0 _).setIn 1 _).setIn 2 _).setIn 3 _
            have H37 := Lib.hid ((((((H3.out.new HNW5.out).set_ 0 (.int .u64 0)).set_ 1 (.int .u64 (yla : Int))).set_ 2 (.slice ysA yL.length ysc)).set_ 3 (.slice ytA yL.length ytc)))
            have H47 := Lib.hid ((H4.out.new HNW5.out).upd hu7 (by omega))
            have k0 := fun o => keepR hu7 q0 (by omega) o
            have k1 := fun o => keepR hu7 p0 (by omega) o
            have k2 := fun o => keepR hu7 g0 (by have := HG98.out; omega) o
            have HU7 := Lib.hid hu7
            have j0 := (k0 0).trans q1
            have j1 := (k0 1).trans q2
            have j2 := (k0 2).trans q3
            have j3 := (k0 3).trans q4
            have i0 := (k1 0).trans p1
            have i1 := (k1 1).trans p2
            have i2 := (k1 2).trans p3
            have i3 := (k1 3).trans p4
            have j4 := (k2 0).trans g1
            have j5 := (k2 1).trans g2
            clear hu7 k0 k1 k2 q0 q1 q2 q3 q4 qz p0 p1 p2 p3 p4 pz r0 r1 r2 r3 r4 rz s0 s1 s2 sz g0 g1 g2 gz hHeld
            generalize ((((w5.setCell ⟨w.heap.size + 1 + 1, 0, none⟩ (.int .u64 0)).setCell ⟨w.heap.size + 1 + 1, 1, none⟩ (.int .u64 (yla : Int))).setCell ⟨w.heap.size + 1 + 1, 2, none⟩ (.slice ysA yL.length ysc)).setCell ⟨w.heap.size + 1 + 1, 3, none⟩ (.slice ytA yL.length ytc)) = w7 at *
            obtain ⟨s0, s1, s2, sz⟩ := Blk2R H47.out
            refine hK.out _ _ ?_ (fun hHeld => ?_)
            · exact ⟨⟨j0, j1, j2, j3⟩, ⟨i0, i1, i2, i3⟩, j4, j5⟩
            clear hK K
            try simp only [Act.put, sA, sZ, sS]
            refine wpZ_ready (rs := [6]) (by kernel_rfl) (by simp) ?_
            refine AllZ.consZ (o := ⟨none, .store 49 (.tmp 5) (.tmp 84), 0, "ref.go:79", #[⟨4, .data⟩, ⟨5, .chain⟩, ⟨0, .phase⟩, ⟨1, .phase⟩, ⟨2, .phase⟩, ⟨3, .phase⟩, ⟨4, .phase⟩, ⟨5, .phase⟩], none⟩) rfl (by kernel_rfl) (fun K hK => ?_) AllZ.nil
            go_simp
            refine hK.out _ _ ?_
            clear hK K
            try simp only [Act.put, sA, sZ, sS]
            refine wpZ_done (by kernel_rfl) ?_ _
            clear hHeld j0 j1 j2 j3 j4 j5 i0 i1 i2 i3
            have hu8 : Upd (· = w.heap.size + 3) w7 ((w7.setCell ⟨w.heap.size + 3, 0, none⟩ (.int .u64 ((vdX la (wrR L bs bl)).t : Int))).setCell ⟨w.heap.size + 3, 1, none⟩ (.int .i64 (vdX la (wrR L bs bl)).e)) := ((Upd.refl _ w7).setIn 0 _).setIn 1 _
            have h39 := H37.out.upd hu8 (by omega)
            have h49 := (H47.out.set_ 0 (.int .u64 ((vdX la (wrR L bs bl)).t : Int))).set_ 1 (.int .i64 (vdX la (wrR L bs bl)).e)
            have hn9 := ((New.trans HN.out HNW5.out).upd HU7.out (fun i e => by omega)).upd hu8 (fun i e => by omega)
            have HK9 := Lib.hid ((HYK.out.upd HU7.out (fun k hk e => by have := HYF.out k hk; omega) (Off.blk (H3.out.new HNW5.out) (by decide))).upd hu8 (fun k hk e => by have := HYF.out k hk; omega) (Off.blk H47.out (by decide)))
            have HN9 := Lib.hid hn9
            clear hu8 hn9 s0 s1 s2 sz
            generalize (w7.setCell ⟨w.heap.size + 3, 0, none⟩ (.int .u64 ((vdX la (wrR L bs bl)).t : Int))).setCell ⟨w.heap.size + 3, 1, none⟩ (.int .i64 (vdX la (wrR L bs bl)).e) = w9 at *
            obtain ⟨r0, r1, r2, r3, r4, rz⟩ := Blk4R h39
            obtain ⟨s0, s1, s2, sz⟩ := Blk2R h49
            clear h39 h49
            go_wp2_with fail
            exact bodyPost_ret (v := .tuple #[.agg #[.int .u64 0, .int .u64 (yla : Int), .slice ysA yL.length ysc, .slice ytA yL.length ytc], .agg #[.int .u64 ((vdX la (wrR L bs bl)).t : Int), .int .i64 (vdX la (wrR L bs bl)).e]]) (by simp [results, Tryz.results45, go_sem, r1, r2, r3, r4, s1, s2]) rfl ⟨⟨yla, yL, _, _⟩, by rw [HE0.out, Jd.new_rest HJ.out (by rw [← HJL.out]; exact HST.out) (by rw [← HJL.out]; exact HMX.out)]; rfl, HK9.out, by rw [HE0.out]; exact HJ.out.rest (by rw [← HJL.out]; exact HST.out) (by rw [← HJL.out]; exact HMX.out) HYT.out, by have := HYT.out.1; dsimp only at this ⊢; rw [this, List.length_append]; simp, HN9.out, fun k hk => .inr (by have := HYF.out k hk; omega)⟩
end
end Go.Proofs.YtecniafnihpjmaaGreatDoor
