/- Chapter 26 (cluster): Start, Ask, Told, Copy, Lose, Under, List. -/
import Derived.Test.YtlhlcdjkacglnaaGreatDoorJk22
import Derived.Test.YtlhlcdjkacglnaaGreatDoorJk1
namespace Go.Proofs.YtlhlcdjkacglnaaGreatDoor
open Go.RowKit Go.Lap C
set_option linter.unusedVariables false
set_option linter.unusedSimpArgs false
section
variable {w w' W : World} {S F : Nat → Prop} {up B n m : Nat} {L : CuL} {x : Clu}
theorem atL_none {α : Type} {l : List α} {i : Int} (h : ¬ (0 ≤ i ∧ i < (l.length : Int))) : atL l i = none := by
  unfold atL
  split
  · exact List.getElem?_eq_none (by omega)
  · rfl
theorem atL_nat {α : Type} (l : List α) (i : Nat) : atL l (i : Int) = l[i]? := by unfold atL; rw [if_pos (by omega), Int.toNat_natCast]
theorem setC_self {i : Nat} {c : Cli} (h : x.cs[i]? = some c) : x.setC (i : Int) c = x := by
  unfold Clu.setC
  rw [Int.toNat_natCast]
  obtain ⟨hi, rfl⟩ := List.getElem?_eq_some_iff.1 h
  rw [List.set_getElem_self]
theorem atL_cases (n : Nat) (i : Int) : (∃ k : Nat, i = (k : Int) ∧ k < n) ∨ ¬ (0 ≤ i ∧ i < (n : Int)) := by
  by_cases h : 0 ≤ i ∧ i < (n : Int)
  · exact .inl ⟨i.toNat, by omega, by omega⟩
  · exact .inr h
def CStart (w : World) (up B : Nat) (L : CuL) (r : Clu × Nat × Int) (e : Ending) (w' : World) : Prop := e = .returned (.tuple #[.int .u64 (r.2.1 : Int), .int .i64 r.2.2]) ∧ Turned w up B L r.1 w'
set_option maxHeartbeats 2000000 in
theorem cStart (h : CuAt w up B L x) (hok : CluOk L.m B x) (hB : B ≤ 900000000) (i : Int) {s : Nat} (hs : s < big) {l : List Wri} {A : Option Addr} {cap : Nat} (ht : TSl w 34 3 Wri.enc (.slice A l.length cap) l) (hl : l.length ≤ 1000) :
    Calls Tryz.prog 9 #[.pointer (some ⟨up, 0, none⟩), .int .i64 i, .int .u64 (s : Int), .slice A l.length cap] w (CStart w up B L (x.start i s l)) := by
  obtain ⟨R, hR⟩ : ∃ R, x.start i s l = R := ⟨_, rfl⟩
  rw [hR]
  have HRR := Lib.hid hR
  have H := Lib.hid h
  have HT := Lib.hid ht
  have HOK := Lib.hid hok
  clear hR
  rcases atL_cases L.m i with ⟨k, rfl, hk⟩ | hno
  · obtain ⟨c, hc⟩ := h.cs_at hk
    have hck := hok.cl k c hc
    have HR : Hid (x.start (k : Int) s l = (x.setC (k : Int) (c.start s l).1, (c.start s l).2.1.r, (c.start s l).2.2)) := Lib.hid (by unfold Clu.start; rw [atL_nat, hc])
    have HC := Lib.hid (h.pt (.cl k) c hc)
    have HCK := Lib.hid hck
    have HCA := Lib.hid hc
    have HK := Lib.hid hk
    clear h ht hok hc hck hk
    go_enter Tryz.func9, Tryz.ntmps9
    go_wp2_with fail
    refine (cclient H.out HK.out).mono ?_
    rintro e w1 ⟨rfl, rfl⟩
    go_wp2_with fail
    cases hnow : c.now with
    | some p =>
      have HS : Hid (c.start s l = (c, Btc.none, 250)) := Lib.hid (by unfold Cli.start; rw [hnow])
      refine (cstart_busy HC.out hnow s A l.length cap).mono ?_
      rintro e w2 ⟨rfl, hn2⟩
      obtain rfl : (x, 0, (250 : Int)) = R := by rw [← HRR.out, HR.out, HS.out, setC_self HCA.out]; rfl
      have HT2 := Lib.hid (Turned.new H.out (hn2.alloc (.cells #[.int .u64 0, .int .u64 0, .int .u64 0, .slice none 0 0] 82)))
      clear hn2 hnow
      dsimp only [batV]
      go_wp2_with fail
      go_ret2
      exact ⟨rfl, HT2.out⟩
    | none =>
      obtain ⟨r, hr⟩ : ∃ r, c.start s l = r := ⟨_, rfl⟩
      refine (cstart HC.out hnow (by have := HCK.out.id; have := HK.out; have := H.out.nm; unfold big; omega) (by have := HCK.out.nx; omega) hs HT.out hl hr).mono ?_
      rintro e w2 ⟨y, L', rfl, hyb, hy2, hc2, hu2, hk2⟩
      obtain rfl : (x.setC (k : Int) r.1, r.2.1.r, r.2.2) = R := by rw [← HRR.out, HR.out, hr]
      have HT2 := Lib.hid (H.out.turnC HCA.out hc2 hu2 hk2)
      obtain ⟨⟨yc, yr, ys, yl⟩, yA, ycap⟩ := y
      dsimp only at hyb
      have HY := Lib.hid hyb
      obtain ⟨r1, r2, r3⟩ := r
      dsimp only at hyb
      subst hyb
      have HT3 := Lib.hid (HT2.out.post ((New.refl w2).alloc (.cells #[.int .u64 (yc : Int), .int .u64 (yr : Int), .int .u64 (ys : Int), .slice yA yl.length ycap] 82)))
      clear hy2 hc2 hu2 hk2 HY hr hnow
      dsimp only [BtV.val, BtV.sl, batV]
      go_wp2_with fail
      go_ret2
      exact ⟨rfl, HT3.out⟩
  · have HR : Hid (x.start i s l = (x, 0, 261)) := Lib.hid (by unfold Clu.start; rw [atL_none (by rw [h.cl]; exact hno)])
    have HN := Lib.hid hno
    clear h ht hok hno
    go_enter Tryz.func9, Tryz.ntmps9
    go_wp2_with fail
    refine (cclient_no H.out i HN.out).mono ?_
    rintro e w1 ⟨rfl, rfl⟩
    obtain rfl : (x, 0, (261 : Int)) = R := by rw [← HRR.out, HR.out]
    go_wp2_with fail
    go_ret2
    exact ⟨rfl, Turned.refl H.out⟩
def CActI (w : World) (up B : Nat) (L : CuL) (r : Clu × Int) (e : Ending) (w' : World) : Prop := e = .returned (.int .i64 r.2) ∧ Turned w up B L r.1 w'
set_option maxHeartbeats 4000000 in
theorem cAsk (h : CuAt w up B L x) (hok : CluOk L.m B x) (hB : B ≤ 90000000) (i nd : Int) :
    Calls Tryz.prog 10 #[.pointer (some ⟨up, 0, none⟩), .int .i64 i, .int .i64 nd] w (CActI w up B L (x.ask i nd)) := by
  obtain ⟨R, hR⟩ : ∃ R, x.ask i nd = R := ⟨_, rfl⟩
  rw [hR]
  have HRR := Lib.hid hR
  have H := Lib.hid h
  have HOK := Lib.hid hok
  clear hR
  rcases atL_cases L.m i with ⟨k, rfl, hk⟩ | hno
  · obtain ⟨c, hc⟩ := h.cs_at hk
    have HC := Lib.hid (h.pt (.cl k) c hc)
    have HCK := Lib.hid (hok.cl k c hc)
    have HCA := Lib.hid hc
    have HK := Lib.hid hk
    have hk4 : k < 4 := by have := h.nm; omega
    have w100 : IntKind.i64.wrap (100 + (k : Int)) = 100 + (k : Int) := IntWalk.i64_in _ (by omega)
    rcases atL_cases L.n nd with ⟨j, rfl, hj⟩ | hnn
    · obtain ⟨r, hr⟩ := h.rs_at hj
      have HRA := Lib.hid hr
      have HJ := Lib.hid hj
      clear h hok hc hk hr hj
      go_enter Tryz.func10, Tryz.ntmps10
      go_wp2_with fail
      refine (cclient H.out HK.out).mono ?_
      rintro e w1 ⟨rfl, rfl⟩
      go_wp2_with fail
      refine (cnode H.out HJ.out).mono ?_
      rintro e w1 ⟨rfl, rfl⟩
      go_wp2_with fail
      cases hnow : c.now with
      | none =>
        obtain rfl : (x, (251 : Int)) = R := by rw [← HRR.out]; unfold Clu.ask; rw [atL_nat, atL_nat, HCA.out, HRA.out]; simp only [hnow]
        refine (cagain_no HC.out hnow).mono ?_
        rintro e w2 ⟨rfl, hn2⟩
        have HT2 := Lib.hid (Turned.new H.out (hn2.alloc (.cells #[.int .u64 0, .int .u64 0, .int .u64 0, .slice none 0 0] 82)))
        clear hn2 hnow
        dsimp only [batV]
        go_wp2_with fail
        go_ret
        exact ⟨rfl, HT2.out⟩
      | some p =>
        obtain ⟨b, t⟩ := p
        obtain ⟨hb, hbc, hbr, htB, hchk⟩ := HCK.out.now b t hnow
        have HW : Hid (wireB b = b) := Lib.hid (if_pos hchk)
        have HAG : Hid (c.again = ({ c with now := some (b, t + 1) }, b, 0)) := Lib.hid (by unfold Cli.again; rw [hnow])
        obtain rfl : ((x.setC (k : Int) { c with now := some (b, t + 1) }).send ⟨100 + (k : Int), (j : Int), .req b⟩, (0 : Int)) = R := by
          rw [← HRR.out]; unfold Clu.ask; rw [atL_nat, atL_nat, HCA.out, HRA.out]; simp only [hnow]; rw [HAG.out, HW.out]
        refine (cagain HC.out hnow (by omega)).mono ?_
        rintro e w2 ⟨y, rfl, hyb, hy2, hc2, hu2⟩
        have HT2 := Lib.hid (H.out.turnC HCA.out hc2 (hu2.mono (fun k _ e => .inr e)) (fun k hk => .inl hk))
        obtain ⟨⟨yc, yr, ys, yl⟩, yA, ycap⟩ := y
        dsimp only at hyb
        subst hyb
        have hn3 := (New.refl w2).alloc (.cells #[.int .u64 (yc : Int), .int .u64 (yr : Int), .int .u64 (ys : Int), .slice yA yl.length ycap] 82)
        have HT3 := Lib.hid (HT2.out.post hn3)
        have HY3 := Lib.hid (hy2.new hn3)
        have HM3 := Lib.hid (Blk.mk_new w2 82 #[.int .u64 (yc : Int), .int .u64 (yr : Int), .int .u64 (ys : Int), .slice yA yl.length ycap])
        have HCH : Hid (chk yl = 0) := Lib.hid hchk
        have HB := Lib.hid hb
        clear hy2 hc2 hu2 hnow hn3 hb hbc hbr htB hchk HAG HW
        dsimp only [BtV.val, BtV.sl, batV]
        go_upto_region 5 with fail
        generalize w2.alloc _ = w3 at *
        obtain ⟨m0, m1, m2, m3, m4, mz⟩ := Blk4K HM3.out
        go_wp2_with fail
        refine (putB_any yc yr ys _ yl w3 (by have := HB.out.l; dsimp only at this; omega) HB.out.c HB.out.r HB.out.s HY3.out.sl.slIn).mono ?_
        rintro e w4 ⟨hn4, hput⟩
        rcases hput with ⟨_, u, rfl, hu⟩ | ⟨hbad, _⟩
        · obtain ⟨uA, un, uc, hus⟩ := (hu.slIn bEncOk).shape
          have hn5 := hn4.alloc (.cells #[.slice uA un uc] 86)
          obtain ⟨L5, e1, hat5, hF5, hU5⟩ := HT3.out.post hn5
          have HSL5 := Lib.hid ((hu.slIn bEncOk).new ((New.refl w4).alloc (.cells #[.slice uA un uc] 86)))
          have HM5 := Lib.hid (Blk.mk_new w4 86 #[.slice uA un uc])
          have HUS := Lib.hid hus
          subst hus
          have HA5 := Lib.hid hat5
          have HF5 := Lib.hid hF5
          have HU5 := Lib.hid hU5
          have HE5 : Hid (Sm L L5) := Lib.hid e1
          clear hn4 hu hn5 hat5 hF5 hU5 m0 m1 m2 m3 m4 mz e1
          go_upto_region 8 with fail
          generalize w4.alloc _ = w5 at *
          go_wp2_with fail
          have hlb := bB_len ⟨yc, yr, ys, yl⟩ HB.out
          have hbb : bB ⟨yc, yr, ys, yl⟩ = encB yc yr ys yl := if_pos HCH.out
          rw [hbb] at hlb
          have HLT : Hid ((txtB (encB yc yr ys yl)).length ≤ 100000) := Lib.hid (by have := varB_len10 (n := (encB yc yr ys yl).length) (by omega); unfold txtB; rw [List.length_append]; omega)
          refine (csend1 HA5.out ⟨100 + (k : Int), (j : Int), .req ⟨yc, yr, ys, yl⟩⟩ (kind := 0) (by omega) (putsReq HM5.out HSL5.out (by omega)) (by show varB 0 ++ txtB (bB ⟨yc, yr, ys, yl⟩) = _; rw [hbb]) HLT.out).mono ?_
          rintro e w6 ⟨rfl, ht6⟩
          have HT6 := Lib.hid (Turned.trans HE5.out HF5.out HU5.out ht6.turned)
          clear ht6 hlb hbb
          go_wp2_with fail
          go_ret
          exact ⟨rfl, HT6.out⟩
        · exact absurd HCH.out hbad
    · obtain rfl : (x, (261 : Int)) = R := by rw [← HRR.out]; unfold Clu.ask; rw [atL_nat, HCA.out, atL_none (l := x.rs) (by rw [h.rl]; exact hnn)]
      have HN := Lib.hid hnn
      clear h hok hc hk hnn
      go_enter Tryz.func10, Tryz.ntmps10
      go_wp2_with fail
      refine (cclient H.out HK.out).mono ?_
      rintro e w1 ⟨rfl, rfl⟩
      go_wp2_with fail
      refine (cnode_no H.out nd HN.out).mono ?_
      rintro e w1 ⟨rfl, rfl⟩
      go_wp2_with fail
      go_ret
      exact ⟨rfl, Turned.refl H.out⟩
  · obtain rfl : (x, (261 : Int)) = R := by rw [← HRR.out]; unfold Clu.ask; rw [atL_none (l := x.cs) (by rw [h.cl]; exact hno)]
    have HN := Lib.hid hno
    clear h hok hno
    go_enter Tryz.func10, Tryz.ntmps10
    go_wp2_with fail
    refine (cclient_no H.out i HN.out).mono ?_
    rintro e w1 ⟨rfl, rfl⟩
    go_wp2_with fail
    go_ret
    exact ⟨rfl, Turned.refl H.out⟩
set_option maxHeartbeats 1000000 in
theorem cTold (h : CuAt w up B L x) (i : Int) :
    Calls Tryz.prog 18 #[.pointer (some ⟨up, 0, none⟩), .int .i64 i] w fun e w' => e = .returned (.tuple #[.int .u64 ((x.told i).1 : Int), .agg #[.int .u64 ((x.told i).2.1.t : Int), .int .i64 (x.told i).2.1.e], .bool (x.told i).2.2]) ∧ New w w' := by
  obtain ⟨R, hR⟩ : ∃ R, x.told i = R := ⟨_, rfl⟩
  rw [hR]
  have HRR := Lib.hid hR
  have H := Lib.hid h
  clear hR
  have hN := (New.refl w).alloc (.cells #[.int .u64 0, .int .i64 0] 46)
  have HN := Lib.hid hN
  have HZ := Lib.hid (Blk.mk_new w 46 #[.int .u64 0, .int .i64 0])
  have HA := Lib.hid (h.new hN)
  rcases atL_cases L.m i with ⟨k, rfl, hk⟩ | hno
  · obtain ⟨c, hc⟩ := h.cs_at hk
    have HC := Lib.hid (HA.out.pt (.cl k) c hc)
    obtain rfl : (c.la.1, c.la.2, decide (0 < c.la.1)) = R := by rw [← HRR.out]; unfold Clu.told; rw [atL_nat, hc]
    have HK := Lib.hid hk
    clear h hc hk hN
    obtain ⟨cid, cnx, cnow, ⟨lr, ⟨lt, le⟩⟩, csaw⟩ := c
    dsimp only
    go_enter Tryz.func18, Tryz.ntmps18
    go_upto_region 1 with fail
    have HS1 : Hid (w.heap.size < (w.alloc (.cells #[.int .u64 0, .int .i64 0] 46)).heap.size) := Lib.hid HZ.out.lt
    generalize w.alloc _ = w0 at *
    go_wp2_with fail
    refine (cclient HA.out HK.out).mono ?_
    rintro e w1 ⟨rfl, rfl⟩
    go_wp2_with fail
    refine (clast HC.out).mono ?_
    rintro e w2 ⟨rfl, hn2⟩
    obtain ⟨z0, z1, z2, zz⟩ := Blk2F (HZ.out.new hn2)
    have HN2 := Lib.hid (HN.out.trans hn2)
    clear hn2
    dsimp only
    go_wp2_with fail
    exact bodyPost_ret (v := .tuple #[.int .u64 (lr : Int), .agg #[.int .u64 (lt : Int), .int .i64 le], .bool (decide (0 < lr))]) (by simp [results, Tryz.results18, go_sem, z0, z1, z2]) rfl ⟨rfl, (HN2.out.setCell (Nat.le_refl _) _).setCell (Nat.le_refl _) _⟩
  · obtain rfl : (0, ⟨0, 0⟩, false) = R := by rw [← HRR.out]; unfold Clu.told; rw [atL_none (l := x.cs) (by rw [h.cl]; exact hno)]
    have HNO := Lib.hid hno
    clear h hno hN
    dsimp only
    obtain ⟨z0, z1, z2, zz⟩ := Blk2F HZ.out
    go_enter Tryz.func18, Tryz.ntmps18
    go_upto_region 1 with fail
    generalize w.alloc _ = w0 at *
    go_wp2_with fail
    refine (cclient_no HA.out i HNO.out).mono ?_
    rintro e w1 ⟨rfl, rfl⟩
    go_wp2_with fail
    exact bodyPost_ret (v := .tuple #[.int .u64 0, .agg #[.int .u64 0, .int .i64 0], .bool false]) (by simp [results, Tryz.results18, go_sem, z0, z1, z2]) rfl ⟨rfl, (HN.out.setCell (Nat.le_refl _) _).setCell (Nat.le_refl _) _⟩
theorem cUnder (h : CuAt w up B L x) : Calls Tryz.prog 19 #[.pointer (some ⟨up, 0, none⟩)] w fun e w' => e = .returned (.int .i64 (x.bg.length : Int)) ∧ w' = w := by
  obtain ⟨g0, c0, c1, c2, c3, c4, c5, c6, c7, c8, cz⟩ := h.top
  have HB := Lib.hid (D.blen (h.pt .bg))
  clear h c0 c1 c2 c3 c4 c5 c7 c8
  go_enter Tryz.func19, Tryz.ntmps19
  go_wp2_with fail
  refine HB.out.mono ?_
  rintro e w1 ⟨rfl, rfl⟩
  rw [List.length_map]
  go_wp2_with fail
  go_ret
  exact ⟨rfl, rfl⟩
theorem cMasters (h : CuAt w up B L x) : Calls Tryz.prog 36 #[.pointer (some ⟨up, 0, none⟩)] w fun e w' => e = .returned (.pointer (some ⟨L.gp, 0, none⟩)) ∧ w' = w := by
  obtain ⟨g0, c0, c1, c2, c3, c4, c5, c6, c7, c8, cz⟩ := h.top
  clear h c0 c1 c2 c4 c5 c6 c7 c8
  go_enter Tryz.func36, Tryz.ntmps36
  go_wp2_with fail
  go_ret
  exact ⟨rfl, rfl⟩
theorem map_er : ∀ (l : List CPk) (k : Nat), (l.map CPk.pk).eraseIdx k = (l.eraseIdx k).map CPk.pk
  | [], _ => rfl
  | _ :: _, 0 => rfl
  | x :: l, k + 1 => by rw [List.map_cons, List.eraseIdx_cons_succ, List.eraseIdx_cons_succ, List.map_cons, map_er l k]
theorem cCopy (h : CuAt w up B L x) (i : Int) : Calls Tryz.prog 20 #[.pointer (some ⟨up, 0, none⟩), .int .i64 i] w (CActI w up B L (x.copy i)) := by
  obtain ⟨R, hR⟩ : ∃ R, x.copy i = R := ⟨_, rfl⟩
  rw [hR]
  have HRR := Lib.hid hR
  have H := Lib.hid h
  obtain ⟨g0, c0, c1, c2, c3, c4, c5, c6, c7, c8, cz⟩ := h.top
  have HB : Hid (D.BgAt w L.bb L.lv (x.bg.map CPk.pk)) := Lib.hid (h.pt .bg)
  have HL := Lib.hid h.bgl
  clear h hR c0 c1 c2 c3 c4 c5 c7 c8
  rcases atL_cases x.bg.length i with ⟨k, rfl, hk⟩ | hno
  · obtain ⟨p, hp⟩ : ∃ p, x.bg[k]? = some p := ⟨_, List.getElem?_eq_getElem hk⟩
    have HP : Hid ((x.bg.map CPk.pk)[k]? = some p.pk) := Lib.hid (by rw [List.getElem?_map, hp]; rfl)
    by_cases hf : x.bg.length = 256
    · obtain rfl : (x, (211 : Int)) = R := by rw [← HRR.out]; unfold Clu.copy; rw [atL_nat, hp]; exact (if_pos hf).symm
      have HK := Lib.hid hk
      have HF := Lib.hid hf
      clear hp hf hk
      go_enter Tryz.func20, Tryz.ntmps20
      go_wp2_with fail
      refine (D.bcopy_full HB.out (k : Int) (by rw [List.length_map]; have := HK.out; omega) (by rw [List.length_map]; exact HF.out)).mono ?_
      rintro e w1 ⟨rfl, hn1⟩
      have HT := Lib.hid (Turned.new H.out hn1)
      clear hn1
      go_wp2_with fail
      go_ret
      exact ⟨rfl, HT.out⟩
    · obtain rfl : ({ x with bg := x.bg ++ [p] }, (0 : Int)) = R := by rw [← HRR.out]; unfold Clu.copy; rw [atL_nat, hp]; exact (if_neg hf).symm
      have HF : Hid (x.bg.length < 256) := Lib.hid (by have := HL.out; omega)
      clear hp hf hk
      go_enter Tryz.func20, Tryz.ntmps20
      go_wp2_with fail
      refine (D.bcopy HB.out HP.out (by rw [List.length_map]; exact HF.out)).mono ?_
      rintro e w1 ⟨v1, rfl, hb1, hu1, hv1⟩
      have HT := Lib.hid (H.out.turnB (l := x.bg ++ [p]) (by rw [List.map_append]; exact hb1) hu1 hv1)
      clear hb1 hu1 hv1
      go_wp2_with fail
      go_ret
      exact ⟨rfl, HT.out⟩
  · obtain rfl : (x, (212 : Int)) = R := by rw [← HRR.out]; unfold Clu.copy; rw [atL_none hno]
    have HN := Lib.hid hno
    clear hno
    go_enter Tryz.func20, Tryz.ntmps20
    go_wp2_with fail
    refine (D.bcopy_no HB.out i (by rw [List.length_map]; exact HN.out)).mono ?_
    rintro e w1 ⟨rfl, rfl⟩
    go_wp2_with fail
    go_ret
    exact ⟨rfl, Turned.refl H.out⟩
theorem cList (h : CuAt w up B L x) (hB : B ≤ 9000000) (i : Int) : Calls Tryz.prog 16 #[.pointer (some ⟨up, 0, none⟩), .int .i64 i] w (ListPost w (x.list i)) := by
  obtain ⟨R, hR⟩ : ∃ R, x.list i = R := ⟨_, rfl⟩
  rw [hR]
  have HRR := Lib.hid hR
  have H := Lib.hid h
  clear hR
  rcases atL_cases L.n i with ⟨k, rfl, hk⟩ | hno
  · obtain ⟨r, hr⟩ := h.rs_at hk
    have HR := Lib.hid (h.pt (.rp k) r hr)
    obtain rfl : r.l = R := by rw [← HRR.out]; unfold Clu.list; rw [atL_nat, hr]
    have HK := Lib.hid hk
    clear h hr hk
    go_enter Tryz.func16, Tryz.ntmps16
    go_wp2_with fail
    refine (cnode H.out HK.out).mono ?_
    rintro e w1 ⟨rfl, rfl⟩
    go_wp2_with fail
    refine (rlist HR.out hB).mono ?_
    rintro e w2 ⟨v, rfl, hr2, hn2⟩
    have H2 := Lib.hid hr2
    have HN := Lib.hid hn2
    clear hr2 hn2
    go_wp2_with fail
    go_ret
    exact ⟨v, rfl, H2.out, HN.out⟩
  · obtain rfl : [] = R := by rw [← HRR.out]; unfold Clu.list; rw [atL_none (l := x.rs) (by rw [h.rl]; exact hno)]
    have HN := Lib.hid hno
    clear h hno
    go_enter Tryz.func16, Tryz.ntmps16
    go_wp2_with fail
    refine (cnode_no H.out i HN.out).mono ?_
    rintro e w1 ⟨rfl, rfl⟩
    go_wp2_with fail
    go_ret
    exact ⟨_, rfl, BtRow.nil _ _, New.refl _⟩
end
end Go.Proofs.YtlhlcdjkacglnaaGreatDoor
/- Chapter 26 (cluster): Kill; what one sends (flush). -/
namespace Go.Proofs.YtlhlcdjkacglnaaGreatDoor
open Go.RowKit Go.Lap C
set_option linter.unusedVariables false
set_option linter.unusedSimpArgs false
section
variable {w w' W : World} {S F : Nat → Prop} {up B n m : Nat} {L : CuL} {x : Clu}
theorem goneV_set (f : Int → Bool) (i : Int) : (fun j => if j = i then some (Value.bool true) else goneV f j) = goneV (setD f i true) := by
  funext j
  unfold goneV setD
  by_cases h : j = i
  · subst h; simp
  · simp [h]
set_option maxHeartbeats 2000000 in
theorem cKill (h : CuAt w up B L x) (hB : B ≤ 90000000) (i : Int) : Calls Tryz.prog 17 #[.pointer (some ⟨up, 0, none⟩), .int .i64 i] w (CActI w up (B + 1) L (x.kill i)) := by
  obtain ⟨R, hR⟩ : ∃ R, x.kill i = R := ⟨_, rfl⟩
  rw [hR]
  have HRR := Lib.hid hR
  have H := Lib.hid h
  clear hR
  rcases atL_cases L.n i with ⟨k, rfl, hk⟩ | hno
  · obtain ⟨r, hr⟩ := h.rs_at hk
    obtain rfl : ({ x with gone := setD x.gone (k : Int) true, wt := setD x.wt (k : Int) [] }, (0 : Int)) = R := by rw [← HRR.out]; unfold Clu.kill; rw [atL_nat, hr]
    have hI : D.okI (k : Int) := okI_of (by have := h.nm; exact ⟨by omega, by omega⟩)
    have HI := Lib.hid hI
    have HK := Lib.hid hk
    obtain ⟨m1, hm1, hmp⟩ := h.pt .gm
    have HM := Lib.hid hmp
    have HML : Hid (m1 ≤ B) := Lib.hid hm1
    obtain ⟨g0, c0, c1, c2, c3, c4, c5, c6, c7, c8, cz⟩ := h.top
    clear h hr hk hI hmp hm1
    go_enter Tryz.func17, Tryz.ntmps17
    go_wp2_with fail
    refine (cnode H.out HK.out).mono ?_
    rintro e w1 ⟨rfl, rfl⟩
    go_upto_region 4 with (at_mapUpdate; refine wpList_mp_put D.keyI64 rfl _ _ _ 95 4 rfl Tryz.underlying95 rfl HM.out (by have := HML.out; unfold maxLen; omega) (k : Int) HI.out rfl (.bool true) rfl ?_; intro w2 hm2 hg2)
    rw [goneV_set] at hm2
    obtain ⟨L2, hs2, ha2, hf2, hu2⟩ := H.out.turnK HK.out (Nat.le_succ B) (by have := HML.out; split <;> omega) hm2 ((Upd.refl (· = L.gm) w1).grown hg2 (fun k _ e => by injection e with e; exact e.symm))
    clear hm2 hg2 c0 c1 c2 c3 c4 c5 c6 c7 c8 cz g0
    obtain ⟨g0, c0, c1, c2, c3, c4, c5, c6, c7, c8, cz⟩ := ha2.top
    obtain ⟨m3, hm3, hmp3⟩ := (ha2.pt .wt).mp
    have HM3 := Lib.hid hmp3
    have HML3 := Lib.hid hm3
    have HA2 := Lib.hid ha2
    have HS2 := Lib.hid hs2
    have HF2 := Lib.hid hf2
    have HU2 := Lib.hid hu2
    clear hs2 ha2 hf2 hu2 hmp3 hm3
    go_upto_region 5 with (at_delete; refine wpList_mp_del D.keyI64 rfl _ _ 98 178 rfl Tryz.underlying98 rfl HM3.out (k : Int) HI.out rfl ?_; intro w3 hm3 hg3)
    obtain ⟨h4, h5, h6⟩ := (HA2.out.pt .wt).set_ (Nat.le_refl _) (i := k) (by rw [HS2.out.1]; exact HK.out) (v := .slice none 0 0) (l := []) (m := if (wtV L2.wv x.wt (k : Int)).isSome then m3 - 1 else m3) (by have := HML3.out; split <;> omega) (hm3.congr fun j _ => by by_cases hj : j = (k : Int) <;> simp [hj]) (Row.nil _ _ _ _ _) (Nat.zero_le _)
      ((Upd.refl _ w2).grown hg3 (fun k _ e => by injection e with e; exact .inl e.symm)) (fun k hk => by cases hk)
    have HT := Lib.hid (Turned.trans HS2.out HF2.out HU2.out (HA2.out.turnW (Nat.le_refl _) h4 h5 (fun k hk => (h6 k hk).imp id (fun h => by cases h))))
    clear hm3 hg3 h4 h5 h6
    go_wp2_with fail
    go_ret
    exact ⟨rfl, HT.out⟩
  · obtain rfl : (x, (261 : Int)) = R := by rw [← HRR.out]; unfold Clu.kill; rw [atL_none (l := x.rs) (by rw [h.rl]; exact hno)]
    have HN := Lib.hid hno
    clear h hno
    go_enter Tryz.func17, Tryz.ntmps17
    go_wp2_with fail
    refine (cnode_no H.out i HN.out).mono ?_
    rintro e w1 ⟨rfl, rfl⟩
    go_wp2_with fail
    go_ret
    exact ⟨rfl, (Turned.refl H.out).mono (Nat.le_succ B)⟩
end
end Go.Proofs.YtlhlcdjkacglnaaGreatDoor
/- Chapter 26 (cluster): what one sends (flush). -/
namespace Go.Proofs.YtlhlcdjkacglnaaGreatDoor
open Go.RowKit Go.Lap C
set_option linter.unusedVariables false
set_option linter.unusedSimpArgs false
section
variable {w w' W : World} {S F : Nat → Prop} {up B n m : Nat} {L : CuL} {x : Clu}
def sentL (x : Clu) (l : List CPk) : Clu := l.foldl Clu.send x
theorem sentL_snoc (x : Clu) (l : List CPk) (p : CPk) : sentL x (l ++ [p]) = (sentL x l).send p := by unfold sentL; rw [List.foldl_append]; rfl
theorem take_snocN {α : Type} {l : List α} {k : Nat} {b : α} (h : l[k]? = some b) : l.take (k + 1) = l.take k ++ [b] := by rw [List.take_add_one, h]; rfl
/-- A batch's bytes, or none. -/
theorem putBB (b : Btc) {v : Value} (hb : b.Ok) (hs : SlIn w 3 Wri.enc v b.l) : Calls Tryz.prog 42 #[.agg #[.int .u64 (b.c : Int), .int .u64 (b.r : Int), .int .u64 (b.s : Int), v]] w fun e w' => ∃ A n c er, e = .returned (.tuple #[.slice A n c, .int .i64 er]) ∧ SlIn w' 1 bEnc (.slice A n c) (bB b) ∧ New w w' := by
  refine (putB_any b.c b.r b.s v b.l w (by have := hb.l; omega) hb.c hb.r hb.s hs).mono ?_
  rintro e w2 ⟨hn, ⟨hc, u, rfl, hu⟩ | ⟨hc, rfl⟩⟩
  · obtain ⟨A, n, c, rfl⟩ := (hu.slIn bEncOk).shape
    refine ⟨A, n, c, 0, rfl, ?_, hn⟩
    unfold bB
    rw [if_pos hc]
    exact hu.slIn bEncOk
  · refine ⟨none, 0, 0, _, rfl, ?_, hn⟩
    unfold bB
    rw [if_neg hc]
    exact SlIn.empty _ _ _ _ _
theorem NtRow.at_ {v : Value} {l : List Nt} {nt : Nt} {k : Nat} (h : NtRow w 0 v l) (hb : l[k]? = some nt) : ∃ (g off cap : Nat) (p : NtV), v = .slice (some ⟨g, off, none⟩) l.length cap ∧ l.length ≤ cap ∧ p.nt = nt ∧ BtAt w p.v ∧ g < w.heap.size ∧
    w.cell? ⟨g, off + k * 9, none⟩ = some (.int .i64 p.k) ∧ w.cell? ⟨g, off + k * 9 + 1, none⟩ = some (.int .i64 p.fr) ∧ w.cell? ⟨g, off + k * 9 + 2, none⟩ = some (.int .i64 p.ds) ∧ w.cell? ⟨g, off + k * 9 + 3, none⟩ = some (.int .u64 (p.ep : Int)) ∧
    w.cell? ⟨g, off + k * 9 + 4, none⟩ = some (.int .u64 (p.t : Int)) ∧ w.cell? ⟨g, off + k * 9 + 5, none⟩ = some (.int .u64 (p.v.b.c : Int)) ∧ w.cell? ⟨g, off + k * 9 + 6, none⟩ = some (.int .u64 (p.v.b.r : Int)) ∧ w.cell? ⟨g, off + k * 9 + 7, none⟩ = some (.int .u64 (p.v.b.s : Int)) ∧ w.cell? ⟨g, off + k * 9 + 8, none⟩ = some p.v.sl := by
  obtain ⟨ps, rfl, hr, ha⟩ := h
  rw [List.getElem?_map, Option.map_eq_some_iff] at hb
  obtain ⟨p, hp, rfl⟩ := hb
  have hne : ps ≠ [] := fun e => by rw [e] at hp; cases hp
  obtain ⟨g, off, cap, hv, _, hat⟩ := hr.at_ hne
  refine ⟨g, off, cap, p, by rw [List.length_map]; exact hv, by rw [List.length_map]; exact hat.len.1, rfl, ha p (List.mem_of_getElem? hp), hat.lt, ?_, ?_, ?_, ?_, ?_, ?_, ?_, ?_, ?_⟩
  · simpa using hat.cell NtV.encOk hp (j := 0) rfl
  · exact hat.cell NtV.encOk hp (j := 1) rfl
  · exact hat.cell NtV.encOk hp (j := 2) rfl
  · exact hat.cell NtV.encOk hp (j := 3) rfl
  · exact hat.cell NtV.encOk hp (j := 4) rfl
  · exact hat.cell NtV.encOk hp (j := 5) rfl
  · exact hat.cell NtV.encOk hp (j := 6) rfl
  · exact hat.cell NtV.encOk hp (j := 7) rfl
  · exact hat.cell NtV.encOk hp (j := 8) rfl
theorem notePk_enc (i : Int) (p : NtV) : (notePk i p.nt).m.enc = varB 1 ++ (varB p.k.toNat ++ varB p.ep ++ varB p.t ++ txtB (bB p.v.b)) := by
  show varB 1 ++ (varB p.k.toNat ++ varB p.ep ++ varB p.t) ++ txtB (bB (wireB p.v.b)) = _
  rw [bB_wire]
  simp only [List.append_assoc]
theorem send_wt (x : Clu) (p : CPk) : (x.send p).wt = x.wt ∧ (x.send p).rs = x.rs := by unfold Clu.send; split <;> exact ⟨rfl, rfl⟩
theorem sentL_wt (x : Clu) : ∀ l : List CPk, (sentL x l).wt = x.wt := by
  intro l
  induction l generalizing x with
  | nil => rfl
  | cons p l ih => exact (ih (x.send p)).trans (send_wt x p).1
theorem sentL_rs (x : Clu) : ∀ l : List CPk, (sentL x l).rs = x.rs := by
  intro l
  induction l generalizing x with
  | nil => rfl
  | cons p l ih => exact (ih (x.send p)).trans (send_wt x p).2
theorem zeroW (w : World) : (zeroValue 178).run Tryz.prog w = .ok (.slice none 0 0) w := by kernel_rfl
theorem sent_join {lv v v2 : Value} {bb : Nat} (hu : Upd (D.BgF bb lv) w W) (hv : ∀ k, v.ownBlock = some k → lv.ownBlock = some k ∨ w.heap.size ≤ k) (h2 : Upd (D.BgF bb v) W w') (h3 : ∀ k, v2.ownBlock = some k → v.ownBlock = some k ∨ W.heap.size ≤ k) :
    Upd (D.BgF bb lv) w w' ∧ ∀ k, v2.ownBlock = some k → lv.ownBlock = some k ∨ w.heap.size ≤ k := by
  refine ⟨hu.trans h2 (fun k hlt hk => ?_), fun k hk => ?_⟩
  · rcases hk with hk | hk
    · exact .inl hk
    · rcases hv k hk with h4 | h4
      · exact .inr h4
      · omega
  · rcases h3 k hk with h4 | h4
    · exact hv k h4
    · exact .inr (Nat.le_trans hu.size h4)
theorem flush_end {w1 w7 w9 w10 : World} {L1 : CuL} {v7 v9 lf : Value} {x9 : Clu} {wv' : Nat → Value} {wt' : Int → List Wt} (hs1 : Sm L L1) (hf1 : ∀ p k, CuF up L1 p k → (∃ q, CuF up L q k) ∨ w.heap.size ≤ k) (hu1 : Upd (fun k => ∃ p, CuF up L p k) w w1)
    (hu7 : Upd (D.BgF L1.bb L1.lv) w1 w7) (hv7 : ∀ k, v7.ownBlock = some k → L1.lv.ownBlock = some k ∨ w1.heap.size ≤ k) (hu9 : Upd (D.BgF L1.bb v7) w7 w9) (hv9 : ∀ k, v9.ownBlock = some k → v7.ownBlock = some k ∨ w7.heap.size ≤ k)
    (hat : CuAt w9 up B { L1 with lv := v9 } x9) (h1 : WtAt w10 L1.n (B + 1) L1.wm wv' wt') (h2 : Upd (WtF L1.n L1.wm L1.wv) w9 w10) (h3 : ∀ k, WtF L1.n L1.wm wv' k → WtF L1.n L1.wm L1.wv k ∨ lf.ownBlock = some k)
    (hlf : ∀ k, lf.ownBlock = some k → w7.heap.size ≤ k ∧ ∀ q, ¬ CuF up { L1 with lv := v9 } q k) : Turned w up (B + 1) L { x9 with wt := wt' } w10 := by
  obtain ⟨j1, j2⟩ := sent_join hu7 hv7 hu9 hv9
  have hc := hat.turnWx (Nat.le_succ B) h1 h2 (fun k hk => (h3 k hk).imp id (fun e => (hlf k e).2))
  refine Turned.trans hs1 hf1 hu1 ⟨{ L1 with lv := v9, wv := wv' }, ⟨rfl, rfl, rfl, rfl, rfl, rfl⟩, hc, fun p k hk => ?_, (j1.mono fun k _ hk => (⟨.bg, hk⟩ : ∃ p, CuF up L1 p k)).trans h2 (fun k _ hk => ⟨.wt, hk⟩)⟩
  cases p with
  | bg =>
    rcases hk with hk | hk
    · exact .inl ⟨.bg, .inl hk⟩
    · exact (j2 k hk).imp (fun h => ⟨.bg, .inr h⟩) id
  | wt =>
    rcases h3 k hk with h4 | h4
    · exact .inl ⟨.wt, h4⟩
    · exact .inr (Nat.le_trans hu7.size (hlf k h4).1)
  | top => exact .inl ⟨.top, hk⟩
  | rv => exact .inl ⟨.rv, hk⟩
  | rp i => exact .inl ⟨.rp i, hk⟩
  | gm => exact .inl ⟨.gm, hk⟩
  | cv => exact .inl ⟨.cv, hk⟩
  | cl i => exact .inl ⟨.cl i, hk⟩
  | gp => exact .inl ⟨.gp, hk⟩
  | dm => exact .inl ⟨.dm, hk⟩
/-- So far: what is left, what was sent. -/
structure FlRel (w7 : World) (up B : Nat) (L7 : CuL) (X7 : Clu) (i : Int) (cl : Nat) (l : List Wt) (k : Nat) (lf : Value) (w2 : World) : Prop where
  hk : k ≤ l.length
  row : Row w2 w7.heap.size 180 5 Wt.enc lf ((l.take k).filter fun y => !decide (y.un ≤ cl))
  se : ∃ v, CuAt w2 up B { L7 with lv := v } (sentL X7 (((l.take k).filter fun y => decide (y.un ≤ cl)).map (ansPk i))) ∧ Upd (D.BgF L7.bb L7.lv) w7 w2 ∧ (∀ j, v.ownBlock = some j → L7.lv.ownBlock = some j ∨ w7.heap.size ≤ j) ∧ ∀ j, lf.ownBlock = some j → v.ownBlock ≠ some j
set_option maxRecDepth 100000 in
set_option maxHeartbeats 8000000 in
theorem cFlush (h : CuAt w up B L x) (hB : B ≤ 9000000) {i : Nat} {r : Rpl} (hr : x.rs[i]? = some r) (hno : ∀ nt ∈ r.out, NtOk nt) (hwo : ∀ y ∈ x.wt (i : Int), y.Ok L.m) :
    Calls Tryz.prog 47 #[.pointer (some ⟨up, 0, none⟩), .int .i64 (i : Int)] w (fun e w' => e = .returned (.tuple #[]) ∧ Turned w up (B + 1) L (x.flush (i : Int)) w') := by
  obtain ⟨X, hX⟩ : ∃ X, x.flush (i : Int) = X := ⟨_, rfl⟩
  rw [hX]
  have HXX := Lib.hid hX
  have hi := h.rlt hr
  obtain ⟨g0, c0, c1, c2, c3, c4, c5, c6, c7, c8, cz⟩ := h.top
  obtain ⟨b, off, c, hv, hc, hcell⟩ := ptr_at (h.pt .rv) hi
  rw [hv] at c0
  have h0 : (0 : Int) ≤ (i : Int) := by omega
  have h2 : (i : Int) < (L.n : Int) := by omega
  have H := Lib.hid h
  have HR := Lib.hid hr
  have HRP := Lib.hid (h.pt (.rp i) r hr)
  have HNO := Lib.hid hno
  have HWO := Lib.hid hwo
  have HI := Lib.hid hi
  clear h hr hno hwo hX hv hi c1 c2 c3 c4 c5 c6 c7 c8
  go_enter Tryz.func47, Tryz.ntmps47
  go_wp2_with fail
  refine (rout HRP.out).mono ?_
  intro e w1 hp
  obtain ⟨L1, rfl, ha1, hs1, hf1, hu1, hn1, hd1, hrp1, hbb1, hlv1⟩ := H.out.taken HR.out hp
  obtain ⟨oA, oc, hov⟩ := hn1.shape
  have HA1 := Lib.hid ha1
  have HS1 := Lib.hid hs1
  have HF1 := Lib.hid hf1
  have HU1 := Lib.hid hu1
  have HN1 := Lib.hid hn1
  have HD1 := Lib.hid hd1
  have HRP1 := Lib.hid hrp1
  have HOV := Lib.hid hov
  rw [hov]
  have hol : r.out.length ≤ 9000000 := Nat.le_trans HRP.out.ol hB
  clear hp ha1 hs1 hf1 hu1 hn1 hd1 hrp1 hbb1 hlv1 hov hcell c0 cz g0 h0 h2 hc
  go_wp2_with fail
  go_loopw [22] (fun idx wr => ∃ k : Nat, idx = .int .i64 (k : Int) ∧ k ≤ r.out.length ∧ Sent w1 up B L1 (sentL (x.setR (i : Int) { r with out := [] }) ((r.out.take k).map (notePk (i : Int)))) wr) (fun idx _ => r.out.length - (intOf idx).toNat)
  case atStart => exact ⟨0, rfl, Nat.zero_le _, Sent.refl HA1.out⟩
  case round =>
    obtain ⟨k, rfl, hk, hse⟩ := hrel
    have hk0 : (0 : Int) ≤ (k : Int) := by omega
    by_cases hlt : k < r.out.length
    · have hlt2 : (k : Int) < (r.out.length : Int) := by omega
      obtain ⟨nt, hnt⟩ : ∃ nt, r.out[k]? = some nt := ⟨_, List.getElem?_eq_getElem hlt⟩
      have hse2 := hse
      obtain ⟨v', hat, hub, hvb⟩ := hse2
      have hrow := HN1.out.upd hub (fun k hk hb => HD1.out k hk .bg hb) (Cln.offW fun k hk => (HA1.out.cln .bg k hk).2)
      obtain ⟨g, off, cap, p, hv, hcap, rfl, hba, hg, e0, e1, e2, e3, e4, e5, e6, e7, e8⟩ := hrow.at_ hnt
      rw [HOV.out] at hv
      cases hv
      have HPN := Lib.hid (HNO.out p.nt (List.mem_of_getElem? hnt))
      have HNT := Lib.hid hnt
      have HSE := Lib.hid hse
      have HAT := Lib.hid hat
      have HUB := Lib.hid hub
      have HVB := Lib.hid hvb
      have HBA := Lib.hid hba
      clear hse hat hub hvb hrow hba hnt
      dsimp only [BtV.sl] at e8
      go_upto_region 4 with fail
      have hM := Blk.mk_new wr 177 p.cells
      have hN := (New.refl wr).alloc (.cells p.cells 177)
      have HM2 := Lib.hid hM
      have HN2 := Lib.hid hN
      have HAT2 := Lib.hid (HAT.out.new hN)
      have HBA2 := Lib.hid (HBA.out.new hN)
      clear hM hN e0 e1 e2 e3 e4 e5 e6 e7 e8
      dsimp only [NtV.cells, BtV.sl] at HM2 HN2 HAT2 HBA2
      generalize wr.alloc _ = w2 at *
      obtain ⟨f0, d0, d1, d2, d3, d4, d5, d6, d7, d8, dz⟩ := nt_facts (n := p) HM2.out
      dsimp only [BtV.sl] at d8
      go_wp2_with fail
      refine (putBB p.v.b HBA2.out.ok HBA2.out.sl.slIn).mono ?_
      rintro e w3 ⟨uA, un, uc, er, rfl, hu3, hn3⟩
      have hn4 := hn3.alloc (.cells #[.slice uA un uc] 86)
      have HM4 := Lib.hid (HM2.out.new hn4)
      have HU4 := Lib.hid (hu3.new ((New.refl w3).alloc (.cells #[.slice uA un uc] 86)))
      have HP4 := Lib.hid (Blk.mk_new w3 86 #[.slice uA un uc])
      have HN4 := Lib.hid (HN2.out.trans hn4)
      have HAT4 := Lib.hid (HAT2.out.new hn4)
      clear f0 d0 d1 d2 d3 d4 d5 d6 d7 d8 dz hu3 hn3 hn4
      go_upto_region 5 with fail
      generalize w3.alloc _ = w4 at *
      obtain ⟨f0, d0, d1, d2, d3, d4, d5, d6, d7, d8, dz⟩ := nt_facts (n := p) HM4.out
      clear d0 d1 d3 d4 d5 d6 d7 d8
      go_wp2_with fail
      have hl1 := varB_len10 (n := p.k.toNat) (by have := HPN.out.k; have : p.nt.k = p.k := rfl; omega)
      have hl2 := varB_len10 HPN.out.ep
      have hl3 := varB_len10 HPN.out.t
      have hl4 := bB_len p.v.b HBA2.out.ok
      have hl5 := varB_len10 (n := (bB p.v.b).length) (by omega)
      refine (csend2 HAT4.out (notePk (i : Int) p.nt) (kind := 1) (by omega) (putsNote HP4.out HU4.out (by omega) HM4.out HPN.out.k HPN.out.ep HPN.out.t) (notePk_enc _ _) (by simp only [txtB, List.length_append]; have e1 : p.nt.ep = p.ep := rfl; have e2 : p.nt.t = p.t := rfl; rw [e1] at hl2; rw [e2] at hl3; omega)).mono ?_
      rintro e w5 ⟨rfl, hs5⟩
      have HS5 : Hid (Sent w1 up B L1 (sentL (x.setR (i : Int) { r with out := [] }) ((r.out.take (k + 1)).map (notePk (i : Int)))) w5) := Lib.hid (by
        rw [take_snocN HNT.out, List.map_append, List.map_cons, List.map_nil, sentL_snoc]
        exact Sent.trans HUB.out HVB.out (Sent.pre HN4.out hs5))
      clear hs5 hl1 hl2 hl3 hl4 hl5
      go_wp2_with fail
      go_roundw
      case rel => exact ⟨k + 1, by go_num, by omega, HS5.out⟩
      case measure => simp [intOf]; omega
    · have hkl : k = r.out.length := by omega
      subst hkl
      rw [List.take_length] at hse
      obtain ⟨v7, ha7, hu7, hv7⟩ := id hse
      obtain ⟨X7, hX7⟩ : ∃ X7, sentL (x.setR (i : Int) { r with out := [] }) (r.out.map (notePk (i : Int))) = X7 := ⟨_, rfl⟩
      rw [hX7] at ha7 hse
      have HSE := Lib.hid hse
      have HX7 := Lib.hid hX7
      obtain ⟨L7, hL7⟩ : ∃ L7, ({ L1 with lv := v7 } : CuL) = L7 := ⟨_, rfl⟩
      rw [hL7] at ha7
      have HL7 := Lib.hid hL7
      have HA7 := Lib.hid ha7
      have HU7 := Lib.hid hu7
      have HV7 := Lib.hid hv7
      have HN7 : Hid (L7.n = L.n) := Lib.hid (by rw [← hL7]; exact HS1.out.1)
      have HWT : Hid (X7.wt = x.wt) := Lib.hid (by rw [← hX7]; exact sentL_wt _ _)
      obtain ⟨m7, hm7, hmp7⟩ := (ha7.pt .wt).mp
      obtain ⟨wv, hwv, hrow, hown⟩ := WtAt.look (ha7.pt .wt) (i := i) (by rw [HN7.out]; exact HI.out)
      have hI : D.okI (i : Int) := okI_of (by have := H.out.nm; have := HI.out; exact ⟨by omega, by omega⟩)
      obtain ⟨wA, wc, hwsh⟩ := hrow.shape
      have HM7 := Lib.hid hmp7
      have HML7 := Lib.hid hm7
      have HROW := Lib.hid hrow
      have HOWN := Lib.hid hown
      have HOKI := Lib.hid hI
      have HWL : Hid ((X7.wt (i : Int)).length ≤ B) := Lib.hid ((ha7.pt .wt).row i (by rw [HN7.out]; exact HI.out)).2
      have HWSH := Lib.hid hwsh
      have HWV := Lib.hid hwv
      obtain ⟨g0, c0, c1, c2, c3, c4, c5, c6, c7, c8, cz⟩ := ha7.top
      clear hse ha7 hu7 hv7 hX7 hL7 hm7 hmp7 hwv hrow hown hI hwsh hlt hk c0 c1 c2 c3 c4 c5 c6 c8
      go_upto_region 8 with fail
      go_wp2_with (at_lookup; refine wpList_mp_at D.keyI64 rfl _ _ 98 178 rfl Tryz.underlying98 (zeroW _) rfl HM7.out (i : Int) HOKI.out rfl ?_; rw [HWV.out, HWSH.out])
      obtain ⟨w7, rfl⟩ : ∃ w7, w7 = wr := ⟨_, rfl⟩
      have hwl : (X7.wt (i : Int)).length ≤ 9000000 := by have := HWL.out; omega
      have HRS : Hid (X7.rs[i]? = some { r with out := [] }) := Lib.hid (by
        rw [← HX7.out, sentL_rs]
        show (x.rs.set (i : Int).toNat _)[i]? = _
        rw [Int.toNat_natCast, List.getElem?_set_self (by have := H.out.rl; have := HI.out; omega)])
      have HRL7 : Hid (L7.rp = L.rp) := Lib.hid (by rw [← HL7.out]; exact HRP1.out)
      go_loopw [9, 46] (fun lf idx wr => ∃ k : Nat, idx = .int .i64 (k : Int) ∧ FlRel w7 up B L7 X7 (i : Int) r.cl (X7.wt (i : Int)) k lf wr) (fun _ idx _ => (X7.wt (i : Int)).length - (intOf idx).toNat)
      case atStart => exact ⟨0, rfl, Nat.zero_le _, Row.nil _ _ _ _ _, L7.lv, HA7.out, Upd.refl _ _, fun j hj => .inl hj, fun j hj => by cases hj⟩
      case round =>
        obtain ⟨k, rfl, hrl⟩ := hrel
        have hk := hrl.hk
        have hk0 : (0 : Int) ≤ (k : Int) := by omega
        have HREL := Lib.hid hrl
        clear hrl
        by_cases hlt : k < (X7.wt (i : Int)).length
        · have hlt2 : (k : Int) < ((X7.wt (i : Int)).length : Int) := by omega
          obtain ⟨y, hy⟩ : ∃ y, (X7.wt (i : Int))[k]? = some y := ⟨_, List.getElem?_eq_getElem hlt⟩
          obtain ⟨v', hat, hub, hvb, hnb⟩ := HREL.out.se
          have hne : X7.wt (i : Int) ≠ [] := fun e => by rw [e] at hy; cases hy
          obtain ⟨g, off2, cap2, hv, _, hra⟩ := HROW.out.at_ hne
          have hgf : ¬ D.BgF L7.bb L7.lv g := fun hb => HA7.out.dj .wt .bg (by simp) g (.inr ⟨i, by rw [HN7.out]; exact HI.out, HOWN.out g (by rw [hv]; rfl)⟩) hb
          have hra2 := hra.upd hub hgf
          rw [HWSH.out] at hv
          cases hv
          have hcap := hra2.len.1
          have e0 : wr.cell? ⟨g, off2 + k * 5, none⟩ = some (.int .i64 y.dst) := by simpa using hra2.cell Wt.encOk hy (j := 0) rfl
          have e1 : wr.cell? ⟨g, off2 + k * 5 + 1, none⟩ = some (.int .u64 (y.rq : Int)) := hra2.cell Wt.encOk hy (j := 1) rfl
          have e2 : wr.cell? ⟨g, off2 + k * 5 + 2, none⟩ = some (.int .u64 (y.vd.t : Int)) := hra2.cell Wt.encOk hy (j := 2) rfl
          have e3 : wr.cell? ⟨g, off2 + k * 5 + 3, none⟩ = some (.int .i64 y.vd.e) := hra2.cell Wt.encOk hy (j := 3) rfl
          have e4 : wr.cell? ⟨g, off2 + k * 5 + 4, none⟩ = some (.int .u64 (y.un : Int)) := hra2.cell Wt.encOk hy (j := 4) rfl
          have hg := hra2.lt
          have HYO := Lib.hid (HWO.out y (by rw [← HWT.out]; exact List.mem_of_getElem? hy))
          have HY := Lib.hid hy
          have HAT := Lib.hid hat
          have HUB := Lib.hid hub
          have HVB := Lib.hid hvb
          have HNB := Lib.hid hnb
          clear hy hat hub hvb hnb hne hra hgf hra2
          go_upto_region 11 with fail
          have hM := Blk.mk_new wr 180 y.enc.toArray
          have hN := (New.refl wr).alloc (.cells y.enc.toArray 180)
          have HM3 := Lib.hid hM
          have HN3 := Lib.hid hN
          have HAT3 := Lib.hid (HAT.out.new hN)
          have HROW3 := Lib.hid (HREL.out.row.new hN)
          clear hM hN e0 e1 e2 e3 e4
          dsimp only [Wt.enc] at HM3 HN3 HAT3 HROW3
          generalize wr.alloc _ = w3 at *
          obtain ⟨f0, d0, d1, d2, d3, d4, dz⟩ := Blk5U HM3.out
          have HRC := Lib.hid (HAT3.out.pt (.rp i) _ (by rw [sentL_rs]; exact HRS.out))
          have HRC2 : Hid (RpAt w3 (L.rp i) B (L7.rl i) { r with out := [] }) := Lib.hid (by have := HRC.out; dsimp only at this; rw [HRL7.out] at this; exact this)
          clear HRC
          obtain ⟨HRC, _⟩ : Hid _ ∧ True := ⟨HRC2, trivial⟩
          refine wp_region_held_drew (S := fun w' => w' = w3.drew) (by kernel_rfl) (rfl) (fun hHeld => ?_)
          refine tkN (i := 0) rfl ?_
          try simp only [Act.put, sA, sZ, sS]
          refine tkN (i := 1) rfl ?_
          try simp only [Act.put, sA, sZ, sS]
          refine tkN (i := 2) rfl ?_
          try simp only [Act.put, sA, sZ, sS]
          refine stN (i := 3) rfl (fun K hK => ?_)
          go_simp
          refine (rclean (HRC.out.new (New.refl w3).drew)).mono ?_
          rintro e w4 ⟨rfl, rfl⟩
          refine hK.out _ _ ?_ (fun hHeld => ?_)
          · exact rfl
          clear hK K
          try simp only [Act.put, sA, sZ, sS]
          refine tkN (i := 4) rfl ?_
          try simp only [Act.put, sA, sZ, sS]
          refine wpAnyH_done (by kernel_rfl) ?_ _
          clear hHeld
          rotate_left
          have HM4 : Hid (Blk w3.drew wr.heap.size 180 #[.int .i64 y.dst, .int .u64 (y.rq : Int), .int .u64 (y.vd.t : Int), .int .i64 y.vd.e, .int .u64 (y.un : Int)]) := Lib.hid HM3.out
          have HN4 := Lib.hid (HN3.out.drew)
          have HAT4 := Lib.hid (HAT3.out.new (New.refl w3).drew)
          have HROW4 := Lib.hid (HROW3.out.new (New.refl w3).drew)
          clear HM3 HN3 HAT3 HROW3 HRC HRC2 f0 d0 d1 d2 d3 d4 dz
          generalize w3.drew = w4 at *
          obtain ⟨f0, d0, d1, d2, d3, d4, dz⟩ := Blk5U HM4.out
          by_cases hcl : y.un ≤ r.cl
          · have hc1 : ¬ r.cl < y.un := by omega
            have hc2 : ¬ (r.cl : Int) < (y.un : Int) := by omega
            have HC1 : Hid (decide (y.un ≤ r.cl) = true) := Lib.hid (by simpa using hcl)
            go_wp2_with fail
            have hl1 := varB_len10 HYO.out.r
            have hl2 := varB_len10 HYO.out.v.t
            have hl3 := varB_len10 (n := y.vd.e.toNat) (by have := HYO.out.v.e; omega)
            refine (csend1 HAT4.out (ansPk (i : Int) y) (kind := 2) (by omega) (putsAns HM4.out HYO.out.r HYO.out.v.t HYO.out.v.e) rfl (by simp only [List.length_append]; omega)).mono ?_
            rintro e w5 ⟨rfl, v2, h1, h2, h3⟩
            have HF : Hid (FlRel w7 up B L7 X7 (i : Int) r.cl (X7.wt (i : Int)) (k + 1) u9 w5) := Lib.hid (by
              obtain ⟨j1, j2⟩ := sent_join (HUB.out.transNew HN4.out) HVB.out h2 h3
              refine ⟨by omega, ?_, v2, ?_, j1, j2, fun j hj hj2 => ?_⟩
              · rw [take_snocN HY.out, List.filter_append, List.filter_cons, HC1.out, List.filter_nil]
                simp only [Bool.not_true, Bool.false_eq_true, if_false, List.append_nil]
                refine HROW4.out.upd h2 ?_
                rintro j hj (hb | hb)
                · have := (HREL.out.row.lt j hj).1
                  have := (HA7.out.cln .bg L7.bb (.inl rfl)).1
                  subst hb
                  dsimp only at *
                  omega
                · exact HNB.out j hj hb
              · rw [take_snocN HY.out, List.filter_append, List.filter_cons, HC1.out, List.filter_nil, List.map_append, if_pos rfl, List.map_cons, List.map_nil, sentL_snoc]
                exact h1
              · have hlt3 := (HREL.out.row.lt j hj).2
                rcases h3 j hj2 with h4 | h4
                · exact HNB.out j hj h4
                · have := HN4.out.size; omega)
            clear h1 h2 h3 hl1 hl2 hl3
            go_wp2_with fail
            go_roundw
            case rel => exact ⟨k + 1, by go_num, HF.out⟩
            case measure => simp [intOf]; omega
          · have hc1 : r.cl < y.un := by omega
            have hc2 : (r.cl : Int) < (y.un : Int) := by omega
            have HC1 : Hid (decide (y.un ≤ r.cl) = false) := Lib.hid (by simpa using hcl)
            have hn5 := (New.refl w4).alloc (.cells #[.int .i64 y.dst, .int .u64 (y.rq : Int), .int .u64 (y.vd.t : Int), .int .i64 y.vd.e, .int .u64 (y.un : Int)] 180)
            have HN5 := Lib.hid hn5
            have HP5 := Lib.hid (Blk.mk_new w4 180 #[.int .i64 y.dst, .int .u64 (y.rq : Int), .int .u64 (y.vd.t : Int), .int .i64 y.vd.e, .int .u64 (y.un : Int)])
            have HROW5 := Lib.hid (HROW4.out.new hn5)
            have HAT5 := Lib.hid (HAT4.out.new hn5)
            have HFL : Hid ((((X7.wt (i : Int)).take k).filter (fun y => !decide (y.un ≤ r.cl))).length ≤ 9000000) := Lib.hid (by
              have h1 := List.length_filter_le (fun y => !decide (y.un ≤ r.cl)) ((X7.wt (i : Int)).take k)
              have h2 := List.length_take_le k (X7.wt (i : Int))
              omega)
            clear hn5
            go_wp2_with (at_builtin; refine wpList_appR (m := [y]) wtTy Wt.encOk rfl _ _ rfl rfl rfl HROW5.out (SlIn.one HP5.out Wt.encOk rfl) (by have := HFL.out; simp only [List.length_singleton]; unfold maxLen; omega) (by have := HFL.out; simp only [List.length_singleton]; omega) (by have := HREL.out.se; obtain ⟨_, _, hu, _⟩ := this; have := hu.size; have := HN4.out.size; have := HN5.out.size; omega) ?_; intro lf2 w6 h6 hg6 hv6)
            have HF : Hid (FlRel w7 up B L7 X7 (i : Int) r.cl (X7.wt (i : Int)) (k + 1) lf2 w6) := Lib.hid (by
              have hlo : ∀ j, u9.ownBlock = some j → w7.heap.size ≤ j ∧ j < w4.heap.size := fun j hj => ⟨(HROW4.out.lt j hj).1, (HROW4.out.lt j hj).2⟩
              have hu56 : Upd (fun j => u9.ownBlock = some j) _ w6 := (Upd.refl _ _).grown hg6 (fun j _ e => e)
              have hoff : ∀ p j, CuF up { L7 with lv := v' } p j → ¬ u9.ownBlock = some j := fun p j hp hj => by
                by_cases hpb : p = .bg
                · subst hpb
                  rcases hp with hp | hp
                  · have := (HA7.out.cln .bg L7.bb (.inl rfl)).1
                    have := (hlo j hj).1
                    dsimp only at hp
                    omega
                  · exact HNB.out j hj hp
                · have hp7 : CuF up L7 p j := by
                    cases p with
                    | bg => exact absurd rfl hpb
                    | _ => exact hp
                  have := (HA7.out.cln p j hp7).1
                  have := (hlo j hj).1
                  omega
              have hnew : New w4 _ := HN5.out
              refine ⟨by omega, ?_, v', ?_, ?_, HVB.out, fun j hj hj2 => ?_⟩
              · rw [take_snocN HY.out, List.filter_append, List.filter_cons, HC1.out, List.filter_nil]
                exact h6
              · rw [take_snocN HY.out, List.filter_append, List.filter_cons, HC1.out, List.filter_nil, if_neg Bool.false_ne_true, List.append_nil]
                exact HAT5.out.upd hu56 hoff (Off.row HROW5.out (by decide)) (Off.row HROW5.out (by decide))
              · refine ((HUB.out.transNew HN4.out).transNew HN5.out).grown hg6 (fun j hlt2 hj => ?_)
                have := (hlo j hj).1
                omega
              · rcases hv6 with e | e
                · rw [e] at hj
                  exact HNB.out j hj hj2
                · rw [e] at hj
                  have hj3 := HAT5.out.cln .bg j (.inr hj2)
                  have := hj3.1
                  cases hj
                  omega)
            clear h6 hg6 hv6
            go_wp2_with fail
            refine ⟨⟨k + 1, by go_num, HF.out⟩, ?_⟩
            simp [intOf]; omega
        · have hkl : k = (X7.wt (i : Int)).length := by omega
          have hse := HREL.out.se
          have hro := HREL.out.row
          rw [hkl, List.take_length] at hse hro
          obtain ⟨v9, hat, hub, hvb, hnb⟩ := hse
          obtain ⟨LF, hLF⟩ : ∃ LF, (X7.wt (i : Int)).filter (fun y => !decide (y.un ≤ r.cl)) = LF := ⟨_, rfl⟩
          rw [hLF] at hro
          have HLF := Lib.hid hLF
          have HLL : Hid (LF.length ≤ B) := Lib.hid (by rw [← hLF]; exact Nat.le_trans (List.length_filter_le _ _) HWL.out)
          obtain ⟨m9, hm9, hmp9⟩ := (hat.pt .wt).mp
          obtain ⟨lA, lc, hls⟩ := hro.shape
          have HLS := Lib.hid hls
          have HAT := Lib.hid hat
          have HUB := Lib.hid hub
          have HVB := Lib.hid hvb
          have HNB := Lib.hid hnb
          have HRO := Lib.hid hro
          have HM9 := Lib.hid hmp9
          have HML9 := Lib.hid hm9
          have HEQ : Hid (X = { sentL X7 (((X7.wt (i : Int)).filter fun y => decide (y.un ≤ r.cl)).map (ansPk (i : Int))) with wt := setD X7.wt (i : Int) LF }) := Lib.hid (by
            rw [← HXX.out, ← HX7.out, ← HLF.out]
            unfold Clu.flush
            rw [atL_nat, HR.out]
            dsimp only
            rw [show ∀ (z : Clu) (l : List CPk), l.foldl Clu.send z = sentL z l from fun _ _ => rfl, show ∀ (z : Clu) (l : List CPk), l.foldl Clu.send z = sentL z l from fun _ _ => rfl]
            simp only [sentL_wt, HX7.out])
          obtain ⟨g0, c0, c1, c2, c3, c4, c5, c6, c7, c8, cz⟩ := hat.top
          dsimp only at c7
          rw [hls]
          have hlt2 : ¬ (k : Int) < ((X7.wt (i : Int)).length : Int) := by omega
          clear hkl hat hub hvb hnb hLF hmp9 hls hro hm9 hk c0 c1 c2 c3 c4 c5 c6 c8
          have HLO : Hid (∀ j, u9.ownBlock = some j → w7.heap.size ≤ j ∧ ∀ q, ¬ CuF up { L7 with lv := v9 } q j) := Lib.hid (fun j hj => ⟨(HRO.out.lt j hj).1, fun q hq => by
            by_cases hpb : q = .bg
            · subst hpb
              rcases hq with hp | hp
              · have := (HA7.out.cln .bg L7.bb (.inl rfl)).1
                have := (HRO.out.lt j hj).1
                dsimp only at hp
                omega
              · exact HNB.out j hj hp
            · have hp7 : CuF up L7 q j := by
                cases q with
                | bg => exact absurd rfl hpb
                | _ => exact hq
              have := (HA7.out.cln q j hp7).1
              have := (HRO.out.lt j hj).1
              omega⟩)
          have HFIN : Hid (∀ (w10 : World) (wv' : Nat → Value) (lf : Value), WtAt w10 L1.n (B + 1) L1.wm wv' (setD X7.wt (i : Int) LF) → Upd (WtF L1.n L1.wm L1.wv) wr w10 → (∀ k, WtF L1.n L1.wm wv' k → WtF L1.n L1.wm L1.wv k ∨ lf.ownBlock = some k) → (lf = u9 ∨ lf = .slice none 0 0) → Turned w up (B + 1) L X w10) := Lib.hid (by
            intro w10 wv' lf h1 h2 h3 h4
            rw [HEQ.out]
            have hat := HAT.out
            have hub := HUB.out
            have hvb := HVB.out
            have hlo := HLO.out
            rw [← HL7.out] at hat hub hvb hlo
            refine flush_end HS1.out HF1.out HU1.out HU7.out HV7.out hub hvb hat h1 h2 h3 (fun k hk => ?_)
            rcases h4 with e | e
            · rw [e] at hk; exact hlo k hk
            · rw [e] at hk; cases hk)
          have HNI : Hid (i < L7.n) := Lib.hid (by rw [HN7.out]; exact HI.out)
          have HW7 : Hid ((sentL X7 (((X7.wt (i : Int)).filter fun y => decide (y.un ≤ r.cl)).map (ansPk (i : Int)))).wt = X7.wt) := Lib.hid (sentL_wt _ _)
          by_cases hz : LF.length = 0
          · have hz1 : ((LF.length : Int) == 0) = true := by simpa using hz
            have HZ := Lib.hid hz
            have HLE : Hid (LF = []) := Lib.hid (List.eq_nil_of_length_eq_zero hz)
            clear hz
            go_upto_region 16 with (at_mapUpdate; refine wpList_mp_put D.keyI64 rfl _ _ _ 98 178 rfl Tryz.underlying98 rfl HM9.out (by have := HML9.out; unfold maxLen; omega) (i : Int) HOKI.out rfl (.slice lA LF.length lc) rfl ?_; intro w10 hm10 hg10)
            have hc10 := (HAT.out.top)
            have d7 : w10.cell? ⟨up, 7, none⟩ = some (.map (some L7.wm)) := (World.cell?_of_block (hg10.block up hc10.lt (fun e => by have := HAT.out.dj .top .wt (by simp) up rfl; injection e with e; exact this (.inl e)))).trans hc10.c7
            have dz : ∀ i, w10.frozen? ⟨up, i, none⟩ = false := ((HAT.out.pt .top).1.grown hg10 (fun e => by have := HAT.out.dj .top .wt (by simp) up rfl; injection e with e; exact this (.inl e))).frozen
            have d0 : up < w10.heap.size := Nat.lt_of_lt_of_le hc10.lt hg10.size
            have HM10 := Lib.hid hm10
            have HG10 := Lib.hid hg10
            clear hm10 hg10 hc10 c7 cz g0
            go_wp2_with (at_delete; refine wpList_mp_del D.keyI64 rfl _ _ 98 178 rfl Tryz.underlying98 rfl HM10.out (i : Int) HOKI.out rfl ?_; intro w11 hm11 hg11)
            have hset := WtAt.set_ (w' := w11) (HAT.out.pt .wt) (Nat.le_succ B) HNI.out (v := .slice none 0 0) (l := []) (m := _) (by rw [if_pos (by simp)]; have := HML9.out; split <;> omega) (hm11.congr fun j _ => by by_cases hj : j = (i : Int) <;> simp [hj]) (Row.nil _ _ _ _ _) (Nat.zero_le _)
              (((Upd.refl _ wr).grown HG10.out (fun k _ e => by injection e with e; exact .inl e.symm)).grown hg11 (fun k _ e => by injection e with e; exact .inl e.symm)) (fun k hk => by cases hk)
            have HT : Hid (Turned w up (B + 1) L X w11) := Lib.hid (by
              obtain ⟨k1, k2, k3⟩ := hset
              rw [HW7.out, ← HL7.out] at k1
              rw [← HL7.out] at k2 k3
              refine HFIN.out _ _ (.slice none 0 0) (by rw [HLE.out]; exact k1) k2 k3 (.inr rfl))
            clear hm11 hg11 hset
            go_wp2_with fail
            exact bodyPost_end (v := .tuple #[]) (by kernel_rfl) rfl ⟨rfl, HT.out⟩
          · have hz1 : ((LF.length : Int) == 0) = false := by simpa using hz
            go_wp2_with (at_mapUpdate; refine wpList_mp_put D.keyI64 rfl _ _ _ 98 178 rfl Tryz.underlying98 rfl HM9.out (by have := HML9.out; unfold maxLen; omega) (i : Int) HOKI.out rfl (.slice lA LF.length lc) rfl ?_; intro w10 hm10 hg10)
            have hset := WtAt.set_ (w' := w10) (HAT.out.pt .wt) (Nat.le_succ B) HNI.out (v := .slice lA LF.length lc) (l := LF) (m := _) (by have := HML9.out; split <;> omega) (hm10.congr fun j _ => by by_cases hj : j = (i : Int) <;> simp [hj, show ¬ LF = [] from fun e => hz (by rw [e]; rfl)])
              (by have h5 := (HRO.out.lower (Nat.zero_le _)).upd ((Upd.refl (· = L7.wm) wr).grown hg10 (fun k _ e => by injection e with e; exact e.symm)) (fun k hk e => by subst e; exact Row.ne_map HRO.out HM9.out hk); rw [HLS.out] at h5; exact h5) (Nat.le_trans HLL.out (Nat.le_succ B)) ((Upd.refl _ wr).grown hg10 (fun k _ e => by injection e with e; exact .inl e.symm))
              (fun k hk => .inr fun hw => (HLO.out k (by rw [HLS.out]; exact hk)).2 .wt hw)
            have HT : Hid (Turned w up (B + 1) L X w10) := Lib.hid (by
              obtain ⟨k1, k2, k3⟩ := hset
              rw [HW7.out, ← HL7.out] at k1
              rw [← HL7.out] at k2 k3
              exact HFIN.out _ _ (.slice lA LF.length lc) k1 k2 k3 (.inl HLS.out.symm))
            clear hm10 hg10 hset
            exact bodyPost_end (v := .tuple #[]) (by kernel_rfl) rfl ⟨rfl, HT.out⟩
end
end Go.Proofs.YtlhlcdjkacglnaaGreatDoor
/- Chapter 26 (cluster): Tick; a judge's verdicts. -/
namespace Go.Proofs.YtlhlcdjkacglnaaGreatDoor
open Go.RowKit Go.Lap C
set_option linter.unusedVariables false
set_option linter.unusedSimpArgs false
section
variable {w w' W w1 : World} {S F : Nat → Prop} {up B D n m : Nat} {L : CuL} {x : Clu}
theorem JdV.zero : JdV Jd.zero := fun c q v h => by cases h
theorem JdV.of {j j' : Jd} (h : JdV j) (hl : j.la ≤ j'.la) (hs : ∀ c q v, j'.sn c = some (q, v) → j.sn c = some (q, v) ∨ (v.t ≤ j'.la ∧ 0 ≤ v.e ∧ v.e ≤ 1000)) : JdV j' := fun c q v hv => by
  rcases hs c q v hv with h1 | h1
  · obtain ⟨a, b, d⟩ := h c q v h1
    exact ⟨Nat.le_trans a hl, b, d⟩
  · exact h1
theorem setD_some {sn : Nat → Option (Nat × Vd)} {k c q : Nat} {v : Vd} {y : Nat × Vd} (h : setD sn k (some y) c = some (q, v)) : sn c = some (q, v) ∨ y = (q, v) := by
  unfold setD at h
  split at h
  · exact .inr (Option.some.inj h)
  · exact .inl h
theorem JdV.new_ {j : Jd} (h : JdV j) (b : Btc) : JdV (j.new_ b).1 ∧ j.la ≤ (j.new_ b).1.la ∧ (j.new_ b).2.t ≤ (j.new_ b).1.la ∧ 0 ≤ (j.new_ b).2.e ∧ (j.new_ b).2.e ≤ 1000 := by
  unfold Jd.new_
  split
  · exact ⟨h, Nat.le_refl _, Nat.zero_le _, by dsimp only; decide, by dsimp only; decide⟩
  · split
    · exact ⟨h, Nat.le_refl _, Nat.zero_le _, by dsimp only; decide, by dsimp only; decide⟩
    · split
      · refine ⟨h.of (Nat.le_refl _) (fun c q v hv => ?_), Nat.le_refl _, Nat.zero_le _, by dsimp only; decide, by dsimp only; decide⟩
        rcases setD_some hv with h1 | h1
        · exact .inl h1
        · cases h1; exact .inr ⟨Nat.zero_le _, by decide, by decide⟩
      · refine ⟨h.of (Nat.le_succ _) (fun c q v hv => ?_), Nat.le_succ _, Nat.le_refl _, by dsimp only; decide, by dsimp only; decide⟩
        rcases setD_some hv with h1 | h1
        · exact .inl h1
        · cases h1; exact .inr ⟨Nat.le_refl _, by dsimp only; decide, by dsimp only; decide⟩
theorem chk1_b (x : Wri) : 0 ≤ chk1 x ∧ chk1 x ≤ 1000 := by unfold chk1; split; decide; split; decide; decide
theorem chkFrom_b : ∀ (p : Option ByteArray) (l : List Wri), 0 ≤ chkFrom p l ∧ chkFrom p l ≤ 1000
  | _, [] => ⟨by show (0 : Int) ≤ 0; decide, by show (0 : Int) ≤ 1000; decide⟩
  | p, y :: l => by
    have e : chkFrom p (y :: l) = if chk1 y ≠ 0 then chk1 y else if prevBad p y.key = true then 54 else chkFrom (some y.key) l := rfl
    rw [e]
    split
    · exact chk1_b y
    · split
      · decide
      · exact chkFrom_b _ l
theorem chk_b (l : List Wri) : 0 ≤ chk l ∧ chk l ≤ 1000 := by
  unfold chk
  split
  · decide
  · split
    · decide
    · exact chkFrom_b _ _
theorem JdV.say {j : Jd} (h : JdV j) (b : Btc) : JdV (j.say b).1 ∧ j.la ≤ (j.say b).1.la ∧ (j.say b).2.t ≤ (j.say b).1.la ∧ 0 ≤ (j.say b).2.e ∧ (j.say b).2.e ≤ 1000 := by
  unfold Jd.say
  split
  · exact ⟨h, Nat.le_refl _, Nat.zero_le _, chk_b b.l⟩
  · split
    · rename_i q v hq
      split
      · obtain ⟨a, c, d⟩ := h b.c q v hq
        exact ⟨h, Nat.le_refl _, a, c, d⟩
      · split
        · exact ⟨h, Nat.le_refl _, Nat.zero_le _, by dsimp only; decide, by dsimp only; decide⟩
        · exact h.new_ b
    · exact h.new_ b
theorem JdV.load {j : Jd} (h : JdV j) (b : Btc) : JdV (j.load b).1 := by
  unfold Jd.load
  split
  · exact h
  · split
    · exact h
    · have hc : ∀ sn' : Nat → Option (Nat × Vd), sn' = setD j.sn b.c (some (b.r, ⟨j.la + 1, 0⟩)) → JdV { j.commit b with sn := sn' } := fun sn' e => by
        refine h.of (Nat.le_succ _) (fun c q v hv => ?_)
        rw [e] at hv
        rcases setD_some hv with h1 | h1
        · exact .inl h1
        · cases h1; exact .inr ⟨Nat.le_refl _, by dsimp only; decide, by dsimp only; decide⟩
      dsimp only
      split
      · split
        · exact h.of (Nat.le_succ _) (fun c q v hv => .inl hv)
        · exact hc _ rfl
      · exact hc _ rfl
theorem tellJ (x : Rpl) : x.tell.j = x.j := by unfold Rpl.tell; split <;> rfl
theorem askJ (x : Rpl) : x.ask.j = x.j := by unfold Rpl.ask; split <;> rfl
theorem cleanedJ (x : Rpl) (t : Nat) : (x.cleaned t).j = x.j := by unfold Rpl.cleaned; rw [tellJ]
theorem addedJ (x : Rpl) (b : Btc) : (x.added b).j = x.j := by
  unfold Rpl.added
  dsimp only
  split
  · rfl
  · rw [cleanedJ]
theorem someJ (x : Rpl) (ds : Int) (t : Nat) : (x.some_ ds t).j = x.j := by
  unfold Rpl.some_
  generalize List.range 5 = l
  have : ∀ y : Rpl, (l.foldl (fun y i => if 1 ≤ t ∧ t + i ≤ x.la then y.send ds 0 (t + i) ((x.l[t + i - 1]?).getD Btc.none) else y) y).j = y.j := by
    induction l with
    | nil => intro y; rfl
    | cons i l ih => intro y; rw [List.foldl_cons, ih]; split <;> rfl
  exact this x
theorem tickJ (x : Rpl) : x.tick.j = x.j := by
  unfold Rpl.tick
  rw [askJ]
  have h2 : (if (nextC x.cf x.id).2 = true then x.some_ (nextC x.cf x.id).1 (x.cl + 1) else x).j = x.j := by split; rw [someJ]; rfl
  generalize (if (nextC x.cf x.id).2 = true then x.some_ (nextC x.cf x.id).1 (x.cl + 1) else x) = y at *
  split
  · rw [tellJ]; exact h2
  · exact h2
theorem submitV {x : Rpl} (h : JdV x.j) (b : Btc) : JdV (x.submit b).1.j ∧ (x.submit b).2.1.t ≤ (x.submit b).1.j.la ∧ 0 ≤ (x.submit b).2.1.e ∧ (x.submit b).2.1.e ≤ 1000 := by
  unfold Rpl.submit
  split
  · exact ⟨h, Nat.zero_le _, by dsimp only; decide, by dsimp only; decide⟩
  · obtain ⟨h1, h2, h3, h4, h5⟩ := h.say b
    dsimp only
    have e : (if x.la < (x.j.say b).1.la then ({ x with j := (x.j.say b).1 } : Rpl).added b else { x with j := (x.j.say b).1 }).j = (x.j.say b).1 := by split; rw [addedJ]; rfl
    rw [e]
    exact ⟨h1, h3, h4, h5⟩
theorem receiveV {x : Rpl} (h : JdV x.j) (n : Nt) : JdV (x.receive n).j := by
  unfold Rpl.receive
  split
  · exact h
  · split
    · split
      · unfold Rpl.forwarded
        split
        · split
          · exact h
          · rw [addedJ]; exact h.load n.b
        · split
          · rw [askJ]; exact h
          · split
            · rw [tellJ]; exact h
            · exact h
      · split
        · unfold Rpl.acked
          split
          · rw [cleanedJ]; exact h
          · exact h
        · rw [someJ]; exact h
    · exact h
theorem rpn_of (h : CuAt w up B L x) (hok : CluOk L.m B x) (hB : B ≤ 9000000) {i : Nat} {r : Rpl} (hr : x.rs[i]? = some r) : RpN r := by
  obtain ⟨h1, h2, h3, _⟩ := hok.rp i r hr
  have h4 := h.pt (.rp i) r hr
  have h5 := h.rlt hr
  have h6 := h.nm
  exact ⟨by rw [h1]; exact ⟨by omega, by omega⟩, h3, by have := h4.ll; omega, by have := h4.cl; omega, by rw [h2]; intro n hn; cases hn⟩
/-- What a replica says goes out. -/
theorem cFlushAfter (h : CuAt w up B L x) {C : Nat} (hB : B ≤ C) (hC : C ≤ 9000000) {i : Nat} {r r' : Rpl} (hr : x.rs[i]? = some r) (hp : RpPost w (L.rp i) C (L.rl i) r' w1) (hn : RpN r') (hwo : ∀ y ∈ x.wt (i : Int), y.Ok L.m) :
    Calls Tryz.prog 47 #[.pointer (some ⟨up, 0, none⟩), .int .i64 (i : Int)] w1 (fun e w' => e = .returned (.tuple #[]) ∧ Turned w up (C + 1) L ((x.setR (i : Int) r').flush (i : Int)) w') := by
  have hi := h.rlt hr
  obtain ⟨L1, hs, ha, hf, hu⟩ := h.turnR hr hB hp
  have hat : (x.setR (i : Int) r').rs[i]? = some r' := by
    show (x.rs.set (i : Int).toNat r')[i]? = _
    rw [Int.toNat_natCast, List.getElem?_set_self (by have := h.rl; omega)]
  refine (cFlush ha hC hat hn.out (by rw [hs.2.1]; exact hwo)).mono ?_
  rintro e w' ⟨rfl, ht⟩
  exact ⟨rfl, Turned.trans hs hf hu ht⟩
set_option maxHeartbeats 1000000 in
theorem cTick (h : CuAt w up B L x) (hok : CluOk L.m B x) (hB : B ≤ 8000000) (i : Int) (hI : inI i) : Calls Tryz.prog 11 #[.pointer (some ⟨up, 0, none⟩), .int .i64 i] w (CActI w up (B + 30) L (x.tick i)) := by
  obtain ⟨R, hR⟩ : ∃ R, x.tick i = R := ⟨_, rfl⟩
  rw [hR]
  have HRR := Lib.hid hR
  have H := Lib.hid h
  have HOK := Lib.hid hok
  clear hR
  cases hx : x.rep i with
  | some r =>
    obtain ⟨k, rfl, hr, hg⟩ := rep_at hx
    obtain rfl : ((x.setR (k : Int) r.tick).flush (k : Int), (0 : Int)) = R := by rw [← HRR.out]; unfold Clu.tick; rw [hx]
    have HRP := Lib.hid (h.pt (.rp k) r hr)
    have HN := Lib.hid (rpn_of h hok (by omega) hr)
    have HR := Lib.hid hr
    have HG := Lib.hid hg
    clear h hok hr hg hx hI
    go_enter Tryz.func11, Tryz.ntmps11
    go_wp2_with fail
    refine (Replica_yes H.out HR.out HG.out).mono ?_
    rintro e w1 ⟨rfl, rfl⟩
    go_wp2_with fail
    refine (rtick HRP.out (by omega)).mono ?_
    rintro e w2 ⟨rfl, hp2⟩
    have HP2 := Lib.hid hp2
    clear hp2
    go_wp2_with fail
    refine (cFlushAfter H.out (by omega) (by omega) HR.out HP2.out HN.out.tick (HOK.out.wt _)).mono ?_
    rintro e w3 ⟨rfl, ht3⟩
    have HT := Lib.hid (ht3.mono (show B + 10 + 1 ≤ B + 30 by omega))
    clear ht3
    go_wp2_with fail
    go_ret
    exact ⟨rfl, HT.out⟩
  | none =>
    obtain rfl : (x, (261 : Int)) = R := by rw [← HRR.out]; unfold Clu.tick; rw [hx]
    have HX := Lib.hid hx
    have HI := Lib.hid hI
    clear h hok hx hI
    go_enter Tryz.func11, Tryz.ntmps11
    go_wp2_with fail
    refine (Replica_no H.out i HI.out HX.out).mono ?_
    rintro e w1 ⟨rfl, rfl⟩
    go_wp2_with fail
    go_ret
    exact ⟨rfl, (Turned.refl H.out).mono (by omega)⟩
end
end Go.Proofs.YtlhlcdjkacglnaaGreatDoor
