/- Chapter 26 (cluster): Deliver. Printed by genCu15.py. -/
import Derived.Test.YtlhlcdjkacglnaaGreatDoorJk1
import Derived.Test.YtlhlcdjkacglnaaGreatDoorJk24
namespace Go.Proofs.YtlhlcdjkacglnaaGreatDoor
open Go.RowKit Go.Lap C
set_option linter.unusedVariables false
set_option linter.unusedSimpArgs false
section
variable {w w' W w1 : World} {S F : Nat → Prop} {up B C g n m : Nat} {L : CuL} {x x' : Clu}
theorem CluOk.bag {m B : Nat} {x : Clu} (h : CluOk m B x) {l : List CPk} (hl : ∀ p ∈ l, p ∈ x.bg) : CluOk m B { x with bg := l } := ⟨h.rp, h.cl, fun p hp => h.bg p (hl p hp), h.wt⟩
theorem TurnG.back (hu : Upd (· = g) w W) (h : TurnG W g up C L x' w') : TurnG w g up C L x' w' := by
  obtain ⟨L', h1, h3, h4, h5⟩ := h
  exact ⟨L', h1, h3, fun p k hk => (h4 p k hk).imp id (fun h => Nat.le_trans hu.size h), (hu.mono fun k _ e => (.inr e : (∃ p, CuF up L p k) ∨ k = g)).trans h5 (fun k _ h => h)⟩
/-- First a packet is taken, then .. -/
theorem Turned.behind {v1 : Value} (hu : Upd (D.BgF L.bb L.lv) w W) (hv : ∀ k, v1.ownBlock = some k → L.lv.ownBlock = some k ∨ w.heap.size ≤ k) (h : Turned W up C { L with lv := v1 } x' w') : Turned w up C L x' w' := by
  refine Turned.trans (L1 := { L with lv := v1 }) ⟨rfl, rfl, rfl, rfl, rfl, rfl⟩ (fun p k hk => ?_) (hu.mono fun k _ hk => ⟨.bg, hk⟩) h
  cases p with
  | bg =>
    rcases hk with hk | hk
    · exact .inl ⟨.bg, .inl hk⟩
    · exact (hv k hk).imp (fun h => ⟨.bg, .inr h⟩) id
  | top => exact .inl ⟨.top, hk⟩
  | rv => exact .inl ⟨.rv, hk⟩
  | rp i => exact .inl ⟨.rp i, hk⟩
  | gm => exact .inl ⟨.gm, hk⟩
  | cv => exact .inl ⟨.cv, hk⟩
  | cl i => exact .inl ⟨.cl i, hk⟩
  | gp => exact .inl ⟨.gp, hk⟩
  | wt => exact .inl ⟨.wt, hk⟩
  | dm => exact .inl ⟨.dm, hk⟩
theorem fieldH (f : Nat) (a : Addr) (w : World) : (Instr.field 118 (.agg #[.func (.func f) #[.pointer (some a)] #[]]) 0).run Tryz.prog w = .ok (.func (.func f) #[.pointer (some a)] #[]) w := by kernel_rfl
theorem zeroH (w : World) : (zeroValue 118).run Tryz.prog w = .ok (.agg #[.nilFunc]) w := by kernel_rfl
set_option maxRecDepth 100000 in
set_option maxHeartbeats 16000000 in
theorem cDeliver (h : CuAt w up B L x) (hok : CluOk L.m B x) (hB : B ≤ 8000000) (i : Int) : Calls Tryz.prog 21 #[.pointer (some ⟨up, 0, none⟩), .int .i64 i] w (CActI w up (B + 60) L (x.deliver i)) := by
  obtain ⟨R, hR⟩ : ∃ R, x.deliver i = R := ⟨_, rfl⟩
  rw [hR]
  have HRR := Lib.hid hR
  have H := Lib.hid h
  have HOK := Lib.hid hok
  obtain ⟨g0, c0, c1, c2, c3, c4, c5, c6, c7, c8, cz⟩ := h.top
  have HB : Hid (D.BgAt w L.bb L.lv (x.bg.map CPk.pk)) := Lib.hid (h.pt .bg)
  clear h hok hR c0 c1 c2 c3 c4 c5 c7 c8
  rcases atL_cases x.bg.length i with ⟨k, rfl, hk⟩ | hno
  · obtain ⟨p, hp⟩ : ∃ p, x.bg[k]? = some p := ⟨_, List.getElem?_eq_getElem hk⟩
    have HP : Hid ((x.bg.map CPk.pk)[k]? = some p.pk) := Lib.hid (by rw [List.getElem?_map, hp]; rfl)
    obtain rfl : (({ x with bg := x.bg.eraseIdx k } : Clu).arrive p, (0 : Int)) = R := by rw [← HRR.out]; unfold Clu.deliver; rw [atL_nat, hp, Int.toNat_natCast]
    have HPO := Lib.hid (HOK.out.bg p (List.mem_of_getElem? hp))
    have HOK1 : Hid (CluOk L.m B { x with bg := x.bg.eraseIdx k }) := Lib.hid (HOK.out.bag fun q hq => List.mem_of_mem_eraseIdx hq)
    clear hp hk
    go_enter Tryz.func21, Tryz.ntmps21
    go_wp2_with fail
    refine (D.btake HB.out HP.out).mono ?_
    rintro e w1 ⟨v1, rfl, hb1, hu1, hv1⟩
    rw [map_er] at hb1
    have hn2 := (New.refl w1).alloc (.cells #[.int .i64 p.fr, .int .i64 p.ds, .string (str p.m.enc)] 111)
    have HA2 := Lib.hid ((H.out.turnBx (l := x.bg.eraseIdx k) hb1 hu1 hv1).new hn2)
    have HB1 := Lib.hid hb1
    have HU1 := Lib.hid hu1
    have HV1 := Lib.hid hv1
    obtain ⟨pf, pd, pm⟩ := p
    dsimp only at HA2 hn2
    have HP2 := Lib.hid (Blk.mk_new w1 111 #[.int .i64 pf, .int .i64 pd, .string (str pm.enc)])
    have HN2 := Lib.hid hn2
    clear hb1 hu1 hv1 hn2 cz g0 c6
    dsimp only [CPk.pk]
    go_upto_region 2 with fail
    obtain ⟨pb, hpb⟩ : ∃ pb, w1.heap.size = pb := ⟨_, rfl⟩
    generalize w1.alloc _ = w2 at *
    rw [hpb] at HP2 ⊢
    have HPB := Lib.hid hpb
    clear hpb
    have p2 : w2.cell? ⟨pb, 2, none⟩ = some (.string (str pm.enc)) := HP2.out.cell 2
    have pl : pb < w2.heap.size := HP2.out.lt
    obtain ⟨vb, wb, hrun, hslb, hnb⟩ := D.run_bytesP (str pm.enc) w2
    rw [D.str_list] at hslb
    have HSL := Lib.hid hslb
    have HNB := Lib.hid hnb
    have hel : pm.enc.length ≤ 5000 := by
      have h := HPO.out.2.2
      cases pm with
      | req b =>
        have := bB_len b h.1
        have := varB_len10 (n := (bB b).length) (by omega)
        have := varB_len10 (n := 0) (by omega)
        simp only [CMsg.enc, txtB, List.length_append]
        omega
      | note k ep t b =>
        have := bB_len b h.2.2.2.2.1
        have := varB_len10 (n := (bB b).length) (by omega)
        have := varB_len10 (n := 1) (by omega)
        have := varB_len10 (n := k.toNat) (by have := h.2.1; omega)
        have := varB_len10 h.2.2.1
        have := varB_len10 h.2.2.2.1
        simp only [CMsg.enc, txtB, List.length_append]
        omega
      | ans rq vd =>
        have := varB_len10 (n := 2) (by omega)
        have := varB_len10 h.1
        have := varB_len10 h.2.1.t
        have := varB_len10 (n := vd.e.toNat) (by have := h.2.1.e; omega)
        simp only [CMsg.enc, List.length_append]
        omega
    have HEL := Lib.hid hel
    clear hslb hnb hel
    go_wp2_with fail
    refine (D.read_any pm.enc vb wb (by have := HEL.out; omega) HSL.out).mono ?_
    rintro e W ⟨rd, u, rfl, hg, hu, hrd, hn3⟩
    have HC0 : Hid (RC W up B { L with lv := v1 } { x with bg := x.bg.eraseIdx k } rd u pm.enc) := Lib.hid ⟨(HA2.out.new HNB.out).new hn3, hrd, fun p hp => by
      have := (HA2.out.cln p rd hp).1
      have := HNB.out.size
      omega⟩
    have HPW := Lib.hid ((HP2.out.new HNB.out).new hn3)
    have HNW : Hid (New w1 W) := Lib.hid ((HN2.out.trans HNB.out).trans hn3)
    have HRG : Hid (w1.heap.size ≤ rd) := Lib.hid (Nat.le_trans (HN2.out.trans HNB.out).size hg)
    have HPG : Hid (pb ≠ rd) := Lib.hid (fun e => by have := HNB.out.size; omega)
    obtain ⟨L1, hL1⟩ : ∃ L1, ({ L with lv := v1 } : CuL) = L1 := ⟨_, rfl⟩
    have HPN : Hid (¬ ((∃ p, CuF up L1 p pb) ∨ pb = rd)) := Lib.hid (by
      rintro (⟨p, hp⟩ | e)
      · rw [← hL1] at hp
        have h1 := (H.out.turnBx (l := x.bg.eraseIdx k) HB1.out HU1.out HV1.out).cln p pb hp
        have := h1.1
        have := HPB.out
        omega
      · exact HPG.out e)
    rw [hL1] at HC0
    have HL1 := Lib.hid hL1
    have HOK2 : Hid (CluOk L1.m B { x with bg := x.bg.eraseIdx k }) := Lib.hid (by rw [← hL1]; exact HOK1.out)
    have HM1 : Hid (L1.m = L.m) := Lib.hid (by rw [← hL1])
    clear HOK1
    obtain ⟨HOK1, _⟩ : Hid (CluOk L1.m B { x with bg := x.bg.eraseIdx k }) ∧ True := ⟨HOK2, trivial⟩
    have g0 := HC0.out.cu.top.lt
    have c0 := HC0.out.cu.top.c8
    have c1 : W.cell? ⟨pb, 0, none⟩ = some (.int .i64 pf) := HPW.out.cell 0
    have c2 : W.cell? ⟨pb, 1, none⟩ = some (.int .i64 pd) := HPW.out.cell 1
    have c3 : W.cell? ⟨pb, 2, none⟩ = some (.string (str pm.enc)) := HPW.out.cell 2
    have gp := HPW.out.lt
    rw [← HM1.out] at HPO
    clear hrun hg hu hrd hn3 hL1 p2 pl
    go_upto_region 5 with fail
    cases pm with
    | req b =>
      have HENC : Hid ((CMsg.req b).enc = varB 0 ++ (txtB (bB b) ++ [])) := Lib.hid (by simp [CMsg.enc])
      have HC := HC0
      rw [HENC.out] at HC
      have HLEN : Hid ((varB 0 ++ (txtB (bB b) ++ [])).length ≤ 1000000) := Lib.hid (by rw [← HENC.out]; have := HEL.out; omega)
      refine wp_region_held_drew (S := fun w' => w'.cell? ⟨up, 8, none⟩ = some (.map (some L1.dm)) ∧ w'.cell? ⟨pb, 0, none⟩ = some (.int .i64 pf) ∧ w'.cell? ⟨pb, 1, none⟩ = some (.int .i64 pd) ∧ w'.cell? ⟨pb, 2, none⟩ = some (.string (str (CMsg.req b).enc))) (by kernel_rfl) (⟨c0, c1, c2, c3⟩) (fun hHeld => ?_)
      refine tkN (i := 0) rfl ?_
      try simp only [Act.put, sA, sZ, sS]
      refine tkN (i := 1) rfl ?_
      try simp only [Act.put, sA, sZ, sS]
      refine tkN (i := 2) rfl ?_
      try simp only [Act.put, sA, sZ, sS]
      refine tkN (i := 3) rfl ?_
      try simp only [Act.put, sA, sZ, sS]
      refine tkN (i := 4) rfl ?_
      try simp only [Act.put, sA, sZ, sS]
      refine tkN (i := 8) rfl ?_
      try simp only [Act.put, sA, sZ, sS]
      refine tkN (i := 9) rfl ?_
      try simp only [Act.put, sA, sZ, sS]
      refine stN (i := 5) rfl (fun K hK => ?_)
      go_simp
      refine (rcountC (k := 0) (HC.out.new (New.refl W).drew) (by omega) (by omega) HLEN.out).mono ?_
      rintro e w5 ⟨v5, rfl, h5, hu5⟩
      have HC5 := Lib.hid h5
      have HU5 := Lib.hid hu5
      have e0 := (keepR hu5 (b := up) g0 (fun e => HC.out.off .top e.symm) 8).trans c0
      have e1 := (keepR hu5 (b := pb) gp HPG.out _).trans c1
      have e2 := (keepR hu5 (b := pb) gp HPG.out _).trans c2
      have e3 := (keepR hu5 (b := pb) gp HPG.out _).trans c3
      clear h5 hu5
      refine hK.out _ _ ?_ (fun hHeld => ?_)
      · exact ⟨e0, e1, e2, e3⟩
      clear hK K
      try simp only [Act.put, sA, sZ, sS]
      refine stN (i := 6) rfl (fun K hK => ?_)
      have hlk := mpGetR D.keyI64 (HC5.out.cu.pt .dm) Tryz.underlying99 (zeroH _) (0 : Int) (okI_of (by constructor <;> decide))
      have hfd := fun w => fieldH 81 ⟨up, 0, none⟩ w
      rw [show (doesV up (0 : Int)).getD (.agg #[.nilFunc]) = .agg #[.func (.func 81) #[.pointer (some ⟨up, 0, none⟩)] #[]] from rfl] at hlk
      go_simp
      refine hK.out _ _ ?_ (fun hHeld => ?_)
      · exact ⟨e0, e1, e2, e3⟩
      clear hK K
      try simp only [Act.put, sA, sZ, sS]
      refine tkN (i := 7) rfl ?_
      try simp only [Act.put, sA, sZ, sS]
      refine stN (i := 10) rfl (fun K hK => ?_)
      go_simp
      refine (cRequested HC5.out HOK1.out hB HPO.out.2.2.1 HPO.out.2.2.2.1 HPO.out.2.2.2.2 HPO.out.2.1 (str (CMsg.req b).enc) (.req b)).mono ?_
      rintro e w6 ⟨rfl, ht6⟩
      have HT6 := Lib.hid ((ht6.mono (show B + 60 ≤ B + 60 by omega)))
      obtain ⟨L6, s6, a6, f6, u6⟩ := HT6.out
      have f0 : w6.cell? ⟨up, 8, none⟩ = some (.map (some L1.dm)) := by have := a6.top.c8; rw [s6.2.2.2.2.2] at this; exact this
      have f1 := (keepR u6 (b := pb) (Nat.lt_of_lt_of_le gp HU5.out.size) HPN.out _).trans e1
      have f2 := (keepR u6 (b := pb) (Nat.lt_of_lt_of_le gp HU5.out.size) HPN.out _).trans e2
      have f3 := (keepR u6 (b := pb) (Nat.lt_of_lt_of_le gp HU5.out.size) HPN.out _).trans e3
      clear ht6 a6 s6 f6 u6
      refine hK.out _ _ ?_ (fun hHeld => ?_)
      · exact ⟨f0, f1, f2, f3⟩
      clear hK K
      try simp only [Act.put, sA, sZ, sS]
      refine wpAnyH_done (by kernel_rfl) ?_ _
      clear hHeld
      rotate_left
      have HTT := Lib.hid (Turned.behind HU1.out HV1.out (by rw [HL1.out]; exact TurnG.close HNW.out HRG.out (TurnG.back (((Upd.refl (· = rd) W).drew).trans HU5.out (fun _ _ e => e)) HT6.out)))
      clear e0 e1 e2 e3 f0 f1 f2 f3 c0 c1 c2 c3 g0 gp
      go_wp2_with fail
      go_ret
      exact ⟨rfl, HTT.out⟩
    | note k0 ep t b =>
      obtain ⟨kn, hkn0⟩ : ∃ kn : Nat, k0 = (kn : Int) := ⟨k0.toNat, by have := HPO.out.2.2.1; omega⟩
      subst hkn0
      have hkn : kn ≤ 2 := by have := HPO.out.2.2.2.1; omega
      have HENC : Hid ((CMsg.note (kn : Int) ep t b).enc = varB 1 ++ (varB kn ++ (varB ep ++ (varB t ++ (txtB (bB b) ++ []))))) := Lib.hid (by simp [CMsg.enc])
      have HC := HC0
      rw [HENC.out] at HC
      have HLEN : Hid ((varB 1 ++ (varB kn ++ (varB ep ++ (varB t ++ (txtB (bB b) ++ []))))).length ≤ 1000000) := Lib.hid (by rw [← HENC.out]; have := HEL.out; omega)
      refine wp_region_held_drew (S := fun w' => w'.cell? ⟨up, 8, none⟩ = some (.map (some L1.dm)) ∧ w'.cell? ⟨pb, 0, none⟩ = some (.int .i64 pf) ∧ w'.cell? ⟨pb, 1, none⟩ = some (.int .i64 pd) ∧ w'.cell? ⟨pb, 2, none⟩ = some (.string (str (CMsg.note (kn : Int) ep t b).enc))) (by kernel_rfl) (⟨c0, c1, c2, c3⟩) (fun hHeld => ?_)
      refine tkN (i := 0) rfl ?_
      try simp only [Act.put, sA, sZ, sS]
      refine tkN (i := 1) rfl ?_
      try simp only [Act.put, sA, sZ, sS]
      refine tkN (i := 2) rfl ?_
      try simp only [Act.put, sA, sZ, sS]
      refine tkN (i := 3) rfl ?_
      try simp only [Act.put, sA, sZ, sS]
      refine tkN (i := 4) rfl ?_
      try simp only [Act.put, sA, sZ, sS]
      refine tkN (i := 8) rfl ?_
      try simp only [Act.put, sA, sZ, sS]
      refine tkN (i := 9) rfl ?_
      try simp only [Act.put, sA, sZ, sS]
      refine stN (i := 5) rfl (fun K hK => ?_)
      go_simp
      refine (rcountC (k := 1) (HC.out.new (New.refl W).drew) (by omega) (by omega) HLEN.out).mono ?_
      rintro e w5 ⟨v5, rfl, h5, hu5⟩
      have HC5 := Lib.hid h5
      have HU5 := Lib.hid hu5
      have e0 := (keepR hu5 (b := up) g0 (fun e => HC.out.off .top e.symm) 8).trans c0
      have e1 := (keepR hu5 (b := pb) gp HPG.out _).trans c1
      have e2 := (keepR hu5 (b := pb) gp HPG.out _).trans c2
      have e3 := (keepR hu5 (b := pb) gp HPG.out _).trans c3
      clear h5 hu5
      refine hK.out _ _ ?_ (fun hHeld => ?_)
      · exact ⟨e0, e1, e2, e3⟩
      clear hK K
      try simp only [Act.put, sA, sZ, sS]
      refine stN (i := 6) rfl (fun K hK => ?_)
      have hlk := mpGetR D.keyI64 (HC5.out.cu.pt .dm) Tryz.underlying99 (zeroH _) (1 : Int) (okI_of (by constructor <;> decide))
      have hfd := fun w => fieldH 82 ⟨up, 0, none⟩ w
      rw [show (doesV up (1 : Int)).getD (.agg #[.nilFunc]) = .agg #[.func (.func 82) #[.pointer (some ⟨up, 0, none⟩)] #[]] from rfl] at hlk
      go_simp
      refine hK.out _ _ ?_ (fun hHeld => ?_)
      · exact ⟨e0, e1, e2, e3⟩
      clear hK K
      try simp only [Act.put, sA, sZ, sS]
      refine tkN (i := 7) rfl ?_
      try simp only [Act.put, sA, sZ, sS]
      refine stN (i := 10) rfl (fun K hK => ?_)
      go_simp
      refine (cNoted HC5.out HOK1.out hB hkn HPO.out.2.2.2.2.1 HPO.out.2.2.2.2.2.1 HPO.out.2.2.2.2.2.2.1 HPO.out.2.2.2.2.2.2.2 HPO.out.2.1 (str (CMsg.note (kn : Int) ep t b).enc) (.note (kn : Int) ep t b)).mono ?_
      rintro e w6 ⟨rfl, ht6⟩
      have HT6 := Lib.hid ((ht6.mono (show B + 30 ≤ B + 60 by omega)))
      obtain ⟨L6, s6, a6, f6, u6⟩ := HT6.out
      have f0 : w6.cell? ⟨up, 8, none⟩ = some (.map (some L1.dm)) := by have := a6.top.c8; rw [s6.2.2.2.2.2] at this; exact this
      have f1 := (keepR u6 (b := pb) (Nat.lt_of_lt_of_le gp HU5.out.size) HPN.out _).trans e1
      have f2 := (keepR u6 (b := pb) (Nat.lt_of_lt_of_le gp HU5.out.size) HPN.out _).trans e2
      have f3 := (keepR u6 (b := pb) (Nat.lt_of_lt_of_le gp HU5.out.size) HPN.out _).trans e3
      clear ht6 a6 s6 f6 u6
      refine hK.out _ _ ?_ (fun hHeld => ?_)
      · exact ⟨f0, f1, f2, f3⟩
      clear hK K
      try simp only [Act.put, sA, sZ, sS]
      refine wpAnyH_done (by kernel_rfl) ?_ _
      clear hHeld
      rotate_left
      have HTT := Lib.hid (Turned.behind HU1.out HV1.out (by rw [HL1.out]; exact TurnG.close HNW.out HRG.out (TurnG.back (((Upd.refl (· = rd) W).drew).trans HU5.out (fun _ _ e => e)) HT6.out)))
      clear e0 e1 e2 e3 f0 f1 f2 f3 c0 c1 c2 c3 g0 gp
      go_wp2_with fail
      go_ret
      exact ⟨rfl, HTT.out⟩
    | ans rq vd =>
      obtain ⟨vt, ve⟩ := vd
      have h3 : isCl L1.m pd := HPO.out.2.2.2.2
      unfold isCl at h3
      obtain ⟨j, hj, hjm⟩ : ∃ j : Nat, pd = 100 + (j : Int) ∧ j < L1.m := ⟨(pd - 100).toNat, by omega, by omega⟩
      clear h3
      subst hj
      have HJ := Lib.hid hjm
      clear hjm
      have HENC : Hid ((CMsg.ans rq ⟨vt, ve⟩).enc = varB 2 ++ (varB rq ++ (varB vt ++ (varB ve.toNat ++ [])))) := Lib.hid (by simp [CMsg.enc])
      have HC := HC0
      rw [HENC.out] at HC
      have HLEN : Hid ((varB 2 ++ (varB rq ++ (varB vt ++ (varB ve.toNat ++ [])))).length ≤ 1000000) := Lib.hid (by rw [← HENC.out]; have := HEL.out; omega)
      refine wp_region_held_drew (S := fun w' => w'.cell? ⟨up, 8, none⟩ = some (.map (some L1.dm)) ∧ w'.cell? ⟨pb, 0, none⟩ = some (.int .i64 pf) ∧ w'.cell? ⟨pb, 1, none⟩ = some (.int .i64 (100 + (j : Int))) ∧ w'.cell? ⟨pb, 2, none⟩ = some (.string (str (CMsg.ans rq ⟨vt, ve⟩).enc))) (by kernel_rfl) (⟨c0, c1, c2, c3⟩) (fun hHeld => ?_)
      refine tkN (i := 0) rfl ?_
      try simp only [Act.put, sA, sZ, sS]
      refine tkN (i := 1) rfl ?_
      try simp only [Act.put, sA, sZ, sS]
      refine tkN (i := 2) rfl ?_
      try simp only [Act.put, sA, sZ, sS]
      refine tkN (i := 3) rfl ?_
      try simp only [Act.put, sA, sZ, sS]
      refine tkN (i := 4) rfl ?_
      try simp only [Act.put, sA, sZ, sS]
      refine tkN (i := 8) rfl ?_
      try simp only [Act.put, sA, sZ, sS]
      refine tkN (i := 9) rfl ?_
      try simp only [Act.put, sA, sZ, sS]
      refine stN (i := 5) rfl (fun K hK => ?_)
      go_simp
      refine (rcountC (k := 2) (HC.out.new (New.refl W).drew) (by omega) (by omega) HLEN.out).mono ?_
      rintro e w5 ⟨v5, rfl, h5, hu5⟩
      have HC5 := Lib.hid h5
      have HU5 := Lib.hid hu5
      have e0 := (keepR hu5 (b := up) g0 (fun e => HC.out.off .top e.symm) 8).trans c0
      have e1 := (keepR hu5 (b := pb) gp HPG.out _).trans c1
      have e2 := (keepR hu5 (b := pb) gp HPG.out _).trans c2
      have e3 := (keepR hu5 (b := pb) gp HPG.out _).trans c3
      clear h5 hu5
      refine hK.out _ _ ?_ (fun hHeld => ?_)
      · exact ⟨e0, e1, e2, e3⟩
      clear hK K
      try simp only [Act.put, sA, sZ, sS]
      refine stN (i := 6) rfl (fun K hK => ?_)
      have hlk := mpGetR D.keyI64 (HC5.out.cu.pt .dm) Tryz.underlying99 (zeroH _) (2 : Int) (okI_of (by constructor <;> decide))
      have hfd := fun w => fieldH 83 ⟨up, 0, none⟩ w
      rw [show (doesV up (2 : Int)).getD (.agg #[.nilFunc]) = .agg #[.func (.func 83) #[.pointer (some ⟨up, 0, none⟩)] #[]] from rfl] at hlk
      go_simp
      refine hK.out _ _ ?_ (fun hHeld => ?_)
      · exact ⟨e0, e1, e2, e3⟩
      clear hK K
      try simp only [Act.put, sA, sZ, sS]
      refine tkN (i := 7) rfl ?_
      try simp only [Act.put, sA, sZ, sS]
      refine stN (i := 10) rfl (fun K hK => ?_)
      go_simp
      refine (cAnswered HC5.out HPO.out.2.2.1 HPO.out.2.2.2.1.t HPO.out.2.2.2.1.e pf HJ.out (str (CMsg.ans rq ⟨vt, ve⟩).enc) (.ans rq ⟨vt, ve⟩)).mono ?_
      rintro e w6 ⟨rfl, ht6⟩
      have HT6 := Lib.hid ((ht6.mono (show B ≤ B + 60 by omega)))
      obtain ⟨L6, s6, a6, f6, u6⟩ := HT6.out
      have f0 : w6.cell? ⟨up, 8, none⟩ = some (.map (some L1.dm)) := by have := a6.top.c8; rw [s6.2.2.2.2.2] at this; exact this
      have f1 := (keepR u6 (b := pb) (Nat.lt_of_lt_of_le gp HU5.out.size) HPN.out _).trans e1
      have f2 := (keepR u6 (b := pb) (Nat.lt_of_lt_of_le gp HU5.out.size) HPN.out _).trans e2
      have f3 := (keepR u6 (b := pb) (Nat.lt_of_lt_of_le gp HU5.out.size) HPN.out _).trans e3
      clear ht6 a6 s6 f6 u6
      refine hK.out _ _ ?_ (fun hHeld => ?_)
      · exact ⟨f0, f1, f2, f3⟩
      clear hK K
      try simp only [Act.put, sA, sZ, sS]
      refine wpAnyH_done (by kernel_rfl) ?_ _
      clear hHeld
      rotate_left
      have HTT := Lib.hid (Turned.behind HU1.out HV1.out (by rw [HL1.out]; exact TurnG.close HNW.out HRG.out (TurnG.back (((Upd.refl (· = rd) W).drew).trans HU5.out (fun _ _ e => e)) HT6.out)))
      clear e0 e1 e2 e3 f0 f1 f2 f3 c0 c1 c2 c3 g0 gp
      go_wp2_with fail
      go_ret
      exact ⟨rfl, HTT.out⟩
  · obtain rfl : (x, (212 : Int)) = R := by rw [← HRR.out]; unfold Clu.deliver; rw [atL_none hno]
    have HN := Lib.hid hno
    clear hno
    go_enter Tryz.func21, Tryz.ntmps21
    go_wp2_with fail
    refine (D.btake_no HB.out i (by rw [List.length_map]; exact HN.out)).mono ?_
    rintro e w1 ⟨rfl, hn1⟩
    have HT := Lib.hid ((Turned.new H.out (hn1.alloc (.cells #[.int .i64 0, .int .i64 0, .string ⟨#[]⟩] 111))).mono (show B ≤ B + 60 by omega))
    clear hn1
    go_wp2_with fail
    go_ret
    exact ⟨rfl, HT.out⟩
end
end Go.Proofs.YtlhlcdjkacglnaaGreatDoor
