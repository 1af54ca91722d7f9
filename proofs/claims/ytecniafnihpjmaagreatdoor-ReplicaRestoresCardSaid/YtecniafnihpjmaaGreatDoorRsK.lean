/- Chapter 24 (replica): Restore. Printed by genRsK.py. -/
import Derived.Test.YtecniafnihpjmaaGreatDoorTk
import Derived.Test.YtecniafnihpjmaaGreatDoorRpZ2
import Derived.Test.YtecniafnihpjmaaGreatDoorRsH
namespace Go.Proofs.YtecniafnihpjmaaGreatDoor
open Go.RowKit Go.Lap C
set_option linter.unusedVariables false
set_option linter.unusedSimpArgs false
section
variable {w w' W wa wr : World} {S : Nat → Prop} {rp B D : Nat} {L : RpL} {x x' : Rpl} {b : BtV}
/-- A list that is taken as committed. -/
def restC (x : Rpl) : List Btc → Option Rpl
  | [] => some x
  | b :: t => if (x.j.load b).2 = 0 then restC { x with j := (x.j.load b).1, l := x.l ++ [b] } t else none
def restO (id : Int) (c : Cfg) (ls : List Btc) : Option Rpl := if chkC c = true then restC (Rpl.new_ id c) ls else none
/-- Alone at the end of its chain it has all clean. -/
def Rpl.fin_ (x : Rpl) : Rpl := if (nextC x.cf x.id).2 = false ∧ 0 ≤ placeC x.cf.ms x.id then { x with cl := x.la } else x
def RestPost (w : World) (o : Option Rpl) (B : Nat) (e : Ending) (w' : World) : Prop :=
  match o with
  | none => e = .returned (.pointer none) ∧ New w w'
  | some x => ∃ rp L, e = .returned (.pointer (some ⟨rp, 0, none⟩)) ∧ RpAt w' rp B L x.fin_ ∧ (∀ k, RpF rp L k → w.heap.size ≤ k) ∧ New w w'
/-- Behind the first k batches. -/
structure RestRel (w wr : World) (rp : Nat) (id : Int) (c : Cfg) (ls : List Btc) (k : Nat) (L : RpL) (x : Rpl) : Prop where
  kl : k ≤ ls.length
  ra : RpAt wr rp (11 * k) L x
  fo : restC (Rpl.new_ id c) ls = restC x (ls.drop k)
  xi : x.id = id
  ge : ∀ i, RpF rp L i → w.heap.size ≤ i
  nw : New w wr
theorem restC_cons {x : Rpl} {ls : List Btc} {k : Nat} {b : Btc} (hb : ls[k]? = some b) (h : (x.j.load b).2 = 0) : restC x (ls.drop k) = restC { x with j := (x.j.load b).1, l := x.l ++ [b] } (ls.drop (k + 1)) := by
  obtain ⟨hlt, hb'⟩ := List.getElem?_eq_some_iff.1 hb
  rw [List.drop_eq_getElem_cons hlt, hb']
  exact if_pos h
theorem restC_bad {x : Rpl} {ls : List Btc} {k : Nat} {b : Btc} (hb : ls[k]? = some b) (h : ¬ (x.j.load b).2 = 0) : restC x (ls.drop k) = none := by
  obtain ⟨hlt, hb'⟩ := List.getElem?_eq_some_iff.1 hb
  rw [List.drop_eq_getElem_cons hlt, hb']
  exact if_neg h
set_option maxRecDepth 100000 in
set_option maxHeartbeats 16000000 in
theorem rrestore (id : Int) (cf : Cfg) {cv lv : Value} {ls : List Btc} (hs : SlIn w 1 iEnc cv cf.ms) (hl : cf.ms.length ≤ 1000) (he : cf.e < big) (hr : BtRow w 0 lv ls) (h20 : ls.length ≤ 1000) :
    Calls Tryz.prog 14 #[.int .i64 id, .agg #[.int .u64 (cf.e : Int), cv], lv] w (RestPost w (restO id cf ls) (11 * ls.length)) := by
  obtain ⟨cA, cc, rfl⟩ := hs.form
  obtain ⟨lA, lc, hlv⟩ := hr.shape
  have HROW := Lib.hid hr
  have HLV := Lib.hid hlv
  rw [hlv]
  have hN := (New.refl w).alloc (.cells #[.int .u64 (cf.e : Int), .slice cA cf.ms.length cc] 25)
  have hM := Blk.mk_new w 25 #[.int .u64 (cf.e : Int), .slice cA cf.ms.length cc]
  have HS := Lib.hid (hs.new hN)
  have HN := Lib.hid hN
  obtain ⟨q0, q1, q2, qz⟩ := Blk2F hM
  clear hN hM hs hr hlv
  go_enter Tryz.func14, Tryz.ntmps14
  go_upto_region 1 with fail
  generalize w.alloc _ = W at *
  go_wp2_with fail
  refine (rnew id cf HS.out hl he).mono ?_
  rintro e w1 hp
  unfold NewPost at hp
  cases hck : chkC cf with
  | false =>
    rw [hck, if_neg Bool.false_ne_true] at hp
    obtain ⟨rfl, hn1⟩ := hp
    have HF : Hid (restO id cf ls = none) := Lib.hid (by unfold restO; rw [hck]; exact if_neg Bool.false_ne_true)
    clear hck q0 q1 q2 qz
    have HN1 := Lib.hid (HN.out.trans hn1)
    clear hn1
    go_wp2_with fail
    rw [HF.out]
    go_ret
    exact ⟨rfl, HN1.out⟩
  | true =>
    rw [hck, if_pos rfl] at hp
    obtain ⟨rp, L0, rfl, hr0, hge, hn1⟩ := hp
    have HF : Hid (restO id cf ls = restC (Rpl.new_ id cf) ls) := Lib.hid (by unfold restO; rw [hck]; exact if_pos rfl)
    have HREL : Hid (RestRel w w1 rp id cf ls 0 L0 (Rpl.new_ id cf)) := Lib.hid ⟨Nat.zero_le _, hr0, by rw [List.drop_zero], rfl, fun i hi => Nat.le_trans HN.out.size (hge i hi), HN.out.trans hn1⟩
    clear hck q0 q1 q2 qz hr0 hge hn1
    go_wp2_with fail
    go_loopw [21] (fun i wr => ∃ (k : Nat) (L : RpL) (x : Rpl), i = .int .i64 (k : Int) ∧ RestRel w wr rp id cf ls k L x) (fun i _ => ls.length - (intOf i).toNat)
    case atStart => exact ⟨0, _, _, rfl, HREL.out⟩
    case round =>
      obtain ⟨k, L, x1, rfl, hrel⟩ := hrel
      have HRL := Lib.hid hrel
      have hkl := hrel.kl
      have hk0 : (0 : Int) ≤ (k : Int) := by omega
      clear HREL
      by_cases hlt : k < ls.length
      · have hlt2 : (k : Int) < (ls.length : Int) := by omega
        obtain ⟨b, hb⟩ : ∃ b, ls[k]? = some b := ⟨_, List.getElem?_eq_getElem hlt⟩
        obtain ⟨g, off, cap0, A, cap, hv, hcap, hba, e0, e1, e2, e3, hg⟩ := (HROW.out.new hrel.nw).at_ hb
        rw [HLV.out] at hv
        cases hv
        have HB0 := Lib.hid hba
        have HBK := Lib.hid hb
        obtain ⟨c, r, s, l⟩ := b
        dsimp only at e0 e1 e2 e3
        clear hrel hb hba
        go_upto_region 7 with fail
        have hna := (New.refl wr).alloc (.cells #[.int .u64 (c : Int), .int .u64 (r : Int), .int .u64 (s : Int), .slice A l.length cap] 40)
        have HX := Lib.hid (Blk.mk_new wr 40 #[.int .u64 (c : Int), .int .u64 (r : Int), .int .u64 (s : Int), .slice A l.length cap])
        have HN5 := Lib.hid (HRL.out.nw.trans hna)
        have HR5 := Lib.hid (HRL.out.ra.new hna)
        have HB5 := Lib.hid (HB0.out.new hna)
        have HBF : Hid (¬ RpF rp L wr.heap.size) := Lib.hid (fun h => by have := HRL.out.ra.lt _ h; omega)
        clear hna e0 e1 e2 e3
        generalize wr.alloc (.cells #[.int .u64 (c : Int), .int .u64 (r : Int), .int .u64 (s : Int), .slice A l.length cap] 40) = w5 at *
        generalize wr.heap.size = bx at HX HBF ⊢
        have HNR : Hid (¬ JdF L.jl rp) := Lib.hid HR5.out.rp_jd
        have HNA : Hid (¬ JdF L.jl bx) := Lib.hid (fun h => HBF.out (.inr (.inl h)))
        obtain ⟨g0, c0, c1, c2, c3, c4, c5, c6, cz⟩ := HR5.out.facts
        obtain ⟨q0, q1, q2, q3, q4, qz⟩ := Blk4K HX.out
        refine wp_region_held_drew (S := fun w' => (∀ o, w'.cell? ⟨rp, o, none⟩ = w5.cell? ⟨rp, o, none⟩) ∧ (∀ o, w'.cell? ⟨bx, o, none⟩ = w5.cell? ⟨bx, o, none⟩)) (by kernel_rfl) (⟨fun _ => rfl, fun _ => rfl⟩) (fun hHeld => ?_)
        refine tkH (i := 0) (oi := ⟨some 26, .move (.tmp 7), 45, "replica.go:59", #[], none⟩) (v := ?_) (.inl ⟨by rfl, ?_⟩) ?_
        rotate_left
        · (intro wq hSw; (try dsimp only at hSw); go_simp; first | done | with_reducible rfl)
        try simp only [Act.put, sA, sZ, sS]
        refine tkH (i := 1) (oi := ⟨some 27, .nilCheck (.tmp 26), 0, "replica.go:59", #[⟨0, .data⟩], none⟩) (v := ?_) (.inl ⟨by rfl, ?_⟩) ?_
        rotate_left
        · (intro wq hSw; (try dsimp only at hSw); go_simp; first | done | with_reducible rfl)
        try simp only [Act.put, sA, sZ, sS]
        refine tkH (i := 2) (oi := ⟨some 28, .fieldAddr 107 (.tmp 27) 2, 0, "replica.go:59", #[⟨1, .data⟩], none⟩) (v := ?_) (.inl ⟨by rfl, ?_⟩) ?_
        rotate_left
        · (intro wq hSw; (try dsimp only at hSw); go_simp; first | done | with_reducible rfl)
        try simp only [Act.put, sA, sZ, sS]
        refine tkH (i := 3) (oi := ⟨some 29, .load 101 (.tmp 28), 101, "replica.go:59", #[⟨2, .data⟩], none⟩) (v := ?_) (.inl ⟨by rfl, ?_⟩) ?_
        rotate_left
        · (intro wq hSw; (try dsimp only at hSw); go_simp; first | done | with_reducible rfl)
        try simp only [Act.put, sA, sZ, sS]
        refine tkH (i := 4) (oi := ⟨some 30, .load 40 (.tmp 9), 40, "replica.go:59", #[], none⟩) (v := ?_) (.inl ⟨by rfl, ?_⟩) ?_
        rotate_left
        · (intro wq hSw; (try dsimp only at hSw); go_simp; first | done | with_reducible rfl)
        try simp only [Act.put, sA, sZ, sS]
        refine wpAnyH_ready (rs := [5]) (by kernel_rfl) (by simp) ?_
        refine AllReadyH.cons (o := ⟨some 31, .call { callee := .value (.func 40), args := #[.tmp 29, .tmp 30], argTypes := #[101, 40] }, 100, "replica.go:59", #[⟨3, .data⟩, ⟨4, .data⟩], none⟩) rfl (fun K hK => ?_) AllReadyH.nil
        go_simp
        refine (jload (x := ⟨⟨c, r, s, l⟩, A, cap⟩) (HR5.out.j.new (New.refl w5).drew) (HB5.out.new (New.refl w5).drew) (by omega)).mono ?_
        rintro e wj hpj
        unfold LoadPost at hpj
        (try dsimp only at hpj)
        generalize (if chk l = 0 then x1.j.la + 1 else 0) = an at hpj
        obtain ⟨rfl, hj7, hu7⟩ := hpj
        have hujW : Upd (JdF L.jl) w5 wj := (Upd.refl (JdF L.jl) w5).drew.trans hu7 (fun _ _ h => h)
        refine hK.out _ _ ?_ (fun hHeld => ?_)
        · exact ⟨fun o => keepR hujW HR5.out.blk.lt HNR.out o, fun o => keepR hujW HX.out.lt HNA.out o⟩
        clear hK K
        try simp only [Act.put, sA, sZ, sS]
        refine tkH (i := 6) (oi := ⟨some 25, .move (.tmp 31), 100, "replica.go:59", #[⟨5, .data⟩], none⟩) (v := ?_) (.inl ⟨by rfl, ?_⟩) ?_
        rotate_left
        · (intro wq hSw; (try dsimp only at hSw); go_simp; first | done | with_reducible rfl)
        try simp only [Act.put, sA, sZ, sS]
        refine tkH (i := 7) (oi := ⟨some 32, .extract (.tmp 25) 0, 22, "replica.go:59", #[⟨6, .data⟩], none⟩) (v := ?_) (.inl ⟨by rfl, ?_⟩) ?_
        rotate_left
        · (intro wq hSw; (try dsimp only at hSw); go_simp; first | done | with_reducible rfl)
        try simp only [Act.put, sA, sZ, sS]
        refine tkH (i := 8) (oi := ⟨some 33, .extract (.tmp 25) 1, 42, "replica.go:59", #[⟨6, .data⟩, ⟨9, Ground.gcOnly Departure.lateStores⟩], none⟩) (v := ?_) (.inl ⟨by rfl, ?_⟩) ?_
        rotate_left
        · (intro wq hSw; (try dsimp only at hSw); go_simp; first | done | with_reducible rfl)
        try simp only [Act.put, sA, sZ, sS]
        refine tkH (i := 9) (oi := ⟨some 10, .assign (.tmp 32), 22, "replica.go:59", #[⟨7, .data⟩, ⟨5, .chain⟩, ⟨0, .phase⟩, ⟨1, .phase⟩, ⟨2, .phase⟩, ⟨3, .phase⟩, ⟨4, .phase⟩, ⟨5, .phase⟩, ⟨6, .phase⟩, ⟨7, .phase⟩, ⟨8, Ground.textOnly Departure.lateStores⟩], none⟩) (v := ?_) (.inl ⟨by rfl, ?_⟩) ?_
        rotate_left
        · (intro wq hSw; (try dsimp only at hSw); go_simp; first | done | with_reducible rfl)
        try simp only [Act.put, sA, sZ, sS]
        refine tkH (i := 10) (oi := ⟨some 11, .assign (.tmp 33), 42, "replica.go:59", #[⟨8, .data⟩, ⟨9, .chain⟩, ⟨0, .phase⟩, ⟨1, .phase⟩, ⟨2, .phase⟩, ⟨3, .phase⟩, ⟨4, .phase⟩, ⟨5, .phase⟩, ⟨6, .phase⟩, ⟨7, .phase⟩, ⟨8, .phase⟩, ⟨9, .phase⟩], none⟩) (v := ?_) (.inl ⟨by rfl, ?_⟩) ?_
        rotate_left
        · (intro wq hSw; (try dsimp only at hSw); go_simp; first | done | with_reducible rfl)
        try simp only [Act.put, sA, sZ, sS]
        refine wpAnyH_done (by kernel_rfl) ?_ _
        clear hHeld
        have HRC := Lib.hid (HR5.out.setJ hj7 hujW (by omega))
        have HXC := Lib.hid (HX.out.upd hujW HNA.out)
        have HBC := Lib.hid (HB5.out.upd hujW (HR5.out.j.off (by decide)))
        have HNC : Hid (New w wj) := Lib.hid (HN5.out.upd hujW (fun i hi => HRL.out.ge i (.inr (.inl hi))))
        have HKL : Hid (ls.length ≤ 1000) := Lib.hid h20
        clear hj7 hujW hu7 g0 c0 c1 c2 c3 c4 c5 c6 cz q0 q1 q2 q3 q4 qz
        (try dsimp only at HRC)
        by_cases her : (x1.j.load ⟨c, r, s, l⟩).2 = 0
        case neg =>
          have hb1 : ((x1.j.load ⟨c, r, s, l⟩).2 != 0) = true := by simpa using her
          have HF2 : Hid (restO id cf ls = none) := Lib.hid (by rw [HF.out, HRL.out.fo, restC_bad HBK.out her])
          clear her
          generalize (x1.j.load ⟨c, r, s, l⟩).2 = er at *
          go_wp2_with fail
          rw [HF2.out]
          go_ret
          exact ⟨rfl, HNC.out⟩
        have HER := Lib.hid her
        rw [her]
        have hb1 : ((0 : Int) != 0) = false := rfl
        clear her
        generalize hx9 : ({ x1 with j := (x1.j.load ⟨c, r, s, l⟩).1 } : Rpl) = x9 at *
        have HX9 := Lib.hid hx9
        clear hx9
        obtain ⟨g0, c0, c1, c2, c3, c4, c5, c6, cz⟩ := HRC.out.facts
        obtain ⟨q0, q1, q2, q3, q4, qz⟩ := Blk4K HXC.out
        have HBR : Hid (¬ bx = rp) := Lib.hid (fun e => HBF.out (.inl e))
        go_upto_region 10 with fail
        have K0_0 := q1
        have K0_1 := q2
        have K0_2 := q3
        have K0_3 := q4
        refine wp_region_held_drew (S := fun w' => w'.cell? ⟨bx, 0, none⟩ = some (.int .u64 (c : Int)) ∧ w'.cell? ⟨bx, 1, none⟩ = some (.int .u64 (r : Int)) ∧ w'.cell? ⟨bx, 2, none⟩ = some (.int .u64 (s : Int)) ∧ w'.cell? ⟨bx, 3, none⟩ = some (.slice A l.length cap)) (by kernel_rfl) (⟨K0_0, K0_1, K0_2, K0_3⟩) (fun hHeld => ?_)
        refine tkH (i := 0) (oi := ⟨some 36, .move (.tmp 7), 45, "replica.go:62", #[], none⟩) (v := ?_) (.inl ⟨by rfl, ?_⟩) ?_
        rotate_left
        · (intro wq hSw; (try dsimp only at hSw); go_simp; first | done | with_reducible rfl)
        try simp only [Act.put, sA, sZ, sS]
        refine tkH (i := 1) (oi := ⟨some 37, .move (.tmp 7), 45, "replica.go:62", #[], none⟩) (v := ?_) (.inl ⟨by rfl, ?_⟩) ?_
        rotate_left
        · (intro wq hSw; (try dsimp only at hSw); go_simp; first | done | with_reducible rfl)
        try simp only [Act.put, sA, sZ, sS]
        refine tkH (i := 2) (oi := ⟨some 38, .nilCheck (.tmp 37), 0, "replica.go:62", #[⟨1, .data⟩], none⟩) (v := ?_) (.inl ⟨by rfl, ?_⟩) ?_
        rotate_left
        · (intro wq hSw; (try dsimp only at hSw); go_simp; first | done | with_reducible rfl)
        try simp only [Act.put, sA, sZ, sS]
        refine tkH (i := 3) (oi := ⟨some 39, .fieldAddr 107 (.tmp 38) 3, 0, "replica.go:62", #[⟨2, .data⟩], none⟩) (v := ?_) (.inl ⟨by rfl, ?_⟩) ?_
        rotate_left
        · (intro wq hSw; (try dsimp only at hSw); go_simp; first | done | with_reducible rfl)
        try simp only [Act.put, sA, sZ, sS]
        refine tkH (i := 5) (oi := ⟨some 41, .load 40 (.tmp 9), 40, "replica.go:62", #[], none⟩) (v := ?_) (.inl ⟨by rfl, ?_⟩) ?_
        rotate_left
        · (intro wq hSw; (try dsimp only at hSw); go_simp; first | done | with_reducible rfl)
        try simp only [Act.put, sA, sZ, sS]
        refine wpAnyH_ready (rs := [4, 6]) (by kernel_rfl) (by simp) ?_
        refine AllReadyH.cons (o := ⟨some 40, .load 26 (.tmp 39), 26, "replica.go:62", #[⟨3, .data⟩], none⟩) rfl (fun K hK => ?_) (AllReadyH.cons (o := ⟨some 42, .call { callee := .value (.func 41), args := #[.tmp 41], argTypes := #[40] }, 40, "replica.go:62", #[⟨5, .data⟩], none⟩) rfl (fun K hK => ?_) AllReadyH.nil)
        · go_simp
          refine hK.out _ _ ?_ (fun hHeld => ?_)
          · exact hHeld
          clear hK K
          try simp only [Act.put, sA, sZ, sS]
          refine wpAnyH_ready (rs := [6]) (by kernel_rfl) (by simp) ?_
          refine AllReadyH.cons (o := ⟨some 42, .call { callee := .value (.func 41), args := #[.tmp 41], argTypes := #[40] }, 40, "replica.go:62", #[⟨5, .data⟩], none⟩) rfl (fun K hK => ?_) AllReadyH.nil
          go_simp
          refine (copied_any (HBC.out.new (New.refl wj).drew)).mono ?_
          rintro e w5 ⟨y, rfl, hyb, hy5, hn5⟩
          obtain ⟨⟨yc, yr, ys, yl⟩, yA, ycap⟩ := y
          dsimp only at hyb
          cases hyb
          dsimp only [BtV.val, BtV.sl, batV]
          have hn5W : New wj w5 := (New.refl wj).drew.trans hn5
          have HR5 := Lib.hid (HRC.out.new hn5W)
          have HY5 := Lib.hid hy5
          have HN5 := Lib.hid hn5W
          have HX5 := Lib.hid (HXC.out.new hn5W)
          obtain ⟨G0, C0, C1, C2, C3, C4, C5, C6, CZ⟩ := HR5.out.facts
          clear hy5 hn5
          have K0_0 := HX5.out.cell 0
          have K0_1 := HX5.out.cell 1
          have K0_2 := HX5.out.cell 2
          have K0_3 := HX5.out.cell 3
          (try dsimp only [NtV.cells] at K0_0 K0_1 K0_2 K0_3)
          refine hK.out _ _ ?_ (fun hHeld => ?_)
          · exact ⟨K0_0, K0_1, K0_2, K0_3⟩
          clear hK K
          try simp only [Act.put, sA, sZ, sS]
          refine wpAnyH_ready (rs := [7]) (by kernel_rfl) (by simp) ?_
          refine AllReadyH.cons (o := ⟨some 43, .buildSlice 26 1 #[(0, .tmp 42)], 26, "replica.go:62", #[⟨6, .data⟩], none⟩) rfl (fun K hK => ?_) AllReadyH.nil
          go_simp
          have hn6 := (New.refl w5).alloc (.cells #[.int .u64 (c : Int), .int .u64 (r : Int), .int .u64 (s : Int), .slice yA l.length ycap] 40)
          have HP6 := Lib.hid (Blk.mk_new w5 40 #[.int .u64 (c : Int), .int .u64 (r : Int), .int .u64 (s : Int), .slice yA l.length ycap])
          have HR6 := Lib.hid (HR5.out.new hn6)
          have HY6 := Lib.hid (HY5.out.new hn6)
          have HN6 := Lib.hid (HN5.out.trans hn6)
          have HX6 := Lib.hid (HX5.out.new hn6)
          clear hn6 K0_0 K0_1 K0_2 K0_3
          generalize w5.alloc (.cells #[.int .u64 (c : Int), .int .u64 (r : Int), .int .u64 (s : Int), .slice yA l.length ycap] 40) = w6 at *
          obtain ⟨G0, C0, C1, C2, C3, C4, C5, C6, CZ⟩ := HR6.out.facts
          have K0_0 := HX6.out.cell 0
          have K0_1 := HX6.out.cell 1
          have K0_2 := HX6.out.cell 2
          have K0_3 := HX6.out.cell 3
          (try dsimp only [NtV.cells] at K0_0 K0_1 K0_2 K0_3)
          refine hK.out _ _ ?_ (fun hHeld => ?_)
          · exact ⟨K0_0, K0_1, K0_2, K0_3⟩
          clear hK K
          try simp only [Act.put, sA, sZ, sS]
          refine wpAnyH_ready (rs := [8]) (by kernel_rfl) (by simp) ?_
          refine AllReadyH.cons (o := ⟨some 44, .call { callee := .builtin .append, args := #[.tmp 40, .tmp 43], argTypes := #[26, 26] }, 26, "replica.go:62", #[⟨4, .data⟩, ⟨7, .data⟩, ⟨6, .chain⟩], none⟩) rfl (fun K hK => ?_) AllReadyH.nil
          obtain ⟨qs, hqs, hrow, hqa⟩ := HR6.out.l
          have HQS := Lib.hid hqs
          have HQA := Lib.hid hqa
          have HROW := Lib.hid hrow
          have hql : qs.length ≤ (11 * k + 10) := by have := HR6.out.ll; rw [← hqs, List.length_map] at this; exact this
          refine step_appR (m := [(⟨⟨c, r, s, l⟩, yA, ycap⟩ : BtV)]) btTy BtV.encOk rfl (.tmp 40) (.tmp 43) rfl rfl rfl hrow (SlIn.one HP6.out BtV.encOk rfl) (by simp; unfold maxLen; omega) (by simp; omega) (Nat.zero_le _) ?_
          intro v7 w7 h7 hg7 hv7
          have hou : Upd (fun i => L.lv.ownBlock = some i) w6 w7 := (Upd.refl _ w6).grown hg7 (fun i _ e => e)
          have hrn : ¬ L.lv.ownBlock = some rp := fun e => hrow.ne_blk HR6.out.blk (by decide) e
          have hbn : ¬ L.lv.ownBlock = some bx := fun e => HBF.out (.inr (.inr (.inl e)))
          have hcr := fun o => keepR hou G0 hrn o
          have HX7 := Lib.hid (HX6.out.upd hou hbn)
          have HYR : Hid (BtRow w7 0 v7 (x9.l ++ [⟨c, r, s, l⟩])) := Lib.hid ⟨qs ++ [(⟨⟨c, r, s, l⟩, yA, ycap⟩ : BtV)], by rw [List.map_append, HQS.out]; rfl, h7, fun p hp => (List.mem_append.1 hp).elim (fun hp => (HQA.out p hp).upd hou (Off.row HROW.out (by decide))) (fun hp => by rw [List.mem_singleton.1 hp]; exact HY6.out.upd hou (Off.row HROW.out (by decide)))⟩
          have hfz : ∀ i, w7.frozen? ⟨rp, i, none⟩ = false := (HR6.out.blk.upd hou hrn).frozen
          obtain ⟨A7, n7, c7, hs7⟩ := h7.shp
          have HS7 := Lib.hid hs7
          have HG7 := Lib.hid hg7
          have HV7 := Lib.hid hv7
          have HOU := Lib.hid hou
          rw [hs7]
          have E4 := (hcr 4).trans C4
          have gl : rp < w7.heap.size := Nat.lt_of_lt_of_le G0 hou.size
          clear hqs hqa hrow h7 hg7 hv7 hou hrn hbn hcr hql hs7 K0_0 K0_1 K0_2 K0_3
          have K0_0 := HX7.out.cell 0
          have K0_1 := HX7.out.cell 1
          have K0_2 := HX7.out.cell 2
          have K0_3 := HX7.out.cell 3
          (try dsimp only [NtV.cells] at K0_0 K0_1 K0_2 K0_3)
          refine hK.out _ _ ?_ (fun hHeld => ?_)
          · exact ⟨K0_0, K0_1, K0_2, K0_3⟩
          clear hK K
          try simp only [Act.put, sA, sZ, sS]
          refine tkH (i := 9) (oi := ⟨some 45, .nilCheck (.tmp 36), 0, "replica.go:62", #[⟨0, .data⟩, ⟨0, .phase⟩, ⟨1, .phase⟩, ⟨2, .phase⟩, ⟨3, .phase⟩, ⟨4, .phase⟩, ⟨5, .phase⟩, ⟨6, .phase⟩, ⟨7, .phase⟩, ⟨8, .phase⟩], none⟩) (v := ?_) (.inl ⟨by rfl, ?_⟩) ?_
          rotate_left
          · (intro wq hSw; (try dsimp only at hSw); go_simp; first | done | with_reducible rfl)
          try simp only [Act.put, sA, sZ, sS]
          refine tkH (i := 10) (oi := ⟨some 46, .fieldAddr 107 (.tmp 45) 3, 0, "replica.go:62", #[⟨9, .data⟩, ⟨0, .phase⟩, ⟨1, .phase⟩, ⟨2, .phase⟩, ⟨3, .phase⟩, ⟨4, .phase⟩, ⟨5, .phase⟩, ⟨6, .phase⟩, ⟨7, .phase⟩, ⟨8, .phase⟩], none⟩) (v := ?_) (.inl ⟨by rfl, ?_⟩) ?_
          rotate_left
          · (intro wq hSw; (try dsimp only at hSw); go_simp; first | done | with_reducible rfl)
          try simp only [Act.put, sA, sZ, sS]
          refine wpAnyH_ready (rs := [11]) (by kernel_rfl) (by simp) ?_
          refine AllReadyH.cons (o := ⟨none, .store 26 (.tmp 46) (.tmp 44), 0, "replica.go:62", #[⟨10, .data⟩, ⟨8, .data⟩, ⟨8, .chain⟩, ⟨0, .phase⟩, ⟨1, .phase⟩, ⟨2, .phase⟩, ⟨3, .phase⟩, ⟨4, .phase⟩, ⟨5, .phase⟩, ⟨6, .phase⟩, ⟨7, .phase⟩, ⟨8, .phase⟩], none⟩) rfl (fun K hK => ?_) AllReadyH.nil
          go_simp
          have I0 := cell_far (u := .slice A7 n7 c7) (i := 4) K0_0 HBR.out
          have I1 := cell_far (u := .slice A7 n7 c7) (i := 4) K0_1 HBR.out
          have I2 := cell_far (u := .slice A7 n7 c7) (i := 4) K0_2 HBR.out
          have I3 := cell_far (u := .slice A7 n7 c7) (i := 4) K0_3 HBR.out
          refine hK.out _ _ ?_ (fun hHeld => ?_)
          · exact ⟨I0, I1, I2, I3⟩
          clear hK K
          try simp only [Act.put, sA, sZ, sS]
          refine wpAnyH_done (by kernel_rfl) ?_ _
          clear hHeld
          have H8 : Hid (RpAt (w7.setCell ⟨rp, 4, none⟩ (.slice A7 n7 c7)) rp ((11 * k + 10) + 1) { L with lv := .slice A7 n7 c7 } { x9 with l := x9.l ++ [⟨c, r, s, l⟩] }) := Lib.hid (by
            have := HR6.out.setL HYR.out (by have := HR6.out.ll; rw [List.length_append, List.length_singleton]; omega) HG7.out
            rw [HS7.out] at this
            exact this)
          have H8K : Hid (∀ i, RpF rp { L with lv := .slice A7 n7 c7 } i → RpF rp L i ∨ wj.heap.size ≤ i) := Lib.hid (by
            rintro i (hi | hi | hi | hi)
            · exact .inl (.inl hi)
            · exact .inl (.inr (.inl hi))
            · rw [← HS7.out] at hi
              exact HV7.out.elim (fun e => .inl (.inr (.inr (.inl (e ▸ hi))))) (fun e => .inr (by rw [e] at hi; cases hi; exact HN6.out.size))
            · exact .inl (.inr (.inr (.inr hi))))
          have H8U : Hid (Upd (RpF rp L) wj (w7.setCell ⟨rp, 4, none⟩ (.slice A7 n7 c7))) := Lib.hid ((((Upd.new (S := RpF rp L) HN6.out)).trans HOU.out (fun i _ hi => .inr (.inr (.inl hi)))).setCell (p := ⟨rp, 4, none⟩) (fun _ => .inl rfl) _)
          clear E4 gl hfz
          go_wp2_with fail
          have hbl1 := HKL.out
          go_roundw
          case rel => exact ⟨k + 1, _, _, by go_num, ⟨by omega, by have h := H8.out; rw [show 11 * k + 10 + 1 = 11 * (k + 1) by omega] at h; exact h, by rw [HRL.out.fo, restC_cons HBK.out HER.out, ← HX9.out], by rw [← HX9.out]; exact HRL.out.xi, fun i hi => (H8K.out i hi).elim (HRL.out.ge i) (fun h => Nat.le_trans HNC.out.size h), HNC.out.upd H8U.out HRL.out.ge⟩⟩
          case measure => simp [intOf]; omega
        · go_simp
          refine (copied_any (HBC.out.new (New.refl wj).drew)).mono ?_
          rintro e w5 ⟨y, rfl, hyb, hy5, hn5⟩
          obtain ⟨⟨yc, yr, ys, yl⟩, yA, ycap⟩ := y
          dsimp only at hyb
          cases hyb
          dsimp only [BtV.val, BtV.sl, batV]
          have hn5W : New wj w5 := (New.refl wj).drew.trans hn5
          have HR5 := Lib.hid (HRC.out.new hn5W)
          have HY5 := Lib.hid hy5
          have HN5 := Lib.hid hn5W
          have HX5 := Lib.hid (HXC.out.new hn5W)
          obtain ⟨G0, C0, C1, C2, C3, C4, C5, C6, CZ⟩ := HR5.out.facts
          clear hy5 hn5
          have K0_0 := HX5.out.cell 0
          have K0_1 := HX5.out.cell 1
          have K0_2 := HX5.out.cell 2
          have K0_3 := HX5.out.cell 3
          (try dsimp only [NtV.cells] at K0_0 K0_1 K0_2 K0_3)
          refine hK.out _ _ ?_ (fun hHeld => ?_)
          · exact ⟨K0_0, K0_1, K0_2, K0_3⟩
          clear hK K
          try simp only [Act.put, sA, sZ, sS]
          refine wpAnyH_ready (rs := [4, 7]) (by kernel_rfl) (by simp) ?_
          refine AllReadyH.cons (o := ⟨some 40, .load 26 (.tmp 39), 26, "replica.go:62", #[⟨3, .data⟩], none⟩) rfl (fun K hK => ?_) (AllReadyH.cons (o := ⟨some 43, .buildSlice 26 1 #[(0, .tmp 42)], 26, "replica.go:62", #[⟨6, .data⟩], none⟩) rfl (fun K hK => ?_) AllReadyH.nil)
          · go_simp
            refine hK.out _ _ ?_ (fun hHeld => ?_)
            · exact hHeld
            clear hK K
            try simp only [Act.put, sA, sZ, sS]
            refine wpAnyH_ready (rs := [7]) (by kernel_rfl) (by simp) ?_
            refine AllReadyH.cons (o := ⟨some 43, .buildSlice 26 1 #[(0, .tmp 42)], 26, "replica.go:62", #[⟨6, .data⟩], none⟩) rfl (fun K hK => ?_) AllReadyH.nil
            go_simp
            have hn6 := (New.refl w5).alloc (.cells #[.int .u64 (c : Int), .int .u64 (r : Int), .int .u64 (s : Int), .slice yA l.length ycap] 40)
            have HP6 := Lib.hid (Blk.mk_new w5 40 #[.int .u64 (c : Int), .int .u64 (r : Int), .int .u64 (s : Int), .slice yA l.length ycap])
            have HR6 := Lib.hid (HR5.out.new hn6)
            have HY6 := Lib.hid (HY5.out.new hn6)
            have HN6 := Lib.hid (HN5.out.trans hn6)
            have HX6 := Lib.hid (HX5.out.new hn6)
            clear hn6 K0_0 K0_1 K0_2 K0_3
            generalize w5.alloc (.cells #[.int .u64 (c : Int), .int .u64 (r : Int), .int .u64 (s : Int), .slice yA l.length ycap] 40) = w6 at *
            obtain ⟨G0, C0, C1, C2, C3, C4, C5, C6, CZ⟩ := HR6.out.facts
            have K0_0 := HX6.out.cell 0
            have K0_1 := HX6.out.cell 1
            have K0_2 := HX6.out.cell 2
            have K0_3 := HX6.out.cell 3
            (try dsimp only [NtV.cells] at K0_0 K0_1 K0_2 K0_3)
            refine hK.out _ _ ?_ (fun hHeld => ?_)
            · exact ⟨K0_0, K0_1, K0_2, K0_3⟩
            clear hK K
            try simp only [Act.put, sA, sZ, sS]
            refine wpAnyH_ready (rs := [8]) (by kernel_rfl) (by simp) ?_
            refine AllReadyH.cons (o := ⟨some 44, .call { callee := .builtin .append, args := #[.tmp 40, .tmp 43], argTypes := #[26, 26] }, 26, "replica.go:62", #[⟨4, .data⟩, ⟨7, .data⟩, ⟨6, .chain⟩], none⟩) rfl (fun K hK => ?_) AllReadyH.nil
            obtain ⟨qs, hqs, hrow, hqa⟩ := HR6.out.l
            have HQS := Lib.hid hqs
            have HQA := Lib.hid hqa
            have HROW := Lib.hid hrow
            have hql : qs.length ≤ (11 * k + 10) := by have := HR6.out.ll; rw [← hqs, List.length_map] at this; exact this
            refine step_appR (m := [(⟨⟨c, r, s, l⟩, yA, ycap⟩ : BtV)]) btTy BtV.encOk rfl (.tmp 40) (.tmp 43) rfl rfl rfl hrow (SlIn.one HP6.out BtV.encOk rfl) (by simp; unfold maxLen; omega) (by simp; omega) (Nat.zero_le _) ?_
            intro v7 w7 h7 hg7 hv7
            have hou : Upd (fun i => L.lv.ownBlock = some i) w6 w7 := (Upd.refl _ w6).grown hg7 (fun i _ e => e)
            have hrn : ¬ L.lv.ownBlock = some rp := fun e => hrow.ne_blk HR6.out.blk (by decide) e
            have hbn : ¬ L.lv.ownBlock = some bx := fun e => HBF.out (.inr (.inr (.inl e)))
            have hcr := fun o => keepR hou G0 hrn o
            have HX7 := Lib.hid (HX6.out.upd hou hbn)
            have HYR : Hid (BtRow w7 0 v7 (x9.l ++ [⟨c, r, s, l⟩])) := Lib.hid ⟨qs ++ [(⟨⟨c, r, s, l⟩, yA, ycap⟩ : BtV)], by rw [List.map_append, HQS.out]; rfl, h7, fun p hp => (List.mem_append.1 hp).elim (fun hp => (HQA.out p hp).upd hou (Off.row HROW.out (by decide))) (fun hp => by rw [List.mem_singleton.1 hp]; exact HY6.out.upd hou (Off.row HROW.out (by decide)))⟩
            have hfz : ∀ i, w7.frozen? ⟨rp, i, none⟩ = false := (HR6.out.blk.upd hou hrn).frozen
            obtain ⟨A7, n7, c7, hs7⟩ := h7.shp
            have HS7 := Lib.hid hs7
            have HG7 := Lib.hid hg7
            have HV7 := Lib.hid hv7
            have HOU := Lib.hid hou
            rw [hs7]
            have E4 := (hcr 4).trans C4
            have gl : rp < w7.heap.size := Nat.lt_of_lt_of_le G0 hou.size
            clear hqs hqa hrow h7 hg7 hv7 hou hrn hbn hcr hql hs7 K0_0 K0_1 K0_2 K0_3
            have K0_0 := HX7.out.cell 0
            have K0_1 := HX7.out.cell 1
            have K0_2 := HX7.out.cell 2
            have K0_3 := HX7.out.cell 3
            (try dsimp only [NtV.cells] at K0_0 K0_1 K0_2 K0_3)
            refine hK.out _ _ ?_ (fun hHeld => ?_)
            · exact ⟨K0_0, K0_1, K0_2, K0_3⟩
            clear hK K
            try simp only [Act.put, sA, sZ, sS]
            refine tkH (i := 9) (oi := ⟨some 45, .nilCheck (.tmp 36), 0, "replica.go:62", #[⟨0, .data⟩, ⟨0, .phase⟩, ⟨1, .phase⟩, ⟨2, .phase⟩, ⟨3, .phase⟩, ⟨4, .phase⟩, ⟨5, .phase⟩, ⟨6, .phase⟩, ⟨7, .phase⟩, ⟨8, .phase⟩], none⟩) (v := ?_) (.inl ⟨by rfl, ?_⟩) ?_
            rotate_left
            · (intro wq hSw; (try dsimp only at hSw); go_simp; first | done | with_reducible rfl)
            try simp only [Act.put, sA, sZ, sS]
            refine tkH (i := 10) (oi := ⟨some 46, .fieldAddr 107 (.tmp 45) 3, 0, "replica.go:62", #[⟨9, .data⟩, ⟨0, .phase⟩, ⟨1, .phase⟩, ⟨2, .phase⟩, ⟨3, .phase⟩, ⟨4, .phase⟩, ⟨5, .phase⟩, ⟨6, .phase⟩, ⟨7, .phase⟩, ⟨8, .phase⟩], none⟩) (v := ?_) (.inl ⟨by rfl, ?_⟩) ?_
            rotate_left
            · (intro wq hSw; (try dsimp only at hSw); go_simp; first | done | with_reducible rfl)
            try simp only [Act.put, sA, sZ, sS]
            refine wpAnyH_ready (rs := [11]) (by kernel_rfl) (by simp) ?_
            refine AllReadyH.cons (o := ⟨none, .store 26 (.tmp 46) (.tmp 44), 0, "replica.go:62", #[⟨10, .data⟩, ⟨8, .data⟩, ⟨8, .chain⟩, ⟨0, .phase⟩, ⟨1, .phase⟩, ⟨2, .phase⟩, ⟨3, .phase⟩, ⟨4, .phase⟩, ⟨5, .phase⟩, ⟨6, .phase⟩, ⟨7, .phase⟩, ⟨8, .phase⟩], none⟩) rfl (fun K hK => ?_) AllReadyH.nil
            go_simp
            have I0 := cell_far (u := .slice A7 n7 c7) (i := 4) K0_0 HBR.out
            have I1 := cell_far (u := .slice A7 n7 c7) (i := 4) K0_1 HBR.out
            have I2 := cell_far (u := .slice A7 n7 c7) (i := 4) K0_2 HBR.out
            have I3 := cell_far (u := .slice A7 n7 c7) (i := 4) K0_3 HBR.out
            refine hK.out _ _ ?_ (fun hHeld => ?_)
            · exact ⟨I0, I1, I2, I3⟩
            clear hK K
            try simp only [Act.put, sA, sZ, sS]
            refine wpAnyH_done (by kernel_rfl) ?_ _
            clear hHeld
            have H8 : Hid (RpAt (w7.setCell ⟨rp, 4, none⟩ (.slice A7 n7 c7)) rp ((11 * k + 10) + 1) { L with lv := .slice A7 n7 c7 } { x9 with l := x9.l ++ [⟨c, r, s, l⟩] }) := Lib.hid (by
              have := HR6.out.setL HYR.out (by have := HR6.out.ll; rw [List.length_append, List.length_singleton]; omega) HG7.out
              rw [HS7.out] at this
              exact this)
            have H8K : Hid (∀ i, RpF rp { L with lv := .slice A7 n7 c7 } i → RpF rp L i ∨ wj.heap.size ≤ i) := Lib.hid (by
              rintro i (hi | hi | hi | hi)
              · exact .inl (.inl hi)
              · exact .inl (.inr (.inl hi))
              · rw [← HS7.out] at hi
                exact HV7.out.elim (fun e => .inl (.inr (.inr (.inl (e ▸ hi))))) (fun e => .inr (by rw [e] at hi; cases hi; exact HN6.out.size))
              · exact .inl (.inr (.inr (.inr hi))))
            have H8U : Hid (Upd (RpF rp L) wj (w7.setCell ⟨rp, 4, none⟩ (.slice A7 n7 c7))) := Lib.hid ((((Upd.new (S := RpF rp L) HN6.out)).trans HOU.out (fun i _ hi => .inr (.inr (.inl hi)))).setCell (p := ⟨rp, 4, none⟩) (fun _ => .inl rfl) _)
            clear E4 gl hfz
            go_wp2_with fail
            have hbl1 := HKL.out
            go_roundw
            case rel => exact ⟨k + 1, _, _, by go_num, ⟨by omega, by have h := H8.out; rw [show 11 * k + 10 + 1 = 11 * (k + 1) by omega] at h; exact h, by rw [HRL.out.fo, restC_cons HBK.out HER.out, ← HX9.out], by rw [← HX9.out]; exact HRL.out.xi, fun i hi => (H8K.out i hi).elim (HRL.out.ge i) (fun h => Nat.le_trans HNC.out.size h), HNC.out.upd H8U.out HRL.out.ge⟩⟩
            case measure => simp [intOf]; omega
          · go_simp
            have hn6 := (New.refl w5).alloc (.cells #[.int .u64 (c : Int), .int .u64 (r : Int), .int .u64 (s : Int), .slice yA l.length ycap] 40)
            have HP6 := Lib.hid (Blk.mk_new w5 40 #[.int .u64 (c : Int), .int .u64 (r : Int), .int .u64 (s : Int), .slice yA l.length ycap])
            have HR6 := Lib.hid (HR5.out.new hn6)
            have HY6 := Lib.hid (HY5.out.new hn6)
            have HN6 := Lib.hid (HN5.out.trans hn6)
            have HX6 := Lib.hid (HX5.out.new hn6)
            clear hn6 K0_0 K0_1 K0_2 K0_3
            generalize w5.alloc (.cells #[.int .u64 (c : Int), .int .u64 (r : Int), .int .u64 (s : Int), .slice yA l.length ycap] 40) = w6 at *
            obtain ⟨G0, C0, C1, C2, C3, C4, C5, C6, CZ⟩ := HR6.out.facts
            have K0_0 := HX6.out.cell 0
            have K0_1 := HX6.out.cell 1
            have K0_2 := HX6.out.cell 2
            have K0_3 := HX6.out.cell 3
            (try dsimp only [NtV.cells] at K0_0 K0_1 K0_2 K0_3)
            refine hK.out _ _ ?_ (fun hHeld => ?_)
            · exact ⟨K0_0, K0_1, K0_2, K0_3⟩
            clear hK K
            try simp only [Act.put, sA, sZ, sS]
            refine wpAnyH_ready (rs := [4]) (by kernel_rfl) (by simp) ?_
            refine AllReadyH.cons (o := ⟨some 40, .load 26 (.tmp 39), 26, "replica.go:62", #[⟨3, .data⟩], none⟩) rfl (fun K hK => ?_) AllReadyH.nil
            go_simp
            refine hK.out _ _ ?_ (fun hHeld => ?_)
            · exact hHeld
            clear hK K
            try simp only [Act.put, sA, sZ, sS]
            refine wpAnyH_ready (rs := [8]) (by kernel_rfl) (by simp) ?_
            refine AllReadyH.cons (o := ⟨some 44, .call { callee := .builtin .append, args := #[.tmp 40, .tmp 43], argTypes := #[26, 26] }, 26, "replica.go:62", #[⟨4, .data⟩, ⟨7, .data⟩, ⟨6, .chain⟩], none⟩) rfl (fun K hK => ?_) AllReadyH.nil
            obtain ⟨qs, hqs, hrow, hqa⟩ := HR6.out.l
            have HQS := Lib.hid hqs
            have HQA := Lib.hid hqa
            have HROW := Lib.hid hrow
            have hql : qs.length ≤ (11 * k + 10) := by have := HR6.out.ll; rw [← hqs, List.length_map] at this; exact this
            refine step_appR (m := [(⟨⟨c, r, s, l⟩, yA, ycap⟩ : BtV)]) btTy BtV.encOk rfl (.tmp 40) (.tmp 43) rfl rfl rfl hrow (SlIn.one HP6.out BtV.encOk rfl) (by simp; unfold maxLen; omega) (by simp; omega) (Nat.zero_le _) ?_
            intro v7 w7 h7 hg7 hv7
            have hou : Upd (fun i => L.lv.ownBlock = some i) w6 w7 := (Upd.refl _ w6).grown hg7 (fun i _ e => e)
            have hrn : ¬ L.lv.ownBlock = some rp := fun e => hrow.ne_blk HR6.out.blk (by decide) e
            have hbn : ¬ L.lv.ownBlock = some bx := fun e => HBF.out (.inr (.inr (.inl e)))
            have hcr := fun o => keepR hou G0 hrn o
            have HX7 := Lib.hid (HX6.out.upd hou hbn)
            have HYR : Hid (BtRow w7 0 v7 (x9.l ++ [⟨c, r, s, l⟩])) := Lib.hid ⟨qs ++ [(⟨⟨c, r, s, l⟩, yA, ycap⟩ : BtV)], by rw [List.map_append, HQS.out]; rfl, h7, fun p hp => (List.mem_append.1 hp).elim (fun hp => (HQA.out p hp).upd hou (Off.row HROW.out (by decide))) (fun hp => by rw [List.mem_singleton.1 hp]; exact HY6.out.upd hou (Off.row HROW.out (by decide)))⟩
            have hfz : ∀ i, w7.frozen? ⟨rp, i, none⟩ = false := (HR6.out.blk.upd hou hrn).frozen
            obtain ⟨A7, n7, c7, hs7⟩ := h7.shp
            have HS7 := Lib.hid hs7
            have HG7 := Lib.hid hg7
            have HV7 := Lib.hid hv7
            have HOU := Lib.hid hou
            rw [hs7]
            have E4 := (hcr 4).trans C4
            have gl : rp < w7.heap.size := Nat.lt_of_lt_of_le G0 hou.size
            clear hqs hqa hrow h7 hg7 hv7 hou hrn hbn hcr hql hs7 K0_0 K0_1 K0_2 K0_3
            have K0_0 := HX7.out.cell 0
            have K0_1 := HX7.out.cell 1
            have K0_2 := HX7.out.cell 2
            have K0_3 := HX7.out.cell 3
            (try dsimp only [NtV.cells] at K0_0 K0_1 K0_2 K0_3)
            refine hK.out _ _ ?_ (fun hHeld => ?_)
            · exact ⟨K0_0, K0_1, K0_2, K0_3⟩
            clear hK K
            try simp only [Act.put, sA, sZ, sS]
            refine tkH (i := 9) (oi := ⟨some 45, .nilCheck (.tmp 36), 0, "replica.go:62", #[⟨0, .data⟩, ⟨0, .phase⟩, ⟨1, .phase⟩, ⟨2, .phase⟩, ⟨3, .phase⟩, ⟨4, .phase⟩, ⟨5, .phase⟩, ⟨6, .phase⟩, ⟨7, .phase⟩, ⟨8, .phase⟩], none⟩) (v := ?_) (.inl ⟨by rfl, ?_⟩) ?_
            rotate_left
            · (intro wq hSw; (try dsimp only at hSw); go_simp; first | done | with_reducible rfl)
            try simp only [Act.put, sA, sZ, sS]
            refine tkH (i := 10) (oi := ⟨some 46, .fieldAddr 107 (.tmp 45) 3, 0, "replica.go:62", #[⟨9, .data⟩, ⟨0, .phase⟩, ⟨1, .phase⟩, ⟨2, .phase⟩, ⟨3, .phase⟩, ⟨4, .phase⟩, ⟨5, .phase⟩, ⟨6, .phase⟩, ⟨7, .phase⟩, ⟨8, .phase⟩], none⟩) (v := ?_) (.inl ⟨by rfl, ?_⟩) ?_
            rotate_left
            · (intro wq hSw; (try dsimp only at hSw); go_simp; first | done | with_reducible rfl)
            try simp only [Act.put, sA, sZ, sS]
            refine wpAnyH_ready (rs := [11]) (by kernel_rfl) (by simp) ?_
            refine AllReadyH.cons (o := ⟨none, .store 26 (.tmp 46) (.tmp 44), 0, "replica.go:62", #[⟨10, .data⟩, ⟨8, .data⟩, ⟨8, .chain⟩, ⟨0, .phase⟩, ⟨1, .phase⟩, ⟨2, .phase⟩, ⟨3, .phase⟩, ⟨4, .phase⟩, ⟨5, .phase⟩, ⟨6, .phase⟩, ⟨7, .phase⟩, ⟨8, .phase⟩], none⟩) rfl (fun K hK => ?_) AllReadyH.nil
            go_simp
            have I0 := cell_far (u := .slice A7 n7 c7) (i := 4) K0_0 HBR.out
            have I1 := cell_far (u := .slice A7 n7 c7) (i := 4) K0_1 HBR.out
            have I2 := cell_far (u := .slice A7 n7 c7) (i := 4) K0_2 HBR.out
            have I3 := cell_far (u := .slice A7 n7 c7) (i := 4) K0_3 HBR.out
            refine hK.out _ _ ?_ (fun hHeld => ?_)
            · exact ⟨I0, I1, I2, I3⟩
            clear hK K
            try simp only [Act.put, sA, sZ, sS]
            refine wpAnyH_done (by kernel_rfl) ?_ _
            clear hHeld
            have H8 : Hid (RpAt (w7.setCell ⟨rp, 4, none⟩ (.slice A7 n7 c7)) rp ((11 * k + 10) + 1) { L with lv := .slice A7 n7 c7 } { x9 with l := x9.l ++ [⟨c, r, s, l⟩] }) := Lib.hid (by
              have := HR6.out.setL HYR.out (by have := HR6.out.ll; rw [List.length_append, List.length_singleton]; omega) HG7.out
              rw [HS7.out] at this
              exact this)
            have H8K : Hid (∀ i, RpF rp { L with lv := .slice A7 n7 c7 } i → RpF rp L i ∨ wj.heap.size ≤ i) := Lib.hid (by
              rintro i (hi | hi | hi | hi)
              · exact .inl (.inl hi)
              · exact .inl (.inr (.inl hi))
              · rw [← HS7.out] at hi
                exact HV7.out.elim (fun e => .inl (.inr (.inr (.inl (e ▸ hi))))) (fun e => .inr (by rw [e] at hi; cases hi; exact HN6.out.size))
              · exact .inl (.inr (.inr (.inr hi))))
            have H8U : Hid (Upd (RpF rp L) wj (w7.setCell ⟨rp, 4, none⟩ (.slice A7 n7 c7))) := Lib.hid ((((Upd.new (S := RpF rp L) HN6.out)).trans HOU.out (fun i _ hi => .inr (.inr (.inl hi)))).setCell (p := ⟨rp, 4, none⟩) (fun _ => .inl rfl) _)
            clear E4 gl hfz
            go_wp2_with fail
            have hbl1 := HKL.out
            go_roundw
            case rel => exact ⟨k + 1, _, _, by go_num, ⟨by omega, by have h := H8.out; rw [show 11 * k + 10 + 1 = 11 * (k + 1) by omega] at h; exact h, by rw [HRL.out.fo, restC_cons HBK.out HER.out, ← HX9.out], by rw [← HX9.out]; exact HRL.out.xi, fun i hi => (H8K.out i hi).elim (HRL.out.ge i) (fun h => Nat.le_trans HNC.out.size h), HNC.out.upd H8U.out HRL.out.ge⟩⟩
            case measure => simp [intOf]; omega
      · obtain rfl : k = ls.length := by omega
        have hlt2 : ¬ ((ls.length : Nat) : Int) < (ls.length : Int) := by omega
        have HF2 : Hid (restO id cf ls = some x1) := Lib.hid (by rw [HF.out, hrel.fo, List.drop_length]; rfl)
        clear hrel
        obtain ⟨g0, c0, c1, c2, c3, c4, c5, c6, cz⟩ := HRL.out.ra.facts
        go_wp2_with fail
        have hcall := rnext HRL.out.ra
        rw [HRL.out.xi] at hcall
        refine hcall.mono ?_
        clear hcall
        rintro e w2 ⟨rfl, hn2⟩
        generalize hnx : nextC x1.cf id = nx at *
        obtain ⟨nd, ok⟩ := nx
        have HNX := Lib.hid hnx
        have HN2 := Lib.hid hn2
        have HR2 := Lib.hid (HRL.out.ra.new hn2)
        have HNW2 := Lib.hid (HRL.out.nw.trans hn2)
        clear hnx hn2 g0 c0 c1 c2 c3 c4 c5 c6 cz
        obtain ⟨g0, c0, c1, c2, c3, c4, c5, c6, cz⟩ := HR2.out.facts
        dsimp only
        cases ok
        case true =>
          have HFX : Hid (x1.fin_ = x1) := Lib.hid (by unfold Rpl.fin_; rw [HRL.out.xi, HNX.out]; exact if_neg (fun h => Bool.noConfusion h.1))
          go_wp2_with fail
          rw [HF2.out]
          go_ret
          exact ⟨rp, L, rfl, by rw [HFX.out]; exact HR2.out, HRL.out.ge, HNW2.out⟩
        case false =>
          go_wp2_with fail
          have hcall := rplace HR2.out
          rw [HRL.out.xi] at hcall
          refine hcall.mono ?_
          clear hcall
          rintro e w3 ⟨rfl, hn3⟩
          have HR3 := Lib.hid (HR2.out.new hn3)
          have HNW3 := Lib.hid (HNW2.out.trans hn3)
          clear hn3 g0 c0 c1 c2 c3 c4 c5 c6 cz
          obtain ⟨g0, c0, c1, c2, c3, c4, c5, c6, cz⟩ := HR3.out.facts
          by_cases hpl : 0 ≤ placeC x1.cf.ms id
          · have HFX : Hid (x1.fin_ = { x1 with cl := x1.la }) := Lib.hid (by unfold Rpl.fin_; rw [HRL.out.xi, HNX.out]; exact if_pos ⟨rfl, hpl⟩)
            generalize placeC x1.cf.ms id = pl at *
            go_wp2_with fail
            refine (rlast HR3.out (by omega)).mono ?_
            rintro e w4 ⟨rfl, rfl⟩
            have hsc := HR3.out.setCl (t := x1.la) HR3.out.ll
            have HSC := Lib.hid hsc.1
            have HNC : Hid (New w (w4.setCell ⟨rp, 5, none⟩ (.int .u64 (x1.la : Int)))) := Lib.hid (HNW3.out.upd (T := fun k => RpF rp L k) hsc.2 HRL.out.ge)
            clear hsc
            go_wp2_with fail
            rw [HF2.out]
            go_ret
            exact ⟨rp, L, rfl, by rw [HFX.out]; exact HSC.out, HRL.out.ge, HNC.out⟩
          · have HFX : Hid (x1.fin_ = x1) := Lib.hid (by unfold Rpl.fin_; rw [HRL.out.xi]; exact if_neg (fun h => hpl h.2))
            generalize placeC x1.cf.ms id = pl at *
            go_wp2_with fail
            rw [HF2.out]
            go_ret
            exact ⟨rp, L, rfl, by rw [HFX.out]; exact HR3.out, HRL.out.ge, HNW3.out⟩
end
end Go.Proofs.YtecniafnihpjmaaGreatDoor
