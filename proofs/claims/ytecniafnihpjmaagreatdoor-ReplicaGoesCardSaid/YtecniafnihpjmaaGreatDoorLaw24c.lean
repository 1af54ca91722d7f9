/- ReplicaGoes: the walk. Printed by genLaw24.py. -/
import Derived.Test.YtecniafnihpjmaaGreatDoorTk
import Derived.Test.YtecniafnihpjmaaGreatDoorMg15
import Derived.Test.YtecniafnihpjmaaGreatDoorLaw24g
import Derived.Test.YtecniafnihpjmaaGreatDoorRpB
namespace Go.Proofs.YtecniafnihpjmaaGreatDoor
open Go.RowKit Go.Lap C
set_option linter.unusedVariables false
set_option linter.unusedSimpArgs false
set_option maxRecDepth 100000 in
set_option maxHeartbeats 16000000 in
theorem replicaGoes_walk (m : Nat) (hm : m < 256) (l : List StV) (v : Value) (W : World) (hll : l.length ≤ maxLen) (hsl : SlIn W 7 StV.enc v l) (hgl : ∀ s ∈ l, StOk W s) :
    Calls Tryz.prog 6 #[.int .u8 (m : Int), v] W fun e w' => e = .returned (.bool true) ∧ New W w' := by
  obtain ⟨Av, cv0, hv0⟩ := hsl.form
  rw [hv0]
  have HV0 := Lib.hid hv0
  have HSL := Lib.hid hsl
  have HGL := Lib.hid hgl
  obtain ⟨r, hr⟩ : ∃ r, r = m % 5 := ⟨_, rfl⟩
  have hr5 : r < 5 := by omega
  have hmr : (m : Int) % 5 = (r : Int) := by omega
  have hr0 : (0 : Int) ≤ (r : Int) := by omega
  have hwm : IntKind.i64.wrap (m : Int) = (m : Int) := IntWalk.i64_in _ (by omega)
  unfold maxLen at hll
  clear hr hsl hgl hv0
  go_enter Tryz.func6, Tryz.ntmps6
  go_wp2_with fail
  rw [show (1 + (r : Int)) = ((1 + r : Nat) : Int) by omega]
  refine (begin_any (1 + r) (by omega) (by omega) W).mono ?_
  rintro e w5 ⟨L0, rfl, hch, hge, hnw⟩
  have hst := CSt.start (W := W) (by omega) (by omega) hch hge hnw
  obtain ⟨A1, n1, c1, A2, n2, c2, A3, n3, c3, h1, h2, h3⟩ := hch.shapes
  rw [h1, h2, h3]
  have HST : Hid (CSt W (w5.alloc (.cells #[.slice A1 n1 c1, .slice A2 n2 c2, .slice A3 n3 c3] 64)) (1 + r) 0 w5.heap.size L0 (Chn.start (1 + r))) := Lib.hid (by rw [← h1, ← h2, ← h3]; exact hst)
  clear hst hch hge hnw hmr hwm h1 h2 h3
  go_upto_region 2 with fail
  generalize w5.alloc (.cells #[.slice A1 n1 c1, .slice A2 n2 c2, .slice A3 n3 c3] 64) = w6 at *
  generalize w5.heap.size = bx at *
  go_wp2_with fail
  refine (awake24 w6).mono ?_
  rintro e w7 ⟨rfl, hn7⟩
  have HST7 := Lib.hid (HST.out.new hn7)
  clear hn7
  go_upto_block 0 with fail
  go_cut [7] (fun s7 wx => ∃ (k : Nat) (L : ChL) (x : Chn), k ≤ 80 ∧ CSt W wx (1 + r) k bx L x)
  case first =>
    go_wp2_with fail
    go_loopw [7] (fun i wr => ∃ (k : Nat) (L : ChL) (x : Chn), k ≤ l.length ∧ k ≤ 80 ∧ i = .int .i64 (k : Int) ∧ CSt W wr (1 + r) k bx L x) (fun i _ => 80 - (intOf i).toNat)
    case atStart => exact ⟨0, L0, _, by omega, by omega, rfl, HST7.out⟩
    case round =>
      obtain ⟨k, L, x, hk, hk2, rfl, hc⟩ := hrel
      have HC := Lib.hid hc
      have hk0 : (0 : Int) ≤ (k : Int) := by omega
      obtain ⟨B1, m1, d1, B2, m2, d2, B3, m3, d3, h1, h2, h3⟩ := hc.ch.shapes
      have HL1 := Lib.hid h1
      have HL2 := Lib.hid h2
      have HL3 := Lib.hid h3
      obtain ⟨p0, p1, p2, p3, pz⟩ := Blk3G hc.bk
      rw [h1] at p1
      rw [h2] at p2
      rw [h3] at p3
      clear hc h1 h2 h3
      by_cases hgo : k < l.length ∧ k < 80
      case pos =>
        obtain ⟨hlt, hlt150⟩ := hgo
        obtain ⟨s, hs⟩ : ∃ s, l[k]? = some s := ⟨_, List.getElem?_eq_getElem hlt⟩
        have HS := Lib.hid (HGL.out s (List.mem_of_getElem? hs))
        obtain ⟨g, off, cap, hv, hg, e0, e1, e2, e3, e4, e5, e6⟩ := step_at HSL.out hs HC.out.nw
        rw [HV0.out] at hv
        cases hv
        have hlt2 : (k : Int) < (l.length : Int) := by omega
        have hlt3 : (k : Int) < 80 := by omega
        clear hs
        go_upto_region 7 with fail
        refine wp_region_z [6] (fun w' => (∀ o, w'.cell? ⟨bx, o, none⟩ = wr.cell? ⟨bx, o, none⟩) ∧ (∀ o, w'.cell? ⟨g, o, none⟩ = wr.cell? ⟨g, o, none⟩)) (by kernel_rfl) (⟨fun _ => rfl, fun _ => rfl⟩) (fun hHeld => ?_)
        refine tkZ (i := 0) (oi := ⟨some 41, .load 64 (.tmp 5), 64, "law.go:306", #[], none⟩) (v := ?_) (.inl ⟨by rfl, ?_⟩) ?_
        rotate_left
        · (intro wq hSw; (try dsimp only at hSw); go_simp; first | done | with_reducible rfl)
        try simp only [Act.put, sA, sZ, sS]
        refine tkZ (i := 1) (oi := ⟨some 42, .move (.tmp 1), 60, "law.go:306", #[], none⟩) (v := ?_) (.inl ⟨by rfl, ?_⟩) ?_
        rotate_left
        · (intro wq hSw; (try dsimp only at hSw); go_simp; first | done | with_reducible rfl)
        try simp only [Act.put, sA, sZ, sS]
        refine tkZ (i := 2) (oi := ⟨some 43, .move (.tmp 7), 3, "law.go:306", #[], none⟩) (v := ?_) (.inl ⟨by rfl, ?_⟩) ?_
        rotate_left
        · (intro wq hSw; (try dsimp only at hSw); go_simp; first | done | with_reducible rfl)
        try simp only [Act.put, sA, sZ, sS]
        refine tkZ (i := 3) (oi := ⟨some 44, .indexAddr 60 (.tmp 42) (.tmp 43), 0, "law.go:306", #[⟨1, .data⟩, ⟨2, .data⟩], none⟩) (v := ?_) (.inl ⟨by rfl, ?_⟩) ?_
        rotate_left
        · (intro wq hSw; (try dsimp only at hSw); go_simp; first | done | with_reducible rfl)
        try simp only [Act.put, sA, sZ, sS]
        refine tkZ (i := 4) (oi := ⟨some 45, .load 70 (.tmp 44), 70, "law.go:306", #[⟨3, .data⟩], none⟩) (v := ?_) (.inl ⟨by rfl, ?_⟩) ?_
        rotate_left
        · (intro wq hSw; (try dsimp only at hSw); go_simp; first | done | with_reducible rfl)
        try simp only [Act.put, sA, sZ, sS]
        refine wpZ_ready (rs := [5]) (by kernel_rfl) (by simp) ?_
        refine AllZ.cons (o := ⟨some 46, .call { callee := .value (.func 24), args := #[.tmp 41, .tmp 45], argTypes := #[64, 70] }, 64, "law.go:306", #[⟨0, .data⟩, ⟨4, .data⟩], none⟩) rfl (fun K hK => ?_) AllZ.nil
        go_simp
        rw [← HL1.out, ← HL2.out, ← HL3.out]
        refine (HC.out.new (New.refl wr).drew |>.call (s := s) (by omega) (by omega) (by omega) HS.out).mono ?_
        rintro e w5 ⟨L5, rfl, hp5⟩
        have hp5 := ChPost.pre (New.refl wr).drew hp5
        obtain ⟨A1, n1, c1, A2, n2, c2, A3, n3, c3, h1, h2, h3⟩ := hp5.1.shapes
        rw [h1, h2, h3]
        have k0 := fun o => keepR hp5.2.2.2.2 HC.out.bk.lt (HC.out.ch.boxF HC.out.bk).1 o
        have k1 := fun o => keepR hp5.2.2.2.2 (Nat.lt_of_lt_of_le hg HC.out.nw.size) (fun hk => by have := HC.out.ge _ hk; omega) o
        have HC5 : Hid (CSt W (((w5.setCell ⟨bx, 0, none⟩ (.slice A1 n1 c1)).setCell ⟨bx, 1, none⟩ (.slice A2 n2 c2)).setCell ⟨bx, 2, none⟩ (.slice A3 n3 c3)) (1 + r) (k + 1) bx L5 (x.step (1 + r) s.stp)) := Lib.hid (HC.out.next (by omega) (by omega) s.stp hp5 (by rw [h1, h2, h3]))
        have hb5 := HC.out.bk.upd hp5.2.2.2.2 (HC.out.ch.boxF HC.out.bk).1
        obtain ⟨b0, b1, b2, b3, bz⟩ := Blk3G hb5
        rw [HL1.out] at b1
        rw [HL2.out] at b2
        rw [HL3.out] at b3
        clear hp5 hb5 h1 h2 h3
        refine hK.out _ _ ?_ (fun hHeld => ?_)
        · exact ⟨k0, k1⟩
        clear hK K
        try simp only [Act.put, sA, sZ, sS]
        refine wpZ_ready (rs := [6]) (by kernel_rfl) (by simp) ?_
        refine AllZ.consZ (o := ⟨none, .store 64 (.tmp 5) (.tmp 46), 0, "law.go:306", #[⟨5, .data⟩, ⟨5, .chain⟩, ⟨0, .phase⟩, ⟨1, .phase⟩, ⟨2, .phase⟩, ⟨3, .phase⟩, ⟨4, .phase⟩, ⟨5, .phase⟩], none⟩) rfl (by kernel_rfl) (fun K hK => ?_) AllZ.nil
        go_simp
        refine hK.out _ _ ?_
        clear hK K
        try simp only [Act.put, sA, sZ, sS]
        refine wpZ_done (by kernel_rfl) ?_ _
        clear hHeld k0 k1 b0 b1 b2 b3 bz e0 e1 e2 e3 e4 e5 e6 p0 p1 p2 p3 pz
        generalize ((w5.setCell ⟨bx, 0, none⟩ (.slice A1 n1 c1)).setCell ⟨bx, 1, none⟩ (.slice A2 n2 c2)).setCell ⟨bx, 2, none⟩ (.slice A3 n3 c3) = w8 at *
        have HC9 := HC5
        go_wp2_with fail
        go_roundw
        case rel => exact ⟨k + 1, L5, _, by omega, by omega, by go_num, HC9.out⟩
        case measure => simp [intOf]; omega
      case neg =>
        by_cases hlt : k < l.length
        · have hlt2 : (k : Int) < (l.length : Int) := by omega
          have hlt3 : ¬ (k : Int) < 80 := by omega
          clear hgo
          go_wp2_with fail
          go_meet
          exact ⟨k, L, x, by omega, HC.out⟩
        · have hlt2 : ¬ (k : Int) < (l.length : Int) := by omega
          clear hgo
          go_wp2_with fail
          go_meet
          exact ⟨k, L, x, by omega, HC.out⟩

  case rest =>
    obtain ⟨k0, L, x, hk80, hc⟩ := hcut
    have HC := Lib.hid hc
    obtain ⟨nv, hnc, hna, gc, offc, capc, m, hm, hcv, hgc, e0, e1⟩ := hc.ch.newest_at hc.ok.cs
    have hph := hc.phase hk80 hnc hna rfl
    obtain ⟨gm, om, hnva⟩ := hph.some_A
    have HNVA := Lib.hid hnva
    have HPH := Lib.hid hph
    have HCV := Lib.hid hcv
    have HM := Lib.hid hm
    have hm81 := hc.cl
    have hm1 : (m : Int) < (m : Int) + 1 := by omega
    have hm0 : (0 : Int) ≤ (m : Int) := by omega
    have hwm : IntKind.i64.wrap (m : Int) = (m : Int) := IntWalk.i64_in _ (by omega)
    obtain ⟨p0, p1, p2, p3, pz⟩ := Blk3G hc.bk
    obtain ⟨B1, m1, d1, B2, m2, d2, B3, m3, d3, h1, h2, h3⟩ := hc.ch.shapes
    rw [h2] at p2
    rw [hcv] at p3
    have HNW : Hid (NwOk (1 + r) nv.c) := Lib.hid (NwOk.of hc.ok hnc.symm)
    have HST : Hid (∃ N, TSt (1 + r) nv.c N 0 (({ x with un := [] } : Chn).adoptN nv.c nv.c.ms.length)) := Lib.hid (TSt.start hph.ok hph.ne hph.on hc.em rfl (fun i hi => by have h := (hc.nb.rp i hi).1; show (x.rp i).l.length ≤ 80; omega))
    have HL7 : Hid (nv.c.ms.length ≤ 7) := Lib.hid (by have := HNW.out.len; omega)
    have HPB := Lib.hid (HC.out.bk.new ((New.refl wc).alloc (.cells #[.int .u64 (nv.c.e : Int), .slice nv.A nv.c.ms.length nv.n] 25)))
    clear hc hna hm hcv hph hnva h1 h3 hm81 hnc
    go_upto_region 9 with fail
    generalize hwx : wc.alloc (.cells #[.int .u64 (nv.c.e : Int), .slice nv.A nv.c.ms.length nv.n] 25) = wx at *
    clear p0 p1 p2 p3 pz e0 e1 hgc
    obtain ⟨p0, p1, p2, p3, pz⟩ := Blk3G HPB.out
    rw [h2] at p2
    clear h2 hwx
    generalize wc.heap.size = a8 at *
    go_upto_region 10 with fail
    clear p0 p1 p2 p3 pz hm1 hm0 hwm
    generalize wx.setCell ⟨bx, 1, none⟩ (.slice none 0 0) = w2 at *
    go_wp2_with fail
    go_loopw [9] (fun u9 wr => ∃ (j : Nat) (L : ChL), j ≤ nv.c.ms.length ∧ u9 = .int .i64 (j : Int) ∧ PSt W wr (1 + r) (1600 + 10 * j) bx a8 nv L (({ x with un := [] } : Chn).adoptN nv.c j)) (fun u9 _ => nv.c.ms.length - (intOf u9).toNat)
    case atStart => exact ⟨0, _, by omega, rfl, HPH.out⟩
    case round =>
      obtain ⟨j, L, hj, rfl, hp⟩ := hrel
      have HP := Lib.hid hp
      have hj0 : (0 : Int) ≤ (j : Int) := by omega
      have hl7 := HL7.out
      clear hp
      by_cases hjl : j < nv.c.ms.length
      · have hjl2 : (j : Int) < (nv.c.ms.length : Int) := by omega
        obtain ⟨z, HZ⟩ : ∃ z, Hid (z = idn nv.c j) := ⟨_, Lib.hid rfl⟩
        obtain ⟨hgm, em, hmo⟩ := HP.out.mem_at HNVA.out hjl
        rw [← HZ.out] at em
        have hz : z < 1 + r := by rw [HZ.out]; exact idn_lt HNW.out hjl
        have HMO := Lib.hid (hmo z hz)
        have hz0 : (0 : Int) ≤ (z : Int) := by omega
        have hz1 : (z : Int) < ((1 + r : Nat) : Int) := by omega
        have hz3 : (z : Int) < 1 + (r : Int) := by omega
        obtain ⟨d0, d1, d2, dz⟩ := Blk2I HP.out.ak
        rw [HNVA.out] at d2
        obtain ⟨gl, ol, cl2, hlv2, hcl2, el, hgl⟩ := HP.out.ch.node hz
        have HLV := Lib.hid hlv2
        obtain ⟨p0, p1, p2, p3, pz⟩ := Blk3G HP.out.bk
        rw [hlv2] at p1
        clear hmo hlv2
        go_upto_region 13 with fail
        refine wp_region_held_drew (S := fun w' => (∀ o, w'.cell? ⟨bx, o, none⟩ = wr.cell? ⟨bx, o, none⟩) ∧ (∀ o, w'.cell? ⟨a8, o, none⟩ = wr.cell? ⟨a8, o, none⟩) ∧ w'.cell? ⟨gm, om + j, none⟩ = wr.cell? ⟨gm, om + j, none⟩ ∧ w'.cell? ⟨gl, ol + z, none⟩ = wr.cell? ⟨gl, ol + z, none⟩) (by kernel_rfl) (⟨fun _ => rfl, fun _ => rfl, rfl, rfl⟩) (fun hHeld => ?_)
        refine tkH (i := 0) (oi := ⟨some 63, .fieldAddr 64 (.tmp 5) 0, 0, "law.go:312", #[], none⟩) (v := ?_) (.inl ⟨by rfl, ?_⟩) ?_
        rotate_left
        · (intro wq hSw; (try dsimp only at hSw); go_simp; first | done | with_reducible rfl)
        try simp only [Act.put, sA, sZ, sS]
        refine tkH (i := 1) (oi := ⟨some 64, .load 61 (.tmp 63), 61, "law.go:312", #[⟨0, .data⟩], none⟩) (v := ?_) (.inl ⟨by rfl, ?_⟩) ?_
        rotate_left
        · (intro wq hSw; (try dsimp only at hSw); go_simp; first | done | with_reducible rfl)
        try simp only [Act.put, sA, sZ, sS]
        refine tkH (i := 2) (oi := ⟨some 65, .fieldAddr 25 (.tmp 8) 1, 0, "law.go:312", #[], none⟩) (v := ?_) (.inl ⟨by rfl, ?_⟩) ?_
        rotate_left
        · (intro wq hSw; (try dsimp only at hSw); go_simp; first | done | with_reducible rfl)
        try simp only [Act.put, sA, sZ, sS]
        refine tkH (i := 3) (oi := ⟨some 66, .load 23 (.tmp 65), 23, "law.go:312", #[⟨2, .data⟩], none⟩) (v := ?_) (.inl ⟨by rfl, ?_⟩) ?_
        rotate_left
        · (intro wq hSw; (try dsimp only at hSw); go_simp; first | done | with_reducible rfl)
        try simp only [Act.put, sA, sZ, sS]
        refine tkH (i := 4) (oi := ⟨some 67, .move (.tmp 9), 3, "law.go:312", #[], none⟩) (v := ?_) (.inl ⟨by rfl, ?_⟩) ?_
        rotate_left
        · (intro wq hSw; (try dsimp only at hSw); go_simp; first | done | with_reducible rfl)
        try simp only [Act.put, sA, sZ, sS]
        refine tkH (i := 5) (oi := ⟨some 68, .indexAddr 23 (.tmp 66) (.tmp 67), 0, "law.go:312", #[⟨3, .data⟩, ⟨4, .data⟩], none⟩) (v := ?_) (.inl ⟨by rfl, ?_⟩) ?_
        rotate_left
        · (intro wq hSw; (try dsimp only at hSw); go_simp; first | done | with_reducible rfl)
        try simp only [Act.put, sA, sZ, sS]
        refine tkH (i := 6) (oi := ⟨some 69, .load 3 (.tmp 68), 3, "law.go:312", #[⟨5, .data⟩], none⟩) (v := ?_) (.inl ⟨by rfl, ?_⟩) ?_
        rotate_left
        · (intro wq hSw; (try dsimp only at hSw); go_simp; first | done | with_reducible rfl)
        try simp only [Act.put, sA, sZ, sS]
        refine tkH (i := 7) (oi := ⟨some 70, .indexAddr 61 (.tmp 64) (.tmp 69), 0, "law.go:312", #[⟨1, .data⟩, ⟨6, .data⟩], none⟩) (v := ?_) (.inl ⟨by rfl, ?_⟩) ?_
        rotate_left
        · (intro wq hSw; (try dsimp only at hSw); go_simp; first | done | with_reducible rfl)
        try simp only [Act.put, sA, sZ, sS]
        refine tkH (i := 8) (oi := ⟨some 71, .load 45 (.tmp 70), 45, "law.go:312", #[⟨7, .data⟩], none⟩) (v := ?_) (.inl ⟨by rfl, ?_⟩) ?_
        rotate_left
        · (intro wq hSw; (try dsimp only at hSw); go_simp; first | done | with_reducible rfl)
        try simp only [Act.put, sA, sZ, sS]
        refine tkH (i := 9) (oi := ⟨some 72, .load 25 (.tmp 8), 25, "law.go:312", #[], none⟩) (v := ?_) (.inl ⟨by rfl, ?_⟩) ?_
        rotate_left
        · (intro wq hSw; (try dsimp only at hSw); go_simp; first | done | with_reducible rfl)
        try simp only [Act.put, sA, sZ, sS]
        refine wpAnyH_ready (rs := [10]) (by kernel_rfl) (by simp) ?_
        refine AllReadyH.cons (o := ⟨some 73, .call { callee := .value (.func 27), args := #[.tmp 71, .tmp 72], argTypes := #[45, 25] }, 42, "law.go:312", #[⟨8, .data⟩, ⟨9, .data⟩], none⟩) rfl (fun K hK => ?_) AllReadyH.nil
        go_simp
        have ho := radopt ((HP.out.ch.rp z hz).new (New.refl wr).drew) nv.c (A := some ⟨gm, om, none⟩) (n := nv.n) ((by have := HP.out.ts.slIn; rw [HNVA.out] at this; exact this : SlIn wr 1 iEnc (.slice (some ⟨gm, om, none⟩) nv.c.ms.length nv.n) nv.c.ms).new (New.refl wr).drew) (by omega) HP.out.le (by omega)
        refine ho.mono ?_
        rintro e w7 ⟨rfl, hp⟩
        have hrf : Upd (RpF (L.rp z) (L.rl z)) wr w7 := (Upd.refl _ wr).drew.trans (show Upd (RpF (L.rp z) (L.rl z)) wr.drew w7 from let ⟨_, _, _, h⟩ := hp; h) (fun _ _ h => h)
        have hoff := HP.out.ch.rp z hz
        have j0 := fun o => keepR hrf p0 (hoff.off (by decide) (by decide) (by decide) (by decide) _ _ HP.out.bk) o
        have j1 := fun o => keepR hrf d0 (hoff.off (by decide) (by decide) (by decide) (by decide) _ _ HP.out.ak) o
        have j2 := keepR hrf hgm (fun hk => HMO.out hk) (om + j)
        have j3 := keepR hrf hgl (fun hk => HP.out.ch.lvF gl (by rw [HLV.out]; rfl) (.inl ⟨z, hz, hk⟩)) (ol + z)
        have HP7 : Hid (∃ L', PSt W w7 (1 + r) (1600 + 10 * (j + 1)) bx a8 nv L' (({ x with un := [] } : Chn).adoptN nv.c (j + 1))) := Lib.hid (by
          have hz2 := HZ.out
          subst hz2
          exact HP.out.rp hz (RpPost.pre (New.refl wr).drew hp) (by omega) (adoptN_ok HPH.out.ok HPH.out.ne (j + 1) (by omega)) (adoptN_on HPH.out.on HNW.out (j + 1) (by omega)) ((HP.out.nb.1 _ hz).adopt nv.c))
        refine hK.out _ _ ?_ (fun hHeld => ?_)
        · exact ⟨j0, j1, j2, j3⟩
        clear hK K
        try simp only [Act.put, sA, sZ, sS]
        refine wpAnyH_done (by kernel_rfl) ?_ _
        clear hHeld hrf hoff j0 j1 j2 j3 hp
        clear ho el hgl em hgm d0 d1 d2 dz p0 p1 p2 p3 pz
        go_wp2_with fail
        go_roundw
        case rel => obtain ⟨L7, h7⟩ := HP7.out; exact ⟨j + 1, L7, by omega, by go_num, h7⟩
        case measure => simp [intOf]; omega
      · obtain rfl : j = nv.c.ms.length := by omega
        have hjl2 : ¬ ((nv.c.ms.length : Nat) : Int) < (nv.c.ms.length : Int) := by omega
        obtain ⟨d0, d1, d2, dz⟩ := Blk2I HP.out.ak
        obtain ⟨N, hts0⟩ := HST.out
        have HTS0 := Lib.hid hts0
        generalize ({ x with un := [] } : Chn).adoptN nv.c nv.c.ms.length = x1 at *
        clear hts0 HST
        go_wp2_with fail
        clear d0 d1 d2 dz
        obtain ⟨wo, rfl⟩ : ∃ wo, wo = wr := ⟨_, rfl⟩
        go_loopw [10, 11, 12] (fun u10 _ _ wr => ∃ (t : Nat) (L : ChL) (y : Chn), t ≤ 120 ∧ u10 = .int .i64 (t : Int) ∧ PSt W wr (1 + r) (1680 + 8050 * t) bx a8 nv L y ∧ TSt (1 + r) nv.c N t y) (fun u10 _ _ _ => 120 - (intOf u10).toNat)
        case atStart => exact ⟨0, L, x1, by omega, rfl, HP.out.mono (by omega), HTS0.out⟩
        case round =>
          clear HP
          obtain ⟨t, L, y, ht, rfl, hp, hts⟩ := hrel
          have HP := Lib.hid hp
          have HTS := Lib.hid hts
          have ht0 : (0 : Int) ≤ (t : Int) := by omega
          clear hp hts
          by_cases ht2 : t < 120
          · have ht3 : (t : Int) < 120 := by omega
            go_wp2_with fail
            obtain ⟨wo2, rfl⟩ : ∃ wo2, wo2 = wr := ⟨_, rfl⟩
            go_loopw [11] (fun u11 wr => ∃ (j : Nat) (L : ChL), j ≤ nv.c.ms.length ∧ u11 = .int .i64 (j : Int) ∧ PSt W wr (1 + r) (1680 + 8050 * t + 10 * j) bx a8 nv L (y.tickN nv.c j)) (fun u11 _ => nv.c.ms.length - (intOf u11).toNat)
            case atStart => exact ⟨0, L, by omega, rfl, HP.out⟩
            case round =>
              have HPY := HP
              clear HP
              obtain ⟨j, L, hj, rfl, hp⟩ := hrel
              have HP := Lib.hid hp
              have hj0 : (0 : Int) ≤ (j : Int) := by omega
              clear hp
              by_cases hjl : j < nv.c.ms.length
              · have hjl3 : (j : Int) < (nv.c.ms.length : Int) := by omega
                obtain ⟨z, HZ⟩ : ∃ z, Hid (z = idn nv.c j) := ⟨_, Lib.hid rfl⟩
                obtain ⟨hgm, em, hmo⟩ := HP.out.mem_at HNVA.out hjl
                rw [← HZ.out] at em
                have hz : z < 1 + r := by rw [HZ.out]; exact idn_lt HNW.out hjl
                have HMO := Lib.hid (hmo z hz)
                have hz0 : (0 : Int) ≤ (z : Int) := by omega
                have hz1 : (z : Int) < ((1 + r : Nat) : Int) := by omega
                have hz3 : (z : Int) < 1 + (r : Int) := by omega
                obtain ⟨d0, d1, d2, dz⟩ := Blk2I HP.out.ak
                rw [HNVA.out] at d2
                obtain ⟨gl, ol, cl2, hlv2, hcl2, el, hgl⟩ := HP.out.ch.node hz
                have HLV := Lib.hid hlv2
                obtain ⟨p0, p1, p2, p3, pz⟩ := Blk3G HP.out.bk
                rw [hlv2] at p1
                clear hmo hlv2
                go_upto_region 20 with fail
                refine wp_region_held_drew (S := fun w' => (∀ o, w'.cell? ⟨bx, o, none⟩ = wr.cell? ⟨bx, o, none⟩) ∧ (∀ o, w'.cell? ⟨a8, o, none⟩ = wr.cell? ⟨a8, o, none⟩) ∧ w'.cell? ⟨gm, om + j, none⟩ = wr.cell? ⟨gm, om + j, none⟩ ∧ w'.cell? ⟨gl, ol + z, none⟩ = wr.cell? ⟨gl, ol + z, none⟩) (by kernel_rfl) (⟨fun _ => rfl, fun _ => rfl, rfl, rfl⟩) (fun hHeld => ?_)
                refine tkH (i := 0) (oi := ⟨some 85, .fieldAddr 64 (.tmp 5) 0, 0, "law.go:316", #[], none⟩) (v := ?_) (.inl ⟨by rfl, ?_⟩) ?_
                rotate_left
                · (intro wq hSw; (try dsimp only at hSw); go_simp; first | done | with_reducible rfl)
                try simp only [Act.put, sA, sZ, sS]
                refine tkH (i := 1) (oi := ⟨some 86, .load 61 (.tmp 85), 61, "law.go:316", #[⟨0, .data⟩], none⟩) (v := ?_) (.inl ⟨by rfl, ?_⟩) ?_
                rotate_left
                · (intro wq hSw; (try dsimp only at hSw); go_simp; first | done | with_reducible rfl)
                try simp only [Act.put, sA, sZ, sS]
                refine tkH (i := 2) (oi := ⟨some 87, .fieldAddr 25 (.tmp 8) 1, 0, "law.go:316", #[], none⟩) (v := ?_) (.inl ⟨by rfl, ?_⟩) ?_
                rotate_left
                · (intro wq hSw; (try dsimp only at hSw); go_simp; first | done | with_reducible rfl)
                try simp only [Act.put, sA, sZ, sS]
                refine tkH (i := 3) (oi := ⟨some 88, .load 23 (.tmp 87), 23, "law.go:316", #[⟨2, .data⟩], none⟩) (v := ?_) (.inl ⟨by rfl, ?_⟩) ?_
                rotate_left
                · (intro wq hSw; (try dsimp only at hSw); go_simp; first | done | with_reducible rfl)
                try simp only [Act.put, sA, sZ, sS]
                refine tkH (i := 4) (oi := ⟨some 89, .move (.tmp 11), 3, "law.go:316", #[], none⟩) (v := ?_) (.inl ⟨by rfl, ?_⟩) ?_
                rotate_left
                · (intro wq hSw; (try dsimp only at hSw); go_simp; first | done | with_reducible rfl)
                try simp only [Act.put, sA, sZ, sS]
                refine tkH (i := 5) (oi := ⟨some 90, .indexAddr 23 (.tmp 88) (.tmp 89), 0, "law.go:316", #[⟨3, .data⟩, ⟨4, .data⟩], none⟩) (v := ?_) (.inl ⟨by rfl, ?_⟩) ?_
                rotate_left
                · (intro wq hSw; (try dsimp only at hSw); go_simp; first | done | with_reducible rfl)
                try simp only [Act.put, sA, sZ, sS]
                refine tkH (i := 6) (oi := ⟨some 91, .load 3 (.tmp 90), 3, "law.go:316", #[⟨5, .data⟩], none⟩) (v := ?_) (.inl ⟨by rfl, ?_⟩) ?_
                rotate_left
                · (intro wq hSw; (try dsimp only at hSw); go_simp; first | done | with_reducible rfl)
                try simp only [Act.put, sA, sZ, sS]
                refine tkH (i := 7) (oi := ⟨some 92, .indexAddr 61 (.tmp 86) (.tmp 91), 0, "law.go:316", #[⟨1, .data⟩, ⟨6, .data⟩], none⟩) (v := ?_) (.inl ⟨by rfl, ?_⟩) ?_
                rotate_left
                · (intro wq hSw; (try dsimp only at hSw); go_simp; first | done | with_reducible rfl)
                try simp only [Act.put, sA, sZ, sS]
                refine tkH (i := 8) (oi := ⟨some 93, .load 45 (.tmp 92), 45, "law.go:316", #[⟨7, .data⟩], none⟩) (v := ?_) (.inl ⟨by rfl, ?_⟩) ?_
                rotate_left
                · (intro wq hSw; (try dsimp only at hSw); go_simp; first | done | with_reducible rfl)
                try simp only [Act.put, sA, sZ, sS]
                refine wpAnyH_ready (rs := [9]) (by kernel_rfl) (by simp) ?_
                refine AllReadyH.cons (o := ⟨some 94, .call { callee := .value (.func 28), args := #[.tmp 93], argTypes := #[45] }, 0, "law.go:316", #[⟨8, .data⟩], none⟩) rfl (fun K hK => ?_) AllReadyH.nil
                go_simp
                have ho := rtick ((HP.out.ch.rp z hz).new (New.refl wr).drew) (by omega)
                refine ho.mono ?_
                rintro e w7 ⟨rfl, hp⟩
                have hrf : Upd (RpF (L.rp z) (L.rl z)) wr w7 := (Upd.refl _ wr).drew.trans (show Upd (RpF (L.rp z) (L.rl z)) wr.drew w7 from let ⟨_, _, _, h⟩ := hp; h) (fun _ _ h => h)
                have hoff := HP.out.ch.rp z hz
                have j0 := fun o => keepR hrf p0 (hoff.off (by decide) (by decide) (by decide) (by decide) _ _ HP.out.bk) o
                have j1 := fun o => keepR hrf d0 (hoff.off (by decide) (by decide) (by decide) (by decide) _ _ HP.out.ak) o
                have j2 := keepR hrf hgm (fun hk => HMO.out hk) (om + j)
                have j3 := keepR hrf hgl (fun hk => HP.out.ch.lvF gl (by rw [HLV.out]; rfl) (.inl ⟨z, hz, hk⟩)) (ol + z)
                have HP7 : Hid (∃ L', PSt W w7 (1 + r) (1680 + 8050 * t + 10 * (j + 1)) bx a8 nv L' (y.tickN nv.c (j + 1))) := Lib.hid (by
                  have hz2 := HZ.out
                  subst hz2
                  exact HP.out.rp hz (RpPost.pre (New.refl wr).drew hp) (by omega) (tickN_ok HPY.out.ok HNW.out (j + 1) (by omega)) (tickN_on HPY.out.on HNW.out (j + 1) (by omega)) (HP.out.nb.1 _ hz).tick)
                refine hK.out _ _ ?_ (fun hHeld => ?_)
                · exact ⟨j0, j1, j2, j3⟩
                clear hK K
                try simp only [Act.put, sA, sZ, sS]
                refine wpAnyH_done (by kernel_rfl) ?_ _
                clear hHeld hrf hoff j0 j1 j2 j3 hp
                clear ho el hgl em hgm d0 d1 d2 dz p0 p1 p2 p3 pz
                go_wp2_with fail
                go_roundw
                case rel => obtain ⟨L7, h7⟩ := HP7.out; exact ⟨j + 1, L7, by omega, by go_num, h7⟩
                case measure => simp [intOf]; omega
              · obtain rfl : j = nv.c.ms.length := by omega
                obtain ⟨d0, d1, d2, dz⟩ := Blk2I HP.out.ak
                obtain ⟨p0, p1, p2, p3, pz⟩ := Blk3G HP.out.bk
                have HDS := Lib.hid (HTS.out.turn HNW.out (by omega))
                go_wp2_with fail
                obtain ⟨sA1, sn1, sc1, sA2, sn2, sc2, sA3, sn3, sc3, h1, h2, h3⟩ := HP.out.ch.shapes
                have HL1 := Lib.hid h1
                have HL2 := Lib.hid h2
                have HL3 := Lib.hid h3
                clear h1 h2 h3
                refine (HP.out.gath (by omega) (by omega)).mono ?_
                rintro e w5 ⟨L5, rfl, hp5⟩
                obtain ⟨A1, n1, c1, A2, n2, c2, A3, n3, c3, h1, h2, h3⟩ := hp5.1.shapes
                rw [h1, h2, h3]
                have hb5 := HP.out.bk.upd hp5.2.2.2.2 (HP.out.ch.boxF HP.out.bk).1
                obtain ⟨b0, b1, b2, b3, bz⟩ := Blk3G hb5
                rw [HL1.out] at b1
                rw [HL2.out] at b2
                rw [HL3.out] at b3
                have HP6 := Lib.hid (HP.out.gath_post (w' := ((w5.setCell ⟨bx, 0, none⟩ (.slice A1 n1 c1)).setCell ⟨bx, 1, none⟩ (.slice A2 n2 c2)).setCell ⟨bx, 2, none⟩ (.slice A3 n3 c3)) hp5 (by rw [h1, h2, h3]))
                clear hp5 hb5 h1 h2 h3
                clear p0 p1 p2 p3 pz d0 d1 d2 dz
                go_upto_block 8 with fail
                clear b0 b1 b2 b3 bz
                generalize ((w5.setCell ⟨bx, 0, none⟩ (.slice A1 n1 c1)).setCell ⟨bx, 1, none⟩ (.slice A2 n2 c2)).setCell ⟨bx, 2, none⟩ (.slice A3 n3 c3) = w6 at *
                generalize (y.tickN nv.c nv.c.ms.length).gather (1 + r) = y1 at *
                go_wp2_with fail
                go_loopw [12] (fun u12 wr => ∃ (m : Nat) (L : ChL) (y2 : Chn), m ≤ 400 ∧ u12 = .int .i64 (m : Int) ∧ PSt W wr (1 + r) (1730 + 8050 * t + 20 * m) bx a8 nv L y2 ∧ DSt (1 + r) nv.c N t m y2) (fun u12 _ => 400 - (intOf u12).toNat)
                case atStart => exact ⟨0, L5, y1, by omega, rfl, HP6.out.mono (by have := HL7.out; have := HNW.out.len; omega), HDS.out⟩
                case round =>
                  clear HP
                  obtain ⟨m, L, y2, hm, rfl, hp, hds⟩ := hrel
                  have HP := Lib.hid hp
                  have HDS2 := Lib.hid hds
                  have hm0 : (0 : Int) ≤ (m : Int) := by omega
                  obtain ⟨p0, p1, p2, p3, pz⟩ := Blk3G hp.bk
                  obtain ⟨Au, cu, huv⟩ := hp.ch.un.shape
                  rw [huv] at p2
                  have HUV := Lib.hid huv
                  clear hp hds huv
                  by_cases hgo : m < 400 ∧ 0 < y2.un.length
                  case pos =>
                    obtain ⟨hm4, hun⟩ := hgo
                    have hm5 : (m : Int) < 400 := by omega
                    have hun2 : (0 : Int) < (y2.un.length : Int) := by omega
                    have HUN : Hid (y2.un ≠ []) := Lib.hid (fun e => by rw [e] at hun; simp at hun)
                    clear hun
                    go_wp2_with fail
                    rw [← HUV.out]
                    obtain ⟨sA1, sn1, sc1, sA2, sn2, sc2, sA3, sn3, sc3, h1, h2, h3⟩ := HP.out.ch.shapes
                    have HL1 := Lib.hid h1
                    have HL2 := Lib.hid h2
                    have HL3 := Lib.hid h3
                    clear h1 h2 h3
                    refine (HP.out.deliver (by omega) (by omega) (by omega)).mono ?_
                    rintro e w5 ⟨L5, rfl, hp5⟩
                    obtain ⟨A1, n1, c1, A2, n2, c2, A3, n3, c3, h1, h2, h3⟩ := hp5.1.shapes
                    rw [h1, h2, h3]
                    have hb5 := HP.out.bk.upd hp5.2.2.2.2 (HP.out.ch.boxF HP.out.bk).1
                    obtain ⟨b0, b1, b2, b3, bz⟩ := Blk3G hb5
                    rw [HL1.out] at b1
                    rw [HL2.out] at b2
                    rw [HL3.out] at b3
                    have HP6 := Lib.hid (HP.out.deliver_post (by omega) (by omega) (w' := ((w5.setCell ⟨bx, 0, none⟩ (.slice A1 n1 c1)).setCell ⟨bx, 1, none⟩ (.slice A2 n2 c2)).setCell ⟨bx, 2, none⟩ (.slice A3 n3 c3)) hp5 (by rw [h1, h2, h3]))
                    clear hp5 hb5 h1 h2 h3
                    have HDS3 := Lib.hid (HDS2.out.step HNW.out HUN.out dlv.stp rfl rfl)
                    clear p0 p1 p2 p3 pz
                    go_wp2_with fail
                    go_roundw
                    case rel => exact ⟨m + 1, L5, _, by omega, by go_num, HP6.out.mono (by omega), HDS3.out⟩
                    case measure => simp [intOf]; omega
                  case neg =>
                    have HTS3 : Hid (TSt (1 + r) nv.c N (t + 1) y2) := Lib.hid (HDS2.out.stop hm (by
                      by_cases h4 : m < 400
                      · right
                        cases hy : y2.un with
                        | nil => rfl
                        | cons a q => exact absurd ⟨h4, by rw [hy]; simp⟩ hgo
                      · left; omega))
                    by_cases hm4 : m < 400
                    · have hm5 : (m : Int) < 400 := by omega
                      have hun2 : ¬ (0 : Int) < (y2.un.length : Int) := fun h => hgo ⟨hm4, by omega⟩
                      clear hgo
                      go_wp2_with fail
                      go_roundw
                      case rel => exact ⟨t + 1, L, y2, by omega, by go_num, HP.out.mono (by omega), HTS3.out⟩
                      case measure => simp [intOf]; omega
                    · have hm5 : ¬ (m : Int) < 400 := by omega
                      clear hgo
                      go_wp2_with fail
                      go_roundw
                      case rel => exact ⟨t + 1, L, y2, by omega, by go_num, HP.out.mono (by omega), HTS3.out⟩
                      case measure => simp [intOf]; omega
          · obtain rfl : t = 120 := by omega
            have ht3 : ¬ ((120 : Nat) : Int) < 120 := by omega
            have HD := Lib.hid (HTS.out.done HP.out.ok HP.out.ne)
            have hr0 := HNW.out.r0
            have hr1 : (0 : Int) < (nv.c.ms.length : Int) := by omega
            obtain ⟨z, HZ⟩ : ∃ z, Hid (z = idn nv.c 0) := ⟨_, Lib.hid rfl⟩
            obtain ⟨hgm, em, hmo⟩ := HP.out.mem_at HNVA.out hr0
            rw [← HZ.out] at em
            have hz : z < 1 + r := by rw [HZ.out]; exact idn_lt HNW.out hr0
            have HMO := Lib.hid (hmo z hz)
            have hz0 : (0 : Int) ≤ (z : Int) := by omega
            have hz1 : (z : Int) < ((1 + r : Nat) : Int) := by omega
            have hz3 : (z : Int) < 1 + (r : Int) := by omega
            obtain ⟨d0, d1, d2, dz⟩ := Blk2I HP.out.ak
            rw [HNVA.out] at d2
            obtain ⟨gl, ol, cl2, hlv2, hcl2, el, hgl⟩ := HP.out.ch.node hz
            have HLV := Lib.hid hlv2
            obtain ⟨p0, p1, p2, p3, pz⟩ := Blk3G HP.out.bk
            rw [hlv2] at p1
            clear hmo hlv2
            rw [Nat.add_zero] at em
            go_upto_region 26 with fail
            refine wp_region_held_drew (S := fun w' => (∀ o, w'.cell? ⟨bx, o, none⟩ = wr.cell? ⟨bx, o, none⟩) ∧ (∀ o, w'.cell? ⟨a8, o, none⟩ = wr.cell? ⟨a8, o, none⟩) ∧ w'.cell? ⟨gm, om, none⟩ = wr.cell? ⟨gm, om, none⟩ ∧ w'.cell? ⟨gl, ol + z, none⟩ = wr.cell? ⟨gl, ol + z, none⟩) (by kernel_rfl) (⟨fun _ => rfl, fun _ => rfl, rfl, rfl⟩) (fun hHeld => ?_)
            refine tkH (i := 0) (oi := ⟨some 110, .fieldAddr 64 (.tmp 5) 0, 0, "law.go:323", #[], none⟩) (v := ?_) (.inl ⟨by rfl, ?_⟩) ?_
            rotate_left
            · (intro wq hSw; (try dsimp only at hSw); go_simp; first | done | with_reducible rfl)
            try simp only [Act.put, sA, sZ, sS]
            refine tkH (i := 1) (oi := ⟨some 111, .load 61 (.tmp 110), 61, "law.go:323", #[⟨0, .data⟩], none⟩) (v := ?_) (.inl ⟨by rfl, ?_⟩) ?_
            rotate_left
            · (intro wq hSw; (try dsimp only at hSw); go_simp; first | done | with_reducible rfl)
            try simp only [Act.put, sA, sZ, sS]
            refine tkH (i := 2) (oi := ⟨some 112, .fieldAddr 25 (.tmp 8) 1, 0, "law.go:323", #[], none⟩) (v := ?_) (.inl ⟨by rfl, ?_⟩) ?_
            rotate_left
            · (intro wq hSw; (try dsimp only at hSw); go_simp; first | done | with_reducible rfl)
            try simp only [Act.put, sA, sZ, sS]
            refine tkH (i := 3) (oi := ⟨some 113, .load 23 (.tmp 112), 23, "law.go:323", #[⟨2, .data⟩], none⟩) (v := ?_) (.inl ⟨by rfl, ?_⟩) ?_
            rotate_left
            · (intro wq hSw; (try dsimp only at hSw); go_simp; first | done | with_reducible rfl)
            try simp only [Act.put, sA, sZ, sS]
            refine tkH (i := 4) (oi := ⟨some 114, .indexAddr 23 (.tmp 113) (.const (.int .i64 0)), 0, "law.go:323", #[⟨3, .data⟩], none⟩) (v := ?_) (.inl ⟨by rfl, ?_⟩) ?_
            rotate_left
            · (intro wq hSw; (try dsimp only at hSw); go_simp; first | done | with_reducible rfl)
            try simp only [Act.put, sA, sZ, sS]
            refine tkH (i := 5) (oi := ⟨some 115, .load 3 (.tmp 114), 3, "law.go:323", #[⟨4, .data⟩], none⟩) (v := ?_) (.inl ⟨by rfl, ?_⟩) ?_
            rotate_left
            · (intro wq hSw; (try dsimp only at hSw); go_simp; first | done | with_reducible rfl)
            try simp only [Act.put, sA, sZ, sS]
            refine tkH (i := 6) (oi := ⟨some 116, .indexAddr 61 (.tmp 111) (.tmp 115), 0, "law.go:323", #[⟨1, .data⟩, ⟨5, .data⟩], none⟩) (v := ?_) (.inl ⟨by rfl, ?_⟩) ?_
            rotate_left
            · (intro wq hSw; (try dsimp only at hSw); go_simp; first | done | with_reducible rfl)
            try simp only [Act.put, sA, sZ, sS]
            refine tkH (i := 7) (oi := ⟨some 117, .load 45 (.tmp 116), 45, "law.go:323", #[⟨6, .data⟩], none⟩) (v := ?_) (.inl ⟨by rfl, ?_⟩) ?_
            rotate_left
            · (intro wq hSw; (try dsimp only at hSw); go_simp; first | done | with_reducible rfl)
            try simp only [Act.put, sA, sZ, sS]
            refine wpAnyH_ready (rs := [8]) (by kernel_rfl) (by simp) ?_
            refine AllReadyH.cons (o := ⟨some 118, .call { callee := .value (.func 18), args := #[.tmp 117], argTypes := #[45] }, 26, "law.go:323", #[⟨7, .data⟩], none⟩) rfl (fun K hK => ?_) AllReadyH.nil
            go_simp
            refine (rlist ((HP.out.ch.rp z hz).new (New.refl wr).drew) (by omega)).mono ?_
            rintro e w5 ⟨vL, rfl, hrL, hnL⟩
            have hnLW := (New.refl wr).drew.trans hnL
            have j0 := fun o => keepR (S := fun _ => False) (Upd.new hnLW) p0 (fun h => h) o
            have j1 := fun o => keepR (S := fun _ => False) (Upd.new hnLW) d0 (fun h => h) o
            have j2 := keepR (S := fun _ => False) (Upd.new hnLW) hgm (fun h => h) om
            have j3 := keepR (S := fun _ => False) (Upd.new hnLW) hgl (fun h => h) (ol + z)
            obtain ⟨AL, cL, hvL⟩ := hrL.shape
            have HVL := Lib.hid hvL
            rw [hvL]
            have HROW := Lib.hid (hrL.lower (Nat.zero_le _))
            have HP5 := Lib.hid (HP.out.new hnLW)
            refine hK.out _ _ ?_ (fun hHeld => ?_)
            · exact ⟨j0, j1, j2, j3⟩
            clear hK K
            try simp only [Act.put, sA, sZ, sS]
            refine tkH (i := 9) (oi := ⟨some 13, .assign (.tmp 118), 26, "law.go:323", #[⟨8, .data⟩, ⟨8, .chain⟩, ⟨0, .phase⟩, ⟨1, .phase⟩, ⟨2, .phase⟩, ⟨3, .phase⟩, ⟨4, .phase⟩, ⟨5, .phase⟩, ⟨6, .phase⟩, ⟨7, .phase⟩, ⟨8, .phase⟩], none⟩) (v := ?_) (.inl ⟨by rfl, ?_⟩) ?_
            rotate_left
            · (intro wq hSw; (try dsimp only at hSw); go_simp; first | done | with_reducible rfl)
            try simp only [Act.put, sA, sZ, sS]
            refine wpAnyH_done (by kernel_rfl) ?_ _
            clear hHeld j0 j1 j2 j3 hnLW hrL hnL hvL el hgl em hgm d0 d1 d2 dz p0 p1 p2 p3 pz
            have hll := (HP5.out.nb.1 z hz).1
            have HLL : Hid ((y.rp z).l.length ≤ 1000000) := Lib.hid (by omega)
            have HZL : Hid ((y.rp z).l = (y.rp (idn nv.c 0)).l) := Lib.hid (by rw [HZ.out])
            obtain ⟨d0, d1, d2, dz⟩ := Blk2I HP5.out.ak
            clear hll
            go_wp2_with fail
            clear d0 d1 d2 dz
            obtain ⟨wo3, rfl⟩ : ∃ wo3, wo3 = wr := ⟨_, rfl⟩
            obtain ⟨z9, rfl⟩ : ∃ z9, z9 = z := ⟨_, rfl⟩
            go_loopw [14, 15, 16] (fun u14 _ _ wr => ∃ k : Nat, k ≤ nv.c.ms.length ∧ u14 = .int .i64 (k : Int) ∧ New w5 wr) (fun u14 _ _ _ => nv.c.ms.length - (intOf u14).toNat)
            case atStart => exact ⟨0, by omega, rfl, New.refl _⟩
            case round =>
              obtain ⟨k, hk, rfl, hnr⟩ := hrel
              have HNR := Lib.hid hnr
              have HP4 := HP
              clear HP
              have HP := Lib.hid (HP5.out.new hnr)
              have hk0 : (0 : Int) ≤ (k : Int) := by omega
              have HZ9 := HZ
              have hzz := hz
              by_cases hkl : k < nv.c.ms.length
              · have hkl2 : (k : Int) < (nv.c.ms.length : Int) := by omega
                clear HZ hz hz0 hz1 hz3 HMO HLV HZ9 hzz
                obtain ⟨z, HZ⟩ : ∃ z, Hid (z = idn nv.c k) := ⟨_, Lib.hid rfl⟩
                obtain ⟨hgm, em, hmo⟩ := HP.out.mem_at HNVA.out hkl
                rw [← HZ.out] at em
                have hz : z < 1 + r := by rw [HZ.out]; exact idn_lt HNW.out hkl
                have HMO := Lib.hid (hmo z hz)
                have hz0 : (0 : Int) ≤ (z : Int) := by omega
                have hz1 : (z : Int) < ((1 + r : Nat) : Int) := by omega
                have hz3 : (z : Int) < 1 + (r : Int) := by omega
                obtain ⟨d0, d1, d2, dz⟩ := Blk2I HP.out.ak
                rw [HNVA.out] at d2
                obtain ⟨gl, ol, cl2, hlv2, hcl2, el, hgl⟩ := HP.out.ch.node hz
                have HLV := Lib.hid hlv2
                obtain ⟨p0, p1, p2, p3, pz⟩ := Blk3G HP.out.bk
                rw [hlv2] at p1
                clear hmo hlv2
                have HDN := Lib.hid (HD.out k hkl)
                go_upto_region 30 with fail
                refine wp_region_held_drew (S := fun w' => (∀ o, w'.cell? ⟨bx, o, none⟩ = wr.cell? ⟨bx, o, none⟩) ∧ (∀ o, w'.cell? ⟨a8, o, none⟩ = wr.cell? ⟨a8, o, none⟩) ∧ w'.cell? ⟨gm, om + k, none⟩ = wr.cell? ⟨gm, om + k, none⟩ ∧ w'.cell? ⟨gl, ol + z, none⟩ = wr.cell? ⟨gl, ol + z, none⟩) (by kernel_rfl) (⟨fun _ => rfl, fun _ => rfl, rfl, rfl⟩) (fun hHeld => ?_)
                refine tkH (i := 0) (oi := ⟨some 126, .fieldAddr 64 (.tmp 5) 0, 0, "law.go:325", #[], none⟩) (v := ?_) (.inl ⟨by rfl, ?_⟩) ?_
                rotate_left
                · (intro wq hSw; (try dsimp only at hSw); go_simp; first | done | with_reducible rfl)
                try simp only [Act.put, sA, sZ, sS]
                refine tkH (i := 1) (oi := ⟨some 127, .load 61 (.tmp 126), 61, "law.go:325", #[⟨0, .data⟩], none⟩) (v := ?_) (.inl ⟨by rfl, ?_⟩) ?_
                rotate_left
                · (intro wq hSw; (try dsimp only at hSw); go_simp; first | done | with_reducible rfl)
                try simp only [Act.put, sA, sZ, sS]
                refine tkH (i := 2) (oi := ⟨some 128, .fieldAddr 25 (.tmp 8) 1, 0, "law.go:325", #[], none⟩) (v := ?_) (.inl ⟨by rfl, ?_⟩) ?_
                rotate_left
                · (intro wq hSw; (try dsimp only at hSw); go_simp; first | done | with_reducible rfl)
                try simp only [Act.put, sA, sZ, sS]
                refine tkH (i := 3) (oi := ⟨some 129, .load 23 (.tmp 128), 23, "law.go:325", #[⟨2, .data⟩], none⟩) (v := ?_) (.inl ⟨by rfl, ?_⟩) ?_
                rotate_left
                · (intro wq hSw; (try dsimp only at hSw); go_simp; first | done | with_reducible rfl)
                try simp only [Act.put, sA, sZ, sS]
                refine tkH (i := 4) (oi := ⟨some 130, .move (.tmp 14), 3, "law.go:325", #[], none⟩) (v := ?_) (.inl ⟨by rfl, ?_⟩) ?_
                rotate_left
                · (intro wq hSw; (try dsimp only at hSw); go_simp; first | done | with_reducible rfl)
                try simp only [Act.put, sA, sZ, sS]
                refine tkH (i := 5) (oi := ⟨some 131, .indexAddr 23 (.tmp 129) (.tmp 130), 0, "law.go:325", #[⟨3, .data⟩, ⟨4, .data⟩], none⟩) (v := ?_) (.inl ⟨by rfl, ?_⟩) ?_
                rotate_left
                · (intro wq hSw; (try dsimp only at hSw); go_simp; first | done | with_reducible rfl)
                try simp only [Act.put, sA, sZ, sS]
                refine tkH (i := 6) (oi := ⟨some 132, .load 3 (.tmp 131), 3, "law.go:325", #[⟨5, .data⟩], none⟩) (v := ?_) (.inl ⟨by rfl, ?_⟩) ?_
                rotate_left
                · (intro wq hSw; (try dsimp only at hSw); go_simp; first | done | with_reducible rfl)
                try simp only [Act.put, sA, sZ, sS]
                refine tkH (i := 7) (oi := ⟨some 133, .indexAddr 61 (.tmp 127) (.tmp 132), 0, "law.go:325", #[⟨1, .data⟩, ⟨6, .data⟩], none⟩) (v := ?_) (.inl ⟨by rfl, ?_⟩) ?_
                rotate_left
                · (intro wq hSw; (try dsimp only at hSw); go_simp; first | done | with_reducible rfl)
                try simp only [Act.put, sA, sZ, sS]
                refine tkH (i := 8) (oi := ⟨some 134, .load 45 (.tmp 133), 45, "law.go:325", #[⟨7, .data⟩], none⟩) (v := ?_) (.inl ⟨by rfl, ?_⟩) ?_
                rotate_left
                · (intro wq hSw; (try dsimp only at hSw); go_simp; first | done | with_reducible rfl)
                try simp only [Act.put, sA, sZ, sS]
                refine tkH (i := 9) (oi := ⟨some 15, .assign (.tmp 134), 45, "law.go:325", #[⟨8, .data⟩, ⟨0, .phase⟩, ⟨1, .phase⟩, ⟨2, .phase⟩, ⟨3, .phase⟩, ⟨4, .phase⟩, ⟨5, .phase⟩, ⟨6, .phase⟩, ⟨7, .phase⟩, ⟨8, .phase⟩], none⟩) (v := ?_) (.inl ⟨by rfl, ?_⟩) ?_
                rotate_left
                · (intro wq hSw; (try dsimp only at hSw); go_simp; first | done | with_reducible rfl)
                try simp only [Act.put, sA, sZ, sS]
                refine wpAnyH_done (by kernel_rfl) ?_ _
                clear hHeld el hgl em hgm d0 d1 d2 dz p0 p1 p2 p3 pz
                go_wp2_with fail
                refine (rlist ((HP.out.ch.rp z hz).new (New.refl wr).drew) (by omega)).mono ?_
                rintro e w6 ⟨vM, rfl, hrM, hn6⟩
                obtain ⟨AM, cM, hvM⟩ := hrM.shape
                have HVM := Lib.hid hvM
                rw [hvM]
                have hn6W := (New.refl wr).drew.trans hn6
                have HEQ : Hid ((y.rp z).l = (y.rp z9).l ∧ (y.rp z).cl = (y.rp z9).l.length) := Lib.hid (by rw [HZ.out, HZL.out]; exact HDN.out)
                have HROWM := Lib.hid (hrM.lower (Nat.zero_le _))
                have HN6 := Lib.hid (HNR.out.trans hn6W)
                have HP6 := Lib.hid (HP.out.new hn6W)
                have HR6 : Hid (BtRow w6 0 (.slice AL (y.rp z9).l.length cL) (y.rp z9).l) := Lib.hid (by have := (HROW.out.new HNR.out).new hn6W; rw [HVL.out] at this; exact this)
                have hlen : (y.rp z).l.length = (y.rp z9).l.length := by rw [HEQ.out.1]
                have hlen2 : (((y.rp z).l.length : Int) != ((y.rp z9).l.length : Int)) = false := by rw [hlen]; simp
                have hwl : IntKind.u64.wrap ((y.rp z9).l.length : Int) = ((y.rp z9).l.length : Int) := IntWalk.u64_in _ (by have := HLL.out; omega)
                have hclb : (((y.rp z9).l.length : Int) != ((y.rp z9).l.length : Int)) = false := by simp
                rw [hlen]
                clear hlen hrM hn6 hn6W hvM
                go_wp2_with (first | (go_at_call 20; refine (prefix_any (v := .slice AM (y.rp z9).l.length cM) (by have := HROWM.out; rw [HVM.out, HEQ.out.1] at this; exact this) HR6.out (List.prefix_refl _) (by have := HLL.out; omega)).mono ?_; intro e w7 hq; obtain ⟨rfl, hn7⟩ := hq) | (go_at_call 19; refine (rclean ((HP6.out.ch.rp z hz).new hn7)).mono ?_; intro e w8 hq; obtain ⟨rfl, rfl⟩ := hq; rw [HEQ.out.2]))
                have HN7 := Lib.hid (HN6.out.trans hn7)
                clear hn7
                go_roundw
                case rel => exact ⟨k + 1, by omega, by go_num, HN7.out⟩
                case measure => simp [intOf]; omega
              · have hkl2 : ¬ (k : Int) < (nv.c.ms.length : Int) := by omega
                obtain ⟨d0, d1, d2, dz⟩ := Blk2I HP.out.ak
                go_wp2_with fail
                go_ret
                exact ⟨rfl, HP.out.nw⟩
end Go.Proofs.YtecniafnihpjmaaGreatDoor
