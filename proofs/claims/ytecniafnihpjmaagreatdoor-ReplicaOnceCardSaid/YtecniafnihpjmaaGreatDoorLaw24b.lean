/- ReplicaOnce: the walk. Printed by genLaw24.py. -/
import Derived.Test.YtecniafnihpjmaaGreatDoorTk
import Derived.Test.YtecniafnihpjmaaGreatDoorMg15
import Derived.Test.YtecniafnihpjmaaGreatDoorMg16
namespace Go.Proofs.YtecniafnihpjmaaGreatDoor
open Go.RowKit Go.Lap C
set_option linter.unusedVariables false
set_option linter.unusedSimpArgs false
set_option maxRecDepth 100000 in
set_option maxHeartbeats 16000000 in
theorem replicaOnce_walk (m : Nat) (hm : m < 256) (l : List StV) (v : Value) (W : World) (hll : l.length ≤ maxLen) (hsl : SlIn W 7 StV.enc v l) (hgl : ∀ s ∈ l, StOk W s) :
    Calls Tryz.prog 5 #[.int .u8 (m : Int), v] W fun e w' => e = .returned (.bool true) ∧ New W w' := by
  obtain ⟨Av, cv0, hv0⟩ := hsl.form
  rw [hv0]
  have HV0 := Lib.hid hv0
  have HSL := Lib.hid hsl
  have HGL := Lib.hid hgl
  obtain ⟨r, hr⟩ : ∃ r, r = m % 5 := ⟨_, rfl⟩
  have hr5 : r < 5 := by omega
  have hmr : (m : Int) % 5 = (r : Int) := by omega
  have hr0 : (0 : Int) ≤ (r : Int) := by omega
  have hwm : IntKind.i64.wrap (m : Int) = (m : Int) := IntWalk.i64_in _ (by omega)
  unfold maxLen at hll
  clear hr hsl hgl hv0
  go_enter Tryz.func5, Tryz.ntmps5
  go_wp2_with fail
  rw [show (1 + (r : Int)) = ((1 + r : Nat) : Int) by omega]
  refine (begin_any (1 + r) (by omega) (by omega) W).mono ?_
  rintro e w5 ⟨L0, rfl, hch, hge, hnw⟩
  have hst := CSt.start (W := W) (by omega) (by omega) hch hge hnw
  obtain ⟨A1, n1, c1, A2, n2, c2, A3, n3, c3, h1, h2, h3⟩ := hch.shapes
  rw [h1, h2, h3]
  have HST : Hid (CSt W (w5.alloc (.cells #[.slice A1 n1 c1, .slice A2 n2 c2, .slice A3 n3 c3] 64)) (1 + r) 0 w5.heap.size L0 (Chn.start (1 + r))) := Lib.hid (by rw [← h1, ← h2, ← h3]; exact hst)
  clear hst hch hge hnw hmr hwm h1 h2 h3
  go_upto_region 2 with fail
  generalize w5.alloc (.cells #[.slice A1 n1 c1, .slice A2 n2 c2, .slice A3 n3 c3] 64) = w6 at *
  generalize w5.heap.size = bx at *
  go_wp2_with fail
  refine (awake24 w6).mono ?_
  rintro e w7 ⟨rfl, hn7⟩
  have HST7 := Lib.hid (HST.out.new hn7)
  clear hn7
  go_upto_block 0 with fail
  go_cut [7] (fun s7 wx => ∃ (k : Nat) (L : ChL) (x : Chn), k ≤ 150 ∧ CSt W wx (1 + r) k bx L x)
  case first =>
    go_wp2_with fail
    go_loopw [7] (fun i wr => ∃ (k : Nat) (L : ChL) (x : Chn), k ≤ l.length ∧ k ≤ 150 ∧ i = .int .i64 (k : Int) ∧ CSt W wr (1 + r) k bx L x) (fun i _ => 150 - (intOf i).toNat)
    case atStart => exact ⟨0, L0, _, by omega, by omega, rfl, HST7.out⟩
    case round =>
      obtain ⟨k, L, x, hk, hk2, rfl, hc⟩ := hrel
      have HC := Lib.hid hc
      have hk0 : (0 : Int) ≤ (k : Int) := by omega
      obtain ⟨B1, m1, d1, B2, m2, d2, B3, m3, d3, h1, h2, h3⟩ := hc.ch.shapes
      have HL1 := Lib.hid h1
      have HL2 := Lib.hid h2
      have HL3 := Lib.hid h3
      obtain ⟨p0, p1, p2, p3, pz⟩ := Blk3G hc.bk
      rw [h1] at p1
      rw [h2] at p2
      rw [h3] at p3
      clear hc h1 h2 h3
      by_cases hgo : k < l.length ∧ k < 150
      case pos =>
        obtain ⟨hlt, hlt150⟩ := hgo
        obtain ⟨s, hs⟩ : ∃ s, l[k]? = some s := ⟨_, List.getElem?_eq_getElem hlt⟩
        have HS := Lib.hid (HGL.out s (List.mem_of_getElem? hs))
        obtain ⟨g, off, cap, hv, hg, e0, e1, e2, e3, e4, e5, e6⟩ := step_at HSL.out hs HC.out.nw
        rw [HV0.out] at hv
        cases hv
        have hlt2 : (k : Int) < (l.length : Int) := by omega
        have hlt3 : (k : Int) < 150 := by omega
        clear hs
        go_upto_region 7 with fail
        refine wp_region_z [6] (fun w' => (∀ o, w'.cell? ⟨bx, o, none⟩ = wr.cell? ⟨bx, o, none⟩) ∧ (∀ o, w'.cell? ⟨g, o, none⟩ = wr.cell? ⟨g, o, none⟩)) (by kernel_rfl) (⟨fun _ => rfl, fun _ => rfl⟩) (fun hHeld => ?_)
        refine tkZ (i := 0) (oi := ⟨some 36, .load 64 (.tmp 5), 64, "law.go:280", #[], none⟩) (v := ?_) (.inl ⟨by rfl, ?_⟩) ?_
        rotate_left
        · (intro wq hSw; (try dsimp only at hSw); go_simp; first | done | with_reducible rfl)
        try simp only [Act.put, sA, sZ, sS]
        refine tkZ (i := 1) (oi := ⟨some 37, .move (.tmp 1), 60, "law.go:280", #[], none⟩) (v := ?_) (.inl ⟨by rfl, ?_⟩) ?_
        rotate_left
        · (intro wq hSw; (try dsimp only at hSw); go_simp; first | done | with_reducible rfl)
        try simp only [Act.put, sA, sZ, sS]
        refine tkZ (i := 2) (oi := ⟨some 38, .move (.tmp 7), 3, "law.go:280", #[], none⟩) (v := ?_) (.inl ⟨by rfl, ?_⟩) ?_
        rotate_left
        · (intro wq hSw; (try dsimp only at hSw); go_simp; first | done | with_reducible rfl)
        try simp only [Act.put, sA, sZ, sS]
        refine tkZ (i := 3) (oi := ⟨some 39, .indexAddr 60 (.tmp 37) (.tmp 38), 0, "law.go:280", #[⟨1, .data⟩, ⟨2, .data⟩], none⟩) (v := ?_) (.inl ⟨by rfl, ?_⟩) ?_
        rotate_left
        · (intro wq hSw; (try dsimp only at hSw); go_simp; first | done | with_reducible rfl)
        try simp only [Act.put, sA, sZ, sS]
        refine tkZ (i := 4) (oi := ⟨some 40, .load 70 (.tmp 39), 70, "law.go:280", #[⟨3, .data⟩], none⟩) (v := ?_) (.inl ⟨by rfl, ?_⟩) ?_
        rotate_left
        · (intro wq hSw; (try dsimp only at hSw); go_simp; first | done | with_reducible rfl)
        try simp only [Act.put, sA, sZ, sS]
        refine wpZ_ready (rs := [5]) (by kernel_rfl) (by simp) ?_
        refine AllZ.cons (o := ⟨some 41, .call { callee := .value (.func 24), args := #[.tmp 36, .tmp 40], argTypes := #[64, 70] }, 64, "law.go:280", #[⟨0, .data⟩, ⟨4, .data⟩], none⟩) rfl (fun K hK => ?_) AllZ.nil
        go_simp
        rw [← HL1.out, ← HL2.out, ← HL3.out]
        refine (HC.out.new (New.refl wr).drew |>.call (s := s) (by omega) (by omega) (by omega) HS.out).mono ?_
        rintro e w5 ⟨L5, rfl, hp5⟩
        have hp5 := ChPost.pre (New.refl wr).drew hp5
        obtain ⟨A1, n1, c1, A2, n2, c2, A3, n3, c3, h1, h2, h3⟩ := hp5.1.shapes
        rw [h1, h2, h3]
        have k0 := fun o => keepR hp5.2.2.2.2 HC.out.bk.lt (HC.out.ch.boxF HC.out.bk).1 o
        have k1 := fun o => keepR hp5.2.2.2.2 (Nat.lt_of_lt_of_le hg HC.out.nw.size) (fun hk => by have := HC.out.ge _ hk; omega) o
        have HC5 : Hid (CSt W (((w5.setCell ⟨bx, 0, none⟩ (.slice A1 n1 c1)).setCell ⟨bx, 1, none⟩ (.slice A2 n2 c2)).setCell ⟨bx, 2, none⟩ (.slice A3 n3 c3)) (1 + r) (k + 1) bx L5 (x.step (1 + r) s.stp)) := Lib.hid (HC.out.next (by omega) (by omega) s.stp hp5 (by rw [h1, h2, h3]))
        have hb5 := HC.out.bk.upd hp5.2.2.2.2 (HC.out.ch.boxF HC.out.bk).1
        obtain ⟨b0, b1, b2, b3, bz⟩ := Blk3G hb5
        rw [HL1.out] at b1
        rw [HL2.out] at b2
        rw [HL3.out] at b3
        clear hp5 hb5 h1 h2 h3
        refine hK.out _ _ ?_ (fun hHeld => ?_)
        · exact ⟨k0, k1⟩
        clear hK K
        try simp only [Act.put, sA, sZ, sS]
        refine wpZ_ready (rs := [6]) (by kernel_rfl) (by simp) ?_
        refine AllZ.consZ (o := ⟨none, .store 64 (.tmp 5) (.tmp 41), 0, "law.go:280", #[⟨5, .data⟩, ⟨5, .chain⟩, ⟨0, .phase⟩, ⟨1, .phase⟩, ⟨2, .phase⟩, ⟨3, .phase⟩, ⟨4, .phase⟩, ⟨5, .phase⟩], none⟩) rfl (by kernel_rfl) (fun K hK => ?_) AllZ.nil
        go_simp
        refine hK.out _ _ ?_
        clear hK K
        try simp only [Act.put, sA, sZ, sS]
        refine wpZ_done (by kernel_rfl) ?_ _
        clear hHeld k0 k1 b0 b1 b2 b3 bz e0 e1 e2 e3 e4 e5 e6 p0 p1 p2 p3 pz
        generalize ((w5.setCell ⟨bx, 0, none⟩ (.slice A1 n1 c1)).setCell ⟨bx, 1, none⟩ (.slice A2 n2 c2)).setCell ⟨bx, 2, none⟩ (.slice A3 n3 c3) = w8 at *
        have HC9 := HC5
        go_wp2_with fail
        go_roundw
        case rel => exact ⟨k + 1, L5, _, by omega, by omega, by go_num, HC9.out⟩
        case measure => simp [intOf]; omega
      case neg =>
        by_cases hlt : k < l.length
        · have hlt2 : (k : Int) < (l.length : Int) := by omega
          have hlt3 : ¬ (k : Int) < 150 := by omega
          clear hgo
          go_wp2_with fail
          go_meet
          exact ⟨k, L, x, by omega, HC.out⟩
        · have hlt2 : ¬ (k : Int) < (l.length : Int) := by omega
          clear hgo
          go_wp2_with fail
          go_meet
          exact ⟨k, L, x, by omega, HC.out⟩

  case rest =>
    obtain ⟨k0, L, x, hk150, hc⟩ := hcut
    have HC := Lib.hid hc
    obtain ⟨B1, m1, d1, B2, m2, d2, B3, m3, d3, h1, h2, h3⟩ := hc.ch.shapes
    have hm1 : m1 = 1 + r := by obtain ⟨a, c, e⟩ := hc.ch.l.shape; rw [h1] at e; cases e; simp
    subst hm1
    have HL1 := Lib.hid h1
    clear hc h1 h2 h3
    go_wp2_with fail
    go_loopw [8, 9, 10, 11] (fun u8 _ _ _ wr => ∃ i : Nat, i ≤ 1 + r ∧ u8 = .int .i64 (i : Int) ∧ New wc wr) (fun u8 _ _ _ _ => 1 + r - (intOf u8).toNat)
    case atStart => exact ⟨0, by omega, rfl, New.refl _⟩
    case round =>
      obtain ⟨i, hi, rfl, hn⟩ := hrel
      have HCR := Lib.hid (HC.out.new hn)
      have HNR := Lib.hid hn
      have hi0 : (0 : Int) ≤ (i : Int) := by omega
      obtain ⟨p0, p1, p2, p3, pz⟩ := Blk3G HCR.out.bk
      rw [HL1.out] at p1
      clear hn
      by_cases hlt : i < 1 + r
      · have hlt2 : (i : Int) < ((1 + r : Nat) : Int) := by omega
        obtain ⟨gl, ol, cl2, hlv2, hcl2, el, hgl⟩ := HCR.out.ch.node hlt
        rw [HL1.out] at hlv2
        cases hlv2
        have HRP := Lib.hid (HCR.out.ch.rp i hlt)
        have HG := Lib.hid (HCR.out.on i hlt).1
        go_wp2_with fail
        refine (rlist HRP.out (by omega)).mono ?_
        rintro e w5 ⟨vL, rfl, hrL, hn5⟩
        obtain ⟨AL, cL, hvL⟩ := hrL.shape
        have HVL := Lib.hid hvL
        rw [hvL]
        have HROW := Lib.hid hrL.low
        have HN5 := Lib.hid (HNR.out.trans hn5)
        have hll2 := HRP.out.ll
        have HLL : Hid ((x.rp i).l.length ≤ 4000) := Lib.hid (by omega)
        clear p0 p1 p2 p3 pz el hgl hrL hn5 hvL hll2
        go_wp2_with fail
        obtain ⟨wo, rfl⟩ : ∃ wo, wo = wr := ⟨_, rfl⟩
        go_loopw [10, 11] (fun u10 _ wr => ∃ k : Nat, k ≤ (x.rp i).l.length ∧ u10 = .int .i64 (k : Int) ∧ New w5 wr) (fun u10 _ _ => (x.rp i).l.length - (intOf u10).toNat)
        case atStart => exact ⟨0, by omega, rfl, New.refl _⟩
        case round =>
          obtain ⟨k, hk, rfl, hnr⟩ := hrel
          have HNR2 := Lib.hid hnr
          have hk0 : (0 : Int) ≤ (k : Int) := by omega
          by_cases hkl : k < (x.rp i).l.length
          · have hkl2 : (k : Int) < ((x.rp i).l.length : Int) := by omega
            obtain ⟨bk, hbk⟩ : ∃ b, (x.rp i).l[k]? = some b := ⟨_, List.getElem?_eq_getElem hkl⟩
            obtain ⟨hst, hck, hfr⟩ := HG.out k bk hbk
            obtain ⟨g, off, cap, A, cp, hv, hcap, hba, e0, e1, e2, e3, hg⟩ := (HROW.out.new hnr).at_ hbk
            rw [HVL.out] at hv
            cases hv
            have hst2 : ¬ (k : Int) < (bk.s : Int) := by omega
            have hwk : IntKind.u64.wrap (k : Int) = (k : Int) := IntWalk.u64_in _ (by have := HLL.out; omega)
            have HBA := Lib.hid hba
            have HCK := Lib.hid hck
            have HFR := Lib.hid hfr
            have HBK0 := Lib.hid hbk
            clear hbk hst hck hfr hba hnr
            go_wp2_with (go_at_call 12; refine (refCheck_any bk.c bk.r bk.s _ bk.l wr (by have := HBA.out.ok.l; dsimp only at this; omega) HBA.out.sl.slIn).mono ?_; rintro e w6 ⟨rfl, hn6⟩; rw [HCK.out])
            have HN6 := Lib.hid (HNR2.out.trans hn6)
            clear e0 e1 e2 e3 hg hn6 hst2 hwk
            obtain ⟨wo2, rfl⟩ : ∃ wo2, wo2 = wr := ⟨_, rfl⟩
            go_loopw [11] (fun u11 wr => ∃ j : Nat, j ≤ k ∧ u11 = .int .i64 (j : Int) ∧ New w5 wr) (fun u11 _ => k - (intOf u11).toNat)
            case atStart => exact ⟨0, by omega, rfl, HN6.out⟩
            case round =>
              obtain ⟨j, hj, rfl, hnr⟩ := hrel
              have HNR4 := Lib.hid hnr
              have hj0 : (0 : Int) ≤ (j : Int) := by omega
              by_cases hjk : j < k
              · have hjk2 : (j : Int) < (k : Int) := by omega
                have hjl2 : (j : Int) < ((x.rp i).l.length : Int) := by omega
                obtain ⟨bj, hbj⟩ : ∃ b, (x.rp i).l[j]? = some b := ⟨_, List.getElem?_eq_getElem (by omega)⟩
                obtain ⟨hne, hmt⟩ := HFR.out j bj hjk hbj
                obtain ⟨g, off, cap, A, cp, hv, hcap, hba, e0, e1, e2, e3, hg⟩ := (HROW.out.new hnr).at_ HBK0.out
                obtain ⟨g', off', cap', A', cp', hv', hcap', hbj', f0, f1, f2, f3, hg'⟩ := (HROW.out.new hnr).at_ hbj
                rw [HVL.out] at hv hv'
                cases hv
                cases hv'
                have HBK := Lib.hid hba
                have HBJ := Lib.hid hbj'
                have hwj : IntKind.u64.wrap (j : Int) = (j : Int) := IntWalk.u64_in _ (by have := HLL.out; omega)
                have HMTS := Lib.hid hmt
                clear hbj hba hbj' hnr hmt
                by_cases hcc : bj.c = bk.c
                · have hrr : ¬ bj.r = bk.r := fun e => hne ⟨hcc, e⟩
                  have q1 : ((bj.c : Int) == (bk.c : Int)) = true := by rw [hcc]; simp
                  have q2 : ((bj.r : Int) == (bk.r : Int)) = false := beq_eq_false_iff_ne.2 (by omega)
                  have q3 : (bj.c == bk.c) = true := by simpa using hcc
                  have q4 : (bj.r == bk.r) = false := beq_eq_false_iff_ne.2 hrr
                  clear hcc hrr hne
                  by_cases hsj : bk.s ≤ j
                  · have HMT := Lib.hid (HMTS.out hsj)
                    have hs2 : (bk.s : Int) ≤ (j : Int) := by omega
                    clear hsj
                    go_upto_region 20 with fail
                    refine wp_region_held_drew (S := fun w' => ∀ o, w'.cell? ⟨g, o, none⟩ = wr.cell? ⟨g, o, none⟩) (by kernel_rfl) (fun _ => rfl) (fun hHeld => ?_)
                    refine tkH (i := 0) (oi := ⟨some 82, .move (.tmp 9), 26, "law.go:290", #[], none⟩) (v := ?_) (.inl ⟨by rfl, ?_⟩) ?_
                    rotate_left
                    · (intro wq hSw; (try dsimp only at hSw); go_simp; first | done | with_reducible rfl)
                    try simp only [Act.put, sA, sZ, sS]
                    refine tkH (i := 1) (oi := ⟨some 83, .move (.tmp 11), 3, "law.go:290", #[], none⟩) (v := ?_) (.inl ⟨by rfl, ?_⟩) ?_
                    rotate_left
                    · (intro wq hSw; (try dsimp only at hSw); go_simp; first | done | with_reducible rfl)
                    try simp only [Act.put, sA, sZ, sS]
                    refine tkH (i := 2) (oi := ⟨some 84, .indexAddr 26 (.tmp 82) (.tmp 83), 0, "law.go:290", #[⟨0, .data⟩, ⟨1, .data⟩], none⟩) (v := ?_) (.inl ⟨by rfl, ?_⟩) ?_
                    rotate_left
                    · (intro wq hSw; (try dsimp only at hSw); go_simp; first | done | with_reducible rfl)
                    try simp only [Act.put, sA, sZ, sS]
                    refine tkH (i := 3) (oi := ⟨some 85, .fieldAddr 40 (.tmp 84) 0, 0, "law.go:290", #[⟨2, .data⟩], none⟩) (v := ?_) (.inl ⟨by rfl, ?_⟩) ?_
                    rotate_left
                    · (intro wq hSw; (try dsimp only at hSw); go_simp; first | done | with_reducible rfl)
                    try simp only [Act.put, sA, sZ, sS]
                    refine tkH (i := 4) (oi := ⟨some 86, .load 22 (.tmp 85), 22, "law.go:290", #[⟨3, .data⟩], none⟩) (v := ?_) (.inl ⟨by rfl, ?_⟩) ?_
                    rotate_left
                    · (intro wq hSw; (try dsimp only at hSw); go_simp; first | done | with_reducible rfl)
                    try simp only [Act.put, sA, sZ, sS]
                    refine tkH (i := 5) (oi := ⟨some 87, .move (.tmp 9), 26, "law.go:290", #[], none⟩) (v := ?_) (.inl ⟨by rfl, ?_⟩) ?_
                    rotate_left
                    · (intro wq hSw; (try dsimp only at hSw); go_simp; first | done | with_reducible rfl)
                    try simp only [Act.put, sA, sZ, sS]
                    refine tkH (i := 6) (oi := ⟨some 88, .move (.tmp 10), 3, "law.go:290", #[], none⟩) (v := ?_) (.inl ⟨by rfl, ?_⟩) ?_
                    rotate_left
                    · (intro wq hSw; (try dsimp only at hSw); go_simp; first | done | with_reducible rfl)
                    try simp only [Act.put, sA, sZ, sS]
                    refine tkH (i := 7) (oi := ⟨some 89, .indexAddr 26 (.tmp 87) (.tmp 88), 0, "law.go:290", #[⟨5, .data⟩, ⟨6, .data⟩], none⟩) (v := ?_) (.inl ⟨by rfl, ?_⟩) ?_
                    rotate_left
                    · (intro wq hSw; (try dsimp only at hSw); go_simp; first | done | with_reducible rfl)
                    try simp only [Act.put, sA, sZ, sS]
                    refine tkH (i := 8) (oi := ⟨some 90, .fieldAddr 40 (.tmp 89) 0, 0, "law.go:290", #[⟨7, .data⟩], none⟩) (v := ?_) (.inl ⟨by rfl, ?_⟩) ?_
                    rotate_left
                    · (intro wq hSw; (try dsimp only at hSw); go_simp; first | done | with_reducible rfl)
                    try simp only [Act.put, sA, sZ, sS]
                    refine tkH (i := 9) (oi := ⟨some 91, .load 22 (.tmp 90), 22, "law.go:290", #[⟨8, .data⟩], none⟩) (v := ?_) (.inl ⟨by rfl, ?_⟩) ?_
                    rotate_left
                    · (intro wq hSw; (try dsimp only at hSw); go_simp; first | done | with_reducible rfl)
                    try simp only [Act.put, sA, sZ, sS]
                    refine tkH (i := 10) (oi := ⟨some 92, .binOp .eql 22 (.tmp 86) (.tmp 91) 22, 4, "law.go:290", #[⟨4, .data⟩, ⟨9, .data⟩], none⟩) (v := ?_) (.inl ⟨by rfl, ?_⟩) ?_
                    rotate_left
                    · (intro wq hSw; (try dsimp only at hSw); go_simp; first | done | with_reducible rfl)
                    try simp only [Act.put, sA, sZ, sS]
                    refine tkH (i := 11) (oi := ⟨some 93, .move (.tmp 92), 4, "law.go:290", #[⟨10, .data⟩], none⟩) (v := ?_) (.inl ⟨by rfl, ?_⟩) ?_
                    rotate_left
                    · (intro wq hSw; (try dsimp only at hSw); go_simp; first | done | with_reducible rfl)
                    try simp only [Act.put, sA, sZ, sS]
                    refine tkH (i := 12) (oi := ⟨some 94, .move (.tmp 9), 26, "law.go:290", #[⟨11, .guard⟩], some (11, true)⟩) (v := ?_) (.inl ⟨by rfl, ?_⟩) ?_
                    rotate_left
                    · (intro wq hSw; (try dsimp only at hSw); go_simp; first | done | with_reducible rfl)
                    try simp only [Act.put, sA, sZ, sS]
                    refine tkH (i := 13) (oi := ⟨some 95, .move (.tmp 11), 3, "law.go:290", #[⟨11, .guard⟩], some (11, true)⟩) (v := ?_) (.inl ⟨by rfl, ?_⟩) ?_
                    rotate_left
                    · (intro wq hSw; (try dsimp only at hSw); go_simp; first | done | with_reducible rfl)
                    try simp only [Act.put, sA, sZ, sS]
                    refine tkH (i := 14) (oi := ⟨some 96, .indexAddr 26 (.tmp 94) (.tmp 95), 0, "law.go:290", #[⟨12, .data⟩, ⟨13, .data⟩, ⟨11, .guard⟩], some (11, true)⟩) (v := ?_) (.inl ⟨by rfl, ?_⟩) ?_
                    rotate_left
                    · (intro wq hSw; (try dsimp only at hSw); go_simp; first | done | with_reducible rfl)
                    try simp only [Act.put, sA, sZ, sS]
                    refine tkH (i := 15) (oi := ⟨some 97, .fieldAddr 40 (.tmp 96) 1, 0, "law.go:290", #[⟨14, .data⟩, ⟨11, .guard⟩], some (11, true)⟩) (v := ?_) (.inl ⟨by rfl, ?_⟩) ?_
                    rotate_left
                    · (intro wq hSw; (try dsimp only at hSw); go_simp; first | done | with_reducible rfl)
                    try simp only [Act.put, sA, sZ, sS]
                    refine tkH (i := 16) (oi := ⟨some 98, .load 22 (.tmp 97), 22, "law.go:290", #[⟨15, .data⟩, ⟨11, .guard⟩], some (11, true)⟩) (v := ?_) (.inl ⟨by rfl, ?_⟩) ?_
                    rotate_left
                    · (intro wq hSw; (try dsimp only at hSw); go_simp; first | done | with_reducible rfl)
                    try simp only [Act.put, sA, sZ, sS]
                    refine tkH (i := 17) (oi := ⟨some 99, .move (.tmp 9), 26, "law.go:290", #[⟨11, .guard⟩], some (11, true)⟩) (v := ?_) (.inl ⟨by rfl, ?_⟩) ?_
                    rotate_left
                    · (intro wq hSw; (try dsimp only at hSw); go_simp; first | done | with_reducible rfl)
                    try simp only [Act.put, sA, sZ, sS]
                    refine tkH (i := 18) (oi := ⟨some 100, .move (.tmp 10), 3, "law.go:290", #[⟨11, .guard⟩], some (11, true)⟩) (v := ?_) (.inl ⟨by rfl, ?_⟩) ?_
                    rotate_left
                    · (intro wq hSw; (try dsimp only at hSw); go_simp; first | done | with_reducible rfl)
                    try simp only [Act.put, sA, sZ, sS]
                    refine tkH (i := 19) (oi := ⟨some 101, .indexAddr 26 (.tmp 99) (.tmp 100), 0, "law.go:290", #[⟨17, .data⟩, ⟨18, .data⟩, ⟨11, .guard⟩], some (11, true)⟩) (v := ?_) (.inl ⟨by rfl, ?_⟩) ?_
                    rotate_left
                    · (intro wq hSw; (try dsimp only at hSw); go_simp; first | done | with_reducible rfl)
                    try simp only [Act.put, sA, sZ, sS]
                    refine tkH (i := 20) (oi := ⟨some 102, .fieldAddr 40 (.tmp 101) 1, 0, "law.go:290", #[⟨19, .data⟩, ⟨11, .guard⟩], some (11, true)⟩) (v := ?_) (.inl ⟨by rfl, ?_⟩) ?_
                    rotate_left
                    · (intro wq hSw; (try dsimp only at hSw); go_simp; first | done | with_reducible rfl)
                    try simp only [Act.put, sA, sZ, sS]
                    refine tkH (i := 21) (oi := ⟨some 103, .load 22 (.tmp 102), 22, "law.go:290", #[⟨20, .data⟩, ⟨11, .guard⟩], some (11, true)⟩) (v := ?_) (.inl ⟨by rfl, ?_⟩) ?_
                    rotate_left
                    · (intro wq hSw; (try dsimp only at hSw); go_simp; first | done | with_reducible rfl)
                    try simp only [Act.put, sA, sZ, sS]
                    refine tkH (i := 22) (oi := ⟨some 104, .binOp .eql 22 (.tmp 98) (.tmp 103) 22, 4, "law.go:290", #[⟨16, .data⟩, ⟨21, .data⟩, ⟨11, .guard⟩], some (11, true)⟩) (v := ?_) (.inl ⟨by rfl, ?_⟩) ?_
                    rotate_left
                    · (intro wq hSw; (try dsimp only at hSw); go_simp; first | done | with_reducible rfl)
                    try simp only [Act.put, sA, sZ, sS]
                    refine tkH (i := 23) (oi := ⟨some 105, .pick (.tmp 93) (.tmp 104) (.const (.bool false)), 4, "law.go:290", #[⟨11, .data⟩, ⟨22, .data⟩], none⟩) (v := ?_) (.inl ⟨by rfl, ?_⟩) ?_
                    rotate_left
                    · (intro wq hSw; (try dsimp only at hSw); go_simp; first | done | with_reducible rfl)
                    try simp only [Act.put, sA, sZ, sS]
                    refine tkH (i := 24) (oi := ⟨some 106, .move (.tmp 105), 4, "law.go:290", #[⟨23, .data⟩, ⟨11, .chain⟩], none⟩) (v := ?_) (.inl ⟨by rfl, ?_⟩) ?_
                    rotate_left
                    · (intro wq hSw; (try dsimp only at hSw); go_simp; first | done | with_reducible rfl)
                    try simp only [Act.put, sA, sZ, sS]
                    refine tkH (i := 25) (oi := ⟨some 107, .move (.tmp 11), 3, "law.go:290", #[⟨24, .guard⟩], some (24, false)⟩) (v := ?_) (.inl ⟨by rfl, ?_⟩) ?_
                    rotate_left
                    · (intro wq hSw; (try dsimp only at hSw); go_simp; first | done | with_reducible rfl)
                    try simp only [Act.put, sA, sZ, sS]
                    refine tkH (i := 26) (oi := ⟨some 108, .convert 3 22 (.tmp 107), 22, "law.go:290", #[⟨25, .data⟩, ⟨24, .guard⟩], some (24, false)⟩) (v := ?_) (.inl ⟨by rfl, ?_⟩) ?_
                    rotate_left
                    · (intro wq hSw; (try dsimp only at hSw); go_simp; first | done | with_reducible rfl)
                    try simp only [Act.put, sA, sZ, sS]
                    refine tkH (i := 27) (oi := ⟨some 109, .move (.tmp 9), 26, "law.go:290", #[⟨24, .guard⟩], some (24, false)⟩) (v := ?_) (.inl ⟨by rfl, ?_⟩) ?_
                    rotate_left
                    · (intro wq hSw; (try dsimp only at hSw); go_simp; first | done | with_reducible rfl)
                    try simp only [Act.put, sA, sZ, sS]
                    refine tkH (i := 28) (oi := ⟨some 110, .move (.tmp 10), 3, "law.go:290", #[⟨24, .guard⟩], some (24, false)⟩) (v := ?_) (.inl ⟨by rfl, ?_⟩) ?_
                    rotate_left
                    · (intro wq hSw; (try dsimp only at hSw); go_simp; first | done | with_reducible rfl)
                    try simp only [Act.put, sA, sZ, sS]
                    refine tkH (i := 29) (oi := ⟨some 111, .indexAddr 26 (.tmp 109) (.tmp 110), 0, "law.go:290", #[⟨27, .data⟩, ⟨28, .data⟩, ⟨24, .guard⟩], some (24, false)⟩) (v := ?_) (.inl ⟨by rfl, ?_⟩) ?_
                    rotate_left
                    · (intro wq hSw; (try dsimp only at hSw); go_simp; first | done | with_reducible rfl)
                    try simp only [Act.put, sA, sZ, sS]
                    refine tkH (i := 30) (oi := ⟨some 112, .fieldAddr 40 (.tmp 111) 2, 0, "law.go:290", #[⟨29, .data⟩, ⟨24, .guard⟩], some (24, false)⟩) (v := ?_) (.inl ⟨by rfl, ?_⟩) ?_
                    rotate_left
                    · (intro wq hSw; (try dsimp only at hSw); go_simp; first | done | with_reducible rfl)
                    try simp only [Act.put, sA, sZ, sS]
                    refine tkH (i := 31) (oi := ⟨some 113, .load 22 (.tmp 112), 22, "law.go:290", #[⟨30, .data⟩, ⟨24, .guard⟩], some (24, false)⟩) (v := ?_) (.inl ⟨by rfl, ?_⟩) ?_
                    rotate_left
                    · (intro wq hSw; (try dsimp only at hSw); go_simp; first | done | with_reducible rfl)
                    try simp only [Act.put, sA, sZ, sS]
                    refine tkH (i := 32) (oi := ⟨some 114, .binOp .geq 22 (.tmp 108) (.tmp 113) 22, 4, "law.go:290", #[⟨26, .data⟩, ⟨31, .data⟩, ⟨24, .guard⟩], some (24, false)⟩) (v := ?_) (.inl ⟨by rfl, ?_⟩) ?_
                    rotate_left
                    · (intro wq hSw; (try dsimp only at hSw); go_simp; first | done | with_reducible rfl)
                    try simp only [Act.put, sA, sZ, sS]
                    refine tkH (i := 33) (oi := ⟨some 115, .move (.tmp 114), 4, "law.go:290", #[⟨32, .data⟩, ⟨24, .chain⟩, ⟨24, .guard⟩], some (24, false)⟩) (v := ?_) (.inl ⟨by rfl, ?_⟩) ?_
                    rotate_left
                    · (intro wq hSw; (try dsimp only at hSw); go_simp; first | done | with_reducible rfl)
                    try simp only [Act.put, sA, sZ, sS]
                    refine tkH (i := 34) (oi := ⟨some 116, .move (.tmp 9), 26, "law.go:290", #[⟨33, .guard⟩], some (33, true)⟩) (v := ?_) (.inl ⟨by rfl, ?_⟩) ?_
                    rotate_left
                    · (intro wq hSw; (try dsimp only at hSw); go_simp; first | done | with_reducible rfl)
                    try simp only [Act.put, sA, sZ, sS]
                    refine tkH (i := 35) (oi := ⟨some 117, .move (.tmp 11), 3, "law.go:290", #[⟨33, .guard⟩], some (33, true)⟩) (v := ?_) (.inl ⟨by rfl, ?_⟩) ?_
                    rotate_left
                    · (intro wq hSw; (try dsimp only at hSw); go_simp; first | done | with_reducible rfl)
                    try simp only [Act.put, sA, sZ, sS]
                    refine tkH (i := 36) (oi := ⟨some 118, .indexAddr 26 (.tmp 116) (.tmp 117), 0, "law.go:290", #[⟨34, .data⟩, ⟨35, .data⟩, ⟨33, .guard⟩], some (33, true)⟩) (v := ?_) (.inl ⟨by rfl, ?_⟩) ?_
                    rotate_left
                    · (intro wq hSw; (try dsimp only at hSw); go_simp; first | done | with_reducible rfl)
                    try simp only [Act.put, sA, sZ, sS]
                    refine tkH (i := 37) (oi := ⟨some 119, .load 40 (.tmp 118), 40, "law.go:290", #[⟨36, .data⟩, ⟨33, .guard⟩], some (33, true)⟩) (v := ?_) (.inl ⟨by rfl, ?_⟩) ?_
                    rotate_left
                    · (intro wq hSw; (try dsimp only at hSw); go_simp; first | done | with_reducible rfl)
                    try simp only [Act.put, sA, sZ, sS]
                    refine tkH (i := 38) (oi := ⟨some 120, .move (.tmp 9), 26, "law.go:290", #[⟨33, .guard⟩], some (33, true)⟩) (v := ?_) (.inl ⟨by rfl, ?_⟩) ?_
                    rotate_left
                    · (intro wq hSw; (try dsimp only at hSw); go_simp; first | done | with_reducible rfl)
                    try simp only [Act.put, sA, sZ, sS]
                    refine tkH (i := 39) (oi := ⟨some 121, .move (.tmp 10), 3, "law.go:290", #[⟨33, .guard⟩], some (33, true)⟩) (v := ?_) (.inl ⟨by rfl, ?_⟩) ?_
                    rotate_left
                    · (intro wq hSw; (try dsimp only at hSw); go_simp; first | done | with_reducible rfl)
                    try simp only [Act.put, sA, sZ, sS]
                    refine tkH (i := 40) (oi := ⟨some 122, .indexAddr 26 (.tmp 120) (.tmp 121), 0, "law.go:290", #[⟨38, .data⟩, ⟨39, .data⟩, ⟨33, .guard⟩], some (33, true)⟩) (v := ?_) (.inl ⟨by rfl, ?_⟩) ?_
                    rotate_left
                    · (intro wq hSw; (try dsimp only at hSw); go_simp; first | done | with_reducible rfl)
                    try simp only [Act.put, sA, sZ, sS]
                    refine tkH (i := 41) (oi := ⟨some 123, .load 40 (.tmp 122), 40, "law.go:290", #[⟨40, .data⟩, ⟨33, .guard⟩], some (33, true)⟩) (v := ?_) (.inl ⟨by rfl, ?_⟩) ?_
                    rotate_left
                    · (intro wq hSw; (try dsimp only at hSw); go_simp; first | done | with_reducible rfl)
                    try simp only [Act.put, sA, sZ, sS]
                    refine wpAnyH_ready (rs := [42]) (by kernel_rfl) (by simp) ?_
                    refine AllReadyH.cons (o := ⟨some 124, .call { callee := .value (.func 26), args := #[.tmp 119, .tmp 123], argTypes := #[40, 40] }, 4, "law.go:290", #[⟨37, .data⟩, ⟨41, .data⟩, ⟨33, .chain⟩, ⟨33, .guard⟩], some (33, true)⟩) rfl (fun K hK => ?_) AllReadyH.nil
                    go_simp
                    refine (refMeets_any bj.c bj.r bj.s _ bj.l bk.c bk.r bk.s _ bk.l wr.drew (by have := HBJ.out.ok.l; dsimp only at this; omega) (by have := HBK.out.ok.l; dsimp only at this; omega) (HBJ.out.sl.slIn.new (New.refl wr).drew) (HBK.out.sl.slIn.new (New.refl wr).drew)).mono ?_
                    rintro e w7 ⟨rfl, hn7⟩
                    have hn7W := (New.refl wr).drew.trans hn7
                    have HN7 := Lib.hid (HNR4.out.trans hn7W)
                    rw [HMT.out]
                    have j0 := fun o => keepR (S := fun _ => False) (Upd.new hn7W) hg (fun h => h) o
                    refine hK.out _ _ ?_ (fun hHeld => ?_)
                    · exact j0
                    clear hK K
                    try simp only [Act.put, sA, sZ, sS]
                    refine tkH (i := 43) (oi := ⟨some 125, .pick (.tmp 115) (.tmp 124) (.const (.bool false)), 4, "law.go:290", #[⟨33, .data⟩, ⟨42, .data⟩, ⟨24, .guard⟩], some (24, false)⟩) (v := ?_) (.inl ⟨by rfl, ?_⟩) ?_
                    rotate_left
                    · (intro wq hSw; (try dsimp only at hSw); go_simp; first | done | with_reducible rfl)
                    try simp only [Act.put, sA, sZ, sS]
                    refine tkH (i := 44) (oi := ⟨some 126, .pick (.tmp 106) (.const (.bool true)) (.tmp 125), 4, "law.go:290", #[⟨24, .data⟩, ⟨43, .data⟩], none⟩) (v := ?_) (.inl ⟨by rfl, ?_⟩) ?_
                    rotate_left
                    · (intro wq hSw; (try dsimp only at hSw); go_simp; first | done | with_reducible rfl)
                    try simp only [Act.put, sA, sZ, sS]
                    refine wpAnyH_done (by kernel_rfl) ?_ _
                    clear hHeld
                    have hbl := HLL.out
                    go_wp2_with fail
                    go_roundw
                    case rel => exact ⟨j + 1, by omega, by go_num, HN7.out⟩
                    case measure => simp [intOf]; omega
                  · have hs2 : ¬ (bk.s : Int) ≤ (j : Int) := by omega
                    clear hsj
                    go_upto_region 20 with fail
                    refine wp_region_held_drew (S := fun w' => ∀ o, w'.cell? ⟨g, o, none⟩ = wr.cell? ⟨g, o, none⟩) (by kernel_rfl) (fun _ => rfl) (fun hHeld => ?_)
                    refine tkH (i := 0) (oi := ⟨some 82, .move (.tmp 9), 26, "law.go:290", #[], none⟩) (v := ?_) (.inl ⟨by rfl, ?_⟩) ?_
                    rotate_left
                    · (intro wq hSw; (try dsimp only at hSw); go_simp; first | done | with_reducible rfl)
                    try simp only [Act.put, sA, sZ, sS]
                    refine tkH (i := 1) (oi := ⟨some 83, .move (.tmp 11), 3, "law.go:290", #[], none⟩) (v := ?_) (.inl ⟨by rfl, ?_⟩) ?_
                    rotate_left
                    · (intro wq hSw; (try dsimp only at hSw); go_simp; first | done | with_reducible rfl)
                    try simp only [Act.put, sA, sZ, sS]
                    refine tkH (i := 2) (oi := ⟨some 84, .indexAddr 26 (.tmp 82) (.tmp 83), 0, "law.go:290", #[⟨0, .data⟩, ⟨1, .data⟩], none⟩) (v := ?_) (.inl ⟨by rfl, ?_⟩) ?_
                    rotate_left
                    · (intro wq hSw; (try dsimp only at hSw); go_simp; first | done | with_reducible rfl)
                    try simp only [Act.put, sA, sZ, sS]
                    refine tkH (i := 3) (oi := ⟨some 85, .fieldAddr 40 (.tmp 84) 0, 0, "law.go:290", #[⟨2, .data⟩], none⟩) (v := ?_) (.inl ⟨by rfl, ?_⟩) ?_
                    rotate_left
                    · (intro wq hSw; (try dsimp only at hSw); go_simp; first | done | with_reducible rfl)
                    try simp only [Act.put, sA, sZ, sS]
                    refine tkH (i := 4) (oi := ⟨some 86, .load 22 (.tmp 85), 22, "law.go:290", #[⟨3, .data⟩], none⟩) (v := ?_) (.inl ⟨by rfl, ?_⟩) ?_
                    rotate_left
                    · (intro wq hSw; (try dsimp only at hSw); go_simp; first | done | with_reducible rfl)
                    try simp only [Act.put, sA, sZ, sS]
                    refine tkH (i := 5) (oi := ⟨some 87, .move (.tmp 9), 26, "law.go:290", #[], none⟩) (v := ?_) (.inl ⟨by rfl, ?_⟩) ?_
                    rotate_left
                    · (intro wq hSw; (try dsimp only at hSw); go_simp; first | done | with_reducible rfl)
                    try simp only [Act.put, sA, sZ, sS]
                    refine tkH (i := 6) (oi := ⟨some 88, .move (.tmp 10), 3, "law.go:290", #[], none⟩) (v := ?_) (.inl ⟨by rfl, ?_⟩) ?_
                    rotate_left
                    · (intro wq hSw; (try dsimp only at hSw); go_simp; first | done | with_reducible rfl)
                    try simp only [Act.put, sA, sZ, sS]
                    refine tkH (i := 7) (oi := ⟨some 89, .indexAddr 26 (.tmp 87) (.tmp 88), 0, "law.go:290", #[⟨5, .data⟩, ⟨6, .data⟩], none⟩) (v := ?_) (.inl ⟨by rfl, ?_⟩) ?_
                    rotate_left
                    · (intro wq hSw; (try dsimp only at hSw); go_simp; first | done | with_reducible rfl)
                    try simp only [Act.put, sA, sZ, sS]
                    refine tkH (i := 8) (oi := ⟨some 90, .fieldAddr 40 (.tmp 89) 0, 0, "law.go:290", #[⟨7, .data⟩], none⟩) (v := ?_) (.inl ⟨by rfl, ?_⟩) ?_
                    rotate_left
                    · (intro wq hSw; (try dsimp only at hSw); go_simp; first | done | with_reducible rfl)
                    try simp only [Act.put, sA, sZ, sS]
                    refine tkH (i := 9) (oi := ⟨some 91, .load 22 (.tmp 90), 22, "law.go:290", #[⟨8, .data⟩], none⟩) (v := ?_) (.inl ⟨by rfl, ?_⟩) ?_
                    rotate_left
                    · (intro wq hSw; (try dsimp only at hSw); go_simp; first | done | with_reducible rfl)
                    try simp only [Act.put, sA, sZ, sS]
                    refine tkH (i := 10) (oi := ⟨some 92, .binOp .eql 22 (.tmp 86) (.tmp 91) 22, 4, "law.go:290", #[⟨4, .data⟩, ⟨9, .data⟩], none⟩) (v := ?_) (.inl ⟨by rfl, ?_⟩) ?_
                    rotate_left
                    · (intro wq hSw; (try dsimp only at hSw); go_simp; first | done | with_reducible rfl)
                    try simp only [Act.put, sA, sZ, sS]
                    refine tkH (i := 11) (oi := ⟨some 93, .move (.tmp 92), 4, "law.go:290", #[⟨10, .data⟩], none⟩) (v := ?_) (.inl ⟨by rfl, ?_⟩) ?_
                    rotate_left
                    · (intro wq hSw; (try dsimp only at hSw); go_simp; first | done | with_reducible rfl)
                    try simp only [Act.put, sA, sZ, sS]
                    refine tkH (i := 12) (oi := ⟨some 94, .move (.tmp 9), 26, "law.go:290", #[⟨11, .guard⟩], some (11, true)⟩) (v := ?_) (.inl ⟨by rfl, ?_⟩) ?_
                    rotate_left
                    · (intro wq hSw; (try dsimp only at hSw); go_simp; first | done | with_reducible rfl)
                    try simp only [Act.put, sA, sZ, sS]
                    refine tkH (i := 13) (oi := ⟨some 95, .move (.tmp 11), 3, "law.go:290", #[⟨11, .guard⟩], some (11, true)⟩) (v := ?_) (.inl ⟨by rfl, ?_⟩) ?_
                    rotate_left
                    · (intro wq hSw; (try dsimp only at hSw); go_simp; first | done | with_reducible rfl)
                    try simp only [Act.put, sA, sZ, sS]
                    refine tkH (i := 14) (oi := ⟨some 96, .indexAddr 26 (.tmp 94) (.tmp 95), 0, "law.go:290", #[⟨12, .data⟩, ⟨13, .data⟩, ⟨11, .guard⟩], some (11, true)⟩) (v := ?_) (.inl ⟨by rfl, ?_⟩) ?_
                    rotate_left
                    · (intro wq hSw; (try dsimp only at hSw); go_simp; first | done | with_reducible rfl)
                    try simp only [Act.put, sA, sZ, sS]
                    refine tkH (i := 15) (oi := ⟨some 97, .fieldAddr 40 (.tmp 96) 1, 0, "law.go:290", #[⟨14, .data⟩, ⟨11, .guard⟩], some (11, true)⟩) (v := ?_) (.inl ⟨by rfl, ?_⟩) ?_
                    rotate_left
                    · (intro wq hSw; (try dsimp only at hSw); go_simp; first | done | with_reducible rfl)
                    try simp only [Act.put, sA, sZ, sS]
                    refine tkH (i := 16) (oi := ⟨some 98, .load 22 (.tmp 97), 22, "law.go:290", #[⟨15, .data⟩, ⟨11, .guard⟩], some (11, true)⟩) (v := ?_) (.inl ⟨by rfl, ?_⟩) ?_
                    rotate_left
                    · (intro wq hSw; (try dsimp only at hSw); go_simp; first | done | with_reducible rfl)
                    try simp only [Act.put, sA, sZ, sS]
                    refine tkH (i := 17) (oi := ⟨some 99, .move (.tmp 9), 26, "law.go:290", #[⟨11, .guard⟩], some (11, true)⟩) (v := ?_) (.inl ⟨by rfl, ?_⟩) ?_
                    rotate_left
                    · (intro wq hSw; (try dsimp only at hSw); go_simp; first | done | with_reducible rfl)
                    try simp only [Act.put, sA, sZ, sS]
                    refine tkH (i := 18) (oi := ⟨some 100, .move (.tmp 10), 3, "law.go:290", #[⟨11, .guard⟩], some (11, true)⟩) (v := ?_) (.inl ⟨by rfl, ?_⟩) ?_
                    rotate_left
                    · (intro wq hSw; (try dsimp only at hSw); go_simp; first | done | with_reducible rfl)
                    try simp only [Act.put, sA, sZ, sS]
                    refine tkH (i := 19) (oi := ⟨some 101, .indexAddr 26 (.tmp 99) (.tmp 100), 0, "law.go:290", #[⟨17, .data⟩, ⟨18, .data⟩, ⟨11, .guard⟩], some (11, true)⟩) (v := ?_) (.inl ⟨by rfl, ?_⟩) ?_
                    rotate_left
                    · (intro wq hSw; (try dsimp only at hSw); go_simp; first | done | with_reducible rfl)
                    try simp only [Act.put, sA, sZ, sS]
                    refine tkH (i := 20) (oi := ⟨some 102, .fieldAddr 40 (.tmp 101) 1, 0, "law.go:290", #[⟨19, .data⟩, ⟨11, .guard⟩], some (11, true)⟩) (v := ?_) (.inl ⟨by rfl, ?_⟩) ?_
                    rotate_left
                    · (intro wq hSw; (try dsimp only at hSw); go_simp; first | done | with_reducible rfl)
                    try simp only [Act.put, sA, sZ, sS]
                    refine tkH (i := 21) (oi := ⟨some 103, .load 22 (.tmp 102), 22, "law.go:290", #[⟨20, .data⟩, ⟨11, .guard⟩], some (11, true)⟩) (v := ?_) (.inl ⟨by rfl, ?_⟩) ?_
                    rotate_left
                    · (intro wq hSw; (try dsimp only at hSw); go_simp; first | done | with_reducible rfl)
                    try simp only [Act.put, sA, sZ, sS]
                    refine tkH (i := 22) (oi := ⟨some 104, .binOp .eql 22 (.tmp 98) (.tmp 103) 22, 4, "law.go:290", #[⟨16, .data⟩, ⟨21, .data⟩, ⟨11, .guard⟩], some (11, true)⟩) (v := ?_) (.inl ⟨by rfl, ?_⟩) ?_
                    rotate_left
                    · (intro wq hSw; (try dsimp only at hSw); go_simp; first | done | with_reducible rfl)
                    try simp only [Act.put, sA, sZ, sS]
                    refine tkH (i := 23) (oi := ⟨some 105, .pick (.tmp 93) (.tmp 104) (.const (.bool false)), 4, "law.go:290", #[⟨11, .data⟩, ⟨22, .data⟩], none⟩) (v := ?_) (.inl ⟨by rfl, ?_⟩) ?_
                    rotate_left
                    · (intro wq hSw; (try dsimp only at hSw); go_simp; first | done | with_reducible rfl)
                    try simp only [Act.put, sA, sZ, sS]
                    refine tkH (i := 24) (oi := ⟨some 106, .move (.tmp 105), 4, "law.go:290", #[⟨23, .data⟩, ⟨11, .chain⟩], none⟩) (v := ?_) (.inl ⟨by rfl, ?_⟩) ?_
                    rotate_left
                    · (intro wq hSw; (try dsimp only at hSw); go_simp; first | done | with_reducible rfl)
                    try simp only [Act.put, sA, sZ, sS]
                    refine tkH (i := 25) (oi := ⟨some 107, .move (.tmp 11), 3, "law.go:290", #[⟨24, .guard⟩], some (24, false)⟩) (v := ?_) (.inl ⟨by rfl, ?_⟩) ?_
                    rotate_left
                    · (intro wq hSw; (try dsimp only at hSw); go_simp; first | done | with_reducible rfl)
                    try simp only [Act.put, sA, sZ, sS]
                    refine tkH (i := 26) (oi := ⟨some 108, .convert 3 22 (.tmp 107), 22, "law.go:290", #[⟨25, .data⟩, ⟨24, .guard⟩], some (24, false)⟩) (v := ?_) (.inl ⟨by rfl, ?_⟩) ?_
                    rotate_left
                    · (intro wq hSw; (try dsimp only at hSw); go_simp; first | done | with_reducible rfl)
                    try simp only [Act.put, sA, sZ, sS]
                    refine tkH (i := 27) (oi := ⟨some 109, .move (.tmp 9), 26, "law.go:290", #[⟨24, .guard⟩], some (24, false)⟩) (v := ?_) (.inl ⟨by rfl, ?_⟩) ?_
                    rotate_left
                    · (intro wq hSw; (try dsimp only at hSw); go_simp; first | done | with_reducible rfl)
                    try simp only [Act.put, sA, sZ, sS]
                    refine tkH (i := 28) (oi := ⟨some 110, .move (.tmp 10), 3, "law.go:290", #[⟨24, .guard⟩], some (24, false)⟩) (v := ?_) (.inl ⟨by rfl, ?_⟩) ?_
                    rotate_left
                    · (intro wq hSw; (try dsimp only at hSw); go_simp; first | done | with_reducible rfl)
                    try simp only [Act.put, sA, sZ, sS]
                    refine tkH (i := 29) (oi := ⟨some 111, .indexAddr 26 (.tmp 109) (.tmp 110), 0, "law.go:290", #[⟨27, .data⟩, ⟨28, .data⟩, ⟨24, .guard⟩], some (24, false)⟩) (v := ?_) (.inl ⟨by rfl, ?_⟩) ?_
                    rotate_left
                    · (intro wq hSw; (try dsimp only at hSw); go_simp; first | done | with_reducible rfl)
                    try simp only [Act.put, sA, sZ, sS]
                    refine tkH (i := 30) (oi := ⟨some 112, .fieldAddr 40 (.tmp 111) 2, 0, "law.go:290", #[⟨29, .data⟩, ⟨24, .guard⟩], some (24, false)⟩) (v := ?_) (.inl ⟨by rfl, ?_⟩) ?_
                    rotate_left
                    · (intro wq hSw; (try dsimp only at hSw); go_simp; first | done | with_reducible rfl)
                    try simp only [Act.put, sA, sZ, sS]
                    refine tkH (i := 31) (oi := ⟨some 113, .load 22 (.tmp 112), 22, "law.go:290", #[⟨30, .data⟩, ⟨24, .guard⟩], some (24, false)⟩) (v := ?_) (.inl ⟨by rfl, ?_⟩) ?_
                    rotate_left
                    · (intro wq hSw; (try dsimp only at hSw); go_simp; first | done | with_reducible rfl)
                    try simp only [Act.put, sA, sZ, sS]
                    refine tkH (i := 32) (oi := ⟨some 114, .binOp .geq 22 (.tmp 108) (.tmp 113) 22, 4, "law.go:290", #[⟨26, .data⟩, ⟨31, .data⟩, ⟨24, .guard⟩], some (24, false)⟩) (v := ?_) (.inl ⟨by rfl, ?_⟩) ?_
                    rotate_left
                    · (intro wq hSw; (try dsimp only at hSw); go_simp; first | done | with_reducible rfl)
                    try simp only [Act.put, sA, sZ, sS]
                    refine tkH (i := 33) (oi := ⟨some 115, .move (.tmp 114), 4, "law.go:290", #[⟨32, .data⟩, ⟨24, .chain⟩, ⟨24, .guard⟩], some (24, false)⟩) (v := ?_) (.inl ⟨by rfl, ?_⟩) ?_
                    rotate_left
                    · (intro wq hSw; (try dsimp only at hSw); go_simp; first | done | with_reducible rfl)
                    try simp only [Act.put, sA, sZ, sS]
                    refine wpAnyH_take (i := 34) (oi := ⟨some 116, .move (.tmp 9), 26, "law.go:290", #[⟨33, .guard⟩], some (33, true)⟩) (v := undef) rfl (by kernel_rfl) (by kernel_rfl) (by kernel_rfl) (fun _ _ _ h => h) (Or.inr ⟨by rfl, rfl⟩) (by assumption) ?_
                    try simp only [Act.put, sA, sZ, sS]
                    refine wpAnyH_take (i := 35) (oi := ⟨some 117, .move (.tmp 11), 3, "law.go:290", #[⟨33, .guard⟩], some (33, true)⟩) (v := undef) rfl (by kernel_rfl) (by kernel_rfl) (by kernel_rfl) (fun _ _ _ h => h) (Or.inr ⟨by rfl, rfl⟩) (by assumption) ?_
                    try simp only [Act.put, sA, sZ, sS]
                    refine wpAnyH_take (i := 36) (oi := ⟨some 118, .indexAddr 26 (.tmp 116) (.tmp 117), 0, "law.go:290", #[⟨34, .data⟩, ⟨35, .data⟩, ⟨33, .guard⟩], some (33, true)⟩) (v := undef) rfl (by kernel_rfl) (by kernel_rfl) (by kernel_rfl) (fun _ _ _ h => h) (Or.inr ⟨by rfl, rfl⟩) (by assumption) ?_
                    try simp only [Act.put, sA, sZ, sS]
                    refine wpAnyH_take (i := 37) (oi := ⟨some 119, .load 40 (.tmp 118), 40, "law.go:290", #[⟨36, .data⟩, ⟨33, .guard⟩], some (33, true)⟩) (v := undef) rfl (by kernel_rfl) (by kernel_rfl) (by kernel_rfl) (fun _ _ _ h => h) (Or.inr ⟨by rfl, rfl⟩) (by assumption) ?_
                    try simp only [Act.put, sA, sZ, sS]
                    refine wpAnyH_take (i := 38) (oi := ⟨some 120, .move (.tmp 9), 26, "law.go:290", #[⟨33, .guard⟩], some (33, true)⟩) (v := undef) rfl (by kernel_rfl) (by kernel_rfl) (by kernel_rfl) (fun _ _ _ h => h) (Or.inr ⟨by rfl, rfl⟩) (by assumption) ?_
                    try simp only [Act.put, sA, sZ, sS]
                    refine wpAnyH_take (i := 39) (oi := ⟨some 121, .move (.tmp 10), 3, "law.go:290", #[⟨33, .guard⟩], some (33, true)⟩) (v := undef) rfl (by kernel_rfl) (by kernel_rfl) (by kernel_rfl) (fun _ _ _ h => h) (Or.inr ⟨by rfl, rfl⟩) (by assumption) ?_
                    try simp only [Act.put, sA, sZ, sS]
                    refine wpAnyH_take (i := 40) (oi := ⟨some 122, .indexAddr 26 (.tmp 120) (.tmp 121), 0, "law.go:290", #[⟨38, .data⟩, ⟨39, .data⟩, ⟨33, .guard⟩], some (33, true)⟩) (v := undef) rfl (by kernel_rfl) (by kernel_rfl) (by kernel_rfl) (fun _ _ _ h => h) (Or.inr ⟨by rfl, rfl⟩) (by assumption) ?_
                    try simp only [Act.put, sA, sZ, sS]
                    refine wpAnyH_take (i := 41) (oi := ⟨some 123, .load 40 (.tmp 122), 40, "law.go:290", #[⟨40, .data⟩, ⟨33, .guard⟩], some (33, true)⟩) (v := undef) rfl (by kernel_rfl) (by kernel_rfl) (by kernel_rfl) (fun _ _ _ h => h) (Or.inr ⟨by rfl, rfl⟩) (by assumption) ?_
                    try simp only [Act.put, sA, sZ, sS]
                    refine wpAnyH_take (i := 42) (oi := ⟨some 124, .call { callee := .value (.func 26), args := #[.tmp 119, .tmp 123], argTypes := #[40, 40] }, 4, "law.go:290", #[⟨37, .data⟩, ⟨41, .data⟩, ⟨33, .chain⟩, ⟨33, .guard⟩], some (33, true)⟩) (v := undef) rfl (by kernel_rfl) (by kernel_rfl) (by kernel_rfl) (fun _ _ _ h => h) (Or.inr ⟨by rfl, rfl⟩) (by assumption) ?_
                    try simp only [Act.put, sA, sZ, sS]
                    refine tkH (i := 43) (oi := ⟨some 125, .pick (.tmp 115) (.tmp 124) (.const (.bool false)), 4, "law.go:290", #[⟨33, .data⟩, ⟨42, .data⟩, ⟨24, .guard⟩], some (24, false)⟩) (v := ?_) (.inl ⟨by rfl, ?_⟩) ?_
                    rotate_left
                    · (intro wq hSw; (try dsimp only at hSw); go_simp; first | done | with_reducible rfl)
                    try simp only [Act.put, sA, sZ, sS]
                    refine tkH (i := 44) (oi := ⟨some 126, .pick (.tmp 106) (.const (.bool true)) (.tmp 125), 4, "law.go:290", #[⟨24, .data⟩, ⟨43, .data⟩], none⟩) (v := ?_) (.inl ⟨by rfl, ?_⟩) ?_
                    rotate_left
                    · (intro wq hSw; (try dsimp only at hSw); go_simp; first | done | with_reducible rfl)
                    try simp only [Act.put, sA, sZ, sS]
                    refine wpAnyH_done (by kernel_rfl) ?_ _
                    clear hHeld
                    have HN7 := Lib.hid (HNR4.out.trans (New.refl wr).drew)
                    have hbl := HLL.out
                    go_wp2_with fail
                    go_roundw
                    case rel => exact ⟨j + 1, by omega, by go_num, HN7.out⟩
                    case measure => simp [intOf]; omega
                · have q1 : ((bj.c : Int) == (bk.c : Int)) = false := beq_eq_false_iff_ne.2 (by omega)
                  have q3 : (bj.c == bk.c) = false := beq_eq_false_iff_ne.2 hcc
                  clear hcc hne
                  by_cases hsj : bk.s ≤ j
                  · have HMT := Lib.hid (HMTS.out hsj)
                    have hs2 : (bk.s : Int) ≤ (j : Int) := by omega
                    clear hsj
                    go_upto_region 20 with fail
                    refine wp_region_held_drew (S := fun w' => ∀ o, w'.cell? ⟨g, o, none⟩ = wr.cell? ⟨g, o, none⟩) (by kernel_rfl) (fun _ => rfl) (fun hHeld => ?_)
                    refine tkH (i := 0) (oi := ⟨some 82, .move (.tmp 9), 26, "law.go:290", #[], none⟩) (v := ?_) (.inl ⟨by rfl, ?_⟩) ?_
                    rotate_left
                    · (intro wq hSw; (try dsimp only at hSw); go_simp; first | done | with_reducible rfl)
                    try simp only [Act.put, sA, sZ, sS]
                    refine tkH (i := 1) (oi := ⟨some 83, .move (.tmp 11), 3, "law.go:290", #[], none⟩) (v := ?_) (.inl ⟨by rfl, ?_⟩) ?_
                    rotate_left
                    · (intro wq hSw; (try dsimp only at hSw); go_simp; first | done | with_reducible rfl)
                    try simp only [Act.put, sA, sZ, sS]
                    refine tkH (i := 2) (oi := ⟨some 84, .indexAddr 26 (.tmp 82) (.tmp 83), 0, "law.go:290", #[⟨0, .data⟩, ⟨1, .data⟩], none⟩) (v := ?_) (.inl ⟨by rfl, ?_⟩) ?_
                    rotate_left
                    · (intro wq hSw; (try dsimp only at hSw); go_simp; first | done | with_reducible rfl)
                    try simp only [Act.put, sA, sZ, sS]
                    refine tkH (i := 3) (oi := ⟨some 85, .fieldAddr 40 (.tmp 84) 0, 0, "law.go:290", #[⟨2, .data⟩], none⟩) (v := ?_) (.inl ⟨by rfl, ?_⟩) ?_
                    rotate_left
                    · (intro wq hSw; (try dsimp only at hSw); go_simp; first | done | with_reducible rfl)
                    try simp only [Act.put, sA, sZ, sS]
                    refine tkH (i := 4) (oi := ⟨some 86, .load 22 (.tmp 85), 22, "law.go:290", #[⟨3, .data⟩], none⟩) (v := ?_) (.inl ⟨by rfl, ?_⟩) ?_
                    rotate_left
                    · (intro wq hSw; (try dsimp only at hSw); go_simp; first | done | with_reducible rfl)
                    try simp only [Act.put, sA, sZ, sS]
                    refine tkH (i := 5) (oi := ⟨some 87, .move (.tmp 9), 26, "law.go:290", #[], none⟩) (v := ?_) (.inl ⟨by rfl, ?_⟩) ?_
                    rotate_left
                    · (intro wq hSw; (try dsimp only at hSw); go_simp; first | done | with_reducible rfl)
                    try simp only [Act.put, sA, sZ, sS]
                    refine tkH (i := 6) (oi := ⟨some 88, .move (.tmp 10), 3, "law.go:290", #[], none⟩) (v := ?_) (.inl ⟨by rfl, ?_⟩) ?_
                    rotate_left
                    · (intro wq hSw; (try dsimp only at hSw); go_simp; first | done | with_reducible rfl)
                    try simp only [Act.put, sA, sZ, sS]
                    refine tkH (i := 7) (oi := ⟨some 89, .indexAddr 26 (.tmp 87) (.tmp 88), 0, "law.go:290", #[⟨5, .data⟩, ⟨6, .data⟩], none⟩) (v := ?_) (.inl ⟨by rfl, ?_⟩) ?_
                    rotate_left
                    · (intro wq hSw; (try dsimp only at hSw); go_simp; first | done | with_reducible rfl)
                    try simp only [Act.put, sA, sZ, sS]
                    refine tkH (i := 8) (oi := ⟨some 90, .fieldAddr 40 (.tmp 89) 0, 0, "law.go:290", #[⟨7, .data⟩], none⟩) (v := ?_) (.inl ⟨by rfl, ?_⟩) ?_
                    rotate_left
                    · (intro wq hSw; (try dsimp only at hSw); go_simp; first | done | with_reducible rfl)
                    try simp only [Act.put, sA, sZ, sS]
                    refine tkH (i := 9) (oi := ⟨some 91, .load 22 (.tmp 90), 22, "law.go:290", #[⟨8, .data⟩], none⟩) (v := ?_) (.inl ⟨by rfl, ?_⟩) ?_
                    rotate_left
                    · (intro wq hSw; (try dsimp only at hSw); go_simp; first | done | with_reducible rfl)
                    try simp only [Act.put, sA, sZ, sS]
                    refine tkH (i := 10) (oi := ⟨some 92, .binOp .eql 22 (.tmp 86) (.tmp 91) 22, 4, "law.go:290", #[⟨4, .data⟩, ⟨9, .data⟩], none⟩) (v := ?_) (.inl ⟨by rfl, ?_⟩) ?_
                    rotate_left
                    · (intro wq hSw; (try dsimp only at hSw); go_simp; first | done | with_reducible rfl)
                    try simp only [Act.put, sA, sZ, sS]
                    refine tkH (i := 11) (oi := ⟨some 93, .move (.tmp 92), 4, "law.go:290", #[⟨10, .data⟩], none⟩) (v := ?_) (.inl ⟨by rfl, ?_⟩) ?_
                    rotate_left
                    · (intro wq hSw; (try dsimp only at hSw); go_simp; first | done | with_reducible rfl)
                    try simp only [Act.put, sA, sZ, sS]
                    refine wpAnyH_take (i := 12) (oi := ⟨some 94, .move (.tmp 9), 26, "law.go:290", #[⟨11, .guard⟩], some (11, true)⟩) (v := undef) rfl (by kernel_rfl) (by kernel_rfl) (by kernel_rfl) (fun _ _ _ h => h) (Or.inr ⟨by rfl, rfl⟩) (by assumption) ?_
                    try simp only [Act.put, sA, sZ, sS]
                    refine wpAnyH_take (i := 13) (oi := ⟨some 95, .move (.tmp 11), 3, "law.go:290", #[⟨11, .guard⟩], some (11, true)⟩) (v := undef) rfl (by kernel_rfl) (by kernel_rfl) (by kernel_rfl) (fun _ _ _ h => h) (Or.inr ⟨by rfl, rfl⟩) (by assumption) ?_
                    try simp only [Act.put, sA, sZ, sS]
                    refine wpAnyH_take (i := 14) (oi := ⟨some 96, .indexAddr 26 (.tmp 94) (.tmp 95), 0, "law.go:290", #[⟨12, .data⟩, ⟨13, .data⟩, ⟨11, .guard⟩], some (11, true)⟩) (v := undef) rfl (by kernel_rfl) (by kernel_rfl) (by kernel_rfl) (fun _ _ _ h => h) (Or.inr ⟨by rfl, rfl⟩) (by assumption) ?_
                    try simp only [Act.put, sA, sZ, sS]
                    refine wpAnyH_take (i := 15) (oi := ⟨some 97, .fieldAddr 40 (.tmp 96) 1, 0, "law.go:290", #[⟨14, .data⟩, ⟨11, .guard⟩], some (11, true)⟩) (v := undef) rfl (by kernel_rfl) (by kernel_rfl) (by kernel_rfl) (fun _ _ _ h => h) (Or.inr ⟨by rfl, rfl⟩) (by assumption) ?_
                    try simp only [Act.put, sA, sZ, sS]
                    refine wpAnyH_take (i := 16) (oi := ⟨some 98, .load 22 (.tmp 97), 22, "law.go:290", #[⟨15, .data⟩, ⟨11, .guard⟩], some (11, true)⟩) (v := undef) rfl (by kernel_rfl) (by kernel_rfl) (by kernel_rfl) (fun _ _ _ h => h) (Or.inr ⟨by rfl, rfl⟩) (by assumption) ?_
                    try simp only [Act.put, sA, sZ, sS]
                    refine wpAnyH_take (i := 17) (oi := ⟨some 99, .move (.tmp 9), 26, "law.go:290", #[⟨11, .guard⟩], some (11, true)⟩) (v := undef) rfl (by kernel_rfl) (by kernel_rfl) (by kernel_rfl) (fun _ _ _ h => h) (Or.inr ⟨by rfl, rfl⟩) (by assumption) ?_
                    try simp only [Act.put, sA, sZ, sS]
                    refine wpAnyH_take (i := 18) (oi := ⟨some 100, .move (.tmp 10), 3, "law.go:290", #[⟨11, .guard⟩], some (11, true)⟩) (v := undef) rfl (by kernel_rfl) (by kernel_rfl) (by kernel_rfl) (fun _ _ _ h => h) (Or.inr ⟨by rfl, rfl⟩) (by assumption) ?_
                    try simp only [Act.put, sA, sZ, sS]
                    refine wpAnyH_take (i := 19) (oi := ⟨some 101, .indexAddr 26 (.tmp 99) (.tmp 100), 0, "law.go:290", #[⟨17, .data⟩, ⟨18, .data⟩, ⟨11, .guard⟩], some (11, true)⟩) (v := undef) rfl (by kernel_rfl) (by kernel_rfl) (by kernel_rfl) (fun _ _ _ h => h) (Or.inr ⟨by rfl, rfl⟩) (by assumption) ?_
                    try simp only [Act.put, sA, sZ, sS]
                    refine wpAnyH_take (i := 20) (oi := ⟨some 102, .fieldAddr 40 (.tmp 101) 1, 0, "law.go:290", #[⟨19, .data⟩, ⟨11, .guard⟩], some (11, true)⟩) (v := undef) rfl (by kernel_rfl) (by kernel_rfl) (by kernel_rfl) (fun _ _ _ h => h) (Or.inr ⟨by rfl, rfl⟩) (by assumption) ?_
                    try simp only [Act.put, sA, sZ, sS]
                    refine wpAnyH_take (i := 21) (oi := ⟨some 103, .load 22 (.tmp 102), 22, "law.go:290", #[⟨20, .data⟩, ⟨11, .guard⟩], some (11, true)⟩) (v := undef) rfl (by kernel_rfl) (by kernel_rfl) (by kernel_rfl) (fun _ _ _ h => h) (Or.inr ⟨by rfl, rfl⟩) (by assumption) ?_
                    try simp only [Act.put, sA, sZ, sS]
                    refine wpAnyH_take (i := 22) (oi := ⟨some 104, .binOp .eql 22 (.tmp 98) (.tmp 103) 22, 4, "law.go:290", #[⟨16, .data⟩, ⟨21, .data⟩, ⟨11, .guard⟩], some (11, true)⟩) (v := undef) rfl (by kernel_rfl) (by kernel_rfl) (by kernel_rfl) (fun _ _ _ h => h) (Or.inr ⟨by rfl, rfl⟩) (by assumption) ?_
                    try simp only [Act.put, sA, sZ, sS]
                    refine tkH (i := 23) (oi := ⟨some 105, .pick (.tmp 93) (.tmp 104) (.const (.bool false)), 4, "law.go:290", #[⟨11, .data⟩, ⟨22, .data⟩], none⟩) (v := ?_) (.inl ⟨by rfl, ?_⟩) ?_
                    rotate_left
                    · (intro wq hSw; (try dsimp only at hSw); go_simp; first | done | with_reducible rfl)
                    try simp only [Act.put, sA, sZ, sS]
                    refine tkH (i := 24) (oi := ⟨some 106, .move (.tmp 105), 4, "law.go:290", #[⟨23, .data⟩, ⟨11, .chain⟩], none⟩) (v := ?_) (.inl ⟨by rfl, ?_⟩) ?_
                    rotate_left
                    · (intro wq hSw; (try dsimp only at hSw); go_simp; first | done | with_reducible rfl)
                    try simp only [Act.put, sA, sZ, sS]
                    refine tkH (i := 25) (oi := ⟨some 107, .move (.tmp 11), 3, "law.go:290", #[⟨24, .guard⟩], some (24, false)⟩) (v := ?_) (.inl ⟨by rfl, ?_⟩) ?_
                    rotate_left
                    · (intro wq hSw; (try dsimp only at hSw); go_simp; first | done | with_reducible rfl)
                    try simp only [Act.put, sA, sZ, sS]
                    refine tkH (i := 26) (oi := ⟨some 108, .convert 3 22 (.tmp 107), 22, "law.go:290", #[⟨25, .data⟩, ⟨24, .guard⟩], some (24, false)⟩) (v := ?_) (.inl ⟨by rfl, ?_⟩) ?_
                    rotate_left
                    · (intro wq hSw; (try dsimp only at hSw); go_simp; first | done | with_reducible rfl)
                    try simp only [Act.put, sA, sZ, sS]
                    refine tkH (i := 27) (oi := ⟨some 109, .move (.tmp 9), 26, "law.go:290", #[⟨24, .guard⟩], some (24, false)⟩) (v := ?_) (.inl ⟨by rfl, ?_⟩) ?_
                    rotate_left
                    · (intro wq hSw; (try dsimp only at hSw); go_simp; first | done | with_reducible rfl)
                    try simp only [Act.put, sA, sZ, sS]
                    refine tkH (i := 28) (oi := ⟨some 110, .move (.tmp 10), 3, "law.go:290", #[⟨24, .guard⟩], some (24, false)⟩) (v := ?_) (.inl ⟨by rfl, ?_⟩) ?_
                    rotate_left
                    · (intro wq hSw; (try dsimp only at hSw); go_simp; first | done | with_reducible rfl)
                    try simp only [Act.put, sA, sZ, sS]
                    refine tkH (i := 29) (oi := ⟨some 111, .indexAddr 26 (.tmp 109) (.tmp 110), 0, "law.go:290", #[⟨27, .data⟩, ⟨28, .data⟩, ⟨24, .guard⟩], some (24, false)⟩) (v := ?_) (.inl ⟨by rfl, ?_⟩) ?_
                    rotate_left
                    · (intro wq hSw; (try dsimp only at hSw); go_simp; first | done | with_reducible rfl)
                    try simp only [Act.put, sA, sZ, sS]
                    refine tkH (i := 30) (oi := ⟨some 112, .fieldAddr 40 (.tmp 111) 2, 0, "law.go:290", #[⟨29, .data⟩, ⟨24, .guard⟩], some (24, false)⟩) (v := ?_) (.inl ⟨by rfl, ?_⟩) ?_
                    rotate_left
                    · (intro wq hSw; (try dsimp only at hSw); go_simp; first | done | with_reducible rfl)
                    try simp only [Act.put, sA, sZ, sS]
                    refine tkH (i := 31) (oi := ⟨some 113, .load 22 (.tmp 112), 22, "law.go:290", #[⟨30, .data⟩, ⟨24, .guard⟩], some (24, false)⟩) (v := ?_) (.inl ⟨by rfl, ?_⟩) ?_
                    rotate_left
                    · (intro wq hSw; (try dsimp only at hSw); go_simp; first | done | with_reducible rfl)
                    try simp only [Act.put, sA, sZ, sS]
                    refine tkH (i := 32) (oi := ⟨some 114, .binOp .geq 22 (.tmp 108) (.tmp 113) 22, 4, "law.go:290", #[⟨26, .data⟩, ⟨31, .data⟩, ⟨24, .guard⟩], some (24, false)⟩) (v := ?_) (.inl ⟨by rfl, ?_⟩) ?_
                    rotate_left
                    · (intro wq hSw; (try dsimp only at hSw); go_simp; first | done | with_reducible rfl)
                    try simp only [Act.put, sA, sZ, sS]
                    refine tkH (i := 33) (oi := ⟨some 115, .move (.tmp 114), 4, "law.go:290", #[⟨32, .data⟩, ⟨24, .chain⟩, ⟨24, .guard⟩], some (24, false)⟩) (v := ?_) (.inl ⟨by rfl, ?_⟩) ?_
                    rotate_left
                    · (intro wq hSw; (try dsimp only at hSw); go_simp; first | done | with_reducible rfl)
                    try simp only [Act.put, sA, sZ, sS]
                    refine tkH (i := 34) (oi := ⟨some 116, .move (.tmp 9), 26, "law.go:290", #[⟨33, .guard⟩], some (33, true)⟩) (v := ?_) (.inl ⟨by rfl, ?_⟩) ?_
                    rotate_left
                    · (intro wq hSw; (try dsimp only at hSw); go_simp; first | done | with_reducible rfl)
                    try simp only [Act.put, sA, sZ, sS]
                    refine tkH (i := 35) (oi := ⟨some 117, .move (.tmp 11), 3, "law.go:290", #[⟨33, .guard⟩], some (33, true)⟩) (v := ?_) (.inl ⟨by rfl, ?_⟩) ?_
                    rotate_left
                    · (intro wq hSw; (try dsimp only at hSw); go_simp; first | done | with_reducible rfl)
                    try simp only [Act.put, sA, sZ, sS]
                    refine tkH (i := 36) (oi := ⟨some 118, .indexAddr 26 (.tmp 116) (.tmp 117), 0, "law.go:290", #[⟨34, .data⟩, ⟨35, .data⟩, ⟨33, .guard⟩], some (33, true)⟩) (v := ?_) (.inl ⟨by rfl, ?_⟩) ?_
                    rotate_left
                    · (intro wq hSw; (try dsimp only at hSw); go_simp; first | done | with_reducible rfl)
                    try simp only [Act.put, sA, sZ, sS]
                    refine tkH (i := 37) (oi := ⟨some 119, .load 40 (.tmp 118), 40, "law.go:290", #[⟨36, .data⟩, ⟨33, .guard⟩], some (33, true)⟩) (v := ?_) (.inl ⟨by rfl, ?_⟩) ?_
                    rotate_left
                    · (intro wq hSw; (try dsimp only at hSw); go_simp; first | done | with_reducible rfl)
                    try simp only [Act.put, sA, sZ, sS]
                    refine tkH (i := 38) (oi := ⟨some 120, .move (.tmp 9), 26, "law.go:290", #[⟨33, .guard⟩], some (33, true)⟩) (v := ?_) (.inl ⟨by rfl, ?_⟩) ?_
                    rotate_left
                    · (intro wq hSw; (try dsimp only at hSw); go_simp; first | done | with_reducible rfl)
                    try simp only [Act.put, sA, sZ, sS]
                    refine tkH (i := 39) (oi := ⟨some 121, .move (.tmp 10), 3, "law.go:290", #[⟨33, .guard⟩], some (33, true)⟩) (v := ?_) (.inl ⟨by rfl, ?_⟩) ?_
                    rotate_left
                    · (intro wq hSw; (try dsimp only at hSw); go_simp; first | done | with_reducible rfl)
                    try simp only [Act.put, sA, sZ, sS]
                    refine tkH (i := 40) (oi := ⟨some 122, .indexAddr 26 (.tmp 120) (.tmp 121), 0, "law.go:290", #[⟨38, .data⟩, ⟨39, .data⟩, ⟨33, .guard⟩], some (33, true)⟩) (v := ?_) (.inl ⟨by rfl, ?_⟩) ?_
                    rotate_left
                    · (intro wq hSw; (try dsimp only at hSw); go_simp; first | done | with_reducible rfl)
                    try simp only [Act.put, sA, sZ, sS]
                    refine tkH (i := 41) (oi := ⟨some 123, .load 40 (.tmp 122), 40, "law.go:290", #[⟨40, .data⟩, ⟨33, .guard⟩], some (33, true)⟩) (v := ?_) (.inl ⟨by rfl, ?_⟩) ?_
                    rotate_left
                    · (intro wq hSw; (try dsimp only at hSw); go_simp; first | done | with_reducible rfl)
                    try simp only [Act.put, sA, sZ, sS]
                    refine wpAnyH_ready (rs := [42]) (by kernel_rfl) (by simp) ?_
                    refine AllReadyH.cons (o := ⟨some 124, .call { callee := .value (.func 26), args := #[.tmp 119, .tmp 123], argTypes := #[40, 40] }, 4, "law.go:290", #[⟨37, .data⟩, ⟨41, .data⟩, ⟨33, .chain⟩, ⟨33, .guard⟩], some (33, true)⟩) rfl (fun K hK => ?_) AllReadyH.nil
                    go_simp
                    refine (refMeets_any bj.c bj.r bj.s _ bj.l bk.c bk.r bk.s _ bk.l wr.drew (by have := HBJ.out.ok.l; dsimp only at this; omega) (by have := HBK.out.ok.l; dsimp only at this; omega) (HBJ.out.sl.slIn.new (New.refl wr).drew) (HBK.out.sl.slIn.new (New.refl wr).drew)).mono ?_
                    rintro e w7 ⟨rfl, hn7⟩
                    have hn7W := (New.refl wr).drew.trans hn7
                    have HN7 := Lib.hid (HNR4.out.trans hn7W)
                    rw [HMT.out]
                    have j0 := fun o => keepR (S := fun _ => False) (Upd.new hn7W) hg (fun h => h) o
                    refine hK.out _ _ ?_ (fun hHeld => ?_)
                    · exact j0
                    clear hK K
                    try simp only [Act.put, sA, sZ, sS]
                    refine tkH (i := 43) (oi := ⟨some 125, .pick (.tmp 115) (.tmp 124) (.const (.bool false)), 4, "law.go:290", #[⟨33, .data⟩, ⟨42, .data⟩, ⟨24, .guard⟩], some (24, false)⟩) (v := ?_) (.inl ⟨by rfl, ?_⟩) ?_
                    rotate_left
                    · (intro wq hSw; (try dsimp only at hSw); go_simp; first | done | with_reducible rfl)
                    try simp only [Act.put, sA, sZ, sS]
                    refine tkH (i := 44) (oi := ⟨some 126, .pick (.tmp 106) (.const (.bool true)) (.tmp 125), 4, "law.go:290", #[⟨24, .data⟩, ⟨43, .data⟩], none⟩) (v := ?_) (.inl ⟨by rfl, ?_⟩) ?_
                    rotate_left
                    · (intro wq hSw; (try dsimp only at hSw); go_simp; first | done | with_reducible rfl)
                    try simp only [Act.put, sA, sZ, sS]
                    refine wpAnyH_done (by kernel_rfl) ?_ _
                    clear hHeld
                    have hbl := HLL.out
                    go_wp2_with fail
                    go_roundw
                    case rel => exact ⟨j + 1, by omega, by go_num, HN7.out⟩
                    case measure => simp [intOf]; omega
                  · have hs2 : ¬ (bk.s : Int) ≤ (j : Int) := by omega
                    clear hsj
                    go_upto_region 20 with fail
                    refine wp_region_held_drew (S := fun w' => ∀ o, w'.cell? ⟨g, o, none⟩ = wr.cell? ⟨g, o, none⟩) (by kernel_rfl) (fun _ => rfl) (fun hHeld => ?_)
                    refine tkH (i := 0) (oi := ⟨some 82, .move (.tmp 9), 26, "law.go:290", #[], none⟩) (v := ?_) (.inl ⟨by rfl, ?_⟩) ?_
                    rotate_left
                    · (intro wq hSw; (try dsimp only at hSw); go_simp; first | done | with_reducible rfl)
                    try simp only [Act.put, sA, sZ, sS]
                    refine tkH (i := 1) (oi := ⟨some 83, .move (.tmp 11), 3, "law.go:290", #[], none⟩) (v := ?_) (.inl ⟨by rfl, ?_⟩) ?_
                    rotate_left
                    · (intro wq hSw; (try dsimp only at hSw); go_simp; first | done | with_reducible rfl)
                    try simp only [Act.put, sA, sZ, sS]
                    refine tkH (i := 2) (oi := ⟨some 84, .indexAddr 26 (.tmp 82) (.tmp 83), 0, "law.go:290", #[⟨0, .data⟩, ⟨1, .data⟩], none⟩) (v := ?_) (.inl ⟨by rfl, ?_⟩) ?_
                    rotate_left
                    · (intro wq hSw; (try dsimp only at hSw); go_simp; first | done | with_reducible rfl)
                    try simp only [Act.put, sA, sZ, sS]
                    refine tkH (i := 3) (oi := ⟨some 85, .fieldAddr 40 (.tmp 84) 0, 0, "law.go:290", #[⟨2, .data⟩], none⟩) (v := ?_) (.inl ⟨by rfl, ?_⟩) ?_
                    rotate_left
                    · (intro wq hSw; (try dsimp only at hSw); go_simp; first | done | with_reducible rfl)
                    try simp only [Act.put, sA, sZ, sS]
                    refine tkH (i := 4) (oi := ⟨some 86, .load 22 (.tmp 85), 22, "law.go:290", #[⟨3, .data⟩], none⟩) (v := ?_) (.inl ⟨by rfl, ?_⟩) ?_
                    rotate_left
                    · (intro wq hSw; (try dsimp only at hSw); go_simp; first | done | with_reducible rfl)
                    try simp only [Act.put, sA, sZ, sS]
                    refine tkH (i := 5) (oi := ⟨some 87, .move (.tmp 9), 26, "law.go:290", #[], none⟩) (v := ?_) (.inl ⟨by rfl, ?_⟩) ?_
                    rotate_left
                    · (intro wq hSw; (try dsimp only at hSw); go_simp; first | done | with_reducible rfl)
                    try simp only [Act.put, sA, sZ, sS]
                    refine tkH (i := 6) (oi := ⟨some 88, .move (.tmp 10), 3, "law.go:290", #[], none⟩) (v := ?_) (.inl ⟨by rfl, ?_⟩) ?_
                    rotate_left
                    · (intro wq hSw; (try dsimp only at hSw); go_simp; first | done | with_reducible rfl)
                    try simp only [Act.put, sA, sZ, sS]
                    refine tkH (i := 7) (oi := ⟨some 89, .indexAddr 26 (.tmp 87) (.tmp 88), 0, "law.go:290", #[⟨5, .data⟩, ⟨6, .data⟩], none⟩) (v := ?_) (.inl ⟨by rfl, ?_⟩) ?_
                    rotate_left
                    · (intro wq hSw; (try dsimp only at hSw); go_simp; first | done | with_reducible rfl)
                    try simp only [Act.put, sA, sZ, sS]
                    refine tkH (i := 8) (oi := ⟨some 90, .fieldAddr 40 (.tmp 89) 0, 0, "law.go:290", #[⟨7, .data⟩], none⟩) (v := ?_) (.inl ⟨by rfl, ?_⟩) ?_
                    rotate_left
                    · (intro wq hSw; (try dsimp only at hSw); go_simp; first | done | with_reducible rfl)
                    try simp only [Act.put, sA, sZ, sS]
                    refine tkH (i := 9) (oi := ⟨some 91, .load 22 (.tmp 90), 22, "law.go:290", #[⟨8, .data⟩], none⟩) (v := ?_) (.inl ⟨by rfl, ?_⟩) ?_
                    rotate_left
                    · (intro wq hSw; (try dsimp only at hSw); go_simp; first | done | with_reducible rfl)
                    try simp only [Act.put, sA, sZ, sS]
                    refine tkH (i := 10) (oi := ⟨some 92, .binOp .eql 22 (.tmp 86) (.tmp 91) 22, 4, "law.go:290", #[⟨4, .data⟩, ⟨9, .data⟩], none⟩) (v := ?_) (.inl ⟨by rfl, ?_⟩) ?_
                    rotate_left
                    · (intro wq hSw; (try dsimp only at hSw); go_simp; first | done | with_reducible rfl)
                    try simp only [Act.put, sA, sZ, sS]
                    refine tkH (i := 11) (oi := ⟨some 93, .move (.tmp 92), 4, "law.go:290", #[⟨10, .data⟩], none⟩) (v := ?_) (.inl ⟨by rfl, ?_⟩) ?_
                    rotate_left
                    · (intro wq hSw; (try dsimp only at hSw); go_simp; first | done | with_reducible rfl)
                    try simp only [Act.put, sA, sZ, sS]
                    refine wpAnyH_take (i := 12) (oi := ⟨some 94, .move (.tmp 9), 26, "law.go:290", #[⟨11, .guard⟩], some (11, true)⟩) (v := undef) rfl (by kernel_rfl) (by kernel_rfl) (by kernel_rfl) (fun _ _ _ h => h) (Or.inr ⟨by rfl, rfl⟩) (by assumption) ?_
                    try simp only [Act.put, sA, sZ, sS]
                    refine wpAnyH_take (i := 13) (oi := ⟨some 95, .move (.tmp 11), 3, "law.go:290", #[⟨11, .guard⟩], some (11, true)⟩) (v := undef) rfl (by kernel_rfl) (by kernel_rfl) (by kernel_rfl) (fun _ _ _ h => h) (Or.inr ⟨by rfl, rfl⟩) (by assumption) ?_
                    try simp only [Act.put, sA, sZ, sS]
                    refine wpAnyH_take (i := 14) (oi := ⟨some 96, .indexAddr 26 (.tmp 94) (.tmp 95), 0, "law.go:290", #[⟨12, .data⟩, ⟨13, .data⟩, ⟨11, .guard⟩], some (11, true)⟩) (v := undef) rfl (by kernel_rfl) (by kernel_rfl) (by kernel_rfl) (fun _ _ _ h => h) (Or.inr ⟨by rfl, rfl⟩) (by assumption) ?_
                    try simp only [Act.put, sA, sZ, sS]
                    refine wpAnyH_take (i := 15) (oi := ⟨some 97, .fieldAddr 40 (.tmp 96) 1, 0, "law.go:290", #[⟨14, .data⟩, ⟨11, .guard⟩], some (11, true)⟩) (v := undef) rfl (by kernel_rfl) (by kernel_rfl) (by kernel_rfl) (fun _ _ _ h => h) (Or.inr ⟨by rfl, rfl⟩) (by assumption) ?_
                    try simp only [Act.put, sA, sZ, sS]
                    refine wpAnyH_take (i := 16) (oi := ⟨some 98, .load 22 (.tmp 97), 22, "law.go:290", #[⟨15, .data⟩, ⟨11, .guard⟩], some (11, true)⟩) (v := undef) rfl (by kernel_rfl) (by kernel_rfl) (by kernel_rfl) (fun _ _ _ h => h) (Or.inr ⟨by rfl, rfl⟩) (by assumption) ?_
                    try simp only [Act.put, sA, sZ, sS]
                    refine wpAnyH_take (i := 17) (oi := ⟨some 99, .move (.tmp 9), 26, "law.go:290", #[⟨11, .guard⟩], some (11, true)⟩) (v := undef) rfl (by kernel_rfl) (by kernel_rfl) (by kernel_rfl) (fun _ _ _ h => h) (Or.inr ⟨by rfl, rfl⟩) (by assumption) ?_
                    try simp only [Act.put, sA, sZ, sS]
                    refine wpAnyH_take (i := 18) (oi := ⟨some 100, .move (.tmp 10), 3, "law.go:290", #[⟨11, .guard⟩], some (11, true)⟩) (v := undef) rfl (by kernel_rfl) (by kernel_rfl) (by kernel_rfl) (fun _ _ _ h => h) (Or.inr ⟨by rfl, rfl⟩) (by assumption) ?_
                    try simp only [Act.put, sA, sZ, sS]
                    refine wpAnyH_take (i := 19) (oi := ⟨some 101, .indexAddr 26 (.tmp 99) (.tmp 100), 0, "law.go:290", #[⟨17, .data⟩, ⟨18, .data⟩, ⟨11, .guard⟩], some (11, true)⟩) (v := undef) rfl (by kernel_rfl) (by kernel_rfl) (by kernel_rfl) (fun _ _ _ h => h) (Or.inr ⟨by rfl, rfl⟩) (by assumption) ?_
                    try simp only [Act.put, sA, sZ, sS]
                    refine wpAnyH_take (i := 20) (oi := ⟨some 102, .fieldAddr 40 (.tmp 101) 1, 0, "law.go:290", #[⟨19, .data⟩, ⟨11, .guard⟩], some (11, true)⟩) (v := undef) rfl (by kernel_rfl) (by kernel_rfl) (by kernel_rfl) (fun _ _ _ h => h) (Or.inr ⟨by rfl, rfl⟩) (by assumption) ?_
                    try simp only [Act.put, sA, sZ, sS]
                    refine wpAnyH_take (i := 21) (oi := ⟨some 103, .load 22 (.tmp 102), 22, "law.go:290", #[⟨20, .data⟩, ⟨11, .guard⟩], some (11, true)⟩) (v := undef) rfl (by kernel_rfl) (by kernel_rfl) (by kernel_rfl) (fun _ _ _ h => h) (Or.inr ⟨by rfl, rfl⟩) (by assumption) ?_
                    try simp only [Act.put, sA, sZ, sS]
                    refine wpAnyH_take (i := 22) (oi := ⟨some 104, .binOp .eql 22 (.tmp 98) (.tmp 103) 22, 4, "law.go:290", #[⟨16, .data⟩, ⟨21, .data⟩, ⟨11, .guard⟩], some (11, true)⟩) (v := undef) rfl (by kernel_rfl) (by kernel_rfl) (by kernel_rfl) (fun _ _ _ h => h) (Or.inr ⟨by rfl, rfl⟩) (by assumption) ?_
                    try simp only [Act.put, sA, sZ, sS]
                    refine tkH (i := 23) (oi := ⟨some 105, .pick (.tmp 93) (.tmp 104) (.const (.bool false)), 4, "law.go:290", #[⟨11, .data⟩, ⟨22, .data⟩], none⟩) (v := ?_) (.inl ⟨by rfl, ?_⟩) ?_
                    rotate_left
                    · (intro wq hSw; (try dsimp only at hSw); go_simp; first | done | with_reducible rfl)
                    try simp only [Act.put, sA, sZ, sS]
                    refine tkH (i := 24) (oi := ⟨some 106, .move (.tmp 105), 4, "law.go:290", #[⟨23, .data⟩, ⟨11, .chain⟩], none⟩) (v := ?_) (.inl ⟨by rfl, ?_⟩) ?_
                    rotate_left
                    · (intro wq hSw; (try dsimp only at hSw); go_simp; first | done | with_reducible rfl)
                    try simp only [Act.put, sA, sZ, sS]
                    refine tkH (i := 25) (oi := ⟨some 107, .move (.tmp 11), 3, "law.go:290", #[⟨24, .guard⟩], some (24, false)⟩) (v := ?_) (.inl ⟨by rfl, ?_⟩) ?_
                    rotate_left
                    · (intro wq hSw; (try dsimp only at hSw); go_simp; first | done | with_reducible rfl)
                    try simp only [Act.put, sA, sZ, sS]
                    refine tkH (i := 26) (oi := ⟨some 108, .convert 3 22 (.tmp 107), 22, "law.go:290", #[⟨25, .data⟩, ⟨24, .guard⟩], some (24, false)⟩) (v := ?_) (.inl ⟨by rfl, ?_⟩) ?_
                    rotate_left
                    · (intro wq hSw; (try dsimp only at hSw); go_simp; first | done | with_reducible rfl)
                    try simp only [Act.put, sA, sZ, sS]
                    refine tkH (i := 27) (oi := ⟨some 109, .move (.tmp 9), 26, "law.go:290", #[⟨24, .guard⟩], some (24, false)⟩) (v := ?_) (.inl ⟨by rfl, ?_⟩) ?_
                    rotate_left
                    · (intro wq hSw; (try dsimp only at hSw); go_simp; first | done | with_reducible rfl)
                    try simp only [Act.put, sA, sZ, sS]
                    refine tkH (i := 28) (oi := ⟨some 110, .move (.tmp 10), 3, "law.go:290", #[⟨24, .guard⟩], some (24, false)⟩) (v := ?_) (.inl ⟨by rfl, ?_⟩) ?_
                    rotate_left
                    · (intro wq hSw; (try dsimp only at hSw); go_simp; first | done | with_reducible rfl)
                    try simp only [Act.put, sA, sZ, sS]
                    refine tkH (i := 29) (oi := ⟨some 111, .indexAddr 26 (.tmp 109) (.tmp 110), 0, "law.go:290", #[⟨27, .data⟩, ⟨28, .data⟩, ⟨24, .guard⟩], some (24, false)⟩) (v := ?_) (.inl ⟨by rfl, ?_⟩) ?_
                    rotate_left
                    · (intro wq hSw; (try dsimp only at hSw); go_simp; first | done | with_reducible rfl)
                    try simp only [Act.put, sA, sZ, sS]
                    refine tkH (i := 30) (oi := ⟨some 112, .fieldAddr 40 (.tmp 111) 2, 0, "law.go:290", #[⟨29, .data⟩, ⟨24, .guard⟩], some (24, false)⟩) (v := ?_) (.inl ⟨by rfl, ?_⟩) ?_
                    rotate_left
                    · (intro wq hSw; (try dsimp only at hSw); go_simp; first | done | with_reducible rfl)
                    try simp only [Act.put, sA, sZ, sS]
                    refine tkH (i := 31) (oi := ⟨some 113, .load 22 (.tmp 112), 22, "law.go:290", #[⟨30, .data⟩, ⟨24, .guard⟩], some (24, false)⟩) (v := ?_) (.inl ⟨by rfl, ?_⟩) ?_
                    rotate_left
                    · (intro wq hSw; (try dsimp only at hSw); go_simp; first | done | with_reducible rfl)
                    try simp only [Act.put, sA, sZ, sS]
                    refine tkH (i := 32) (oi := ⟨some 114, .binOp .geq 22 (.tmp 108) (.tmp 113) 22, 4, "law.go:290", #[⟨26, .data⟩, ⟨31, .data⟩, ⟨24, .guard⟩], some (24, false)⟩) (v := ?_) (.inl ⟨by rfl, ?_⟩) ?_
                    rotate_left
                    · (intro wq hSw; (try dsimp only at hSw); go_simp; first | done | with_reducible rfl)
                    try simp only [Act.put, sA, sZ, sS]
                    refine tkH (i := 33) (oi := ⟨some 115, .move (.tmp 114), 4, "law.go:290", #[⟨32, .data⟩, ⟨24, .chain⟩, ⟨24, .guard⟩], some (24, false)⟩) (v := ?_) (.inl ⟨by rfl, ?_⟩) ?_
                    rotate_left
                    · (intro wq hSw; (try dsimp only at hSw); go_simp; first | done | with_reducible rfl)
                    try simp only [Act.put, sA, sZ, sS]
                    refine wpAnyH_take (i := 34) (oi := ⟨some 116, .move (.tmp 9), 26, "law.go:290", #[⟨33, .guard⟩], some (33, true)⟩) (v := undef) rfl (by kernel_rfl) (by kernel_rfl) (by kernel_rfl) (fun _ _ _ h => h) (Or.inr ⟨by rfl, rfl⟩) (by assumption) ?_
                    try simp only [Act.put, sA, sZ, sS]
                    refine wpAnyH_take (i := 35) (oi := ⟨some 117, .move (.tmp 11), 3, "law.go:290", #[⟨33, .guard⟩], some (33, true)⟩) (v := undef) rfl (by kernel_rfl) (by kernel_rfl) (by kernel_rfl) (fun _ _ _ h => h) (Or.inr ⟨by rfl, rfl⟩) (by assumption) ?_
                    try simp only [Act.put, sA, sZ, sS]
                    refine wpAnyH_take (i := 36) (oi := ⟨some 118, .indexAddr 26 (.tmp 116) (.tmp 117), 0, "law.go:290", #[⟨34, .data⟩, ⟨35, .data⟩, ⟨33, .guard⟩], some (33, true)⟩) (v := undef) rfl (by kernel_rfl) (by kernel_rfl) (by kernel_rfl) (fun _ _ _ h => h) (Or.inr ⟨by rfl, rfl⟩) (by assumption) ?_
                    try simp only [Act.put, sA, sZ, sS]
                    refine wpAnyH_take (i := 37) (oi := ⟨some 119, .load 40 (.tmp 118), 40, "law.go:290", #[⟨36, .data⟩, ⟨33, .guard⟩], some (33, true)⟩) (v := undef) rfl (by kernel_rfl) (by kernel_rfl) (by kernel_rfl) (fun _ _ _ h => h) (Or.inr ⟨by rfl, rfl⟩) (by assumption) ?_
                    try simp only [Act.put, sA, sZ, sS]
                    refine wpAnyH_take (i := 38) (oi := ⟨some 120, .move (.tmp 9), 26, "law.go:290", #[⟨33, .guard⟩], some (33, true)⟩) (v := undef) rfl (by kernel_rfl) (by kernel_rfl) (by kernel_rfl) (fun _ _ _ h => h) (Or.inr ⟨by rfl, rfl⟩) (by assumption) ?_
                    try simp only [Act.put, sA, sZ, sS]
                    refine wpAnyH_take (i := 39) (oi := ⟨some 121, .move (.tmp 10), 3, "law.go:290", #[⟨33, .guard⟩], some (33, true)⟩) (v := undef) rfl (by kernel_rfl) (by kernel_rfl) (by kernel_rfl) (fun _ _ _ h => h) (Or.inr ⟨by rfl, rfl⟩) (by assumption) ?_
                    try simp only [Act.put, sA, sZ, sS]
                    refine wpAnyH_take (i := 40) (oi := ⟨some 122, .indexAddr 26 (.tmp 120) (.tmp 121), 0, "law.go:290", #[⟨38, .data⟩, ⟨39, .data⟩, ⟨33, .guard⟩], some (33, true)⟩) (v := undef) rfl (by kernel_rfl) (by kernel_rfl) (by kernel_rfl) (fun _ _ _ h => h) (Or.inr ⟨by rfl, rfl⟩) (by assumption) ?_
                    try simp only [Act.put, sA, sZ, sS]
                    refine wpAnyH_take (i := 41) (oi := ⟨some 123, .load 40 (.tmp 122), 40, "law.go:290", #[⟨40, .data⟩, ⟨33, .guard⟩], some (33, true)⟩) (v := undef) rfl (by kernel_rfl) (by kernel_rfl) (by kernel_rfl) (fun _ _ _ h => h) (Or.inr ⟨by rfl, rfl⟩) (by assumption) ?_
                    try simp only [Act.put, sA, sZ, sS]
                    refine wpAnyH_take (i := 42) (oi := ⟨some 124, .call { callee := .value (.func 26), args := #[.tmp 119, .tmp 123], argTypes := #[40, 40] }, 4, "law.go:290", #[⟨37, .data⟩, ⟨41, .data⟩, ⟨33, .chain⟩, ⟨33, .guard⟩], some (33, true)⟩) (v := undef) rfl (by kernel_rfl) (by kernel_rfl) (by kernel_rfl) (fun _ _ _ h => h) (Or.inr ⟨by rfl, rfl⟩) (by assumption) ?_
                    try simp only [Act.put, sA, sZ, sS]
                    refine tkH (i := 43) (oi := ⟨some 125, .pick (.tmp 115) (.tmp 124) (.const (.bool false)), 4, "law.go:290", #[⟨33, .data⟩, ⟨42, .data⟩, ⟨24, .guard⟩], some (24, false)⟩) (v := ?_) (.inl ⟨by rfl, ?_⟩) ?_
                    rotate_left
                    · (intro wq hSw; (try dsimp only at hSw); go_simp; first | done | with_reducible rfl)
                    try simp only [Act.put, sA, sZ, sS]
                    refine tkH (i := 44) (oi := ⟨some 126, .pick (.tmp 106) (.const (.bool true)) (.tmp 125), 4, "law.go:290", #[⟨24, .data⟩, ⟨43, .data⟩], none⟩) (v := ?_) (.inl ⟨by rfl, ?_⟩) ?_
                    rotate_left
                    · (intro wq hSw; (try dsimp only at hSw); go_simp; first | done | with_reducible rfl)
                    try simp only [Act.put, sA, sZ, sS]
                    refine wpAnyH_done (by kernel_rfl) ?_ _
                    clear hHeld
                    have HN7 := Lib.hid (HNR4.out.trans (New.refl wr).drew)
                    have hbl := HLL.out
                    go_wp2_with fail
                    go_roundw
                    case rel => exact ⟨j + 1, by omega, by go_num, HN7.out⟩
                    case measure => simp [intOf]; omega
              · have hjk2 : ¬ (j : Int) < (k : Int) := by omega
                have hbl := HLL.out
                clear hnr
                go_wp2_with fail
                go_roundw
                case rel => exact ⟨k + 1, by omega, by go_num, HNR4.out⟩
                case measure => simp [intOf]; omega
          · have hkl2 : ¬ (k : Int) < ((x.rp i).l.length : Int) := by omega
            have HN7 := Lib.hid (HN5.out.trans hnr)
            clear hnr
            go_wp2_with fail
            go_roundw
            case rel => exact ⟨i + 1, by omega, by go_num, HN7.out⟩
            case measure => simp [intOf]; omega
      · obtain rfl : i = 1 + r := by omega
        have hlt2 : ¬ ((1 + r : Nat) : Int) < ((1 + r : Nat) : Int) := by omega
        go_wp2_with fail
        go_ret
        exact ⟨rfl, HC.out.nw.trans HNR.out⟩
end Go.Proofs.YtecniafnihpjmaaGreatDoor
