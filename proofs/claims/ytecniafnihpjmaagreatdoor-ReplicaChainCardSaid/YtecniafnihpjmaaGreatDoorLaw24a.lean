/- ReplicaChain: the walk. Printed by genLaw24.py. -/
import Derived.Test.YtecniafnihpjmaaGreatDoorTk
import Derived.Test.YtecniafnihpjmaaGreatDoorMg15
import Derived.Test.YtecniafnihpjmaaGreatDoorMg16
namespace Go.Proofs.YtecniafnihpjmaaGreatDoor
open Go.RowKit Go.Lap C
set_option linter.unusedVariables false
set_option linter.unusedSimpArgs false
set_option maxRecDepth 100000 in
set_option maxHeartbeats 16000000 in
theorem replicaChain_walk (m : Nat) (hm : m < 256) (l : List StV) (v : Value) (W : World) (hll : l.length ≤ maxLen) (hsl : SlIn W 7 StV.enc v l) (hgl : ∀ s ∈ l, StOk W s) :
    Calls Tryz.prog 4 #[.int .u8 (m : Int), v] W fun e w' => e = .returned (.bool true) ∧ New W w' := by
  obtain ⟨Av, cv0, hv0⟩ := hsl.form
  rw [hv0]
  have HV0 := Lib.hid hv0
  have HSL := Lib.hid hsl
  have HGL := Lib.hid hgl
  obtain ⟨r, hr⟩ : ∃ r, r = m % 5 := ⟨_, rfl⟩
  have hr5 : r < 5 := by omega
  have hmr : (m : Int) % 5 = (r : Int) := by omega
  have hr0 : (0 : Int) ≤ (r : Int) := by omega
  have hwm : IntKind.i64.wrap (m : Int) = (m : Int) := IntWalk.i64_in _ (by omega)
  unfold maxLen at hll
  clear hr hsl hgl hv0
  go_enter Tryz.func4, Tryz.ntmps4
  go_wp2_with fail
  rw [show (1 + (r : Int)) = ((1 + r : Nat) : Int) by omega]
  refine (begin_any (1 + r) (by omega) (by omega) W).mono ?_
  rintro e w5 ⟨L0, rfl, hch, hge, hnw⟩
  have hst := CSt.start (W := W) (by omega) (by omega) hch hge hnw
  obtain ⟨A1, n1, c1, A2, n2, c2, A3, n3, c3, h1, h2, h3⟩ := hch.shapes
  rw [h1, h2, h3]
  have HST : Hid (CSt W (w5.alloc (.cells #[.slice A1 n1 c1, .slice A2 n2 c2, .slice A3 n3 c3] 64)) (1 + r) 0 w5.heap.size L0 (Chn.start (1 + r))) := Lib.hid (by rw [← h1, ← h2, ← h3]; exact hst)
  clear hst hch hge hnw hmr hwm h1 h2 h3
  go_upto_region 2 with fail
  generalize w5.alloc (.cells #[.slice A1 n1 c1, .slice A2 n2 c2, .slice A3 n3 c3] 64) = w6 at *
  generalize w5.heap.size = bx at *
  go_wp2_with fail
  refine (awake24 w6).mono ?_
  rintro e w7 ⟨rfl, hn7⟩
  have HST7 := Lib.hid (HST.out.new hn7)
  clear hn7
  go_wp2_with fail
  go_loopw [7] (fun i wr => ∃ (k : Nat) (L : ChL) (x : Chn), k ≤ l.length ∧ k ≤ 150 ∧ i = .int .i64 (k : Int) ∧ CSt W wr (1 + r) k bx L x) (fun i _ => 150 - (intOf i).toNat)
  case atStart => exact ⟨0, L0, _, by omega, by omega, rfl, HST7.out⟩
  case round =>
    obtain ⟨k, L, x, hk, hk2, rfl, hc⟩ := hrel
    have HC := Lib.hid hc
    have hk0 : (0 : Int) ≤ (k : Int) := by omega
    obtain ⟨B1, m1, d1, B2, m2, d2, B3, m3, d3, h1, h2, h3⟩ := hc.ch.shapes
    have HL1 := Lib.hid h1
    have HL2 := Lib.hid h2
    have HL3 := Lib.hid h3
    obtain ⟨p0, p1, p2, p3, pz⟩ := Blk3G hc.bk
    rw [h1] at p1
    rw [h2] at p2
    rw [h3] at p3
    clear hc h1 h2 h3
    by_cases hgo : k < l.length ∧ k < 150
    case pos =>
      obtain ⟨hlt, hlt150⟩ := hgo
      obtain ⟨s, hs⟩ : ∃ s, l[k]? = some s := ⟨_, List.getElem?_eq_getElem hlt⟩
      have HS := Lib.hid (HGL.out s (List.mem_of_getElem? hs))
      obtain ⟨g, off, cap, hv, hg, e0, e1, e2, e3, e4, e5, e6⟩ := step_at HSL.out hs HC.out.nw
      rw [HV0.out] at hv
      cases hv
      have hlt2 : (k : Int) < (l.length : Int) := by omega
      have hlt3 : (k : Int) < 150 := by omega
      clear hs
      go_upto_region 7 with fail
      refine wp_region_z [6] (fun w' => (∀ o, w'.cell? ⟨bx, o, none⟩ = wr.cell? ⟨bx, o, none⟩) ∧ (∀ o, w'.cell? ⟨g, o, none⟩ = wr.cell? ⟨g, o, none⟩)) (by kernel_rfl) (⟨fun _ => rfl, fun _ => rfl⟩) (fun hHeld => ?_)
      refine tkZ (i := 0) (oi := ⟨some 32, .load 64 (.tmp 5), 64, "law.go:265", #[], none⟩) (v := ?_) (.inl ⟨by rfl, ?_⟩) ?_
      rotate_left
      · (intro wq hSw; (try dsimp only at hSw); go_simp; first | done | with_reducible rfl)
      try simp only [Act.put, sA, sZ, sS]
      refine tkZ (i := 1) (oi := ⟨some 33, .move (.tmp 1), 60, "law.go:265", #[], none⟩) (v := ?_) (.inl ⟨by rfl, ?_⟩) ?_
      rotate_left
      · (intro wq hSw; (try dsimp only at hSw); go_simp; first | done | with_reducible rfl)
      try simp only [Act.put, sA, sZ, sS]
      refine tkZ (i := 2) (oi := ⟨some 34, .move (.tmp 7), 3, "law.go:265", #[], none⟩) (v := ?_) (.inl ⟨by rfl, ?_⟩) ?_
      rotate_left
      · (intro wq hSw; (try dsimp only at hSw); go_simp; first | done | with_reducible rfl)
      try simp only [Act.put, sA, sZ, sS]
      refine tkZ (i := 3) (oi := ⟨some 35, .indexAddr 60 (.tmp 33) (.tmp 34), 0, "law.go:265", #[⟨1, .data⟩, ⟨2, .data⟩], none⟩) (v := ?_) (.inl ⟨by rfl, ?_⟩) ?_
      rotate_left
      · (intro wq hSw; (try dsimp only at hSw); go_simp; first | done | with_reducible rfl)
      try simp only [Act.put, sA, sZ, sS]
      refine tkZ (i := 4) (oi := ⟨some 36, .load 70 (.tmp 35), 70, "law.go:265", #[⟨3, .data⟩], none⟩) (v := ?_) (.inl ⟨by rfl, ?_⟩) ?_
      rotate_left
      · (intro wq hSw; (try dsimp only at hSw); go_simp; first | done | with_reducible rfl)
      try simp only [Act.put, sA, sZ, sS]
      refine wpZ_ready (rs := [5]) (by kernel_rfl) (by simp) ?_
      refine AllZ.cons (o := ⟨some 37, .call { callee := .value (.func 24), args := #[.tmp 32, .tmp 36], argTypes := #[64, 70] }, 64, "law.go:265", #[⟨0, .data⟩, ⟨4, .data⟩], none⟩) rfl (fun K hK => ?_) AllZ.nil
      go_simp
      rw [← HL1.out, ← HL2.out, ← HL3.out]
      refine (HC.out.new (New.refl wr).drew |>.call (s := s) (by omega) (by omega) (by omega) HS.out).mono ?_
      rintro e w5 ⟨L5, rfl, hp5⟩
      have hp5 := ChPost.pre (New.refl wr).drew hp5
      obtain ⟨A1, n1, c1, A2, n2, c2, A3, n3, c3, h1, h2, h3⟩ := hp5.1.shapes
      rw [h1, h2, h3]
      have k0 := fun o => keepR hp5.2.2.2.2 HC.out.bk.lt (HC.out.ch.boxF HC.out.bk).1 o
      have k1 := fun o => keepR hp5.2.2.2.2 (Nat.lt_of_lt_of_le hg HC.out.nw.size) (fun hk => by have := HC.out.ge _ hk; omega) o
      have HC5 : Hid (CSt W (((w5.setCell ⟨bx, 0, none⟩ (.slice A1 n1 c1)).setCell ⟨bx, 1, none⟩ (.slice A2 n2 c2)).setCell ⟨bx, 2, none⟩ (.slice A3 n3 c3)) (1 + r) (k + 1) bx L5 (x.step (1 + r) s.stp)) := Lib.hid (HC.out.next (by omega) (by omega) s.stp hp5 (by rw [h1, h2, h3]))
      have hb5 := HC.out.bk.upd hp5.2.2.2.2 (HC.out.ch.boxF HC.out.bk).1
      obtain ⟨b0, b1, b2, b3, bz⟩ := Blk3G hb5
      rw [HL1.out] at b1
      rw [HL2.out] at b2
      rw [HL3.out] at b3
      clear hp5 hb5 h1 h2 h3
      refine hK.out _ _ ?_ (fun hHeld => ?_)
      · exact ⟨k0, k1⟩
      clear hK K
      try simp only [Act.put, sA, sZ, sS]
      refine wpZ_ready (rs := [6]) (by kernel_rfl) (by simp) ?_
      refine AllZ.consZ (o := ⟨none, .store 64 (.tmp 5) (.tmp 37), 0, "law.go:265", #[⟨5, .data⟩, ⟨5, .chain⟩, ⟨0, .phase⟩, ⟨1, .phase⟩, ⟨2, .phase⟩, ⟨3, .phase⟩, ⟨4, .phase⟩, ⟨5, .phase⟩], none⟩) rfl (by kernel_rfl) (fun K hK => ?_) AllZ.nil
      go_simp
      refine hK.out _ _ ?_
      clear hK K
      try simp only [Act.put, sA, sZ, sS]
      refine wpZ_done (by kernel_rfl) ?_ _
      clear hHeld k0 k1 b0 b1 b2 b3 bz e0 e1 e2 e3 e4 e5 e6 p0 p1 p2 p3 pz
      generalize ((w5.setCell ⟨bx, 0, none⟩ (.slice A1 n1 c1)).setCell ⟨bx, 1, none⟩ (.slice A2 n2 c2)).setCell ⟨bx, 2, none⟩ (.slice A3 n3 c3) = w8 at *
      obtain ⟨p0, p1, p2, p3, pz⟩ := Blk3G HC5.out.bk
      go_wp2_with fail
      refine (holds_any HC5.out.ch HC5.out.ok (by omega) (by omega) (by have := HC5.out.cl; omega)).mono ?_
      rintro e w9 ⟨rfl, hn9⟩
      have HC9 := Lib.hid (HC5.out.new hn9)
      clear p0 p1 p2 p3 pz hn9
      go_wp2_with fail
      go_roundw
      case rel => exact ⟨k + 1, L5, _, by omega, by omega, by go_num, HC9.out⟩
      case measure => simp [intOf]; omega
    case neg =>
      have HN := Lib.hid HC.out.nw
      by_cases hlt : k < l.length
      · have hlt2 : (k : Int) < (l.length : Int) := by omega
        have hlt3 : ¬ (k : Int) < 150 := by omega
        clear hgo
        go_wp2_with fail
        go_ret
        exact ⟨rfl, HN.out⟩
      · have hlt2 : ¬ (k : Int) < (l.length : Int) := by omega
        clear hgo
        go_wp2_with fail
        go_ret
        exact ⟨rfl, HN.out⟩
end Go.Proofs.YtecniafnihpjmaaGreatDoor
