/- Chapter 23 (config): removing a node: the document's. Printed by genCfg.py. -/
import Derived.Test.YtinpbjknakncdaaDoorCfgF
namespace Go.Proofs.YtinpbjknakncdaaDoor
open Go.RowKit Go.Lap
set_option linter.unusedVariables false

set_option maxRecDepth 100000 in
set_option maxHeartbeats 8000000 in
theorem refRemove_any (e : Nat) (v : Value) (ms : List Int) (n : Int) (w : World) (he : e < 18446744073709551616) (hl : ms.length ≤ 1000000000) (hs : SlIn w 1 iEnc v ms) :
    Calls Tryd.prog 13 #[.agg #[.int .u64 (e : Int), v], .int .i64 n] w (CfgPost w (remC ⟨e, ms⟩ n)) := by
  have HS0 := Lib.hid hs
  obtain ⟨A, m, cap, rfl⟩ := hs.shape
  obtain ⟨A', c', hv, hlc, -⟩ := id hs
  cases hv
  have hN := (((New.refl w).alloc (.cells #[.int .u64 (e : Int), .slice A ms.length cap] 25)).alloc (.cells #[.int .u64 0, .slice none 0 0] 25)).alloc (.cells #[.int .u64 0, .slice none 0 0] 25)
  have hB := ((Blk.mk_new w 25 #[.int .u64 (e : Int), .slice A ms.length cap]).alloc (.cells #[.int .u64 0, .slice none 0 0] 25)).alloc (.cells #[.int .u64 0, .slice none 0 0] 25)
  have hR := (Blk.mk_new (w.alloc (.cells #[.int .u64 (e : Int), .slice A ms.length cap] 25)) 25 #[.int .u64 0, .slice none 0 0]).alloc (.cells #[.int .u64 0, .slice none 0 0] 25)
  rw [World.size_alloc] at hR
  have hZ := Blk.mk_new ((w.alloc (.cells #[.int .u64 (e : Int), .slice A ms.length cap] 25)).alloc (.cells #[.int .u64 0, .slice none 0 0] 25)) 25 #[.int .u64 0, .slice none 0 0]
  rw [World.size_alloc, World.size_alloc] at hZ
  have HS := Lib.hid (hs.new hN)
  clear hs
  go_enter Tryd.func13, Tryd.ntmps13
  go_upto_region 2 with fail
  generalize ((w.alloc _).alloc _).alloc _ = w1 at *
  obtain ⟨p0, p1, p2, pz⟩ := Blk2F hB
  obtain ⟨q0, q1, q2, qz⟩ := Blk2F hR
  obtain ⟨z0, z1, z2, zz⟩ := Blk2F hZ
  have hchk := refCheck_any e _ ms w1 hl HS.out
  cases hck : chkC ⟨e, ms⟩ with
  | false =>
    have HF := Lib.hid (show remC ⟨e, ms⟩ n = (⟨0, []⟩, 230) by unfold remC; rw [if_pos (.inl hck)]; rfl)
    rw [hck] at hchk
    clear hck
    go_wp2_with fail
    refine hchk.mono ?_
    rintro e1 w2 ⟨rfl, hn2⟩
    have hB2 := hB.new hn2
    have hR2 := hR.new hn2
    have hZ2 := hZ.new hn2
    have hN2 := hN.trans hn2
    have HS2 := Lib.hid (HS.out.new hn2)
    clear hB hR hZ hN HS hn2
    clear p0 p1 p2 pz q0 q1 q2 qz z0 z1 z2 zz
    obtain ⟨p0, p1, p2, pz⟩ := Blk2F hB2
    obtain ⟨q0, q1, q2, qz⟩ := Blk2F hR2
    obtain ⟨z0, z1, z2, zz⟩ := Blk2F hZ2
    go_wp2_with fail
    exact bodyPost_ret (v := .tuple #[.agg #[.int .u64 0, .slice none 0 0], .int .i64 230]) (by simp [results, Tryd.results13, go_sem, q1, q2]) rfl (CfgPost.bad HF.out (by first | exact hN2 | exact (hN2.setCell (p := ⟨w.heap.size + 1, 0, none⟩) (by simp) _).setCell (p := ⟨w.heap.size + 1, 1, none⟩) (by simp) _))
  | true =>
    have HK := Lib.hid hck
    rw [hck] at hchk
    clear hck
    go_wp2_with fail
    refine hchk.mono ?_
    rintro e1 w2 ⟨rfl, hn2⟩
    have hB2 := hB.new hn2
    have hR2 := hR.new hn2
    have hZ2 := hZ.new hn2
    have hN2 := hN.trans hn2
    have HS2 := Lib.hid (HS.out.new hn2)
    clear hB hR hZ hN HS hn2
    clear p0 p1 p2 pz q0 q1 q2 qz z0 z1 z2 zz
    obtain ⟨p0, p1, p2, pz⟩ := Blk2F hB2
    obtain ⟨q0, q1, q2, qz⟩ := Blk2F hR2
    obtain ⟨z0, z1, z2, zz⟩ := Blk2F hZ2
    by_cases hla : e = 4611686018427387904
    · have HF := Lib.hid (show remC ⟨e, ms⟩ n = (⟨0, []⟩, 230) by unfold remC; rw [if_pos (.inr hla)]; rfl)
      have hle : ((e : Int) == 4611686018427387904) = true := by rw [beq_iff_eq]; omega
      clear hla
      go_wp2_with fail
      exact bodyPost_ret (v := .tuple #[.agg #[.int .u64 0, .slice none 0 0], .int .i64 230]) (by simp [results, Tryd.results13, go_sem, q1, q2]) rfl (CfgPost.bad HF.out (by first | exact hN2 | exact (hN2.setCell (p := ⟨w.heap.size + 1, 0, none⟩) (by simp) _).setCell (p := ⟨w.heap.size + 1, 1, none⟩) (by simp) _))
    have hle : ((e : Int) == 4611686018427387904) = false := by rw [beq_eq_false_iff_ne]; omega
    have hnf : ¬ (chkC ⟨e, ms⟩ = false ∨ e = lastE) := by rw [HK.out]; rintro (h | h); cases h; exact hla h
    have HNF := Lib.hid hnf
    clear hnf hla
    go_wp2_with fail
    refine (refPlace_any e _ ms n _ hl HS2.out).mono ?_
    rintro e1 w3 ⟨rfl, hn3⟩
    have hB3 := hB2.new hn3
    have hR3 := hR2.new hn3
    have hZ3 := hZ2.new hn3
    have hN3 := hN2.trans hn3
    have HS3 := Lib.hid (HS2.out.new hn3)
    clear hB2 hR2 hZ2 hN2 HS2 hn3
    clear p0 p1 p2 pz q0 q1 q2 qz z0 z1 z2 zz
    obtain ⟨p0, p1, p2, pz⟩ := Blk2F hB3
    obtain ⟨q0, q1, q2, qz⟩ := Blk2F hR3
    obtain ⟨z0, z1, z2, zz⟩ := Blk2F hZ3
    rcases place_cases ms n with ⟨hni, hp⟩ | ⟨i, hi, hx, hnt, hp⟩
    · have HF := Lib.hid (show remC ⟨e, ms⟩ n = (⟨0, []⟩, 231) by unfold remC; rw [if_neg HNF.out, if_pos (place_neg.2 hni)]; rfl)
      rw [hp]
      clear hni hp
      go_wp2_with fail
      exact bodyPost_ret (v := .tuple #[.agg #[.int .u64 0, .slice none 0 0], .int .i64 231]) (by simp [results, Tryd.results13, go_sem, q1, q2]) rfl (CfgPost.bad HF.out (by first | exact hN3 | exact (hN3.setCell (p := ⟨w.heap.size + 1, 0, none⟩) (by simp) _).setCell (p := ⟨w.heap.size + 1, 1, none⟩) (by simp) _))
    have hnn : ¬ placeC ms n < 0 := by omega
    have HNN := Lib.hid hnn
    rw [hp]
    clear hnn hp hnt hx
    by_cases h1 : ms.length = 1
    · have HF := Lib.hid (show remC ⟨e, ms⟩ n = (⟨0, []⟩, 232) by unfold remC; rw [if_neg HNF.out, if_neg HNN.out, if_pos h1]; rfl)
      have h1b : ((ms.length : Int) == 1) = true := by rw [beq_iff_eq]; omega
      have hi0 : ¬ (i : Int) < 0 := by omega
      clear h1
      go_wp2_with fail
      exact bodyPost_ret (v := .tuple #[.agg #[.int .u64 0, .slice none 0 0], .int .i64 232]) (by simp [results, Tryd.results13, go_sem, q1, q2]) rfl (CfgPost.bad HF.out (by first | exact hN3 | exact (hN3.setCell (p := ⟨w.heap.size + 1, 0, none⟩) (by simp) _).setCell (p := ⟨w.heap.size + 1, 1, none⟩) (by simp) _))
    have h1b : ((ms.length : Int) == 1) = false := by rw [beq_eq_false_iff_ne]; omega
    have hi0 : ¬ (i : Int) < 0 := by omega
    have HF := Lib.hid (show remC ⟨e, ms⟩ n = (⟨e + 1, ms.filter (fun m => decide (m ≠ n))⟩, 0) by unfold remC; rw [if_neg HNF.out, if_neg HNN.out, if_neg h1, rem_filter HK.out HNN.out])
    have hw1 : IntKind.u64.wrap ((e : Int) + 1) = ((e + 1 : Nat) : Int) := by have := (chk_parts HK.out).2.1; simp only [lastE] at this; rw [IntKind.wrap_u64]; omega
    have hsz : w3.heap.size ≥ w.heap.size + 3 := by have := hZ3.lt; omega
    have HZL := Lib.hid hsz
    clear h1 hsz
    go_upto_region 9 with fail
    have hOUT : Blk (w3.alloc (.cells #[.int .u64 ((e : Int) + 1), .slice none 0 0] 25)) w3.heap.size 25 #[.int .u64 ((e + 1 : Nat) : Int), .slice none 0 0] := Blk.mk_new _ _ _
    have hA3 := (New.refl w3).alloc (.cells #[.int .u64 ((e : Int) + 1), .slice none 0 0] 25)
    have hG0 : RRel w (w3.alloc (.cells #[.int .u64 ((e : Int) + 1), .slice none 0 0] 25)) w3.heap.size e A cap ms n 0 (.slice none 0 0) := ⟨hB3.new hA3, hR3.new hA3, hOUT, Owns.nil _ _ _ _ _, hN3.trans hA3, HZL.out⟩
    have HG0 := Lib.hid hG0
    clear hOUT hG0 hA3 hB3 hR3 hZ3 hN3 HS3 HZL
    clear p0 p1 p2 pz q0 q1 q2 qz z0 z1 z2 zz
    generalize w3.heap.size = go at *
    go_wp2_with fail
    generalize w3.alloc _ = w4 at *
    go_loopw [8] (fun i wr => ∃ (k : Nat) (v : Value), k ≤ ms.length ∧ i = .int .i64 (k : Int) ∧ RRel w wr go e A cap ms n k v) (fun i _ => ms.length - (intOf i).toNat)
    case atStart => exact ⟨0, _, by omega, rfl, HG0.out⟩
    case round =>
      clear HG0
      obtain ⟨k, v, hk, rfl, hG⟩ := hrel
      obtain ⟨vA, vn, vc, rfl⟩ := (Owns.slIn iEncOk hG.own).shape
      obtain ⟨p0, p1, p2, pz⟩ := Blk2F hG.box
      obtain ⟨q0, q1, q2, qz⟩ := Blk2F hG.res
      obtain ⟨o0, o1, o2, oz⟩ := Blk2F hG.out
      by_cases hlt : k < ms.length
      · have hlt2 : (k : Int) < (ms.length : Int) := by omega
        have hk0 : (0 : Int) ≤ (k : Int) := by omega
        obtain ⟨A', c', hv, _, hh⟩ := HS0.out.new hG.new
        cases hv
        rcases hh with rfl | ⟨b, off, rfl, hbb, hc⟩
        · simp at hlt
        obtain ⟨x, hx⟩ : ∃ x, ms[k]? = some x := ⟨_, List.getElem?_eq_getElem hlt⟩
        have e0 := SlIn.int_at hc hx
        have HC := Lib.hid hc
        have HX := Lib.hid hx
        clear hc hx
        by_cases hxn : x = n
        · have HNX : Hid ((ms.take (k + 1)).filter (fun m => decide (m ≠ n)) = (ms.take k).filter (fun m => decide (m ≠ n))) := Lib.hid (by rw [take_snocI HX.out, List.filter_append, List.filter_cons_of_neg (by simpa using hxn)]; simp)
          have HGN : Hid (RRel w wr go e (some ⟨b, off, none⟩) cap ms n (k + 1) (.slice vA vn vc)) := Lib.hid ⟨hG.box, hG.res, hG.out, by rw [HNX.out]; exact hG.own, hG.new, hG.far⟩
          have hxb : (x != n) = false := by simpa using hxn
          clear hG hxn
          go_wp2_with fail
          go_roundw
          case rel => exact ⟨k + 1, _, by omega, by go_num, HGN.out⟩
          case measure => simp [intOf]; omega
        have HNX : Hid ((ms.take (k + 1)).filter (fun m => decide (m ≠ n)) = (ms.take k).filter (fun m => decide (m ≠ n)) ++ [x]) := Lib.hid (by rw [take_snocI HX.out, List.filter_append, List.filter_cons_of_pos (by simpa using hxn)]; rfl)
        have hxb : (x != n) = true := by simpa using hxn
        clear hxn
        have hll : ((ms.take k).filter (fun m => decide (m ≠ n))).length ≤ ms.length := Nat.le_trans (List.length_filter_le _ _) (by rw [List.length_take]; omega)
        have HM1 := Lib.hid (show ((ms.take k).filter (fun m => decide (m ≠ n))).length + [x].length ≤ maxLen by unfold maxLen; simp only [List.length_singleton]; omega)
        have HM2 := Lib.hid (show (((ms.take k).filter (fun m => decide (m ≠ n))).length + [x].length) * 8 ≤ 140737488355328 by simp only [List.length_singleton]; omega)
        clear hll
        have HG := Lib.hid hG
        clear hG
        go_upto_region 13 with fail
        have HE : ∀ wx, New w wx → wx.cell? ⟨b, off + k, none⟩ = some (.int .i64 x) := by
          intro wx hx
          obtain ⟨A', c', hv, _, hh⟩ := HS0.out.new hx
          cases hv
          rcases hh with rfl | ⟨b2, off2, hb2, hbb2, hc2⟩
          · simp at hlt
          · cases hb2; exact SlIn.int_at hc2 HX.out
        refine wp_region_held_drew (S := fun w' => New w w' ∧ w'.cell? ⟨w.heap.size, 0, none⟩ = some (.int .u64 (e : Int)) ∧ w'.cell? ⟨w.heap.size, 1, none⟩ = some (.slice (some ⟨b, off, none⟩) ms.length cap) ∧ w'.cell? ⟨b, off + k, none⟩ = some (.int .i64 x)) (by kernel_rfl) (⟨HG.out.new.drew, p1, p2, e0⟩) (fun hHeld => ?_)
        refine wpAnyH_take (i := 0) (oi := { dst := some 47, op := Op.fieldAddr 25 (Operand.tmp 7) 1, type := 0, pos := "ref.go:48", after := #[], guard := none }) (v := ?_) rfl (by kernel_rfl) (by kernel_rfl) (by kernel_rfl) (fun _ _ _ h => h) (Or.inl ⟨by rfl, ?_⟩) (by assumption) ?_
        rotate_left
        · (intro wq hSw; (try dsimp only at hSw); go_simp; first | done | with_reducible rfl)
        try simp only [Act.put, List.setIfInBounds_toArray, List.set_cons_zero, List.set_cons_succ]
        refine wpAnyH_take (i := 2) (oi := { dst := some 49, op := Op.fieldAddr 25 (Operand.tmp 2) 1, type := 0, pos := "ref.go:48", after := #[], guard := none }) (v := ?_) rfl (by kernel_rfl) (by kernel_rfl) (by kernel_rfl) (fun _ _ _ h => h) (Or.inl ⟨by rfl, ?_⟩) (by assumption) ?_
        rotate_left
        · (intro wq hSw; (try dsimp only at hSw); go_simp; first | done | with_reducible rfl)
        try simp only [Act.put, List.setIfInBounds_toArray, List.set_cons_zero, List.set_cons_succ]
        refine wpAnyH_take (i := 3) (oi := { dst := some 50, op := Op.load 23 (Operand.tmp 49), type := 23, pos := "ref.go:48", after := #[{ on := 2, ground := Ground.data }], guard := none }) (v := ?_) rfl (by kernel_rfl) (by kernel_rfl) (by kernel_rfl) (fun _ _ _ h => h) (Or.inl ⟨by rfl, ?_⟩) (by assumption) ?_
        rotate_left
        · (intro wq hSw; (try dsimp only at hSw); go_simp; first | done | with_reducible rfl)
        try simp only [Act.put, List.setIfInBounds_toArray, List.set_cons_zero, List.set_cons_succ]
        refine wpAnyH_take (i := 4) (oi := { dst := some 51, op := Op.move (Operand.tmp 8), type := 3, pos := "ref.go:48", after := #[], guard := none }) (v := ?_) rfl (by kernel_rfl) (by kernel_rfl) (by kernel_rfl) (fun _ _ _ h => h) (Or.inl ⟨by rfl, ?_⟩) (by assumption) ?_
        rotate_left
        · (intro wq hSw; (try dsimp only at hSw); go_simp; first | done | with_reducible rfl)
        try simp only [Act.put, List.setIfInBounds_toArray, List.set_cons_zero, List.set_cons_succ]
        refine wpAnyH_take (i := 5) (oi := { dst := some 52, op := Op.indexAddr 23 (Operand.tmp 50) (Operand.tmp 51), type := 0, pos := "ref.go:48", after := #[{ on := 3, ground := Ground.data }, { on := 4, ground := Ground.data }], guard := none }) (v := ?_) rfl (by kernel_rfl) (by kernel_rfl) (by kernel_rfl) (fun _ _ _ h => h) (Or.inl ⟨by rfl, ?_⟩) (by assumption) ?_
        rotate_left
        · (intro wq hSw; (try dsimp only at hSw); go_simp; first | done | with_reducible rfl)
        try simp only [Act.put, List.setIfInBounds_toArray, List.set_cons_zero, List.set_cons_succ]
        refine wpAnyH_take (i := 6) (oi := { dst := some 53, op := Op.load 3 (Operand.tmp 52), type := 3, pos := "ref.go:48", after := #[{ on := 5, ground := Ground.data }], guard := none }) (v := ?_) rfl (by kernel_rfl) (by kernel_rfl) (by kernel_rfl) (fun _ _ _ h => h) (Or.inl ⟨by rfl, ?_⟩) (by assumption) ?_
        rotate_left
        · (intro wq hSw; (try dsimp only at hSw); go_simp; first | done | with_reducible rfl)
        try simp only [Act.put, List.setIfInBounds_toArray, List.set_cons_zero, List.set_cons_succ]
        refine wpAnyH_ready (rs := [1, 7]) (by kernel_rfl) (by simp) ?_
        refine AllReadyH.cons (o := { dst := some 48, op := Op.load 23 (Operand.tmp 47), type := 23, pos := "ref.go:48", after := #[{ on := 0, ground := Ground.data }], guard := none }) rfl (fun K hK => ?_) (AllReadyH.cons (o := { dst := some 54, op := Op.buildSlice 23 1 #[(0, Operand.tmp 53)], type := 23, pos := "ref.go:48", after := #[{ on := 6, ground := Ground.data }], guard := none }) rfl (fun K hK => ?_) AllReadyH.nil)
        · obtain ⟨o0, o1, o2, oz⟩ := Blk2F (HG.out.out.drew)
          go_simp
          refine hK.out _ _ ?_ (fun hHeld => ?_)
          · exact by obtain ⟨t0, t1, t2, tz⟩ := Blk2F HG.out.box.drew; exact ⟨HG.out.new.drew, t1, t2, HE _ (HG.out.new.drew)⟩
          clear hK K
          try simp only [Act.put, List.setIfInBounds_toArray, List.set_cons_zero, List.set_cons_succ]
          refine wpAnyH_ready (rs := [7]) (by kernel_rfl) (by simp) ?_
          refine AllReadyH.cons (o := { dst := some 54, op := Op.buildSlice 23 1 #[(0, Operand.tmp 53)], type := 23, pos := "ref.go:48", after := #[{ on := 6, ground := Ground.data }], guard := none }) rfl (fun K hK => ?_) AllReadyH.nil
          go_simp
          have hn0 := ((New.refl wr).drew).alloc (.cells #[.int .i64 x] 3)
          have hx0 := Blk.mk_new wr.drew 3 #[.int .i64 x]
          try rw [World.size_alloc] at hx0
          refine hK.out _ _ ?_ (fun hHeld => ?_)
          · exact by obtain ⟨t0, t1, t2, tz⟩ := Blk2F (HG.out.box.new hn0); exact ⟨(HG.out.new.trans hn0), t1, t2, HE _ ((HG.out.new.trans hn0))⟩
          clear hK K
          try simp only [Act.put, List.setIfInBounds_toArray, List.set_cons_zero, List.set_cons_succ]
          refine wpAnyH_ready (rs := [8]) (by kernel_rfl) (by simp) ?_
          refine AllReadyH.cons (o := { dst := some 55, op := Op.call { callee := Callee.builtin Builtin.append, args := #[Operand.tmp 48, Operand.tmp 54], argTypes := #[23, 23] }, type := 23, pos := "ref.go:48", after := #[{ on := 1, ground := Ground.data }, { on := 7, ground := Ground.data }], guard := none }) rfl (fun K hK => ?_) AllReadyH.nil
          refine step_app iTy iEncOk rfl (.tmp 48) (.tmp 54) rfl rfl rfl (HG.out.own.new hn0) (SlIn.one (x := x) hx0 iEncOk rfl) HM1.out HM2.out (Nat.le_trans (show go + 1 ≤ wr.heap.size from HG.out.out.lt) (hn0).size) ?_
          intro va wa hoa hga hba
          rw [← HNX.out] at hoa
          obtain ⟨xa, ya, za, rfl⟩ := (Owns.slIn iEncOk hoa).shape
          have hNa := (HG.out.new.trans hn0).grown hga (fun k0 hk0 => by have h1 := (HG.out.own.new hn0).blockGe k0 hk0; have h2 := HG.out.far; omega)
          have hBa := (HG.out.box.new hn0).grown hga (by intro e0; have h1 := (HG.out.own.new hn0).blockGe _ e0.symm; have h2 := HG.out.far; omega)
          have hRa := (HG.out.res.new hn0).grown hga (by intro e0; have h1 := (HG.out.own.new hn0).blockGe _ e0.symm; have h2 := HG.out.far; omega)
          have hOa := (HG.out.out.new hn0).grown hga (by intro e0; have h1 := (HG.out.own.new hn0).blockGe _ e0.symm; omega)
          refine hK.out _ _ ?_ (fun hHeld => ?_)
          · exact by obtain ⟨t0, t1, t2, tz⟩ := Blk2F hBa; exact ⟨hNa, t1, t2, HE _ (hNa)⟩
          clear hK K
          try simp only [Act.put, List.setIfInBounds_toArray, List.set_cons_zero, List.set_cons_succ]
          refine wpAnyH_take (i := 9) (oi := { dst := some 56, op := Op.fieldAddr 25 (Operand.tmp 7) 1, type := 0, pos := "ref.go:48", after := #[{ on := 0, ground := Ground.phase }, { on := 1, ground := Ground.phase }, { on := 2, ground := Ground.phase }, { on := 3, ground := Ground.phase }, { on := 4, ground := Ground.phase }, { on := 5, ground := Ground.phase }, { on := 6, ground := Ground.phase }, { on := 7, ground := Ground.phase }, { on := 8, ground := Ground.phase }], guard := none }) (v := ?_) rfl (by kernel_rfl) (by kernel_rfl) (by kernel_rfl) (fun _ _ _ h => h) (Or.inl ⟨by rfl, ?_⟩) (by assumption) ?_
          rotate_left
          · (intro wq hSw; (try dsimp only at hSw); go_simp; first | done | with_reducible rfl)
          try simp only [Act.put, List.setIfInBounds_toArray, List.set_cons_zero, List.set_cons_succ]
          refine wpAnyH_ready (rs := [10]) (by kernel_rfl) (by simp) ?_
          refine AllReadyH.cons (o := { dst := none, op := Op.store 23 (Operand.tmp 56) (Operand.tmp 55), type := 0, pos := "ref.go:48", after := #[{ on := 9, ground := Ground.data }, { on := 8, ground := Ground.data }, { on := 8, ground := Ground.chain }, { on := 0, ground := Ground.phase }, { on := 1, ground := Ground.phase }, { on := 2, ground := Ground.phase }, { on := 3, ground := Ground.phase }, { on := 4, ground := Ground.phase }, { on := 5, ground := Ground.phase }, { on := 6, ground := Ground.phase }, { on := 7, ground := Ground.phase }, { on := 8, ground := Ground.phase }], guard := none }) rfl (fun K hK => ?_) AllReadyH.nil
          obtain ⟨o0, o1, o2, oz⟩ := Blk2F hOa
          go_simp
          have hNs := hNa.setCell (p := ⟨go, 1, none⟩) (by have h2 := HG.out.far; show w.heap.size ≤ go; omega) (.slice xa ya za)
          have hBs := hBa.far (p := ⟨go, 1, none⟩) (by have h2 := HG.out.far; show w.heap.size ≠ go; omega) (.slice xa ya za)
          have hRs := hRa.far (p := ⟨go, 1, none⟩) (by have h2 := HG.out.far; show w.heap.size + 1 ≠ go; omega) (.slice xa ya za)
          have hOs := hOa.set_ 1 (.slice xa ya za)
          have hos := hoa.setFar (p := ⟨go, 1, none⟩) (by intro e0; have h1 := hoa.blockGe _ e0; dsimp only at h1; omega) (.slice xa ya za)
          have HGN : Hid (RRel w (wa.setCell ⟨go, 1, none⟩ (.slice xa ya za)) go e (some ⟨b, off, none⟩) cap ms n (k + 1) (.slice xa ya za)) := Lib.hid ⟨hBs, hRs, hOs, hos, hNs, HG.out.far⟩
          refine hK.out _ _ ?_ (fun hHeld => ?_)
          · exact by obtain ⟨t0, t1, t2, tz⟩ := Blk2F hBs; exact ⟨hNs, t1, t2, HE _ (hNs)⟩
          clear hK K
          try simp only [Act.put, List.setIfInBounds_toArray, List.set_cons_zero, List.set_cons_succ]
          refine wpAnyH_done (by kernel_rfl) ?_ _
          clear hHeld
          go_wp2_with fail
          go_roundw
          case rel => exact ⟨k + 1, _, by omega, by go_num, HGN.out⟩
          case measure => simp [intOf]; omega
        · go_simp
          have hn0 := ((New.refl wr).drew).alloc (.cells #[.int .i64 x] 3)
          have hx0 := Blk.mk_new wr.drew 3 #[.int .i64 x]
          try rw [World.size_alloc] at hx0
          refine hK.out _ _ ?_ (fun hHeld => ?_)
          · exact by obtain ⟨t0, t1, t2, tz⟩ := Blk2F (HG.out.box.new hn0); exact ⟨(HG.out.new.trans hn0), t1, t2, HE _ ((HG.out.new.trans hn0))⟩
          clear hK K
          try simp only [Act.put, List.setIfInBounds_toArray, List.set_cons_zero, List.set_cons_succ]
          refine wpAnyH_ready (rs := [1]) (by kernel_rfl) (by simp) ?_
          refine AllReadyH.cons (o := { dst := some 48, op := Op.load 23 (Operand.tmp 47), type := 23, pos := "ref.go:48", after := #[{ on := 0, ground := Ground.data }], guard := none }) rfl (fun K hK => ?_) AllReadyH.nil
          obtain ⟨o0, o1, o2, oz⟩ := Blk2F (HG.out.out.new hn0)
          go_simp
          refine hK.out _ _ ?_ (fun hHeld => ?_)
          · exact by obtain ⟨t0, t1, t2, tz⟩ := Blk2F (HG.out.box.new hn0); exact ⟨(HG.out.new.trans hn0), t1, t2, HE _ ((HG.out.new.trans hn0))⟩
          clear hK K
          try simp only [Act.put, List.setIfInBounds_toArray, List.set_cons_zero, List.set_cons_succ]
          refine wpAnyH_ready (rs := [8]) (by kernel_rfl) (by simp) ?_
          refine AllReadyH.cons (o := { dst := some 55, op := Op.call { callee := Callee.builtin Builtin.append, args := #[Operand.tmp 48, Operand.tmp 54], argTypes := #[23, 23] }, type := 23, pos := "ref.go:48", after := #[{ on := 1, ground := Ground.data }, { on := 7, ground := Ground.data }], guard := none }) rfl (fun K hK => ?_) AllReadyH.nil
          refine step_app iTy iEncOk rfl (.tmp 48) (.tmp 54) rfl rfl rfl (HG.out.own.new hn0) (SlIn.one (x := x) hx0 iEncOk rfl) HM1.out HM2.out (Nat.le_trans (show go + 1 ≤ wr.heap.size from HG.out.out.lt) (hn0).size) ?_
          intro va wa hoa hga hba
          rw [← HNX.out] at hoa
          obtain ⟨xa, ya, za, rfl⟩ := (Owns.slIn iEncOk hoa).shape
          have hNa := (HG.out.new.trans hn0).grown hga (fun k0 hk0 => by have h1 := (HG.out.own.new hn0).blockGe k0 hk0; have h2 := HG.out.far; omega)
          have hBa := (HG.out.box.new hn0).grown hga (by intro e0; have h1 := (HG.out.own.new hn0).blockGe _ e0.symm; have h2 := HG.out.far; omega)
          have hRa := (HG.out.res.new hn0).grown hga (by intro e0; have h1 := (HG.out.own.new hn0).blockGe _ e0.symm; have h2 := HG.out.far; omega)
          have hOa := (HG.out.out.new hn0).grown hga (by intro e0; have h1 := (HG.out.own.new hn0).blockGe _ e0.symm; omega)
          refine hK.out _ _ ?_ (fun hHeld => ?_)
          · exact by obtain ⟨t0, t1, t2, tz⟩ := Blk2F hBa; exact ⟨hNa, t1, t2, HE _ (hNa)⟩
          clear hK K
          try simp only [Act.put, List.setIfInBounds_toArray, List.set_cons_zero, List.set_cons_succ]
          refine wpAnyH_take (i := 9) (oi := { dst := some 56, op := Op.fieldAddr 25 (Operand.tmp 7) 1, type := 0, pos := "ref.go:48", after := #[{ on := 0, ground := Ground.phase }, { on := 1, ground := Ground.phase }, { on := 2, ground := Ground.phase }, { on := 3, ground := Ground.phase }, { on := 4, ground := Ground.phase }, { on := 5, ground := Ground.phase }, { on := 6, ground := Ground.phase }, { on := 7, ground := Ground.phase }, { on := 8, ground := Ground.phase }], guard := none }) (v := ?_) rfl (by kernel_rfl) (by kernel_rfl) (by kernel_rfl) (fun _ _ _ h => h) (Or.inl ⟨by rfl, ?_⟩) (by assumption) ?_
          rotate_left
          · (intro wq hSw; (try dsimp only at hSw); go_simp; first | done | with_reducible rfl)
          try simp only [Act.put, List.setIfInBounds_toArray, List.set_cons_zero, List.set_cons_succ]
          refine wpAnyH_ready (rs := [10]) (by kernel_rfl) (by simp) ?_
          refine AllReadyH.cons (o := { dst := none, op := Op.store 23 (Operand.tmp 56) (Operand.tmp 55), type := 0, pos := "ref.go:48", after := #[{ on := 9, ground := Ground.data }, { on := 8, ground := Ground.data }, { on := 8, ground := Ground.chain }, { on := 0, ground := Ground.phase }, { on := 1, ground := Ground.phase }, { on := 2, ground := Ground.phase }, { on := 3, ground := Ground.phase }, { on := 4, ground := Ground.phase }, { on := 5, ground := Ground.phase }, { on := 6, ground := Ground.phase }, { on := 7, ground := Ground.phase }, { on := 8, ground := Ground.phase }], guard := none }) rfl (fun K hK => ?_) AllReadyH.nil
          obtain ⟨o0, o1, o2, oz⟩ := Blk2F hOa
          go_simp
          have hNs := hNa.setCell (p := ⟨go, 1, none⟩) (by have h2 := HG.out.far; show w.heap.size ≤ go; omega) (.slice xa ya za)
          have hBs := hBa.far (p := ⟨go, 1, none⟩) (by have h2 := HG.out.far; show w.heap.size ≠ go; omega) (.slice xa ya za)
          have hRs := hRa.far (p := ⟨go, 1, none⟩) (by have h2 := HG.out.far; show w.heap.size + 1 ≠ go; omega) (.slice xa ya za)
          have hOs := hOa.set_ 1 (.slice xa ya za)
          have hos := hoa.setFar (p := ⟨go, 1, none⟩) (by intro e0; have h1 := hoa.blockGe _ e0; dsimp only at h1; omega) (.slice xa ya za)
          have HGN : Hid (RRel w (wa.setCell ⟨go, 1, none⟩ (.slice xa ya za)) go e (some ⟨b, off, none⟩) cap ms n (k + 1) (.slice xa ya za)) := Lib.hid ⟨hBs, hRs, hOs, hos, hNs, HG.out.far⟩
          refine hK.out _ _ ?_ (fun hHeld => ?_)
          · exact by obtain ⟨t0, t1, t2, tz⟩ := Blk2F hBs; exact ⟨hNs, t1, t2, HE _ (hNs)⟩
          clear hK K
          try simp only [Act.put, List.setIfInBounds_toArray, List.set_cons_zero, List.set_cons_succ]
          refine wpAnyH_done (by kernel_rfl) ?_ _
          clear hHeld
          go_wp2_with fail
          go_roundw
          case rel => exact ⟨k + 1, _, by omega, by go_num, HGN.out⟩
          case measure => simp [intOf]; omega
      · have hlt2 : ¬ (k : Int) < (ms.length : Int) := by omega
        have ho := hG.own
        rw [List.take_of_length_le (by omega)] at ho
        have hNf := hG.new
        have hfar := hG.far
        have hsla := Owns.slIn iEncOk ho
        have hge := ho.blockGe
        clear hG ho
        have hN6 := (hNf.setCell (p := ⟨w.heap.size + 1, 0, none⟩) (by simp) (.int .u64 ((e + 1 : Nat) : Int))).setCell (p := ⟨w.heap.size + 1, 1, none⟩) (by simp) (.slice vA vn vc)
        have hS6 := SlIn.upd (S := (· = w.heap.size + 1)) hsla (((Upd.refl _ wr).setIn 0 (.int .u64 ((e + 1 : Nat) : Int))).setIn 1 (.slice vA vn vc)) (fun k0 hk0 e1 => by have := hge k0 hk0; omega)
        clear hsla hge hNf
        go_wp2_with fail
        exact bodyPost_ret (v := .tuple #[.agg #[.int .u64 ((e + 1 : Nat) : Int), .slice vA vn vc], .int .i64 0]) (by simp [results, Tryd.results13, go_sem, q1, q2]) rfl (by unfold CfgPost; rw [HF.out]; exact ⟨_, rfl, hS6, hN6⟩)
end Go.Proofs.YtinpbjknakncdaaDoor
