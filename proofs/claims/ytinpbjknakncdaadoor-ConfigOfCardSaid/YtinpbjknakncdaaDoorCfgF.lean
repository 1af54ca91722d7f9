/- Chapter 23 (config): removing and joining a node: the document's. Printed by genCfg.py. -/
import Derived.Test.YtinpbjknakncdaaDoorCfgE
namespace Go.Proofs.YtinpbjknakncdaaDoor
open Go.RowKit Go.Lap
set_option linter.unusedVariables false

/-- What is left of the members so far. -/
structure RRel (w wr : World) (go : Nat) (e : Nat) (A : Option Addr) (cap : Nat) (ms : List Int) (n : Int) (k : Nat) (v : Value) : Prop where
  box : Blk wr w.heap.size 25 #[.int .u64 (e : Int), .slice A ms.length cap]
  res : Blk wr (w.heap.size + 1) 25 #[.int .u64 0, .slice none 0 0]
  out : Blk wr go 25 #[.int .u64 ((e + 1 : Nat) : Int), v]
  own : Owns wr (go + 1) 3 1 iEnc v ((ms.take k).filter (fun m => decide (m ≠ n)))
  new : New w wr
  far : go ≥ w.heap.size + 3

set_option maxRecDepth 100000 in
set_option maxHeartbeats 8000000 in
theorem refJoin_any (e : Nat) (v : Value) (ms : List Int) (n : Int) (w : World) (he : e < 18446744073709551616) (hl : ms.length ≤ 1000000000) (hs : SlIn w 1 iEnc v ms) :
    Calls Tryd.prog 15 #[.agg #[.int .u64 (e : Int), v], .int .i64 n] w (CfgPost w (joinC ⟨e, ms⟩ n)) := by
  obtain ⟨A, m, cap, rfl⟩ := hs.shape
  obtain ⟨A', c', hv, hlc, -⟩ := id hs
  cases hv
  have hN := (((New.refl w).alloc (.cells #[.int .u64 (e : Int), .slice A ms.length cap] 25)).alloc (.cells #[.int .u64 0, .slice none 0 0] 25)).alloc (.cells #[.int .u64 0, .slice none 0 0] 25)
  have hB := ((Blk.mk_new w 25 #[.int .u64 (e : Int), .slice A ms.length cap]).alloc (.cells #[.int .u64 0, .slice none 0 0] 25)).alloc (.cells #[.int .u64 0, .slice none 0 0] 25)
  have hR := (Blk.mk_new (w.alloc (.cells #[.int .u64 (e : Int), .slice A ms.length cap] 25)) 25 #[.int .u64 0, .slice none 0 0]).alloc (.cells #[.int .u64 0, .slice none 0 0] 25)
  rw [World.size_alloc] at hR
  have hZ := Blk.mk_new ((w.alloc (.cells #[.int .u64 (e : Int), .slice A ms.length cap] 25)).alloc (.cells #[.int .u64 0, .slice none 0 0] 25)) 25 #[.int .u64 0, .slice none 0 0]
  rw [World.size_alloc, World.size_alloc] at hZ
  have HS := Lib.hid (hs.new hN)
  clear hs
  go_enter Tryd.func15, Tryd.ntmps15
  go_upto_region 2 with fail
  generalize ((w.alloc _).alloc _).alloc _ = w1 at *
  obtain ⟨p0, p1, p2, pz⟩ := Blk2F hB
  obtain ⟨q0, q1, q2, qz⟩ := Blk2F hR
  obtain ⟨z0, z1, z2, zz⟩ := Blk2F hZ
  have hchk := refCheck_any e _ ms w1 hl HS.out
  cases hck : chkC ⟨e, ms⟩ with
  | false =>
    have HF := Lib.hid (show joinC ⟨e, ms⟩ n = (⟨0, []⟩, 230) by unfold joinC; rw [if_pos (.inl hck)]; rfl)
    rw [hck] at hchk
    clear hck
    go_wp2_with fail
    refine hchk.mono ?_
    rintro e1 w2 ⟨rfl, hn2⟩
    have hB2 := hB.new hn2
    have hR2 := hR.new hn2
    have hZ2 := hZ.new hn2
    have hN2 := hN.trans hn2
    have HS2 := Lib.hid (HS.out.new hn2)
    clear hB hR hZ hN HS hn2
    clear p0 p1 p2 pz q0 q1 q2 qz z0 z1 z2 zz
    obtain ⟨p0, p1, p2, pz⟩ := Blk2F hB2
    obtain ⟨q0, q1, q2, qz⟩ := Blk2F hR2
    obtain ⟨z0, z1, z2, zz⟩ := Blk2F hZ2
    go_wp2_with fail
    exact bodyPost_ret (v := .tuple #[.agg #[.int .u64 0, .slice none 0 0], .int .i64 230]) (by simp [results, Tryd.results15, go_sem, q1, q2]) rfl (CfgPost.bad HF.out (by first | exact hN2 | exact (hN2.setCell (p := ⟨w.heap.size + 1, 0, none⟩) (by simp) _).setCell (p := ⟨w.heap.size + 1, 1, none⟩) (by simp) _))
  | true =>
    have HK := Lib.hid hck
    rw [hck] at hchk
    clear hck
    go_wp2_with fail
    refine hchk.mono ?_
    rintro e1 w2 ⟨rfl, hn2⟩
    have hB2 := hB.new hn2
    have hR2 := hR.new hn2
    have hZ2 := hZ.new hn2
    have hN2 := hN.trans hn2
    have HS2 := Lib.hid (HS.out.new hn2)
    clear hB hR hZ hN HS hn2
    clear p0 p1 p2 pz q0 q1 q2 qz z0 z1 z2 zz
    obtain ⟨p0, p1, p2, pz⟩ := Blk2F hB2
    obtain ⟨q0, q1, q2, qz⟩ := Blk2F hR2
    obtain ⟨z0, z1, z2, zz⟩ := Blk2F hZ2
    by_cases hla : e = 4611686018427387904
    · have HF := Lib.hid (show joinC ⟨e, ms⟩ n = (⟨0, []⟩, 230) by unfold joinC; rw [if_pos (.inr (.inl hla))]; rfl)
      have hle : ((e : Int) == 4611686018427387904) = true := by rw [beq_iff_eq]; omega
      clear hla
      go_wp2_with fail
      exact bodyPost_ret (v := .tuple #[.agg #[.int .u64 0, .slice none 0 0], .int .i64 230]) (by simp [results, Tryd.results15, go_sem, q1, q2]) rfl (CfgPost.bad HF.out (by first | exact hN2 | exact (hN2.setCell (p := ⟨w.heap.size + 1, 0, none⟩) (by simp) _).setCell (p := ⟨w.heap.size + 1, 1, none⟩) (by simp) _))
    have hle : ((e : Int) == 4611686018427387904) = false := by rw [beq_eq_false_iff_ne]; omega
    cases hmb : memB n with
    | false =>
      have HF := Lib.hid (show joinC ⟨e, ms⟩ n = (⟨0, []⟩, 230) by unfold joinC; rw [if_pos (.inr (.inr hmb))]; rfl)
      by_cases hn0 : n < 0
      · clear hmb hla
        go_wp2_with fail
        exact bodyPost_ret (v := .tuple #[.agg #[.int .u64 0, .slice none 0 0], .int .i64 230]) (by simp [results, Tryd.results15, go_sem, q1, q2]) rfl (CfgPost.bad HF.out (by first | exact hN2 | exact (hN2.setCell (p := ⟨w.heap.size + 1, 0, none⟩) (by simp) _).setCell (p := ⟨w.heap.size + 1, 1, none⟩) (by simp) _))
      · have hn63 : 63 < n := by simp only [memB, Bool.and_eq_false_iff, decide_eq_false_iff_not] at hmb; omega
        clear hmb hla
        go_wp2_with fail
        exact bodyPost_ret (v := .tuple #[.agg #[.int .u64 0, .slice none 0 0], .int .i64 230]) (by simp [results, Tryd.results15, go_sem, q1, q2]) rfl (CfgPost.bad HF.out (by first | exact hN2 | exact (hN2.setCell (p := ⟨w.heap.size + 1, 0, none⟩) (by simp) _).setCell (p := ⟨w.heap.size + 1, 1, none⟩) (by simp) _))
    | true =>
      have hnf : ¬ (chkC ⟨e, ms⟩ = false ∨ e = lastE ∨ memB n = false) := by rw [HK.out, hmb]; rintro (h | h | h); cases h; exact hla h; cases h
      have HNF := Lib.hid hnf
      have hn0 : ¬ n < 0 := by simp only [memB, Bool.and_eq_true, decide_eq_true_eq] at hmb; omega
      have hn63 : ¬ 63 < n := by simp only [memB, Bool.and_eq_true, decide_eq_true_eq] at hmb; omega
      clear hnf hmb hla
      go_wp2_with fail
      refine (refPlace_any e _ ms n _ hl HS2.out).mono ?_
      rintro e1 w3 ⟨rfl, hn3⟩
      have hB3 := hB2.new hn3
      have hR3 := hR2.new hn3
      have hZ3 := hZ2.new hn3
      have hN3 := hN2.trans hn3
      have HS3 := Lib.hid (HS2.out.new hn3)
      clear hB2 hR2 hZ2 hN2 HS2 hn3
      clear p0 p1 p2 pz q0 q1 q2 qz z0 z1 z2 zz
      obtain ⟨p0, p1, p2, pz⟩ := Blk2F hB3
      obtain ⟨q0, q1, q2, qz⟩ := Blk2F hR3
      obtain ⟨z0, z1, z2, zz⟩ := Blk2F hZ3
      rcases place_cases ms n with ⟨hni, hp⟩ | ⟨i, hi, hx, hnt, hp⟩
      rotate_left
      · have hnn : (0 : Int) ≤ placeC ms n := by omega
        have HF := Lib.hid (show joinC ⟨e, ms⟩ n = (⟨0, []⟩, 231) by unfold joinC; rw [if_neg HNF.out, if_pos hnn]; rfl)
        rw [hp]
        have hi0 : (0 : Int) ≤ (i : Int) := by omega
        clear hp hnt hx hnn
        go_wp2_with fail
        exact bodyPost_ret (v := .tuple #[.agg #[.int .u64 0, .slice none 0 0], .int .i64 231]) (by simp [results, Tryd.results15, go_sem, q1, q2]) rfl (CfgPost.bad HF.out (by first | exact hN3 | exact (hN3.setCell (p := ⟨w.heap.size + 1, 0, none⟩) (by simp) _).setCell (p := ⟨w.heap.size + 1, 1, none⟩) (by simp) _))
      have hnn : ¬ (0 : Int) ≤ placeC ms n := by omega
      have HNN := Lib.hid hnn
      rw [hp]
      clear hnn hp hni
      by_cases h7 : ms.length = 7
      · have HF := Lib.hid (show joinC ⟨e, ms⟩ n = (⟨0, []⟩, 233) by unfold joinC; rw [if_neg HNF.out, if_neg HNN.out, if_pos h7]; rfl)
        have h7b : ((ms.length : Int) == 7) = true := by rw [beq_iff_eq]; omega
        clear h7
        go_wp2_with fail
        exact bodyPost_ret (v := .tuple #[.agg #[.int .u64 0, .slice none 0 0], .int .i64 233]) (by simp [results, Tryd.results15, go_sem, q1, q2]) rfl (CfgPost.bad HF.out (by first | exact hN3 | exact (hN3.setCell (p := ⟨w.heap.size + 1, 0, none⟩) (by simp) _).setCell (p := ⟨w.heap.size + 1, 1, none⟩) (by simp) _))
      have h7b : ((ms.length : Int) == 7) = false := by rw [beq_eq_false_iff_ne]; omega
      have HF := Lib.hid (show joinC ⟨e, ms⟩ n = (⟨e + 1, ms ++ [n]⟩, 0) by unfold joinC; rw [if_neg HNF.out, if_neg HNN.out, if_neg h7])
      have hw1 : IntKind.u64.wrap ((e : Int) + 1) = ((e + 1 : Nat) : Int) := by have := (chk_parts HK.out).2.1; simp only [lastE] at this; rw [IntKind.wrap_u64]; omega
      have HNE := Lib.hid (show ms ≠ [] by have := (chk_parts HK.out).2.2.1; intro h; rw [h] at this; simp at this)
      have HM1 := Lib.hid (show ms.length + [n].length ≤ maxLen by unfold maxLen; simp only [List.length_singleton]; omega)
      have HM2 := Lib.hid (show (ms.length + [n].length) * 8 ≤ 140737488355328 by simp only [List.length_singleton]; omega)
      have HR2 := Lib.hid (show w.heap.size + 2 ≤ w3.heap.size by have := hR3.lt; omega)
      have HB3 := Lib.hid hB3
      have HR3 := Lib.hid hR3
      clear hB3 hR3 h7
      have HM3 := Lib.hid (show ([] : List Int).length + ms.length ≤ maxLen by unfold maxLen; simp only [List.length_nil]; omega)
      have HM4 := Lib.hid (show (([] : List Int).length + ms.length) * 8 ≤ 140737488355328 by simp only [List.length_nil]; omega)
      go_upto_region 8 with fail
      refine wp_region_held_drew (S := fun w' => New w w' ∧ w'.cell? ⟨w.heap.size, 0, none⟩ = some (.int .u64 (e : Int)) ∧ w'.cell? ⟨w.heap.size, 1, none⟩ = some (.slice A ms.length cap)) (by kernel_rfl) (by first | exact ⟨hN3.drew, p1, p2⟩) (fun hHeld => ?_)
      refine wpAnyH_take (i := 0) (oi := { dst := some 35, op := Op.fieldAddr 25 (Operand.tmp 2) 0, type := 0, pos := "ref.go:66", after := #[], guard := none }) (v := ?_) rfl (by kernel_rfl) (by kernel_rfl) (by kernel_rfl) (fun _ _ _ h => h) (Or.inl ⟨by rfl, ?_⟩) (by assumption) ?_
      rotate_left
      · (intro wq hSw; (try dsimp only at hSw); go_simp; first | done | with_reducible rfl)
      try simp only [Act.put, List.setIfInBounds_toArray, List.set_cons_zero, List.set_cons_succ]
      refine wpAnyH_take (i := 1) (oi := { dst := some 36, op := Op.load 22 (Operand.tmp 35), type := 22, pos := "ref.go:66", after := #[{ on := 0, ground := Ground.data }], guard := none }) (v := ?_) rfl (by kernel_rfl) (by kernel_rfl) (by kernel_rfl) (fun _ _ _ h => h) (Or.inl ⟨by rfl, ?_⟩) (by assumption) ?_
      rotate_left
      · (intro wq hSw; (try dsimp only at hSw); go_simp; first | done | with_reducible rfl)
      try simp only [Act.put, List.setIfInBounds_toArray, List.set_cons_zero, List.set_cons_succ]
      refine wpAnyH_take (i := 2) (oi := { dst := some 37, op := Op.binOp BinOp.add 22 (Operand.tmp 36) (Operand.const (Value.int IntKind.u64 1)) 22, type := 22, pos := "ref.go:66", after := #[{ on := 1, ground := Ground.data }], guard := none }) (v := ?_) rfl (by kernel_rfl) (by kernel_rfl) (by kernel_rfl) (fun _ _ _ h => h) (Or.inl ⟨by rfl, ?_⟩) (by assumption) ?_
      rotate_left
      · (intro wq hSw; (try dsimp only at hSw); go_simp; first | done | with_reducible rfl)
      try simp only [Act.put, List.setIfInBounds_toArray, List.set_cons_zero, List.set_cons_succ]
      refine wpAnyH_take (i := 4) (oi := { dst := some 39, op := Op.fieldAddr 25 (Operand.tmp 2) 1, type := 0, pos := "ref.go:66", after := #[], guard := none }) (v := ?_) rfl (by kernel_rfl) (by kernel_rfl) (by kernel_rfl) (fun _ _ _ h => h) (Or.inl ⟨by rfl, ?_⟩) (by assumption) ?_
      rotate_left
      · (intro wq hSw; (try dsimp only at hSw); go_simp; first | done | with_reducible rfl)
      try simp only [Act.put, List.setIfInBounds_toArray, List.set_cons_zero, List.set_cons_succ]
      refine wpAnyH_take (i := 5) (oi := { dst := some 40, op := Op.load 23 (Operand.tmp 39), type := 23, pos := "ref.go:66", after := #[{ on := 4, ground := Ground.data }], guard := none }) (v := ?_) rfl (by kernel_rfl) (by kernel_rfl) (by kernel_rfl) (fun _ _ _ h => h) (Or.inl ⟨by rfl, ?_⟩) (by assumption) ?_
      rotate_left
      · (intro wq hSw; (try dsimp only at hSw); go_simp; first | done | with_reducible rfl)
      try simp only [Act.put, List.setIfInBounds_toArray, List.set_cons_zero, List.set_cons_succ]
      refine wpAnyH_take (i := 7) (oi := { dst := some 42, op := Op.move (Operand.tmp 1), type := 3, pos := "ref.go:66", after := #[], guard := none }) (v := ?_) rfl (by kernel_rfl) (by kernel_rfl) (by kernel_rfl) (fun _ _ _ h => h) (Or.inl ⟨by rfl, ?_⟩) (by assumption) ?_
      rotate_left
      · (intro wq hSw; (try dsimp only at hSw); go_simp; first | done | with_reducible rfl)
      try simp only [Act.put, List.setIfInBounds_toArray, List.set_cons_zero, List.set_cons_succ]
      refine wpAnyH_ready (rs := [3, 8]) (by kernel_rfl) (by simp) ?_
      refine AllReadyH.cons (o := { dst := some 38, op := Op.buildSlice 23 0 #[], type := 23, pos := "ref.go:66", after := #[], guard := none }) rfl (fun K hK => ?_) (AllReadyH.cons (o := { dst := some 43, op := Op.buildSlice 23 1 #[(0, Operand.tmp 42)], type := 23, pos := "ref.go:66", after := #[{ on := 7, ground := Ground.data }], guard := none }) rfl (fun K hK => ?_) AllReadyH.nil)
      · go_simp
        have hn0 := ((New.refl w3).drew).alloc (.cells #[] 3)
        have ho0 : Owns (w3.drew.alloc (.cells #[] 3)) w3.heap.size 3 1 iEnc (.slice (some ⟨w3.drew.heap.size, 0, none⟩) 0 0) ([] : List Int) := World.ownsRow_made w3.drew #[] 0 (by have h2 := ((New.refl w3).drew).size; have h3 : (w3.drew : World).heap.size = w3.heap.size := rfl; omega) (by unfold maxLen; omega) rfl
        try rw [World.size_alloc] at ho0
        refine hK.out _ _ ?_ (fun hHeld => ?_)
        · exact by obtain ⟨t0, t1, t2, tz⟩ := Blk2F (HB3.out.new hn0); exact ⟨(hN3.trans hn0), t1, t2⟩
        clear hK K
        try simp only [Act.put, List.setIfInBounds_toArray, List.set_cons_zero, List.set_cons_succ]
        refine wpAnyH_ready (rs := [6, 8]) (by kernel_rfl) (by simp) ?_
        refine AllReadyH.cons (o := { dst := some 41, op := Op.call { callee := Callee.builtin Builtin.append, args := #[Operand.tmp 38, Operand.tmp 40], argTypes := #[23, 23] }, type := 23, pos := "ref.go:66", after := #[{ on := 3, ground := Ground.data }, { on := 5, ground := Ground.data }], guard := none }) rfl (fun K hK => ?_) (AllReadyH.cons (o := { dst := some 43, op := Op.buildSlice 23 1 #[(0, Operand.tmp 42)], type := 23, pos := "ref.go:66", after := #[{ on := 7, ground := Ground.data }], guard := none }) rfl (fun K hK => ?_) AllReadyH.nil)
        · refine step_app iTy iEncOk rfl (.tmp 38) (.tmp 40) rfl rfl rfl ho0 (HS3.out.new (hn0)) HM3.out HM4.out ((hn0).size) ?_
          intro vb wb hob hgb hbb
          rw [List.nil_append] at hob
          obtain ⟨gb, capb, curb, rfl, hgeb, hbbb, -, -⟩ := owns_at hob HNE.out
          have hn1 := (hn0).grown hgb (fun k hk => by have h1 := ho0.blockGe k hk; have h3 : (w3.drew : World).heap.size = w3.heap.size := rfl; omega)
          have hob2 := hob.lower HR2.out
          refine hK.out _ _ ?_ (fun hHeld => ?_)
          · exact by obtain ⟨t0, t1, t2, tz⟩ := Blk2F (HB3.out.new hn1); exact ⟨(hN3.trans hn1), t1, t2⟩
          clear hK K
          try simp only [Act.put, List.setIfInBounds_toArray, List.set_cons_zero, List.set_cons_succ]
          refine wpAnyH_ready (rs := [8]) (by kernel_rfl) (by simp) ?_
          refine AllReadyH.cons (o := { dst := some 43, op := Op.buildSlice 23 1 #[(0, Operand.tmp 42)], type := 23, pos := "ref.go:66", after := #[{ on := 7, ground := Ground.data }], guard := none }) rfl (fun K hK => ?_) AllReadyH.nil
          go_simp
          have hn2 := (hn1).alloc (.cells #[.int .i64 n] 3)
          have hx2 := Blk.mk_new wb 3 #[.int .i64 n]
          try rw [World.size_alloc] at hx2
          have ho2 := hob2.alloc (.cells #[.int .i64 n] 3)
          refine hK.out _ _ ?_ (fun hHeld => ?_)
          · exact by obtain ⟨t0, t1, t2, tz⟩ := Blk2F (HB3.out.new hn2); exact ⟨(hN3.trans hn2), t1, t2⟩
          clear hK K
          try simp only [Act.put, List.setIfInBounds_toArray, List.set_cons_zero, List.set_cons_succ]
          refine wpAnyH_ready (rs := [9]) (by kernel_rfl) (by simp) ?_
          refine AllReadyH.cons (o := { dst := some 44, op := Op.call { callee := Callee.builtin Builtin.append, args := #[Operand.tmp 41, Operand.tmp 43], argTypes := #[23, 23] }, type := 23, pos := "ref.go:66", after := #[{ on := 6, ground := Ground.data }, { on := 8, ground := Ground.data }, { on := 6, ground := Ground.chain }], guard := none }) rfl (fun K hK => ?_) AllReadyH.nil
          refine step_app iTy iEncOk rfl (.tmp 41) (.tmp 43) rfl rfl rfl ho2 (SlIn.one (x := n) hx2 iEncOk rfl) HM1.out HM2.out (by have h1 := HR2.out; have h2 := (hn2).size; have h3 : (w3.drew : World).heap.size = w3.heap.size := rfl; omega) ?_
          intro va wa hoa hga hba
          obtain ⟨ga, capa, cura, hva, hgea, hbba, -, -⟩ := owns_at hoa (by simp)
          obtain ⟨la, hla⟩ : ∃ la, la = (ms ++ [n]).length := ⟨_, rfl⟩
          rw [← hla] at hva
          subst hva
          clear hla
          have hN5 := (hN3.trans hn2).grown hga (fun k hk => by have := ho2.blockGe k hk; omega)
          have hBa := (HB3.out.new hn2).grown hga (by intro e0; have := ho2.blockGe _ e0.symm; omega)
          have hRa := (HR3.out.new hn2).grown hga (by intro e0; have := ho2.blockGe _ e0.symm; omega)
          obtain ⟨q0, q1, q2, qz⟩ := Blk2F hRa
          have hsla := Owns.slIn iEncOk hoa
          refine hK.out _ _ ?_ (fun hHeld => ?_)
          · exact by obtain ⟨t0, t1, t2, tz⟩ := Blk2F hBa; exact ⟨hN5, t1, t2⟩
          clear hK K
          try simp only [Act.put, List.setIfInBounds_toArray, List.set_cons_zero, List.set_cons_succ]
          refine wpAnyH_take (i := 10) (oi := { dst := some 45, op := Op.build 25 #[(0, Operand.tmp 37), (1, Operand.tmp 44)], type := 25, pos := "ref.go:66", after := #[{ on := 2, ground := Ground.data }, { on := 9, ground := Ground.data }], guard := none }) (v := ?_) rfl (by kernel_rfl) (by kernel_rfl) (by kernel_rfl) (fun _ _ _ h => h) (Or.inl ⟨by rfl, ?_⟩) (by assumption) ?_
          rotate_left
          · (intro wq hSw; (try dsimp only at hSw); go_simp; first | done | with_reducible rfl)
          try simp only [Act.put, List.setIfInBounds_toArray, List.set_cons_zero, List.set_cons_succ]
          refine wpAnyH_ready (rs := [11]) (by kernel_rfl) (by simp) ?_
          refine AllReadyH.cons (o := { dst := none, op := Op.store 25 (Operand.tmp 4) (Operand.tmp 45), type := 0, pos := "ref.go:66", after := #[{ on := 10, ground := Ground.data }, { on := 9, ground := Ground.chain }, { on := 0, ground := Ground.phase }, { on := 1, ground := Ground.phase }, { on := 2, ground := Ground.phase }, { on := 3, ground := Ground.phase }, { on := 4, ground := Ground.phase }, { on := 5, ground := Ground.phase }, { on := 6, ground := Ground.phase }, { on := 7, ground := Ground.phase }, { on := 8, ground := Ground.phase }, { on := 9, ground := Ground.phase }, { on := 10, ground := Ground.phase }], guard := none }) rfl (fun K hK => ?_) AllReadyH.nil
          go_simp
          have hN6 := (hN5.setCell (p := ⟨w.heap.size + 1, 0, none⟩) (by simp) (.int .u64 ((e : Int) + 1))).setCell (p := ⟨w.heap.size + 1, 1, none⟩) (by simp) (.slice (some ⟨ga, 0, none⟩) (la) capa)
          have hB6 := (hBa.far (p := ⟨w.heap.size + 1, 0, none⟩) (by simp) (.int .u64 ((e : Int) + 1))).far (p := ⟨w.heap.size + 1, 1, none⟩) (by simp) (.slice (some ⟨ga, 0, none⟩) (la) capa)
          have hS6 := SlIn.upd (S := (· = w.heap.size + 1)) hsla (((Upd.refl _ wa).setIn 0 (.int .u64 ((e : Int) + 1))).setIn 1 (.slice (some ⟨ga, 0, none⟩) (la) capa)) (fun k hk e => by simp [Value.ownBlock] at hk; omega)
          refine hK.out _ _ ?_ (fun hHeld => ?_)
          · exact by obtain ⟨t0, t1, t2, tz⟩ := Blk2F hB6; exact ⟨hN6, t1, t2⟩
          clear hK K
          try simp only [Act.put, List.setIfInBounds_toArray, List.set_cons_zero, List.set_cons_succ]
          refine wpAnyH_take (i := 12) (oi := { dst := some 5, op := Op.assign (Operand.const (Value.int IntKind.i64 0)), type := 28, pos := "ref.go:66", after := #[{ on := 11, ground := Ground.chain }, { on := 0, ground := Ground.phase }, { on := 1, ground := Ground.phase }, { on := 2, ground := Ground.phase }, { on := 3, ground := Ground.phase }, { on := 4, ground := Ground.phase }, { on := 5, ground := Ground.phase }, { on := 6, ground := Ground.phase }, { on := 7, ground := Ground.phase }, { on := 8, ground := Ground.phase }, { on := 9, ground := Ground.phase }, { on := 10, ground := Ground.phase }, { on := 11, ground := Ground.phase }], guard := none }) (v := ?_) rfl (by kernel_rfl) (by kernel_rfl) (by kernel_rfl) (fun _ _ _ h => h) (Or.inl ⟨by rfl, ?_⟩) (by assumption) ?_
          rotate_left
          · (intro wq hSw; (try dsimp only at hSw); go_simp; first | done | with_reducible rfl)
          try simp only [Act.put, List.setIfInBounds_toArray, List.set_cons_zero, List.set_cons_succ]
          refine wpAnyH_done (by kernel_rfl) ?_ _
          clear hHeld
          go_wp2_with fail
          exact bodyPost_ret (v := .tuple #[.agg #[.int .u64 ((e : Int) + 1), .slice (some ⟨ga, 0, none⟩) la capa], .int .i64 0]) (by simp [results, Tryd.results15, go_sem, q1, q2]) rfl (by unfold CfgPost; rw [HF.out]; exact ⟨_, rfl, hS6, hN6⟩)
        · go_simp
          have hn1 := (hn0).alloc (.cells #[.int .i64 n] 3)
          have hx1 := Blk.mk_new (w3.drew.alloc (.cells #[] 3)) 3 #[.int .i64 n]
          try rw [World.size_alloc] at hx1
          have ho1 := ho0.alloc (.cells #[.int .i64 n] 3)
          refine hK.out _ _ ?_ (fun hHeld => ?_)
          · exact by obtain ⟨t0, t1, t2, tz⟩ := Blk2F (HB3.out.new hn1); exact ⟨(hN3.trans hn1), t1, t2⟩
          clear hK K
          try simp only [Act.put, List.setIfInBounds_toArray, List.set_cons_zero, List.set_cons_succ]
          refine wpAnyH_ready (rs := [6]) (by kernel_rfl) (by simp) ?_
          refine AllReadyH.cons (o := { dst := some 41, op := Op.call { callee := Callee.builtin Builtin.append, args := #[Operand.tmp 38, Operand.tmp 40], argTypes := #[23, 23] }, type := 23, pos := "ref.go:66", after := #[{ on := 3, ground := Ground.data }, { on := 5, ground := Ground.data }], guard := none }) rfl (fun K hK => ?_) AllReadyH.nil
          refine step_app iTy iEncOk rfl (.tmp 38) (.tmp 40) rfl rfl rfl ho1 (HS3.out.new (hn1)) HM3.out HM4.out ((hn1).size) ?_
          intro vb wb hob hgb hbb
          rw [List.nil_append] at hob
          obtain ⟨gb, capb, curb, rfl, hgeb, hbbb, -, -⟩ := owns_at hob HNE.out
          have hn2 := (hn1).grown hgb (fun k hk => by have h1 := ho1.blockGe k hk; have h3 : (w3.drew : World).heap.size = w3.heap.size := rfl; omega)
          have hx2 := hx1.grown hgb (by intro e0; injection e0 with e0; (try dsimp only at e0); (try rw [size_ad] at e0); (try rw [World.size_alloc] at e0); (try rw [size_dr] at e0); omega)
          have hob2 := hob.lower HR2.out
          refine hK.out _ _ ?_ (fun hHeld => ?_)
          · exact by obtain ⟨t0, t1, t2, tz⟩ := Blk2F (HB3.out.new hn2); exact ⟨(hN3.trans hn2), t1, t2⟩
          clear hK K
          try simp only [Act.put, List.setIfInBounds_toArray, List.set_cons_zero, List.set_cons_succ]
          refine wpAnyH_ready (rs := [9]) (by kernel_rfl) (by simp) ?_
          refine AllReadyH.cons (o := { dst := some 44, op := Op.call { callee := Callee.builtin Builtin.append, args := #[Operand.tmp 41, Operand.tmp 43], argTypes := #[23, 23] }, type := 23, pos := "ref.go:66", after := #[{ on := 6, ground := Ground.data }, { on := 8, ground := Ground.data }, { on := 6, ground := Ground.chain }], guard := none }) rfl (fun K hK => ?_) AllReadyH.nil
          refine step_app iTy iEncOk rfl (.tmp 41) (.tmp 43) rfl rfl rfl hob2 (SlIn.one (x := n) hx2 iEncOk rfl) HM1.out HM2.out (by have h1 := HR2.out; have h2 := (hn2).size; have h3 : (w3.drew : World).heap.size = w3.heap.size := rfl; omega) ?_
          intro va wa hoa hga hba
          obtain ⟨ga, capa, cura, hva, hgea, hbba, -, -⟩ := owns_at hoa (by simp)
          obtain ⟨la, hla⟩ : ∃ la, la = (ms ++ [n]).length := ⟨_, rfl⟩
          rw [← hla] at hva
          subst hva
          clear hla
          have hN5 := (hN3.trans hn2).grown hga (fun k hk => by have := hob2.blockGe k hk; omega)
          have hBa := (HB3.out.new hn2).grown hga (by intro e0; have := hob2.blockGe _ e0.symm; omega)
          have hRa := (HR3.out.new hn2).grown hga (by intro e0; have := hob2.blockGe _ e0.symm; omega)
          obtain ⟨q0, q1, q2, qz⟩ := Blk2F hRa
          have hsla := Owns.slIn iEncOk hoa
          refine hK.out _ _ ?_ (fun hHeld => ?_)
          · exact by obtain ⟨t0, t1, t2, tz⟩ := Blk2F hBa; exact ⟨hN5, t1, t2⟩
          clear hK K
          try simp only [Act.put, List.setIfInBounds_toArray, List.set_cons_zero, List.set_cons_succ]
          refine wpAnyH_take (i := 10) (oi := { dst := some 45, op := Op.build 25 #[(0, Operand.tmp 37), (1, Operand.tmp 44)], type := 25, pos := "ref.go:66", after := #[{ on := 2, ground := Ground.data }, { on := 9, ground := Ground.data }], guard := none }) (v := ?_) rfl (by kernel_rfl) (by kernel_rfl) (by kernel_rfl) (fun _ _ _ h => h) (Or.inl ⟨by rfl, ?_⟩) (by assumption) ?_
          rotate_left
          · (intro wq hSw; (try dsimp only at hSw); go_simp; first | done | with_reducible rfl)
          try simp only [Act.put, List.setIfInBounds_toArray, List.set_cons_zero, List.set_cons_succ]
          refine wpAnyH_ready (rs := [11]) (by kernel_rfl) (by simp) ?_
          refine AllReadyH.cons (o := { dst := none, op := Op.store 25 (Operand.tmp 4) (Operand.tmp 45), type := 0, pos := "ref.go:66", after := #[{ on := 10, ground := Ground.data }, { on := 9, ground := Ground.chain }, { on := 0, ground := Ground.phase }, { on := 1, ground := Ground.phase }, { on := 2, ground := Ground.phase }, { on := 3, ground := Ground.phase }, { on := 4, ground := Ground.phase }, { on := 5, ground := Ground.phase }, { on := 6, ground := Ground.phase }, { on := 7, ground := Ground.phase }, { on := 8, ground := Ground.phase }, { on := 9, ground := Ground.phase }, { on := 10, ground := Ground.phase }], guard := none }) rfl (fun K hK => ?_) AllReadyH.nil
          go_simp
          have hN6 := (hN5.setCell (p := ⟨w.heap.size + 1, 0, none⟩) (by simp) (.int .u64 ((e : Int) + 1))).setCell (p := ⟨w.heap.size + 1, 1, none⟩) (by simp) (.slice (some ⟨ga, 0, none⟩) (la) capa)
          have hB6 := (hBa.far (p := ⟨w.heap.size + 1, 0, none⟩) (by simp) (.int .u64 ((e : Int) + 1))).far (p := ⟨w.heap.size + 1, 1, none⟩) (by simp) (.slice (some ⟨ga, 0, none⟩) (la) capa)
          have hS6 := SlIn.upd (S := (· = w.heap.size + 1)) hsla (((Upd.refl _ wa).setIn 0 (.int .u64 ((e : Int) + 1))).setIn 1 (.slice (some ⟨ga, 0, none⟩) (la) capa)) (fun k hk e => by simp [Value.ownBlock] at hk; omega)
          refine hK.out _ _ ?_ (fun hHeld => ?_)
          · exact by obtain ⟨t0, t1, t2, tz⟩ := Blk2F hB6; exact ⟨hN6, t1, t2⟩
          clear hK K
          try simp only [Act.put, List.setIfInBounds_toArray, List.set_cons_zero, List.set_cons_succ]
          refine wpAnyH_take (i := 12) (oi := { dst := some 5, op := Op.assign (Operand.const (Value.int IntKind.i64 0)), type := 28, pos := "ref.go:66", after := #[{ on := 11, ground := Ground.chain }, { on := 0, ground := Ground.phase }, { on := 1, ground := Ground.phase }, { on := 2, ground := Ground.phase }, { on := 3, ground := Ground.phase }, { on := 4, ground := Ground.phase }, { on := 5, ground := Ground.phase }, { on := 6, ground := Ground.phase }, { on := 7, ground := Ground.phase }, { on := 8, ground := Ground.phase }, { on := 9, ground := Ground.phase }, { on := 10, ground := Ground.phase }, { on := 11, ground := Ground.phase }], guard := none }) (v := ?_) rfl (by kernel_rfl) (by kernel_rfl) (by kernel_rfl) (fun _ _ _ h => h) (Or.inl ⟨by rfl, ?_⟩) (by assumption) ?_
          rotate_left
          · (intro wq hSw; (try dsimp only at hSw); go_simp; first | done | with_reducible rfl)
          try simp only [Act.put, List.setIfInBounds_toArray, List.set_cons_zero, List.set_cons_succ]
          refine wpAnyH_done (by kernel_rfl) ?_ _
          clear hHeld
          go_wp2_with fail
          exact bodyPost_ret (v := .tuple #[.agg #[.int .u64 ((e : Int) + 1), .slice (some ⟨ga, 0, none⟩) la capa], .int .i64 0]) (by simp [results, Tryd.results15, go_sem, q1, q2]) rfl (by unfold CfgPost; rw [HF.out]; exact ⟨_, rfl, hS6, hN6⟩)
      · go_simp
        have hn0 := ((New.refl w3).drew).alloc (.cells #[.int .i64 n] 3)
        have hx0 := Blk.mk_new w3.drew 3 #[.int .i64 n]
        try rw [World.size_alloc] at hx0
        refine hK.out _ _ ?_ (fun hHeld => ?_)
        · exact by obtain ⟨t0, t1, t2, tz⟩ := Blk2F (HB3.out.new hn0); exact ⟨(hN3.trans hn0), t1, t2⟩
        clear hK K
        try simp only [Act.put, List.setIfInBounds_toArray, List.set_cons_zero, List.set_cons_succ]
        refine wpAnyH_ready (rs := [3]) (by kernel_rfl) (by simp) ?_
        refine AllReadyH.cons (o := { dst := some 38, op := Op.buildSlice 23 0 #[], type := 23, pos := "ref.go:66", after := #[], guard := none }) rfl (fun K hK => ?_) AllReadyH.nil
        go_simp
        have hn1 := (hn0).alloc (.cells #[] 3)
        have ho1 : Owns ((w3.drew.alloc (.cells #[.int .i64 n] 3)).alloc (.cells #[] 3)) w3.heap.size 3 1 iEnc (.slice (some ⟨(w3.drew.alloc (.cells #[.int .i64 n] 3)).heap.size, 0, none⟩) 0 0) ([] : List Int) := World.ownsRow_made (w3.drew.alloc (.cells #[.int .i64 n] 3)) #[] 0 (by have h2 := (hn0).size; have h3 : (w3.drew : World).heap.size = w3.heap.size := rfl; omega) (by unfold maxLen; omega) rfl
        try rw [World.size_alloc] at ho1
        have hx1 := hx0.alloc (.cells #[] 3)
        refine hK.out _ _ ?_ (fun hHeld => ?_)
        · exact by obtain ⟨t0, t1, t2, tz⟩ := Blk2F (HB3.out.new hn1); exact ⟨(hN3.trans hn1), t1, t2⟩
        clear hK K
        try simp only [Act.put, List.setIfInBounds_toArray, List.set_cons_zero, List.set_cons_succ]
        refine wpAnyH_ready (rs := [6]) (by kernel_rfl) (by simp) ?_
        refine AllReadyH.cons (o := { dst := some 41, op := Op.call { callee := Callee.builtin Builtin.append, args := #[Operand.tmp 38, Operand.tmp 40], argTypes := #[23, 23] }, type := 23, pos := "ref.go:66", after := #[{ on := 3, ground := Ground.data }, { on := 5, ground := Ground.data }], guard := none }) rfl (fun K hK => ?_) AllReadyH.nil
        refine step_app iTy iEncOk rfl (.tmp 38) (.tmp 40) rfl rfl rfl ho1 (HS3.out.new (hn1)) HM3.out HM4.out ((hn1).size) ?_
        intro vb wb hob hgb hbb
        rw [List.nil_append] at hob
        obtain ⟨gb, capb, curb, rfl, hgeb, hbbb, -, -⟩ := owns_at hob HNE.out
        have hn2 := (hn1).grown hgb (fun k hk => by have h1 := ho1.blockGe k hk; have h3 : (w3.drew : World).heap.size = w3.heap.size := rfl; omega)
        have hx2 := hx1.grown hgb (by intro e0; injection e0 with e0; (try dsimp only at e0); (try rw [size_ad] at e0); (try rw [World.size_alloc] at e0); (try rw [size_dr] at e0); omega)
        have hob2 := hob.lower HR2.out
        refine hK.out _ _ ?_ (fun hHeld => ?_)
        · exact by obtain ⟨t0, t1, t2, tz⟩ := Blk2F (HB3.out.new hn2); exact ⟨(hN3.trans hn2), t1, t2⟩
        clear hK K
        try simp only [Act.put, List.setIfInBounds_toArray, List.set_cons_zero, List.set_cons_succ]
        refine wpAnyH_ready (rs := [9]) (by kernel_rfl) (by simp) ?_
        refine AllReadyH.cons (o := { dst := some 44, op := Op.call { callee := Callee.builtin Builtin.append, args := #[Operand.tmp 41, Operand.tmp 43], argTypes := #[23, 23] }, type := 23, pos := "ref.go:66", after := #[{ on := 6, ground := Ground.data }, { on := 8, ground := Ground.data }, { on := 6, ground := Ground.chain }], guard := none }) rfl (fun K hK => ?_) AllReadyH.nil
        refine step_app iTy iEncOk rfl (.tmp 41) (.tmp 43) rfl rfl rfl hob2 (SlIn.one (x := n) hx2 iEncOk rfl) HM1.out HM2.out (by have h1 := HR2.out; have h2 := (hn2).size; have h3 : (w3.drew : World).heap.size = w3.heap.size := rfl; omega) ?_
        intro va wa hoa hga hba
        obtain ⟨ga, capa, cura, hva, hgea, hbba, -, -⟩ := owns_at hoa (by simp)
        obtain ⟨la, hla⟩ : ∃ la, la = (ms ++ [n]).length := ⟨_, rfl⟩
        rw [← hla] at hva
        subst hva
        clear hla
        have hN5 := (hN3.trans hn2).grown hga (fun k hk => by have := hob2.blockGe k hk; omega)
        have hBa := (HB3.out.new hn2).grown hga (by intro e0; have := hob2.blockGe _ e0.symm; omega)
        have hRa := (HR3.out.new hn2).grown hga (by intro e0; have := hob2.blockGe _ e0.symm; omega)
        obtain ⟨q0, q1, q2, qz⟩ := Blk2F hRa
        have hsla := Owns.slIn iEncOk hoa
        refine hK.out _ _ ?_ (fun hHeld => ?_)
        · exact by obtain ⟨t0, t1, t2, tz⟩ := Blk2F hBa; exact ⟨hN5, t1, t2⟩
        clear hK K
        try simp only [Act.put, List.setIfInBounds_toArray, List.set_cons_zero, List.set_cons_succ]
        refine wpAnyH_take (i := 10) (oi := { dst := some 45, op := Op.build 25 #[(0, Operand.tmp 37), (1, Operand.tmp 44)], type := 25, pos := "ref.go:66", after := #[{ on := 2, ground := Ground.data }, { on := 9, ground := Ground.data }], guard := none }) (v := ?_) rfl (by kernel_rfl) (by kernel_rfl) (by kernel_rfl) (fun _ _ _ h => h) (Or.inl ⟨by rfl, ?_⟩) (by assumption) ?_
        rotate_left
        · (intro wq hSw; (try dsimp only at hSw); go_simp; first | done | with_reducible rfl)
        try simp only [Act.put, List.setIfInBounds_toArray, List.set_cons_zero, List.set_cons_succ]
        refine wpAnyH_ready (rs := [11]) (by kernel_rfl) (by simp) ?_
        refine AllReadyH.cons (o := { dst := none, op := Op.store 25 (Operand.tmp 4) (Operand.tmp 45), type := 0, pos := "ref.go:66", after := #[{ on := 10, ground := Ground.data }, { on := 9, ground := Ground.chain }, { on := 0, ground := Ground.phase }, { on := 1, ground := Ground.phase }, { on := 2, ground := Ground.phase }, { on := 3, ground := Ground.phase }, { on := 4, ground := Ground.phase }, { on := 5, ground := Ground.phase }, { on := 6, ground := Ground.phase }, { on := 7, ground := Ground.phase }, { on := 8, ground := Ground.phase }, { on := 9, ground := Ground.phase }, { on := 10, ground := Ground.phase }], guard := none }) rfl (fun K hK => ?_) AllReadyH.nil
        go_simp
        have hN6 := (hN5.setCell (p := ⟨w.heap.size + 1, 0, none⟩) (by simp) (.int .u64 ((e : Int) + 1))).setCell (p := ⟨w.heap.size + 1, 1, none⟩) (by simp) (.slice (some ⟨ga, 0, none⟩) (la) capa)
        have hB6 := (hBa.far (p := ⟨w.heap.size + 1, 0, none⟩) (by simp) (.int .u64 ((e : Int) + 1))).far (p := ⟨w.heap.size + 1, 1, none⟩) (by simp) (.slice (some ⟨ga, 0, none⟩) (la) capa)
        have hS6 := SlIn.upd (S := (· = w.heap.size + 1)) hsla (((Upd.refl _ wa).setIn 0 (.int .u64 ((e : Int) + 1))).setIn 1 (.slice (some ⟨ga, 0, none⟩) (la) capa)) (fun k hk e => by simp [Value.ownBlock] at hk; omega)
        refine hK.out _ _ ?_ (fun hHeld => ?_)
        · exact by obtain ⟨t0, t1, t2, tz⟩ := Blk2F hB6; exact ⟨hN6, t1, t2⟩
        clear hK K
        try simp only [Act.put, List.setIfInBounds_toArray, List.set_cons_zero, List.set_cons_succ]
        refine wpAnyH_take (i := 12) (oi := { dst := some 5, op := Op.assign (Operand.const (Value.int IntKind.i64 0)), type := 28, pos := "ref.go:66", after := #[{ on := 11, ground := Ground.chain }, { on := 0, ground := Ground.phase }, { on := 1, ground := Ground.phase }, { on := 2, ground := Ground.phase }, { on := 3, ground := Ground.phase }, { on := 4, ground := Ground.phase }, { on := 5, ground := Ground.phase }, { on := 6, ground := Ground.phase }, { on := 7, ground := Ground.phase }, { on := 8, ground := Ground.phase }, { on := 9, ground := Ground.phase }, { on := 10, ground := Ground.phase }, { on := 11, ground := Ground.phase }], guard := none }) (v := ?_) rfl (by kernel_rfl) (by kernel_rfl) (by kernel_rfl) (fun _ _ _ h => h) (Or.inl ⟨by rfl, ?_⟩) (by assumption) ?_
        rotate_left
        · (intro wq hSw; (try dsimp only at hSw); go_simp; first | done | with_reducible rfl)
        try simp only [Act.put, List.setIfInBounds_toArray, List.set_cons_zero, List.set_cons_succ]
        refine wpAnyH_done (by kernel_rfl) ?_ _
        clear hHeld
        go_wp2_with fail
        exact bodyPost_ret (v := .tuple #[.agg #[.int .u64 ((e : Int) + 1), .slice (some ⟨ga, 0, none⟩) la capa], .int .i64 0]) (by simp [results, Tryd.results15, go_sem, q1, q2]) rfl (by unfold CfgPost; rw [HF.out]; exact ⟨_, rfl, hS6, hN6⟩)
end Go.Proofs.YtinpbjknakncdaaDoor
