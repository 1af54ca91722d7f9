/- Chapter 6 (disk): Copy. Printed by genDk7.py. -/
import Derived.Test.YtdjnfnhmkfbfmaaDk6
namespace Go.Proofs.Ytdjnfnhmkfbfmaa
open Go.RowKit Go.Lap
set_option linter.unusedVariables false

theorem SecM.app {w w' : World} {mb base : Nat} {s : Sec} {v : Value} {xs : List Fv} (h : SecM w mb s) (ho : Owns w base 98 1 fvE v xs) (hg : w.grownBy w' v.ownBlock) : SecM w' mb s := by
  have hu : Upd (fun k => v.ownBlock = some k) w w' := (Upd.refl _ w).grown hg (fun k _ hk => hk)
  refine h.upd hu (fun e => ?_) (fun k hk t cs hb => ?_)
  · obtain ⟨cs, hb⟩ := ho.blkOf e
    exact h.noBlk hb
  · obtain ⟨cs', hb'⟩ := ho.blkOf hk
    have e := Decidable.byContradiction fun hne => hb.ne_ hb' hne rfl
    subst e
    exact ⟨by decide, by decide, by decide⟩

def CopyPost (w : World) (D : Dk) (e : Ending) (w' : World) : Prop := ∃ c vc gc uc, e = .returned (.pointer (some ⟨c, 0, none⟩)) ∧ DkAt w' c vc gc uc D ∧ (∀ k, DkF c vc gc uc k → w.heap.size ≤ k) ∧ New w w'
set_option maxRecDepth 100000 in
set_option maxHeartbeats 8000000 in
theorem dcopy {d vm gm : Nat} {u : Value} {D : Dk} (w : World) (h : DkAt w d vm gm u D) (hl : D.L.length ≤ 100000) : Calls Try.prog 36 #[.pointer (some ⟨d, 0, none⟩)] w (CopyPost w D) := by
  obtain ⟨d0, d1, d2, d3, d4, d5, dz⟩ := Blk5F h.blk
  obtain ⟨xs, hox, hxl, hxs⟩ := h.pd
  obtain ⟨Au, cu, hu, hcu, horu⟩ := Owns.slIn fvEOk hox
  have hsx := Owns.slIn fvEOk hox
  subst hu
  have HXS := Lib.hid hxs
  have HXL := Lib.hid hxl
  have HM1 := Lib.hid (show ([] : List Fv).length + xs.length ≤ maxLen by unfold maxLen; simp; omega)
  have HM2 := Lib.hid (show (([] : List Fv).length + xs.length) * 8 ≤ 140737488355328 by simp; omega)
  clear hxs hxl horu
  go_enter Try.func36, Try.ntmps36
  go_upto_region 1 with fail

  refine wp_region_held_drew (S := fun w' => Held w w') (by kernel_rfl) (Held.of (New.refl _).drew) (fun hHeld => ?_)
  refine wpAnyH_take (i := 0) (oi := { dst := some 3, op := Op.move (Operand.tmp 0), type := 54, pos := "disk.go:123", after := #[], guard := none }) (v := ?_) rfl (by kernel_rfl) (by kernel_rfl) (by kernel_rfl) (fun _ _ _ h => h) (Or.inl ⟨by rfl, ?_⟩) (by assumption) ?_
  rotate_left
  · (intro wq hSw; (try dsimp only at hSw); go_simp; first | done | with_reducible rfl)
  try simp only [Act.put, List.setIfInBounds_toArray, List.set_cons_zero, List.set_cons_succ]
  refine wpAnyH_take (i := 1) (oi := { dst := some 4, op := Op.nilCheck (Operand.tmp 3), type := 0, pos := "disk.go:123", after := #[{ on := 0, ground := Ground.data }], guard := none }) (v := ?_) rfl (by kernel_rfl) (by kernel_rfl) (by kernel_rfl) (fun _ _ _ h => h) (Or.inl ⟨by rfl, ?_⟩) (by assumption) ?_
  rotate_left
  · (intro wq hSw; (try dsimp only at hSw); go_simp; first | done | with_reducible rfl)
  try simp only [Act.put, List.setIfInBounds_toArray, List.set_cons_zero, List.set_cons_succ]
  refine wpAnyH_take (i := 2) (oi := { dst := some 5, op := Op.fieldAddr 90 (Operand.tmp 4) 0, type := 0, pos := "disk.go:123", after := #[{ on := 1, ground := Ground.data }], guard := none }) (v := ?_) rfl (by kernel_rfl) (by kernel_rfl) (by kernel_rfl) (fun _ _ _ h => h) (Or.inl ⟨by rfl, ?_⟩) (by assumption) ?_
  rotate_left
  · (intro wq hSw; (try dsimp only at hSw); go_simp; first | done | with_reducible rfl)
  try simp only [Act.put, List.setIfInBounds_toArray, List.set_cons_zero, List.set_cons_succ]
  refine wpAnyH_take (i := 3) (oi := { dst := some 6, op := Op.load 3 (Operand.tmp 5), type := 3, pos := "disk.go:123", after := #[{ on := 2, ground := Ground.data }], guard := none }) (v := ?_) rfl (by kernel_rfl) (by kernel_rfl) (by kernel_rfl) (fun _ _ _ h => h) (Or.inl ⟨by rfl, ?_⟩) (by assumption) ?_
  rotate_left
  · (intro wq hSw; (try dsimp only at hSw); go_simp; first | done | with_reducible rfl)
  try simp only [Act.put, List.setIfInBounds_toArray, List.set_cons_zero, List.set_cons_succ]
  refine wpAnyH_take (i := 4) (oi := { dst := some 7, op := Op.move (Operand.tmp 0), type := 54, pos := "disk.go:123", after := #[], guard := none }) (v := ?_) rfl (by kernel_rfl) (by kernel_rfl) (by kernel_rfl) (fun _ _ _ h => h) (Or.inl ⟨by rfl, ?_⟩) (by assumption) ?_
  rotate_left
  · (intro wq hSw; (try dsimp only at hSw); go_simp; first | done | with_reducible rfl)
  try simp only [Act.put, List.setIfInBounds_toArray, List.set_cons_zero, List.set_cons_succ]
  refine wpAnyH_take (i := 5) (oi := { dst := some 8, op := Op.nilCheck (Operand.tmp 7), type := 0, pos := "disk.go:123", after := #[{ on := 4, ground := Ground.data }], guard := none }) (v := ?_) rfl (by kernel_rfl) (by kernel_rfl) (by kernel_rfl) (fun _ _ _ h => h) (Or.inl ⟨by rfl, ?_⟩) (by assumption) ?_
  rotate_left
  · (intro wq hSw; (try dsimp only at hSw); go_simp; first | done | with_reducible rfl)
  try simp only [Act.put, List.setIfInBounds_toArray, List.set_cons_zero, List.set_cons_succ]
  refine wpAnyH_take (i := 6) (oi := { dst := some 9, op := Op.fieldAddr 90 (Operand.tmp 8) 1, type := 0, pos := "disk.go:123", after := #[{ on := 5, ground := Ground.data }], guard := none }) (v := ?_) rfl (by kernel_rfl) (by kernel_rfl) (by kernel_rfl) (fun _ _ _ h => h) (Or.inl ⟨by rfl, ?_⟩) (by assumption) ?_
  rotate_left
  · (intro wq hSw; (try dsimp only at hSw); go_simp; first | done | with_reducible rfl)
  try simp only [Act.put, List.setIfInBounds_toArray, List.set_cons_zero, List.set_cons_succ]
  refine wpAnyH_take (i := 7) (oi := { dst := some 10, op := Op.load 3 (Operand.tmp 9), type := 3, pos := "disk.go:123", after := #[{ on := 6, ground := Ground.data }], guard := none }) (v := ?_) rfl (by kernel_rfl) (by kernel_rfl) (by kernel_rfl) (fun _ _ _ h => h) (Or.inl ⟨by rfl, ?_⟩) (by assumption) ?_
  rotate_left
  · (intro wq hSw; (try dsimp only at hSw); go_simp; first | done | with_reducible rfl)
  try simp only [Act.put, List.setIfInBounds_toArray, List.set_cons_zero, List.set_cons_succ]
  refine wpAnyH_take (i := 8) (oi := { dst := some 11, op := Op.move (Operand.tmp 0), type := 54, pos := "disk.go:123", after := #[], guard := none }) (v := ?_) rfl (by kernel_rfl) (by kernel_rfl) (by kernel_rfl) (fun _ _ _ h => h) (Or.inl ⟨by rfl, ?_⟩) (by assumption) ?_
  rotate_left
  · (intro wq hSw; (try dsimp only at hSw); go_simp; first | done | with_reducible rfl)
  try simp only [Act.put, List.setIfInBounds_toArray, List.set_cons_zero, List.set_cons_succ]
  refine wpAnyH_take (i := 9) (oi := { dst := some 12, op := Op.nilCheck (Operand.tmp 11), type := 0, pos := "disk.go:123", after := #[{ on := 8, ground := Ground.data }], guard := none }) (v := ?_) rfl (by kernel_rfl) (by kernel_rfl) (by kernel_rfl) (fun _ _ _ h => h) (Or.inl ⟨by rfl, ?_⟩) (by assumption) ?_
  rotate_left
  · (intro wq hSw; (try dsimp only at hSw); go_simp; first | done | with_reducible rfl)
  try simp only [Act.put, List.setIfInBounds_toArray, List.set_cons_zero, List.set_cons_succ]
  refine wpAnyH_take (i := 10) (oi := { dst := some 13, op := Op.fieldAddr 90 (Operand.tmp 12) 2, type := 0, pos := "disk.go:123", after := #[{ on := 9, ground := Ground.data }], guard := none }) (v := ?_) rfl (by kernel_rfl) (by kernel_rfl) (by kernel_rfl) (fun _ _ _ h => h) (Or.inl ⟨by rfl, ?_⟩) (by assumption) ?_
  rotate_left
  · (intro wq hSw; (try dsimp only at hSw); go_simp; first | done | with_reducible rfl)
  try simp only [Act.put, List.setIfInBounds_toArray, List.set_cons_zero, List.set_cons_succ]
  refine wpAnyH_take (i := 11) (oi := { dst := some 14, op := Op.load 87 (Operand.tmp 13), type := 87, pos := "disk.go:123", after := #[{ on := 10, ground := Ground.data }], guard := none }) (v := ?_) rfl (by kernel_rfl) (by kernel_rfl) (by kernel_rfl) (fun _ _ _ h => h) (Or.inl ⟨by rfl, ?_⟩) (by assumption) ?_
  rotate_left
  · (intro wq hSw; (try dsimp only at hSw); go_simp; first | done | with_reducible rfl)
  try simp only [Act.put, List.setIfInBounds_toArray, List.set_cons_zero, List.set_cons_succ]
  refine wpAnyH_take (i := 13) (oi := { dst := some 16, op := Op.move (Operand.tmp 0), type := 54, pos := "disk.go:123", after := #[], guard := none }) (v := ?_) rfl (by kernel_rfl) (by kernel_rfl) (by kernel_rfl) (fun _ _ _ h => h) (Or.inl ⟨by rfl, ?_⟩) (by assumption) ?_
  rotate_left
  · (intro wq hSw; (try dsimp only at hSw); go_simp; first | done | with_reducible rfl)
  try simp only [Act.put, List.setIfInBounds_toArray, List.set_cons_zero, List.set_cons_succ]
  refine wpAnyH_take (i := 14) (oi := { dst := some 17, op := Op.nilCheck (Operand.tmp 16), type := 0, pos := "disk.go:123", after := #[{ on := 13, ground := Ground.data }], guard := none }) (v := ?_) rfl (by kernel_rfl) (by kernel_rfl) (by kernel_rfl) (fun _ _ _ h => h) (Or.inl ⟨by rfl, ?_⟩) (by assumption) ?_
  rotate_left
  · (intro wq hSw; (try dsimp only at hSw); go_simp; first | done | with_reducible rfl)
  try simp only [Act.put, List.setIfInBounds_toArray, List.set_cons_zero, List.set_cons_succ]
  refine wpAnyH_take (i := 15) (oi := { dst := some 18, op := Op.fieldAddr 90 (Operand.tmp 17) 3, type := 0, pos := "disk.go:123", after := #[{ on := 14, ground := Ground.data }], guard := none }) (v := ?_) rfl (by kernel_rfl) (by kernel_rfl) (by kernel_rfl) (fun _ _ _ h => h) (Or.inl ⟨by rfl, ?_⟩) (by assumption) ?_
  rotate_left
  · (intro wq hSw; (try dsimp only at hSw); go_simp; first | done | with_reducible rfl)
  try simp only [Act.put, List.setIfInBounds_toArray, List.set_cons_zero, List.set_cons_succ]
  refine wpAnyH_take (i := 16) (oi := { dst := some 19, op := Op.load 87 (Operand.tmp 18), type := 87, pos := "disk.go:123", after := #[{ on := 15, ground := Ground.data }], guard := none }) (v := ?_) rfl (by kernel_rfl) (by kernel_rfl) (by kernel_rfl) (fun _ _ _ h => h) (Or.inl ⟨by rfl, ?_⟩) (by assumption) ?_
  rotate_left
  · (intro wq hSw; (try dsimp only at hSw); go_simp; first | done | with_reducible rfl)
  try simp only [Act.put, List.setIfInBounds_toArray, List.set_cons_zero, List.set_cons_succ]
  refine wpAnyH_take (i := 19) (oi := { dst := some 22, op := Op.move (Operand.tmp 0), type := 54, pos := "disk.go:123", after := #[], guard := none }) (v := ?_) rfl (by kernel_rfl) (by kernel_rfl) (by kernel_rfl) (fun _ _ _ h => h) (Or.inl ⟨by rfl, ?_⟩) (by assumption) ?_
  rotate_left
  · (intro wq hSw; (try dsimp only at hSw); go_simp; first | done | with_reducible rfl)
  try simp only [Act.put, List.setIfInBounds_toArray, List.set_cons_zero, List.set_cons_succ]
  refine wpAnyH_take (i := 20) (oi := { dst := some 23, op := Op.nilCheck (Operand.tmp 22), type := 0, pos := "disk.go:123", after := #[{ on := 19, ground := Ground.data }], guard := none }) (v := ?_) rfl (by kernel_rfl) (by kernel_rfl) (by kernel_rfl) (fun _ _ _ h => h) (Or.inl ⟨by rfl, ?_⟩) (by assumption) ?_
  rotate_left
  · (intro wq hSw; (try dsimp only at hSw); go_simp; first | done | with_reducible rfl)
  try simp only [Act.put, List.setIfInBounds_toArray, List.set_cons_zero, List.set_cons_succ]
  refine wpAnyH_take (i := 21) (oi := { dst := some 24, op := Op.fieldAddr 90 (Operand.tmp 23) 4, type := 0, pos := "disk.go:123", after := #[{ on := 20, ground := Ground.data }], guard := none }) (v := ?_) rfl (by kernel_rfl) (by kernel_rfl) (by kernel_rfl) (fun _ _ _ h => h) (Or.inl ⟨by rfl, ?_⟩) (by assumption) ?_
  rotate_left
  · (intro wq hSw; (try dsimp only at hSw); go_simp; first | done | with_reducible rfl)
  try simp only [Act.put, List.setIfInBounds_toArray, List.set_cons_zero, List.set_cons_succ]
  refine wpAnyH_take (i := 22) (oi := { dst := some 25, op := Op.load 88 (Operand.tmp 24), type := 88, pos := "disk.go:123", after := #[{ on := 21, ground := Ground.data }], guard := none }) (v := ?_) rfl (by kernel_rfl) (by kernel_rfl) (by kernel_rfl) (fun _ _ _ h => h) (Or.inl ⟨by rfl, ?_⟩) (by assumption) ?_
  rotate_left
  · (intro wq hSw; (try dsimp only at hSw); go_simp; first | done | with_reducible rfl)
  try simp only [Act.put, List.setIfInBounds_toArray, List.set_cons_zero, List.set_cons_succ]
  refine wpAnyH_ready (rs := [12, 18]) (by kernel_rfl) (by simp) ?_
  refine AllReadyH.cons (o := { dst := some 15, op := Op.call { callee := Callee.value (Operand.func 50), args := #[Operand.tmp 14], argTypes := #[87] }, type := 87, pos := "disk.go:123", after := #[{ on := 11, ground := Ground.data }], guard := none }) rfl (fun K hK => ?_) (AllReadyH.cons (o := { dst := some 21, op := Op.buildSlice 88 0 #[], type := 88, pos := "disk.go:123", after := #[], guard := none }) rfl (fun K hK => ?_) AllReadyH.nil)
  · go_simp
    refine (copied_any D.V vm _ (h.vw.new ((New.refl w).drew)) h.vf h.sz.2).mono ?_
    rintro e w0 ⟨mV, rfl, hmV, hSV, hc0⟩
    have hn0 := New.trans ((New.refl w).drew) hc0
    have hzV := Below.size ((New.refl w).drew)
    refine hK.out _ _ ?_ (fun hHeld => ?_)
    · exact Held.of hn0
    clear hK K
    try simp only [Act.put, List.setIfInBounds_toArray, List.set_cons_zero, List.set_cons_succ]
    refine wpAnyH_ready (rs := [17, 18]) (by kernel_rfl) (by simp) ?_
    refine AllReadyH.cons (o := { dst := some 20, op := Op.call { callee := Callee.value (Operand.func 50), args := #[Operand.tmp 19], argTypes := #[87] }, type := 87, pos := "disk.go:123", after := #[{ on := 16, ground := Ground.data }, { on := 12, ground := Ground.chain }], guard := none }) rfl (fun K hK => ?_) (AllReadyH.cons (o := { dst := some 21, op := Op.buildSlice 88 0 #[], type := 88, pos := "disk.go:123", after := #[], guard := none }) rfl (fun K hK => ?_) AllReadyH.nil)
    · go_simp
      refine (copied_any D.G gm _ (h.gr.new (hn0)) h.gf h.sz.2).mono ?_
      rintro e w1 ⟨mG, rfl, hmG, hSG, hc1⟩
      have hn1 := New.trans (hn0) hc1
      have hzG := Below.size (hn0)
      have hV1 := SecM.new hSV hc1
      have hvg := SecM.lt hSV
      refine hK.out _ _ ?_ (fun hHeld => ?_)
      · exact Held.of hn1
      clear hK K
      try simp only [Act.put, List.setIfInBounds_toArray, List.set_cons_zero, List.set_cons_succ]
      refine wpAnyH_ready (rs := [18]) (by kernel_rfl) (by simp) ?_
      refine AllReadyH.cons (o := { dst := some 21, op := Op.buildSlice 88 0 #[], type := 88, pos := "disk.go:123", after := #[], guard := none }) rfl (fun K hK => ?_) AllReadyH.nil
      go_simp
      have hn2 := New.alloc (hn1) (.cells #[] 98)
      have ho2 : Owns (w1.alloc (.cells #[] 98)) w.heap.size 98 1 fvE (.slice (some ⟨w1.heap.size, 0, none⟩) 0 0) ([] : List Fv) := World.ownsRow_made w1 #[] 0 (Below.size (hn1)) (by unfold maxLen; omega) rfl
      have hV2 := SecM.new hV1 ((New.refl _).alloc (.cells #[] 98))
      have hG2 := SecM.new hSG ((New.refl _).alloc (.cells #[] 98))
      refine hK.out _ _ ?_ (fun hHeld => ?_)
      · exact Held.of hn2
      clear hK K
      try simp only [Act.put, List.setIfInBounds_toArray, List.set_cons_zero, List.set_cons_succ]
      refine wpAnyH_ready (rs := [23]) (by kernel_rfl) (by simp) ?_
      refine AllReadyH.cons (o := { dst := some 26, op := Op.call { callee := Callee.builtin Builtin.append, args := #[Operand.tmp 21, Operand.tmp 25], argTypes := #[88, 88] }, type := 88, pos := "disk.go:123", after := #[{ on := 18, ground := Ground.data }, { on := 22, ground := Ground.data }, { on := 17, ground := Ground.chain }], guard := none }) rfl (fun K hK => ?_) AllReadyH.nil
      refine step_app fvTy fvEOk rfl (.tmp 21) (.tmp 25) rfl rfl rfl ho2 (hsx.new (hn2)) HM1.out HM2.out (Below.size (hn2)) ?_
      intro va w3 ho3 hg3 _
      have hn3 := New.grown (hn2) hg3 (fun k hk => Owns.blockGe ho2 k hk)
      have hV3 := SecM.app hV2 ho2 hg3
      have hG3 := SecM.app hG2 ho2 hg3
      rw [List.nil_append] at ho3
      obtain ⟨Aa, ca, hva, -, -⟩ := Owns.slIn fvEOk ho3
      subst hva
      refine hK.out _ _ ?_ (fun hHeld => ?_)
      · exact Held.of hn3
      clear hK K
      try simp only [Act.put, List.setIfInBounds_toArray, List.set_cons_zero, List.set_cons_succ]
      refine wpAnyH_take (i := 24) (oi := { dst := some 27, op := Op.build 90 #[(0, Operand.tmp 6), (1, Operand.tmp 10), (2, Operand.tmp 15), (3, Operand.tmp 20), (4, Operand.tmp 26)], type := 90, pos := "disk.go:123", after := #[{ on := 3, ground := Ground.data }, { on := 7, ground := Ground.data }, { on := 12, ground := Ground.data }, { on := 17, ground := Ground.data }, { on := 23, ground := Ground.data }], guard := none }) (v := ?_) rfl (by kernel_rfl) (by kernel_rfl) (by kernel_rfl) (fun _ _ _ h => h) (Or.inl ⟨by rfl, ?_⟩) (by assumption) ?_
      rotate_left
      · (intro wq hSw; (try dsimp only at hSw); go_simp; first | done | with_reducible rfl)
      try simp only [Act.put, List.setIfInBounds_toArray, List.set_cons_zero, List.set_cons_succ]
      refine wpAnyH_ready (rs := [25]) (by kernel_rfl) (by simp) ?_
      refine AllReadyH.cons (o := { dst := some 28, op := Op.box 90 (Operand.tmp 27), type := 54, pos := "disk.go:123", after := #[{ on := 24, ground := Ground.data }], guard := none }) rfl (fun K hK => ?_) AllReadyH.nil
      go_simp
      have hn4 := New.alloc (hn3) (.cells #[.int .i64 D.size, .int .i64 D.limit, .map (some mV), .map (some mG), .slice Aa xs.length ca] 90)
      have hb4 := Blk.mk_new w3 90 #[.int .i64 D.size, .int .i64 D.limit, .map (some mV), .map (some mG), .slice Aa xs.length ca]
      have hcs := Below.size (hn3)
      have hV4 := SecM.new hV3 ((New.refl _).alloc (.cells #[.int .i64 D.size, .int .i64 D.limit, .map (some mV), .map (some mG), .slice Aa xs.length ca] 90))
      have hG4 := SecM.new hG3 ((New.refl _).alloc (.cells #[.int .i64 D.size, .int .i64 D.limit, .map (some mV), .map (some mG), .slice Aa xs.length ca] 90))
      have ho4 := Owns.new ho3 ((New.refl _).alloc (.cells #[.int .i64 D.size, .int .i64 D.limit, .map (some mV), .map (some mG), .slice Aa xs.length ca] 90))
      refine hK.out _ _ ?_ (fun hHeld => ?_)
      · exact Held.of hn4
      clear hK K
      try simp only [Act.put, List.setIfInBounds_toArray, List.set_cons_zero, List.set_cons_succ]
      refine wpAnyH_take (i := 26) (oi := { dst := some 2, op := Op.assign (Operand.tmp 28), type := 54, pos := "disk.go:123", after := #[{ on := 25, ground := Ground.data }, { on := 23, ground := Ground.chain }, { on := 0, ground := Ground.phase }, { on := 1, ground := Ground.phase }, { on := 2, ground := Ground.phase }, { on := 3, ground := Ground.phase }, { on := 4, ground := Ground.phase }, { on := 5, ground := Ground.phase }, { on := 6, ground := Ground.phase }, { on := 7, ground := Ground.phase }, { on := 8, ground := Ground.phase }, { on := 9, ground := Ground.phase }, { on := 10, ground := Ground.phase }, { on := 11, ground := Ground.phase }, { on := 12, ground := Ground.phase }, { on := 13, ground := Ground.phase }, { on := 14, ground := Ground.phase }, { on := 15, ground := Ground.phase }, { on := 16, ground := Ground.phase }, { on := 17, ground := Ground.phase }, { on := 18, ground := Ground.phase }, { on := 19, ground := Ground.phase }, { on := 20, ground := Ground.phase }, { on := 21, ground := Ground.phase }, { on := 22, ground := Ground.phase }, { on := 23, ground := Ground.phase }, { on := 24, ground := Ground.phase }, { on := 25, ground := Ground.phase }], guard := none }) (v := ?_) rfl (by kernel_rfl) (by kernel_rfl) (by kernel_rfl) (fun _ _ _ h => h) (Or.inl ⟨by rfl, ?_⟩) (by assumption) ?_
      rotate_left
      · (intro wq hSw; (try dsimp only at hSw); go_simp; first | done | with_reducible rfl)
      try simp only [Act.put, List.setIfInBounds_toArray, List.set_cons_zero, List.set_cons_succ]
      refine wpAnyH_done (by kernel_rfl) ?_ _
      clear hHeld
      go_wp2_with fail
      go_ret
      refine ⟨_, mV, mG, _, rfl, ⟨hb4, hV4, hG4, ⟨xs, Owns.lower ho4 (Nat.zero_le _), HXL.out, fun i x p hx hp => (HXS.out i x p hx hp).new (hn4)⟩, (fun e => by omega), h.sz, h.lm, h.vf, h.gf, h.pf⟩, fun k hk => ?_, hn4⟩
      rcases hk with rfl | rfl | rfl | hk
      · exact hcs
      · omega
      · omega
      · exact Owns.blockGe ho4 k hk
    · go_simp
      have hn1 := New.alloc (hn0) (.cells #[] 98)
      have ho1 : Owns (w0.alloc (.cells #[] 98)) w.heap.size 98 1 fvE (.slice (some ⟨w0.heap.size, 0, none⟩) 0 0) ([] : List Fv) := World.ownsRow_made w0 #[] 0 (Below.size (hn0)) (by unfold maxLen; omega) rfl
      have hV1 := SecM.new hSV ((New.refl _).alloc (.cells #[] 98))
      refine hK.out _ _ ?_ (fun hHeld => ?_)
      · exact Held.of hn1
      clear hK K
      try simp only [Act.put, List.setIfInBounds_toArray, List.set_cons_zero, List.set_cons_succ]
      refine wpAnyH_ready (rs := [17]) (by kernel_rfl) (by simp) ?_
      refine AllReadyH.cons (o := { dst := some 20, op := Op.call { callee := Callee.value (Operand.func 50), args := #[Operand.tmp 19], argTypes := #[87] }, type := 87, pos := "disk.go:123", after := #[{ on := 16, ground := Ground.data }, { on := 12, ground := Ground.chain }], guard := none }) rfl (fun K hK => ?_) AllReadyH.nil
      go_simp
      refine (copied_any D.G gm _ (h.gr.new (hn1)) h.gf h.sz.2).mono ?_
      rintro e w2 ⟨mG, rfl, hmG, hSG, hc2⟩
      have hn2 := New.trans (hn1) hc2
      have hzG := Below.size (hn1)
      have hV2 := SecM.new hV1 hc2
      have ho2 := Owns.new ho1 hc2
      have hvg := SecM.lt hV1
      refine hK.out _ _ ?_ (fun hHeld => ?_)
      · exact Held.of hn2
      clear hK K
      try simp only [Act.put, List.setIfInBounds_toArray, List.set_cons_zero, List.set_cons_succ]
      refine wpAnyH_ready (rs := [23]) (by kernel_rfl) (by simp) ?_
      refine AllReadyH.cons (o := { dst := some 26, op := Op.call { callee := Callee.builtin Builtin.append, args := #[Operand.tmp 21, Operand.tmp 25], argTypes := #[88, 88] }, type := 88, pos := "disk.go:123", after := #[{ on := 18, ground := Ground.data }, { on := 22, ground := Ground.data }, { on := 17, ground := Ground.chain }], guard := none }) rfl (fun K hK => ?_) AllReadyH.nil
      refine step_app fvTy fvEOk rfl (.tmp 21) (.tmp 25) rfl rfl rfl ho2 (hsx.new (hn2)) HM1.out HM2.out (Below.size (hn2)) ?_
      intro va w3 ho3 hg3 _
      have hn3 := New.grown (hn2) hg3 (fun k hk => Owns.blockGe ho2 k hk)
      have hV3 := SecM.app hV2 ho2 hg3
      have hG3 := SecM.app hSG ho2 hg3
      rw [List.nil_append] at ho3
      obtain ⟨Aa, ca, hva, -, -⟩ := Owns.slIn fvEOk ho3
      subst hva
      refine hK.out _ _ ?_ (fun hHeld => ?_)
      · exact Held.of hn3
      clear hK K
      try simp only [Act.put, List.setIfInBounds_toArray, List.set_cons_zero, List.set_cons_succ]
      refine wpAnyH_take (i := 24) (oi := { dst := some 27, op := Op.build 90 #[(0, Operand.tmp 6), (1, Operand.tmp 10), (2, Operand.tmp 15), (3, Operand.tmp 20), (4, Operand.tmp 26)], type := 90, pos := "disk.go:123", after := #[{ on := 3, ground := Ground.data }, { on := 7, ground := Ground.data }, { on := 12, ground := Ground.data }, { on := 17, ground := Ground.data }, { on := 23, ground := Ground.data }], guard := none }) (v := ?_) rfl (by kernel_rfl) (by kernel_rfl) (by kernel_rfl) (fun _ _ _ h => h) (Or.inl ⟨by rfl, ?_⟩) (by assumption) ?_
      rotate_left
      · (intro wq hSw; (try dsimp only at hSw); go_simp; first | done | with_reducible rfl)
      try simp only [Act.put, List.setIfInBounds_toArray, List.set_cons_zero, List.set_cons_succ]
      refine wpAnyH_ready (rs := [25]) (by kernel_rfl) (by simp) ?_
      refine AllReadyH.cons (o := { dst := some 28, op := Op.box 90 (Operand.tmp 27), type := 54, pos := "disk.go:123", after := #[{ on := 24, ground := Ground.data }], guard := none }) rfl (fun K hK => ?_) AllReadyH.nil
      go_simp
      have hn4 := New.alloc (hn3) (.cells #[.int .i64 D.size, .int .i64 D.limit, .map (some mV), .map (some mG), .slice Aa xs.length ca] 90)
      have hb4 := Blk.mk_new w3 90 #[.int .i64 D.size, .int .i64 D.limit, .map (some mV), .map (some mG), .slice Aa xs.length ca]
      have hcs := Below.size (hn3)
      have hV4 := SecM.new hV3 ((New.refl _).alloc (.cells #[.int .i64 D.size, .int .i64 D.limit, .map (some mV), .map (some mG), .slice Aa xs.length ca] 90))
      have hG4 := SecM.new hG3 ((New.refl _).alloc (.cells #[.int .i64 D.size, .int .i64 D.limit, .map (some mV), .map (some mG), .slice Aa xs.length ca] 90))
      have ho4 := Owns.new ho3 ((New.refl _).alloc (.cells #[.int .i64 D.size, .int .i64 D.limit, .map (some mV), .map (some mG), .slice Aa xs.length ca] 90))
      refine hK.out _ _ ?_ (fun hHeld => ?_)
      · exact Held.of hn4
      clear hK K
      try simp only [Act.put, List.setIfInBounds_toArray, List.set_cons_zero, List.set_cons_succ]
      refine wpAnyH_take (i := 26) (oi := { dst := some 2, op := Op.assign (Operand.tmp 28), type := 54, pos := "disk.go:123", after := #[{ on := 25, ground := Ground.data }, { on := 23, ground := Ground.chain }, { on := 0, ground := Ground.phase }, { on := 1, ground := Ground.phase }, { on := 2, ground := Ground.phase }, { on := 3, ground := Ground.phase }, { on := 4, ground := Ground.phase }, { on := 5, ground := Ground.phase }, { on := 6, ground := Ground.phase }, { on := 7, ground := Ground.phase }, { on := 8, ground := Ground.phase }, { on := 9, ground := Ground.phase }, { on := 10, ground := Ground.phase }, { on := 11, ground := Ground.phase }, { on := 12, ground := Ground.phase }, { on := 13, ground := Ground.phase }, { on := 14, ground := Ground.phase }, { on := 15, ground := Ground.phase }, { on := 16, ground := Ground.phase }, { on := 17, ground := Ground.phase }, { on := 18, ground := Ground.phase }, { on := 19, ground := Ground.phase }, { on := 20, ground := Ground.phase }, { on := 21, ground := Ground.phase }, { on := 22, ground := Ground.phase }, { on := 23, ground := Ground.phase }, { on := 24, ground := Ground.phase }, { on := 25, ground := Ground.phase }], guard := none }) (v := ?_) rfl (by kernel_rfl) (by kernel_rfl) (by kernel_rfl) (fun _ _ _ h => h) (Or.inl ⟨by rfl, ?_⟩) (by assumption) ?_
      rotate_left
      · (intro wq hSw; (try dsimp only at hSw); go_simp; first | done | with_reducible rfl)
      try simp only [Act.put, List.setIfInBounds_toArray, List.set_cons_zero, List.set_cons_succ]
      refine wpAnyH_done (by kernel_rfl) ?_ _
      clear hHeld
      go_wp2_with fail
      go_ret
      refine ⟨_, mV, mG, _, rfl, ⟨hb4, hV4, hG4, ⟨xs, Owns.lower ho4 (Nat.zero_le _), HXL.out, fun i x p hx hp => (HXS.out i x p hx hp).new (hn4)⟩, (fun e => by omega), h.sz, h.lm, h.vf, h.gf, h.pf⟩, fun k hk => ?_, hn4⟩
      rcases hk with rfl | rfl | rfl | hk
      · exact hcs
      · omega
      · omega
      · exact Owns.blockGe ho4 k hk
  · go_simp
    have hn0 := New.alloc ((New.refl w).drew) (.cells #[] 98)
    have ho0 : Owns (w.drew.alloc (.cells #[] 98)) w.heap.size 98 1 fvE (.slice (some ⟨w.drew.heap.size, 0, none⟩) 0 0) ([] : List Fv) := World.ownsRow_made w.drew #[] 0 (Below.size ((New.refl w).drew)) (by unfold maxLen; omega) rfl
    refine hK.out _ _ ?_ (fun hHeld => ?_)
    · exact Held.of hn0
    clear hK K
    try simp only [Act.put, List.setIfInBounds_toArray, List.set_cons_zero, List.set_cons_succ]
    refine wpAnyH_ready (rs := [12]) (by kernel_rfl) (by simp) ?_
    refine AllReadyH.cons (o := { dst := some 15, op := Op.call { callee := Callee.value (Operand.func 50), args := #[Operand.tmp 14], argTypes := #[87] }, type := 87, pos := "disk.go:123", after := #[{ on := 11, ground := Ground.data }], guard := none }) rfl (fun K hK => ?_) AllReadyH.nil
    go_simp
    refine (copied_any D.V vm _ (h.vw.new (hn0)) h.vf h.sz.2).mono ?_
    rintro e w1 ⟨mV, rfl, hmV, hSV, hc1⟩
    have hn1 := New.trans (hn0) hc1
    have hzV := Below.size (hn0)
    have ho1 := Owns.new ho0 hc1
    refine hK.out _ _ ?_ (fun hHeld => ?_)
    · exact Held.of hn1
    clear hK K
    try simp only [Act.put, List.setIfInBounds_toArray, List.set_cons_zero, List.set_cons_succ]
    refine wpAnyH_ready (rs := [17]) (by kernel_rfl) (by simp) ?_
    refine AllReadyH.cons (o := { dst := some 20, op := Op.call { callee := Callee.value (Operand.func 50), args := #[Operand.tmp 19], argTypes := #[87] }, type := 87, pos := "disk.go:123", after := #[{ on := 16, ground := Ground.data }, { on := 12, ground := Ground.chain }], guard := none }) rfl (fun K hK => ?_) AllReadyH.nil
    go_simp
    refine (copied_any D.G gm _ (h.gr.new (hn1)) h.gf h.sz.2).mono ?_
    rintro e w2 ⟨mG, rfl, hmG, hSG, hc2⟩
    have hn2 := New.trans (hn1) hc2
    have hzG := Below.size (hn1)
    have hV2 := SecM.new hSV hc2
    have ho2 := Owns.new ho1 hc2
    have hvg := SecM.lt hSV
    refine hK.out _ _ ?_ (fun hHeld => ?_)
    · exact Held.of hn2
    clear hK K
    try simp only [Act.put, List.setIfInBounds_toArray, List.set_cons_zero, List.set_cons_succ]
    refine wpAnyH_ready (rs := [23]) (by kernel_rfl) (by simp) ?_
    refine AllReadyH.cons (o := { dst := some 26, op := Op.call { callee := Callee.builtin Builtin.append, args := #[Operand.tmp 21, Operand.tmp 25], argTypes := #[88, 88] }, type := 88, pos := "disk.go:123", after := #[{ on := 18, ground := Ground.data }, { on := 22, ground := Ground.data }, { on := 17, ground := Ground.chain }], guard := none }) rfl (fun K hK => ?_) AllReadyH.nil
    refine step_app fvTy fvEOk rfl (.tmp 21) (.tmp 25) rfl rfl rfl ho2 (hsx.new (hn2)) HM1.out HM2.out (Below.size (hn2)) ?_
    intro va w3 ho3 hg3 _
    have hn3 := New.grown (hn2) hg3 (fun k hk => Owns.blockGe ho2 k hk)
    have hV3 := SecM.app hV2 ho2 hg3
    have hG3 := SecM.app hSG ho2 hg3
    rw [List.nil_append] at ho3
    obtain ⟨Aa, ca, hva, -, -⟩ := Owns.slIn fvEOk ho3
    subst hva
    refine hK.out _ _ ?_ (fun hHeld => ?_)
    · exact Held.of hn3
    clear hK K
    try simp only [Act.put, List.setIfInBounds_toArray, List.set_cons_zero, List.set_cons_succ]
    refine wpAnyH_take (i := 24) (oi := { dst := some 27, op := Op.build 90 #[(0, Operand.tmp 6), (1, Operand.tmp 10), (2, Operand.tmp 15), (3, Operand.tmp 20), (4, Operand.tmp 26)], type := 90, pos := "disk.go:123", after := #[{ on := 3, ground := Ground.data }, { on := 7, ground := Ground.data }, { on := 12, ground := Ground.data }, { on := 17, ground := Ground.data }, { on := 23, ground := Ground.data }], guard := none }) (v := ?_) rfl (by kernel_rfl) (by kernel_rfl) (by kernel_rfl) (fun _ _ _ h => h) (Or.inl ⟨by rfl, ?_⟩) (by assumption) ?_
    rotate_left
    · (intro wq hSw; (try dsimp only at hSw); go_simp; first | done | with_reducible rfl)
    try simp only [Act.put, List.setIfInBounds_toArray, List.set_cons_zero, List.set_cons_succ]
    refine wpAnyH_ready (rs := [25]) (by kernel_rfl) (by simp) ?_
    refine AllReadyH.cons (o := { dst := some 28, op := Op.box 90 (Operand.tmp 27), type := 54, pos := "disk.go:123", after := #[{ on := 24, ground := Ground.data }], guard := none }) rfl (fun K hK => ?_) AllReadyH.nil
    go_simp
    have hn4 := New.alloc (hn3) (.cells #[.int .i64 D.size, .int .i64 D.limit, .map (some mV), .map (some mG), .slice Aa xs.length ca] 90)
    have hb4 := Blk.mk_new w3 90 #[.int .i64 D.size, .int .i64 D.limit, .map (some mV), .map (some mG), .slice Aa xs.length ca]
    have hcs := Below.size (hn3)
    have hV4 := SecM.new hV3 ((New.refl _).alloc (.cells #[.int .i64 D.size, .int .i64 D.limit, .map (some mV), .map (some mG), .slice Aa xs.length ca] 90))
    have hG4 := SecM.new hG3 ((New.refl _).alloc (.cells #[.int .i64 D.size, .int .i64 D.limit, .map (some mV), .map (some mG), .slice Aa xs.length ca] 90))
    have ho4 := Owns.new ho3 ((New.refl _).alloc (.cells #[.int .i64 D.size, .int .i64 D.limit, .map (some mV), .map (some mG), .slice Aa xs.length ca] 90))
    refine hK.out _ _ ?_ (fun hHeld => ?_)
    · exact Held.of hn4
    clear hK K
    try simp only [Act.put, List.setIfInBounds_toArray, List.set_cons_zero, List.set_cons_succ]
    refine wpAnyH_take (i := 26) (oi := { dst := some 2, op := Op.assign (Operand.tmp 28), type := 54, pos := "disk.go:123", after := #[{ on := 25, ground := Ground.data }, { on := 23, ground := Ground.chain }, { on := 0, ground := Ground.phase }, { on := 1, ground := Ground.phase }, { on := 2, ground := Ground.phase }, { on := 3, ground := Ground.phase }, { on := 4, ground := Ground.phase }, { on := 5, ground := Ground.phase }, { on := 6, ground := Ground.phase }, { on := 7, ground := Ground.phase }, { on := 8, ground := Ground.phase }, { on := 9, ground := Ground.phase }, { on := 10, ground := Ground.phase }, { on := 11, ground := Ground.phase }, { on := 12, ground := Ground.phase }, { on := 13, ground := Ground.phase }, { on := 14, ground := Ground.phase }, { on := 15, ground := Ground.phase }, { on := 16, ground := Ground.phase }, { on := 17, ground := Ground.phase }, { on := 18, ground := Ground.phase }, { on := 19, ground := Ground.phase }, { on := 20, ground := Ground.phase }, { on := 21, ground := Ground.phase }, { on := 22, ground := Ground.phase }, { on := 23, ground := Ground.phase }, { on := 24, ground := Ground.phase }, { on := 25, ground := Ground.phase }], guard := none }) (v := ?_) rfl (by kernel_rfl) (by kernel_rfl) (by kernel_rfl) (fun _ _ _ h => h) (Or.inl ⟨by rfl, ?_⟩) (by assumption) ?_
    rotate_left
    · (intro wq hSw; (try dsimp only at hSw); go_simp; first | done | with_reducible rfl)
    try simp only [Act.put, List.setIfInBounds_toArray, List.set_cons_zero, List.set_cons_succ]
    refine wpAnyH_done (by kernel_rfl) ?_ _
    clear hHeld
    go_wp2_with fail
    go_ret
    refine ⟨_, mV, mG, _, rfl, ⟨hb4, hV4, hG4, ⟨xs, Owns.lower ho4 (Nat.zero_le _), HXL.out, fun i x p hx hp => (HXS.out i x p hx hp).new (hn4)⟩, (fun e => by omega), h.sz, h.lm, h.vf, h.gf, h.pf⟩, fun k hk => ?_, hn4⟩
    rcases hk with rfl | rfl | rfl | hk
    · exact hcs
    · omega
    · omega
    · exact Owns.blockGe ho4 k hk
end Go.Proofs.Ytdjnfnhmkfbfmaa
