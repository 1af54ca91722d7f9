/- Chapter 18 (pins), the document's answer: Do (Drop). Printed by genPnD1.py. -/
import Derived.Test.YtcganajbfplmpaaPnD2
import Derived.Deep.RegionHeld3
import Derived.Deep.DeepCutAuto
namespace Go.Proofs.Ytcganajbfplmpaa
open Go.RowKit Go.Lap
set_option linter.unusedVariables false

theorem DoAt.size {w wx : World} {v1 v2 : Value} {x : PAct} (h : DoAt w wx v1 v2 x) : w.heap.size + 3 ≤ wx.heap.size := by have := h.r.lt; omega
theorem del_at {E : List Pnm} (hs : SrtE E) {s : ByteArray} (h : plcP E s < E.length) : E.take (plcP E s) ++ E.drop (plcP E s + 1) = delE E s := by
  obtain ⟨h1, hj⟩ := (List.findIdx_eq (p := fun x : Pnm => decide (x.s = s)) h).1 rfl
  replace h1 : (E[plcP E s]).s = s := of_decide_eq_true h1
  have h2 : ∀ x ∈ E.take (plcP E s), x.s ≠ s := fun x hx => by
    obtain ⟨j, hjl, rfl⟩ := List.getElem_of_mem hx
    rw [List.length_take] at hjl
    rw [List.getElem_take]
    exact of_decide_eq_false (hj j (by omega))
  clear hj
  generalize plcP E s = k at h h1 h2 ⊢
  have h3 : E = E.take k ++ E[k] :: E.drop (k + 1) := by
    rw [← List.drop_eq_getElem_cons h, List.take_append_drop]
  have h4 : ∀ x ∈ E.drop (k + 1), x.s ≠ s := fun x hx => by
    rw [h3] at hs
    have := (List.pairwise_cons.1 (List.pairwise_append.1 hs).2.1).1 x hx
    rw [h1] at this
    exact fun e => lsS_ne this e.symm
  have h5 : delE E s = delE (E.take k ++ E[k] :: E.drop (k + 1)) s := by rw [← h3]
  rw [h5]
  unfold delE
  rw [List.filter_append, List.filter_cons, if_neg (by simp [h1])]
  rw [List.filter_eq_self.2 (fun x hx => by simpa using h2 x hx), List.filter_eq_self.2 (fun x hx => by simpa using h4 x hx)]
section
variable {v1 v2 : Value} {E : List Pnm} {K : List Lse}
set_option maxRecDepth 100000 in
set_option maxHeartbeats 8000000 in
theorem rdo_drop (w : World) (hs1 : SlIn w 2 pnC v1 E) (hs2 : SlIn w 3 lsC v2 K) (hl : E.length ≤ 1000) (hsrt : SrtE E) (x : PAct) (k0 : x.kind = 1) :
    Calls Try.prog 28 #[.agg #[v1, v2], .agg #[.int .i64 x.kind, .string x.name, .int .u64 (x.r : Int), .int .u64 (x.a : Int), .int .u64 (x.u : Int)]] w (RDoPost w E K x) := by
  obtain ⟨A1, c1, rfl, hcp, hor⟩ := _root_.id hs1
  obtain ⟨A2, n2, c2, rfl⟩ := lsShape hs2
  have hD := doAt w (.slice A1 E.length c1) (.slice A2 n2 c2) x
  obtain ⟨p0, p1, pz, a0, a1, a2, a3, a4, r0, r1, rz⟩ := hD.facts
  have HD := Lib.hid hD
  have hnw := hD.n
  unfold doW at hnw
  have HNW := Lib.hid hnw
  have HR := Lib.hid (show ∀ wx u r, New w wx → doR E K x = r → SlIn wx 2 pnC u (doE E x) → RDoPost w E K x (.returned (.tuple #[.agg #[u, .slice A2 n2 c2], .int .i64 r, .int .i64 0])) wx from fun wx u r hn hr hu => by
    refine ⟨_, _, by rw [hr]; unfold doN; rw [if_neg (by omega)]; rfl, hu, ?_, hn⟩
    unfold doK; rw [if_neg (by omega), if_neg (by omega)]; exact hs2.new hn)
  have hre : doR E K x = if (lookE E x.name).isSome then 0 else 180 := by unfold doR; rw [if_neg (by omega), if_pos k0]; rfl
  have hee : doE E x = delE E x.name := by unfold doE; rw [if_neg (by omega), if_pos k0]
  rw [hre, hee] at HR
  unfold doW at p0 p1 pz a0 a1 a2 a3 a4 r0 r1 rz
  have HS1 := Lib.hid hs1
  obtain ⟨xk, xs, xr, xa, xu⟩ := x
  dsimp only at *
  subst k0
  have hdk := del_at hsrt (s := xs)
  have hph := plcP_has E xs
  clear hD hre hee hs1 hs2 hnw hsrt
  by_cases hlt : plcP E xs < E.length
  rotate_left
  · have hpj : plcJ E xs = -1 := if_neg hlt
    have hln : lookE E xs = none := by
      cases h : lookE E xs with
      | none => rfl
      | some n => exact absurd (hph.2 (by rw [h]; rfl)) hlt
    have HNO := Lib.hid (show ∀ wx, New w wx → RDoPost w E K ⟨1, xs, xr, xa, xu⟩ (.returned (.tuple #[.agg #[.slice A1 E.length c1, .slice A2 n2 c2], .int .i64 180, .int .i64 0])) wx from fun wx hn =>
      HR.out wx _ 180 hn (by rw [hln]; rfl) (by
        have : delE E xs = E := by
          unfold delE
          rw [List.filter_eq_self]
          intro y hy
          simpa using lookE_none.1 hln y hy
        rw [this]; exact HS1.out.new hn))
    have HPJ := Lib.hid hpj
    clear hdk hph hlt hpj hln
    go_enter Try.func28, Try.ntmps28
    go_wp2_with fail
    refine (rpfind_any _ (HS1.out.new HNW.out) (by omega) xs).mono ?_
    rintro e w2 ⟨rfl, hw2⟩
    subst hw2
    rw [HPJ.out]
    go_wp2_with fail
    exact bodyPost_ret (v := .tuple #[.agg #[.slice A1 E.length c1, .slice A2 n2 c2], .int .i64 180, .int .i64 0]) (by simp [results, Try.results28, go_sem]) rfl (HNO.out _ ((((New.refl w).alloc _).alloc _).alloc _))
  have hpj : plcJ E xs = (plcP E xs : Int) := if_pos hlt
  have HPJ := Lib.hid hpj
  have HDK := Lib.hid (hdk hlt)
  have HSM := Lib.hid (hph.1 hlt)
  generalize plcP E xs = k at hlt HPJ HDK
  rcases hor with hor | ⟨b, off, rfl, hb, hc⟩
  · rw [hor] at hlt; simp at hlt
  have hlt' : (k : Int) < (E.length : Int) := by omega
  have hk0 : (0 : Int) ≤ (k : Int) := by omega
  have HLT := Lib.hid hlt
  clear hdk hph hpj hc
  go_enter Try.func28, Try.ntmps28
  go_wp2_with fail
  refine (rpfind_any _ (HS1.out.new HNW.out) (by omega) xs).mono ?_
  rintro e w2 ⟨rfl, hw2⟩
  subst hw2
  rw [HPJ.out]
  go_upto_region 12 with fail
  have hDW := HD.out
  unfold doW at hDW
  have hws : (((w.alloc (.cells #[.slice (some ⟨b, off, none⟩) E.length c1, .slice A2 n2 c2] 70)).alloc (.cells #[.int .i64 1, .string xs, .int .u64 (xr : Int), .int .u64 (xa : Int), .int .u64 (xu : Int)] 62)).alloc (.cells #[.slice none 0 0, .slice none 0 0] 70)).heap.size = w.heap.size + 3 := by simp only [World.size_alloc]
  generalize (((w.alloc _).alloc _).alloc _) = W at *
  have HWS := Lib.hid (show W.heap.size ≤ w.heap.size + 3 by omega)
  clear hws
  have HS1W := Lib.hid (show SlIn W 2 pnC (.slice (some ⟨b, off, none⟩) E.length c1) E from HS1.out.new hDW.n)
  have HST := Lib.hid (show SlIn W 2 pnC (.slice (some ⟨b, off, none⟩) k c1) (E.take k) by
    have := SlIn.take (k := k) (c' := c1) HS1W.out (by omega) (by omega)
    exact this)
  have HM1 := Lib.hid (show ([] : List Pnm).length + (E.take k).length ≤ maxLen ∧ (([] : List Pnm).length + (E.take k).length) * 24 ≤ 140737488355328 by unfold maxLen; simp only [List.length_nil, List.length_take]; omega)
  have HM2 := Lib.hid (show ([] ++ E.take k : List Pnm).length + (E.drop (k + 1)).length ≤ maxLen ∧ (([] ++ E.take k : List Pnm).length + (E.drop (k + 1)).length) * 24 ≤ 140737488355328 by unfold maxLen; simp only [List.nil_append, List.length_drop, List.length_take]; omega)
  have hw1 : IntKind.i64.wrap ((k : Int) + 1) = (k : Int) + 1 := by rw [IntWalk.i64_in _ (by omega)]
  have htn : ((k : Int) + 1).toNat = k + 1 := by omega
  have hk1 : (0 : Int) ≤ (k : Int) + 1 := by omega
  have hk2 : (k : Int) + 1 ≤ (E.length : Int) := by omega
  obtain ⟨ln, hln⟩ : ∃ ln, E.length - (k + 1) = ln := ⟨_, rfl⟩
  obtain ⟨lc, hlc⟩ : ∃ lc, c1 - (k + 1) = lc := ⟨_, rfl⟩
  obtain ⟨of2, hof⟩ : ∃ of2, off + (k + 1) * 2 = of2 := ⟨_, rfl⟩
  have HLN := Lib.hid (And.intro hln (And.intro hlc hof))
  clear hln hlc hof
  by_cases hcap : c1 = k + 1
  · subst hcap
    have hkc : (k : Int) ≤ (k : Int) + 1 := by omega
    have HSA := Lib.hid (show SlIn W 2 pnC (.slice (some ⟨b, off, none⟩) 0 0) (E.drop (k + 1)) by rw [List.drop_eq_nil_of_le (by omega)]; exact SlIn.empty _ _ _ _ 0)
    refine wp_region_held_drew (S := fun w' => New w w') (by kernel_rfl) (hDW.n.drew) (fun hHeld => ?_)
    refine wpAnyH_take (i := 1) (oi := { dst := some 62, op := Op.fieldAddr 70 (Operand.tmp 2) 0, type := 0, pos := "ref.go:69", after := #[], guard := none }) (v := ?_) rfl (by kernel_rfl) (by kernel_rfl) (by kernel_rfl) (fun _ _ _ h => h) (Or.inl ⟨by rfl, ?_⟩) (by assumption) ?_
    rotate_left
    · (intro wq hSw; (try dsimp only at hSw); go_simp; first | done | with_reducible rfl)
    try simp only [Act.put, List.setIfInBounds_toArray, List.set_cons_zero, List.set_cons_succ]
    refine wpAnyH_take (i := 3) (oi := { dst := some 64, op := Op.move (Operand.tmp 7), type := 3, pos := "ref.go:69", after := #[], guard := none }) (v := ?_) rfl (by kernel_rfl) (by kernel_rfl) (by kernel_rfl) (fun _ _ _ h => h) (Or.inl ⟨by rfl, ?_⟩) (by assumption) ?_
    rotate_left
    · (intro wq hSw; (try dsimp only at hSw); go_simp; first | done | with_reducible rfl)
    try simp only [Act.put, List.setIfInBounds_toArray, List.set_cons_zero, List.set_cons_succ]
    refine wpAnyH_take (i := 6) (oi := { dst := some 67, op := Op.fieldAddr 70 (Operand.tmp 2) 0, type := 0, pos := "ref.go:69", after := #[], guard := none }) (v := ?_) rfl (by kernel_rfl) (by kernel_rfl) (by kernel_rfl) (fun _ _ _ h => h) (Or.inl ⟨by rfl, ?_⟩) (by assumption) ?_
    rotate_left
    · (intro wq hSw; (try dsimp only at hSw); go_simp; first | done | with_reducible rfl)
    try simp only [Act.put, List.setIfInBounds_toArray, List.set_cons_zero, List.set_cons_succ]
    refine wpAnyH_take (i := 8) (oi := { dst := some 69, op := Op.move (Operand.tmp 7), type := 3, pos := "ref.go:69", after := #[], guard := none }) (v := ?_) rfl (by kernel_rfl) (by kernel_rfl) (by kernel_rfl) (fun _ _ _ h => h) (Or.inl ⟨by rfl, ?_⟩) (by assumption) ?_
    rotate_left
    · (intro wq hSw; (try dsimp only at hSw); go_simp; first | done | with_reducible rfl)
    try simp only [Act.put, List.setIfInBounds_toArray, List.set_cons_zero, List.set_cons_succ]
    refine wpAnyH_take (i := 9) (oi := { dst := some 70, op := Op.binOp BinOp.add 3 (Operand.tmp 69) (Operand.const (Value.int IntKind.i64 1)) 3, type := 3, pos := "ref.go:69", after := #[{ on := 8, ground := Ground.data }], guard := none }) (v := (.int .i64 ((k : Int) + 1))) rfl (by kernel_rfl) (by kernel_rfl) (by kernel_rfl) (fun _ _ _ h => h) (Or.inl ⟨by rfl, ?_⟩) (by assumption) ?_
    · (intro wq hSw; (try dsimp only at hSw); go_simp; first | done | with_reducible rfl)
    try simp only [Act.put, List.setIfInBounds_toArray, List.set_cons_zero, List.set_cons_succ]
    refine wpAnyH_ready (rs := [0, 2, 7]) (by kernel_rfl) (by simp) ?_
    refine AllReadyH.cons (o := { dst := some 61, op := Op.buildSlice 63 0 #[], type := 63, pos := "ref.go:69", after := #[], guard := none }) rfl (fun K hK => ?_) (AllReadyH.cons (o := { dst := some 63, op := Op.load 63 (Operand.tmp 62), type := 63, pos := "ref.go:69", after := #[{ on := 1, ground := Ground.data }], guard := none }) rfl (fun K hK => ?_) (AllReadyH.cons (o := { dst := some 68, op := Op.load 63 (Operand.tmp 67), type := 63, pos := "ref.go:69", after := #[{ on := 6, ground := Ground.data }], guard := none }) rfl (fun K hK => ?_) AllReadyH.nil))
    · go_simp
      have hn0 := New.alloc (hDW.n.drew) (.cells #[] 66)
      have ho0 : Owns (W.drew.alloc (.cells #[] 66)) (w.heap.size + 3) 66 2 pnC (.slice (some ⟨W.drew.heap.size, 0, none⟩) 0 0) ([] : List Pnm) := (owns_made W.drew 66 pnC 2).lower (DoAt.size (DoAt.new hDW (New.refl W).drew))
      have hd0 := DoAt.new (DoAt.new hDW (New.refl W).drew) ((New.refl _).alloc (.cells #[] 66))
      have hw0 := New.alloc ((New.refl W).drew) (.cells #[] 66)
      refine hK.out _ _ ?_ (fun hHeld => ?_)
      · exact hn0
      clear hK K
      try simp only [Act.put, List.setIfInBounds_toArray, List.set_cons_zero, List.set_cons_succ]
      refine wpAnyH_ready (rs := [2, 7]) (by kernel_rfl) (by simp) ?_
      refine AllReadyH.cons (o := { dst := some 63, op := Op.load 63 (Operand.tmp 62), type := 63, pos := "ref.go:69", after := #[{ on := 1, ground := Ground.data }], guard := none }) rfl (fun K hK => ?_) (AllReadyH.cons (o := { dst := some 68, op := Op.load 63 (Operand.tmp 67), type := 63, pos := "ref.go:69", after := #[{ on := 6, ground := Ground.data }], guard := none }) rfl (fun K hK => ?_) AllReadyH.nil)
      · have qL := (DoAt.facts (DoAt.new hDW ((New.refl W).alloc (.cells #[] 66)))).1
        go_simp
        refine hK.out _ _ ?_ (fun hHeld => ?_)
        · exact hn0
        clear hK K
        try simp only [Act.put, List.setIfInBounds_toArray, List.set_cons_zero, List.set_cons_succ]
        refine wpAnyH_take (i := 4) (oi := { dst := some 65, op := Op.slice 63 (Operand.tmp 63) none (some (Operand.tmp 64)) none, type := 63, pos := "ref.go:69", after := #[{ on := 2, ground := Ground.data }, { on := 3, ground := Ground.data }], guard := none }) (v := (.slice (some ⟨b, off, none⟩) k (k + 1))) rfl (by kernel_rfl) (by kernel_rfl) (by kernel_rfl) (fun _ _ _ h => h) (Or.inl ⟨by rfl, ?_⟩) (by assumption) ?_
        · (intro wq hSw; (try dsimp only at hSw); go_simp; first | done | with_reducible rfl)
        try simp only [Act.put, List.setIfInBounds_toArray, List.set_cons_zero, List.set_cons_succ]
        refine wpAnyH_ready (rs := [5, 7]) (by kernel_rfl) (by simp) ?_
        refine AllReadyH.cons (o := { dst := some 66, op := Op.call { callee := Callee.builtin Builtin.append, args := #[Operand.tmp 61, Operand.tmp 65], argTypes := #[63, 63] }, type := 63, pos := "ref.go:69", after := #[{ on := 0, ground := Ground.data }, { on := 4, ground := Ground.data }], guard := none }) rfl (fun K hK => ?_) (AllReadyH.cons (o := { dst := some 68, op := Op.load 63 (Operand.tmp 67), type := 63, pos := "ref.go:69", after := #[{ on := 6, ground := Ground.data }], guard := none }) rfl (fun K hK => ?_) AllReadyH.nil)
        · refine step_app pnTy pnOk rfl (.tmp 61) (.tmp 65) rfl rfl rfl ho0 ((HST.out).new (hw0)) HM1.out.1 HM1.out.2 (DoAt.size hd0) ?_
          intro va1 wa1 ho1 hg1 _
          obtain ⟨As1, ns1, cs1, hvs1⟩ := slShape (Owns.slIn pnOk ho1)
          subst hvs1
          have hn1 := New.grown (hn0) hg1 (fun k hk => by have := Owns.blockGe ho0 k hk; omega)
          have hd1 := DoAt.upd hd0 (Upd.grown (S := fun k => w.heap.size + 3 ≤ k) (Upd.refl _ _) hg1 (fun k _ hk => Owns.blockGe ho0 k hk)) (fun k hk => hk)
          have hw1 := New.grown (hw0) hg1 (fun k hk => by have := Owns.blockGe ho0 k hk; have := HWS.out; omega)
          refine hK.out _ _ ?_ (fun hHeld => ?_)
          · exact hn1
          clear hK K
          try simp only [Act.put, List.setIfInBounds_toArray, List.set_cons_zero, List.set_cons_succ]
          refine wpAnyH_ready (rs := [7]) (by kernel_rfl) (by simp) ?_
          refine AllReadyH.cons (o := { dst := some 68, op := Op.load 63 (Operand.tmp 67), type := 63, pos := "ref.go:69", after := #[{ on := 6, ground := Ground.data }], guard := none }) rfl (fun K hK => ?_) AllReadyH.nil
          have qL := (DoAt.facts hd1).1
          go_simp
          refine hK.out _ _ ?_ (fun hHeld => ?_)
          · exact hn1
          clear hK K
          try simp only [Act.put, List.setIfInBounds_toArray, List.set_cons_zero, List.set_cons_succ]
          refine wpAnyH_take (i := 10) (oi := { dst := some 71, op := Op.slice 63 (Operand.tmp 68) (some (Operand.tmp 70)) none none, type := 63, pos := "ref.go:69", after := #[{ on := 7, ground := Ground.data }, { on := 9, ground := Ground.data }], guard := none }) (v := (.slice (some ⟨b, off, none⟩) 0 0)) rfl (by kernel_rfl) (by kernel_rfl) (by kernel_rfl) (fun _ _ _ h => h) (Or.inl ⟨by rfl, ?_⟩) (by assumption) ?_
          · (intro wq hSw; (try dsimp only at hSw); go_simp; (try rw [HLN.out.1]); (try rw [HLN.out.2.1]); (try rw [HLN.out.2.2]); first | done | exact ⟨rfl, rfl, rfl⟩ | with_reducible rfl)
          try simp only [Act.put, List.setIfInBounds_toArray, List.set_cons_zero, List.set_cons_succ]
          refine wpAnyH_ready (rs := [11]) (by kernel_rfl) (by simp) ?_
          refine AllReadyH.cons (o := { dst := some 72, op := Op.call { callee := Callee.builtin Builtin.append, args := #[Operand.tmp 66, Operand.tmp 71], argTypes := #[63, 63] }, type := 63, pos := "ref.go:69", after := #[{ on := 5, ground := Ground.data }, { on := 10, ground := Ground.data }, { on := 5, ground := Ground.chain }], guard := none }) rfl (fun K hK => ?_) AllReadyH.nil
          refine step_app pnTy pnOk rfl (.tmp 66) (.tmp 71) rfl rfl rfl ho1 ((HSA.out).new (hw1)) HM2.out.1 HM2.out.2 (DoAt.size hd1) ?_
          intro va2 wa2 ho2 hg2 _
          obtain ⟨As2, ns2, cs2, hvs2⟩ := slShape (Owns.slIn pnOk ho2)
          subst hvs2
          have hn2 := New.grown (hn1) hg2 (fun k hk => by have := Owns.blockGe ho1 k hk; omega)
          have hd2 := DoAt.upd hd1 (Upd.grown (S := fun k => w.heap.size + 3 ≤ k) (Upd.refl _ _) hg2 (fun k _ hk => Owns.blockGe ho1 k hk)) (fun k hk => hk)
          have hw2 := New.grown (hw1) hg2 (fun k hk => by have := Owns.blockGe ho1 k hk; have := HWS.out; omega)
          refine hK.out _ _ ?_ (fun hHeld => ?_)
          · exact hn2
          clear hK K
          try simp only [Act.put, List.setIfInBounds_toArray, List.set_cons_zero, List.set_cons_succ]
          refine wpAnyH_take (i := 12) (oi := { dst := some 73, op := Op.fieldAddr 70 (Operand.tmp 2) 0, type := 0, pos := "ref.go:69", after := #[{ on := 0, ground := Ground.phase }, { on := 1, ground := Ground.phase }, { on := 2, ground := Ground.phase }, { on := 3, ground := Ground.phase }, { on := 4, ground := Ground.phase }, { on := 5, ground := Ground.phase }, { on := 6, ground := Ground.phase }, { on := 7, ground := Ground.phase }, { on := 8, ground := Ground.phase }, { on := 9, ground := Ground.phase }, { on := 10, ground := Ground.phase }, { on := 11, ground := Ground.phase }], guard := none }) (v := ?_) rfl (by kernel_rfl) (by kernel_rfl) (by kernel_rfl) (fun _ _ _ h => h) (Or.inl ⟨by rfl, ?_⟩) (by assumption) ?_
          rotate_left
          · (intro wq hSw; (try dsimp only at hSw); go_simp; first | done | with_reducible rfl)
          try simp only [Act.put, List.setIfInBounds_toArray, List.set_cons_zero, List.set_cons_succ]
          refine wpAnyH_ready (rs := [13]) (by kernel_rfl) (by simp) ?_
          refine AllReadyH.cons (o := { dst := none, op := Op.store 63 (Operand.tmp 73) (Operand.tmp 72), type := 0, pos := "ref.go:69", after := #[{ on := 12, ground := Ground.data }, { on := 11, ground := Ground.data }, { on := 11, ground := Ground.chain }, { on := 0, ground := Ground.phase }, { on := 1, ground := Ground.phase }, { on := 2, ground := Ground.phase }, { on := 3, ground := Ground.phase }, { on := 4, ground := Ground.phase }, { on := 5, ground := Ground.phase }, { on := 6, ground := Ground.phase }, { on := 7, ground := Ground.phase }, { on := 8, ground := Ground.phase }, { on := 9, ground := Ground.phase }, { on := 10, ground := Ground.phase }, { on := 11, ground := Ground.phase }], guard := none }) rfl (fun K hK => ?_) AllReadyH.nil
          have qz := (DoAt.facts hd2).2.2.1
          have qs : w.heap.size < wa2.heap.size := (hd2).p.lt
          have qc := (DoAt.facts hd2).1
          go_simp
          refine hK.out _ _ ?_ (fun hHeld => ?_)
          · exact New.setCell (hn2) (p := ⟨w.heap.size, 0, none⟩) (Nat.le_refl _) _
          clear hK K
          try simp only [Act.put, List.setIfInBounds_toArray, List.set_cons_zero, List.set_cons_succ]
          refine wpAnyH_done (by kernel_rfl) ?_ _
          clear hHeld
          have hU := doUpd w wa2 (.slice As2 ns2 cs2) (.slice As2 ns2 cs2) (.slice A2 n2 c2)
          have hs6 := (Owns.slIn pnOk ho2).upd hU (fun k hk h => by have := (Owns.lt ho2 k hk).1; omega)
          have hn6 := (hd2).n.upd hU (fun k h => by omega)
          have HS6 := Lib.hid hs6
          have HN6 := Lib.hid hn6
          obtain ⟨y0, y1, yz, b0, b1, b2, b3, b4, t0, t1, tz⟩ := DoAt.facts hd2
          have hgt : w.heap.size + 2 < wa2.heap.size := (hd2).r.lt
          clear hU hs6 hn6
          go_wp2_with fail
          exact bodyPost_ret (v := .tuple #[.agg #[(.slice As2 ns2 cs2), .slice A2 n2 c2], .int .i64 0, .int .i64 0]) (by simp [results, Try.results28, go_sem, t0, t1]) rfl (HR.out _ _ 0 HN6.out (by rw [HSM.out]; rfl) (by rw [← HDK.out]; exact HS6.out))
        · have qL := (DoAt.facts (DoAt.new hDW ((New.refl W).alloc (.cells #[] 66)))).1
          go_simp
          refine hK.out _ _ ?_ (fun hHeld => ?_)
          · exact hn0
          clear hK K
          try simp only [Act.put, List.setIfInBounds_toArray, List.set_cons_zero, List.set_cons_succ]
          refine wpAnyH_take (i := 10) (oi := { dst := some 71, op := Op.slice 63 (Operand.tmp 68) (some (Operand.tmp 70)) none none, type := 63, pos := "ref.go:69", after := #[{ on := 7, ground := Ground.data }, { on := 9, ground := Ground.data }], guard := none }) (v := (.slice (some ⟨b, off, none⟩) 0 0)) rfl (by kernel_rfl) (by kernel_rfl) (by kernel_rfl) (fun _ _ _ h => h) (Or.inl ⟨by rfl, ?_⟩) (by assumption) ?_
          · (intro wq hSw; (try dsimp only at hSw); go_simp; (try rw [HLN.out.1]); (try rw [HLN.out.2.1]); (try rw [HLN.out.2.2]); first | done | exact ⟨rfl, rfl, rfl⟩ | with_reducible rfl)
          try simp only [Act.put, List.setIfInBounds_toArray, List.set_cons_zero, List.set_cons_succ]
          refine wpAnyH_ready (rs := [5]) (by kernel_rfl) (by simp) ?_
          refine AllReadyH.cons (o := { dst := some 66, op := Op.call { callee := Callee.builtin Builtin.append, args := #[Operand.tmp 61, Operand.tmp 65], argTypes := #[63, 63] }, type := 63, pos := "ref.go:69", after := #[{ on := 0, ground := Ground.data }, { on := 4, ground := Ground.data }], guard := none }) rfl (fun K hK => ?_) AllReadyH.nil
          refine step_app pnTy pnOk rfl (.tmp 61) (.tmp 65) rfl rfl rfl ho0 ((HST.out).new (hw0)) HM1.out.1 HM1.out.2 (DoAt.size hd0) ?_
          intro va1 wa1 ho1 hg1 _
          obtain ⟨As1, ns1, cs1, hvs1⟩ := slShape (Owns.slIn pnOk ho1)
          subst hvs1
          have hn1 := New.grown (hn0) hg1 (fun k hk => by have := Owns.blockGe ho0 k hk; omega)
          have hd1 := DoAt.upd hd0 (Upd.grown (S := fun k => w.heap.size + 3 ≤ k) (Upd.refl _ _) hg1 (fun k _ hk => Owns.blockGe ho0 k hk)) (fun k hk => hk)
          have hw1 := New.grown (hw0) hg1 (fun k hk => by have := Owns.blockGe ho0 k hk; have := HWS.out; omega)
          refine hK.out _ _ ?_ (fun hHeld => ?_)
          · exact hn1
          clear hK K
          try simp only [Act.put, List.setIfInBounds_toArray, List.set_cons_zero, List.set_cons_succ]
          refine wpAnyH_ready (rs := [11]) (by kernel_rfl) (by simp) ?_
          refine AllReadyH.cons (o := { dst := some 72, op := Op.call { callee := Callee.builtin Builtin.append, args := #[Operand.tmp 66, Operand.tmp 71], argTypes := #[63, 63] }, type := 63, pos := "ref.go:69", after := #[{ on := 5, ground := Ground.data }, { on := 10, ground := Ground.data }, { on := 5, ground := Ground.chain }], guard := none }) rfl (fun K hK => ?_) AllReadyH.nil
          refine step_app pnTy pnOk rfl (.tmp 66) (.tmp 71) rfl rfl rfl ho1 ((HSA.out).new (hw1)) HM2.out.1 HM2.out.2 (DoAt.size hd1) ?_
          intro va2 wa2 ho2 hg2 _
          obtain ⟨As2, ns2, cs2, hvs2⟩ := slShape (Owns.slIn pnOk ho2)
          subst hvs2
          have hn2 := New.grown (hn1) hg2 (fun k hk => by have := Owns.blockGe ho1 k hk; omega)
          have hd2 := DoAt.upd hd1 (Upd.grown (S := fun k => w.heap.size + 3 ≤ k) (Upd.refl _ _) hg2 (fun k _ hk => Owns.blockGe ho1 k hk)) (fun k hk => hk)
          have hw2 := New.grown (hw1) hg2 (fun k hk => by have := Owns.blockGe ho1 k hk; have := HWS.out; omega)
          refine hK.out _ _ ?_ (fun hHeld => ?_)
          · exact hn2
          clear hK K
          try simp only [Act.put, List.setIfInBounds_toArray, List.set_cons_zero, List.set_cons_succ]
          refine wpAnyH_take (i := 12) (oi := { dst := some 73, op := Op.fieldAddr 70 (Operand.tmp 2) 0, type := 0, pos := "ref.go:69", after := #[{ on := 0, ground := Ground.phase }, { on := 1, ground := Ground.phase }, { on := 2, ground := Ground.phase }, { on := 3, ground := Ground.phase }, { on := 4, ground := Ground.phase }, { on := 5, ground := Ground.phase }, { on := 6, ground := Ground.phase }, { on := 7, ground := Ground.phase }, { on := 8, ground := Ground.phase }, { on := 9, ground := Ground.phase }, { on := 10, ground := Ground.phase }, { on := 11, ground := Ground.phase }], guard := none }) (v := ?_) rfl (by kernel_rfl) (by kernel_rfl) (by kernel_rfl) (fun _ _ _ h => h) (Or.inl ⟨by rfl, ?_⟩) (by assumption) ?_
          rotate_left
          · (intro wq hSw; (try dsimp only at hSw); go_simp; first | done | with_reducible rfl)
          try simp only [Act.put, List.setIfInBounds_toArray, List.set_cons_zero, List.set_cons_succ]
          refine wpAnyH_ready (rs := [13]) (by kernel_rfl) (by simp) ?_
          refine AllReadyH.cons (o := { dst := none, op := Op.store 63 (Operand.tmp 73) (Operand.tmp 72), type := 0, pos := "ref.go:69", after := #[{ on := 12, ground := Ground.data }, { on := 11, ground := Ground.data }, { on := 11, ground := Ground.chain }, { on := 0, ground := Ground.phase }, { on := 1, ground := Ground.phase }, { on := 2, ground := Ground.phase }, { on := 3, ground := Ground.phase }, { on := 4, ground := Ground.phase }, { on := 5, ground := Ground.phase }, { on := 6, ground := Ground.phase }, { on := 7, ground := Ground.phase }, { on := 8, ground := Ground.phase }, { on := 9, ground := Ground.phase }, { on := 10, ground := Ground.phase }, { on := 11, ground := Ground.phase }], guard := none }) rfl (fun K hK => ?_) AllReadyH.nil
          have qz := (DoAt.facts hd2).2.2.1
          have qs : w.heap.size < wa2.heap.size := (hd2).p.lt
          have qc := (DoAt.facts hd2).1
          go_simp
          refine hK.out _ _ ?_ (fun hHeld => ?_)
          · exact New.setCell (hn2) (p := ⟨w.heap.size, 0, none⟩) (Nat.le_refl _) _
          clear hK K
          try simp only [Act.put, List.setIfInBounds_toArray, List.set_cons_zero, List.set_cons_succ]
          refine wpAnyH_done (by kernel_rfl) ?_ _
          clear hHeld
          have hU := doUpd w wa2 (.slice As2 ns2 cs2) (.slice As2 ns2 cs2) (.slice A2 n2 c2)
          have hs6 := (Owns.slIn pnOk ho2).upd hU (fun k hk h => by have := (Owns.lt ho2 k hk).1; omega)
          have hn6 := (hd2).n.upd hU (fun k h => by omega)
          have HS6 := Lib.hid hs6
          have HN6 := Lib.hid hn6
          obtain ⟨y0, y1, yz, b0, b1, b2, b3, b4, t0, t1, tz⟩ := DoAt.facts hd2
          have hgt : w.heap.size + 2 < wa2.heap.size := (hd2).r.lt
          clear hU hs6 hn6
          go_wp2_with fail
          exact bodyPost_ret (v := .tuple #[.agg #[(.slice As2 ns2 cs2), .slice A2 n2 c2], .int .i64 0, .int .i64 0]) (by simp [results, Try.results28, go_sem, t0, t1]) rfl (HR.out _ _ 0 HN6.out (by rw [HSM.out]; rfl) (by rw [← HDK.out]; exact HS6.out))
      · have qL := (DoAt.facts (DoAt.new hDW ((New.refl W).alloc (.cells #[] 66)))).1
        go_simp
        refine hK.out _ _ ?_ (fun hHeld => ?_)
        · exact hn0
        clear hK K
        try simp only [Act.put, List.setIfInBounds_toArray, List.set_cons_zero, List.set_cons_succ]
        refine wpAnyH_take (i := 10) (oi := { dst := some 71, op := Op.slice 63 (Operand.tmp 68) (some (Operand.tmp 70)) none none, type := 63, pos := "ref.go:69", after := #[{ on := 7, ground := Ground.data }, { on := 9, ground := Ground.data }], guard := none }) (v := (.slice (some ⟨b, off, none⟩) 0 0)) rfl (by kernel_rfl) (by kernel_rfl) (by kernel_rfl) (fun _ _ _ h => h) (Or.inl ⟨by rfl, ?_⟩) (by assumption) ?_
        · (intro wq hSw; (try dsimp only at hSw); go_simp; (try rw [HLN.out.1]); (try rw [HLN.out.2.1]); (try rw [HLN.out.2.2]); first | done | exact ⟨rfl, rfl, rfl⟩ | with_reducible rfl)
        try simp only [Act.put, List.setIfInBounds_toArray, List.set_cons_zero, List.set_cons_succ]
        refine wpAnyH_ready (rs := [2]) (by kernel_rfl) (by simp) ?_
        refine AllReadyH.cons (o := { dst := some 63, op := Op.load 63 (Operand.tmp 62), type := 63, pos := "ref.go:69", after := #[{ on := 1, ground := Ground.data }], guard := none }) rfl (fun K hK => ?_) AllReadyH.nil
        have qL := (DoAt.facts (DoAt.new hDW ((New.refl W).alloc (.cells #[] 66)))).1
        go_simp
        refine hK.out _ _ ?_ (fun hHeld => ?_)
        · exact hn0
        clear hK K
        try simp only [Act.put, List.setIfInBounds_toArray, List.set_cons_zero, List.set_cons_succ]
        refine wpAnyH_take (i := 4) (oi := { dst := some 65, op := Op.slice 63 (Operand.tmp 63) none (some (Operand.tmp 64)) none, type := 63, pos := "ref.go:69", after := #[{ on := 2, ground := Ground.data }, { on := 3, ground := Ground.data }], guard := none }) (v := (.slice (some ⟨b, off, none⟩) k (k + 1))) rfl (by kernel_rfl) (by kernel_rfl) (by kernel_rfl) (fun _ _ _ h => h) (Or.inl ⟨by rfl, ?_⟩) (by assumption) ?_
        · (intro wq hSw; (try dsimp only at hSw); go_simp; first | done | with_reducible rfl)
        try simp only [Act.put, List.setIfInBounds_toArray, List.set_cons_zero, List.set_cons_succ]
        refine wpAnyH_ready (rs := [5]) (by kernel_rfl) (by simp) ?_
        refine AllReadyH.cons (o := { dst := some 66, op := Op.call { callee := Callee.builtin Builtin.append, args := #[Operand.tmp 61, Operand.tmp 65], argTypes := #[63, 63] }, type := 63, pos := "ref.go:69", after := #[{ on := 0, ground := Ground.data }, { on := 4, ground := Ground.data }], guard := none }) rfl (fun K hK => ?_) AllReadyH.nil
        refine step_app pnTy pnOk rfl (.tmp 61) (.tmp 65) rfl rfl rfl ho0 ((HST.out).new (hw0)) HM1.out.1 HM1.out.2 (DoAt.size hd0) ?_
        intro va1 wa1 ho1 hg1 _
        obtain ⟨As1, ns1, cs1, hvs1⟩ := slShape (Owns.slIn pnOk ho1)
        subst hvs1
        have hn1 := New.grown (hn0) hg1 (fun k hk => by have := Owns.blockGe ho0 k hk; omega)
        have hd1 := DoAt.upd hd0 (Upd.grown (S := fun k => w.heap.size + 3 ≤ k) (Upd.refl _ _) hg1 (fun k _ hk => Owns.blockGe ho0 k hk)) (fun k hk => hk)
        have hw1 := New.grown (hw0) hg1 (fun k hk => by have := Owns.blockGe ho0 k hk; have := HWS.out; omega)
        refine hK.out _ _ ?_ (fun hHeld => ?_)
        · exact hn1
        clear hK K
        try simp only [Act.put, List.setIfInBounds_toArray, List.set_cons_zero, List.set_cons_succ]
        refine wpAnyH_ready (rs := [11]) (by kernel_rfl) (by simp) ?_
        refine AllReadyH.cons (o := { dst := some 72, op := Op.call { callee := Callee.builtin Builtin.append, args := #[Operand.tmp 66, Operand.tmp 71], argTypes := #[63, 63] }, type := 63, pos := "ref.go:69", after := #[{ on := 5, ground := Ground.data }, { on := 10, ground := Ground.data }, { on := 5, ground := Ground.chain }], guard := none }) rfl (fun K hK => ?_) AllReadyH.nil
        refine step_app pnTy pnOk rfl (.tmp 66) (.tmp 71) rfl rfl rfl ho1 ((HSA.out).new (hw1)) HM2.out.1 HM2.out.2 (DoAt.size hd1) ?_
        intro va2 wa2 ho2 hg2 _
        obtain ⟨As2, ns2, cs2, hvs2⟩ := slShape (Owns.slIn pnOk ho2)
        subst hvs2
        have hn2 := New.grown (hn1) hg2 (fun k hk => by have := Owns.blockGe ho1 k hk; omega)
        have hd2 := DoAt.upd hd1 (Upd.grown (S := fun k => w.heap.size + 3 ≤ k) (Upd.refl _ _) hg2 (fun k _ hk => Owns.blockGe ho1 k hk)) (fun k hk => hk)
        have hw2 := New.grown (hw1) hg2 (fun k hk => by have := Owns.blockGe ho1 k hk; have := HWS.out; omega)
        refine hK.out _ _ ?_ (fun hHeld => ?_)
        · exact hn2
        clear hK K
        try simp only [Act.put, List.setIfInBounds_toArray, List.set_cons_zero, List.set_cons_succ]
        refine wpAnyH_take (i := 12) (oi := { dst := some 73, op := Op.fieldAddr 70 (Operand.tmp 2) 0, type := 0, pos := "ref.go:69", after := #[{ on := 0, ground := Ground.phase }, { on := 1, ground := Ground.phase }, { on := 2, ground := Ground.phase }, { on := 3, ground := Ground.phase }, { on := 4, ground := Ground.phase }, { on := 5, ground := Ground.phase }, { on := 6, ground := Ground.phase }, { on := 7, ground := Ground.phase }, { on := 8, ground := Ground.phase }, { on := 9, ground := Ground.phase }, { on := 10, ground := Ground.phase }, { on := 11, ground := Ground.phase }], guard := none }) (v := ?_) rfl (by kernel_rfl) (by kernel_rfl) (by kernel_rfl) (fun _ _ _ h => h) (Or.inl ⟨by rfl, ?_⟩) (by assumption) ?_
        rotate_left
        · (intro wq hSw; (try dsimp only at hSw); go_simp; first | done | with_reducible rfl)
        try simp only [Act.put, List.setIfInBounds_toArray, List.set_cons_zero, List.set_cons_succ]
        refine wpAnyH_ready (rs := [13]) (by kernel_rfl) (by simp) ?_
        refine AllReadyH.cons (o := { dst := none, op := Op.store 63 (Operand.tmp 73) (Operand.tmp 72), type := 0, pos := "ref.go:69", after := #[{ on := 12, ground := Ground.data }, { on := 11, ground := Ground.data }, { on := 11, ground := Ground.chain }, { on := 0, ground := Ground.phase }, { on := 1, ground := Ground.phase }, { on := 2, ground := Ground.phase }, { on := 3, ground := Ground.phase }, { on := 4, ground := Ground.phase }, { on := 5, ground := Ground.phase }, { on := 6, ground := Ground.phase }, { on := 7, ground := Ground.phase }, { on := 8, ground := Ground.phase }, { on := 9, ground := Ground.phase }, { on := 10, ground := Ground.phase }, { on := 11, ground := Ground.phase }], guard := none }) rfl (fun K hK => ?_) AllReadyH.nil
        have qz := (DoAt.facts hd2).2.2.1
        have qs : w.heap.size < wa2.heap.size := (hd2).p.lt
        have qc := (DoAt.facts hd2).1
        go_simp
        refine hK.out _ _ ?_ (fun hHeld => ?_)
        · exact New.setCell (hn2) (p := ⟨w.heap.size, 0, none⟩) (Nat.le_refl _) _
        clear hK K
        try simp only [Act.put, List.setIfInBounds_toArray, List.set_cons_zero, List.set_cons_succ]
        refine wpAnyH_done (by kernel_rfl) ?_ _
        clear hHeld
        have hU := doUpd w wa2 (.slice As2 ns2 cs2) (.slice As2 ns2 cs2) (.slice A2 n2 c2)
        have hs6 := (Owns.slIn pnOk ho2).upd hU (fun k hk h => by have := (Owns.lt ho2 k hk).1; omega)
        have hn6 := (hd2).n.upd hU (fun k h => by omega)
        have HS6 := Lib.hid hs6
        have HN6 := Lib.hid hn6
        obtain ⟨y0, y1, yz, b0, b1, b2, b3, b4, t0, t1, tz⟩ := DoAt.facts hd2
        have hgt : w.heap.size + 2 < wa2.heap.size := (hd2).r.lt
        clear hU hs6 hn6
        go_wp2_with fail
        exact bodyPost_ret (v := .tuple #[.agg #[(.slice As2 ns2 cs2), .slice A2 n2 c2], .int .i64 0, .int .i64 0]) (by simp [results, Try.results28, go_sem, t0, t1]) rfl (HR.out _ _ 0 HN6.out (by rw [HSM.out]; rfl) (by rw [← HDK.out]; exact HS6.out))
    · have qL := (DoAt.facts (DoAt.new hDW (New.refl W).drew)).1
      go_simp
      refine hK.out _ _ ?_ (fun hHeld => ?_)
      · exact hDW.n.drew
      clear hK K
      try simp only [Act.put, List.setIfInBounds_toArray, List.set_cons_zero, List.set_cons_succ]
      refine wpAnyH_take (i := 4) (oi := { dst := some 65, op := Op.slice 63 (Operand.tmp 63) none (some (Operand.tmp 64)) none, type := 63, pos := "ref.go:69", after := #[{ on := 2, ground := Ground.data }, { on := 3, ground := Ground.data }], guard := none }) (v := (.slice (some ⟨b, off, none⟩) k (k + 1))) rfl (by kernel_rfl) (by kernel_rfl) (by kernel_rfl) (fun _ _ _ h => h) (Or.inl ⟨by rfl, ?_⟩) (by assumption) ?_
      · (intro wq hSw; (try dsimp only at hSw); go_simp; first | done | with_reducible rfl)
      try simp only [Act.put, List.setIfInBounds_toArray, List.set_cons_zero, List.set_cons_succ]
      refine wpAnyH_ready (rs := [0, 7]) (by kernel_rfl) (by simp) ?_
      refine AllReadyH.cons (o := { dst := some 61, op := Op.buildSlice 63 0 #[], type := 63, pos := "ref.go:69", after := #[], guard := none }) rfl (fun K hK => ?_) (AllReadyH.cons (o := { dst := some 68, op := Op.load 63 (Operand.tmp 67), type := 63, pos := "ref.go:69", after := #[{ on := 6, ground := Ground.data }], guard := none }) rfl (fun K hK => ?_) AllReadyH.nil)
      · go_simp
        have hn0 := New.alloc (hDW.n.drew) (.cells #[] 66)
        have ho0 : Owns (W.drew.alloc (.cells #[] 66)) (w.heap.size + 3) 66 2 pnC (.slice (some ⟨W.drew.heap.size, 0, none⟩) 0 0) ([] : List Pnm) := (owns_made W.drew 66 pnC 2).lower (DoAt.size (DoAt.new hDW (New.refl W).drew))
        have hd0 := DoAt.new (DoAt.new hDW (New.refl W).drew) ((New.refl _).alloc (.cells #[] 66))
        have hw0 := New.alloc ((New.refl W).drew) (.cells #[] 66)
        refine hK.out _ _ ?_ (fun hHeld => ?_)
        · exact hn0
        clear hK K
        try simp only [Act.put, List.setIfInBounds_toArray, List.set_cons_zero, List.set_cons_succ]
        refine wpAnyH_ready (rs := [5, 7]) (by kernel_rfl) (by simp) ?_
        refine AllReadyH.cons (o := { dst := some 66, op := Op.call { callee := Callee.builtin Builtin.append, args := #[Operand.tmp 61, Operand.tmp 65], argTypes := #[63, 63] }, type := 63, pos := "ref.go:69", after := #[{ on := 0, ground := Ground.data }, { on := 4, ground := Ground.data }], guard := none }) rfl (fun K hK => ?_) (AllReadyH.cons (o := { dst := some 68, op := Op.load 63 (Operand.tmp 67), type := 63, pos := "ref.go:69", after := #[{ on := 6, ground := Ground.data }], guard := none }) rfl (fun K hK => ?_) AllReadyH.nil)
        · refine step_app pnTy pnOk rfl (.tmp 61) (.tmp 65) rfl rfl rfl ho0 ((HST.out).new (hw0)) HM1.out.1 HM1.out.2 (DoAt.size hd0) ?_
          intro va1 wa1 ho1 hg1 _
          obtain ⟨As1, ns1, cs1, hvs1⟩ := slShape (Owns.slIn pnOk ho1)
          subst hvs1
          have hn1 := New.grown (hn0) hg1 (fun k hk => by have := Owns.blockGe ho0 k hk; omega)
          have hd1 := DoAt.upd hd0 (Upd.grown (S := fun k => w.heap.size + 3 ≤ k) (Upd.refl _ _) hg1 (fun k _ hk => Owns.blockGe ho0 k hk)) (fun k hk => hk)
          have hw1 := New.grown (hw0) hg1 (fun k hk => by have := Owns.blockGe ho0 k hk; have := HWS.out; omega)
          refine hK.out _ _ ?_ (fun hHeld => ?_)
          · exact hn1
          clear hK K
          try simp only [Act.put, List.setIfInBounds_toArray, List.set_cons_zero, List.set_cons_succ]
          refine wpAnyH_ready (rs := [7]) (by kernel_rfl) (by simp) ?_
          refine AllReadyH.cons (o := { dst := some 68, op := Op.load 63 (Operand.tmp 67), type := 63, pos := "ref.go:69", after := #[{ on := 6, ground := Ground.data }], guard := none }) rfl (fun K hK => ?_) AllReadyH.nil
          have qL := (DoAt.facts hd1).1
          go_simp
          refine hK.out _ _ ?_ (fun hHeld => ?_)
          · exact hn1
          clear hK K
          try simp only [Act.put, List.setIfInBounds_toArray, List.set_cons_zero, List.set_cons_succ]
          refine wpAnyH_take (i := 10) (oi := { dst := some 71, op := Op.slice 63 (Operand.tmp 68) (some (Operand.tmp 70)) none none, type := 63, pos := "ref.go:69", after := #[{ on := 7, ground := Ground.data }, { on := 9, ground := Ground.data }], guard := none }) (v := (.slice (some ⟨b, off, none⟩) 0 0)) rfl (by kernel_rfl) (by kernel_rfl) (by kernel_rfl) (fun _ _ _ h => h) (Or.inl ⟨by rfl, ?_⟩) (by assumption) ?_
          · (intro wq hSw; (try dsimp only at hSw); go_simp; (try rw [HLN.out.1]); (try rw [HLN.out.2.1]); (try rw [HLN.out.2.2]); first | done | exact ⟨rfl, rfl, rfl⟩ | with_reducible rfl)
          try simp only [Act.put, List.setIfInBounds_toArray, List.set_cons_zero, List.set_cons_succ]
          refine wpAnyH_ready (rs := [11]) (by kernel_rfl) (by simp) ?_
          refine AllReadyH.cons (o := { dst := some 72, op := Op.call { callee := Callee.builtin Builtin.append, args := #[Operand.tmp 66, Operand.tmp 71], argTypes := #[63, 63] }, type := 63, pos := "ref.go:69", after := #[{ on := 5, ground := Ground.data }, { on := 10, ground := Ground.data }, { on := 5, ground := Ground.chain }], guard := none }) rfl (fun K hK => ?_) AllReadyH.nil
          refine step_app pnTy pnOk rfl (.tmp 66) (.tmp 71) rfl rfl rfl ho1 ((HSA.out).new (hw1)) HM2.out.1 HM2.out.2 (DoAt.size hd1) ?_
          intro va2 wa2 ho2 hg2 _
          obtain ⟨As2, ns2, cs2, hvs2⟩ := slShape (Owns.slIn pnOk ho2)
          subst hvs2
          have hn2 := New.grown (hn1) hg2 (fun k hk => by have := Owns.blockGe ho1 k hk; omega)
          have hd2 := DoAt.upd hd1 (Upd.grown (S := fun k => w.heap.size + 3 ≤ k) (Upd.refl _ _) hg2 (fun k _ hk => Owns.blockGe ho1 k hk)) (fun k hk => hk)
          have hw2 := New.grown (hw1) hg2 (fun k hk => by have := Owns.blockGe ho1 k hk; have := HWS.out; omega)
          refine hK.out _ _ ?_ (fun hHeld => ?_)
          · exact hn2
          clear hK K
          try simp only [Act.put, List.setIfInBounds_toArray, List.set_cons_zero, List.set_cons_succ]
          refine wpAnyH_take (i := 12) (oi := { dst := some 73, op := Op.fieldAddr 70 (Operand.tmp 2) 0, type := 0, pos := "ref.go:69", after := #[{ on := 0, ground := Ground.phase }, { on := 1, ground := Ground.phase }, { on := 2, ground := Ground.phase }, { on := 3, ground := Ground.phase }, { on := 4, ground := Ground.phase }, { on := 5, ground := Ground.phase }, { on := 6, ground := Ground.phase }, { on := 7, ground := Ground.phase }, { on := 8, ground := Ground.phase }, { on := 9, ground := Ground.phase }, { on := 10, ground := Ground.phase }, { on := 11, ground := Ground.phase }], guard := none }) (v := ?_) rfl (by kernel_rfl) (by kernel_rfl) (by kernel_rfl) (fun _ _ _ h => h) (Or.inl ⟨by rfl, ?_⟩) (by assumption) ?_
          rotate_left
          · (intro wq hSw; (try dsimp only at hSw); go_simp; first | done | with_reducible rfl)
          try simp only [Act.put, List.setIfInBounds_toArray, List.set_cons_zero, List.set_cons_succ]
          refine wpAnyH_ready (rs := [13]) (by kernel_rfl) (by simp) ?_
          refine AllReadyH.cons (o := { dst := none, op := Op.store 63 (Operand.tmp 73) (Operand.tmp 72), type := 0, pos := "ref.go:69", after := #[{ on := 12, ground := Ground.data }, { on := 11, ground := Ground.data }, { on := 11, ground := Ground.chain }, { on := 0, ground := Ground.phase }, { on := 1, ground := Ground.phase }, { on := 2, ground := Ground.phase }, { on := 3, ground := Ground.phase }, { on := 4, ground := Ground.phase }, { on := 5, ground := Ground.phase }, { on := 6, ground := Ground.phase }, { on := 7, ground := Ground.phase }, { on := 8, ground := Ground.phase }, { on := 9, ground := Ground.phase }, { on := 10, ground := Ground.phase }, { on := 11, ground := Ground.phase }], guard := none }) rfl (fun K hK => ?_) AllReadyH.nil
          have qz := (DoAt.facts hd2).2.2.1
          have qs : w.heap.size < wa2.heap.size := (hd2).p.lt
          have qc := (DoAt.facts hd2).1
          go_simp
          refine hK.out _ _ ?_ (fun hHeld => ?_)
          · exact New.setCell (hn2) (p := ⟨w.heap.size, 0, none⟩) (Nat.le_refl _) _
          clear hK K
          try simp only [Act.put, List.setIfInBounds_toArray, List.set_cons_zero, List.set_cons_succ]
          refine wpAnyH_done (by kernel_rfl) ?_ _
          clear hHeld
          have hU := doUpd w wa2 (.slice As2 ns2 cs2) (.slice As2 ns2 cs2) (.slice A2 n2 c2)
          have hs6 := (Owns.slIn pnOk ho2).upd hU (fun k hk h => by have := (Owns.lt ho2 k hk).1; omega)
          have hn6 := (hd2).n.upd hU (fun k h => by omega)
          have HS6 := Lib.hid hs6
          have HN6 := Lib.hid hn6
          obtain ⟨y0, y1, yz, b0, b1, b2, b3, b4, t0, t1, tz⟩ := DoAt.facts hd2
          have hgt : w.heap.size + 2 < wa2.heap.size := (hd2).r.lt
          clear hU hs6 hn6
          go_wp2_with fail
          exact bodyPost_ret (v := .tuple #[.agg #[(.slice As2 ns2 cs2), .slice A2 n2 c2], .int .i64 0, .int .i64 0]) (by simp [results, Try.results28, go_sem, t0, t1]) rfl (HR.out _ _ 0 HN6.out (by rw [HSM.out]; rfl) (by rw [← HDK.out]; exact HS6.out))
        · have qL := (DoAt.facts (DoAt.new hDW ((New.refl W).alloc (.cells #[] 66)))).1
          go_simp
          refine hK.out _ _ ?_ (fun hHeld => ?_)
          · exact hn0
          clear hK K
          try simp only [Act.put, List.setIfInBounds_toArray, List.set_cons_zero, List.set_cons_succ]
          refine wpAnyH_take (i := 10) (oi := { dst := some 71, op := Op.slice 63 (Operand.tmp 68) (some (Operand.tmp 70)) none none, type := 63, pos := "ref.go:69", after := #[{ on := 7, ground := Ground.data }, { on := 9, ground := Ground.data }], guard := none }) (v := (.slice (some ⟨b, off, none⟩) 0 0)) rfl (by kernel_rfl) (by kernel_rfl) (by kernel_rfl) (fun _ _ _ h => h) (Or.inl ⟨by rfl, ?_⟩) (by assumption) ?_
          · (intro wq hSw; (try dsimp only at hSw); go_simp; (try rw [HLN.out.1]); (try rw [HLN.out.2.1]); (try rw [HLN.out.2.2]); first | done | exact ⟨rfl, rfl, rfl⟩ | with_reducible rfl)
          try simp only [Act.put, List.setIfInBounds_toArray, List.set_cons_zero, List.set_cons_succ]
          refine wpAnyH_ready (rs := [5]) (by kernel_rfl) (by simp) ?_
          refine AllReadyH.cons (o := { dst := some 66, op := Op.call { callee := Callee.builtin Builtin.append, args := #[Operand.tmp 61, Operand.tmp 65], argTypes := #[63, 63] }, type := 63, pos := "ref.go:69", after := #[{ on := 0, ground := Ground.data }, { on := 4, ground := Ground.data }], guard := none }) rfl (fun K hK => ?_) AllReadyH.nil
          refine step_app pnTy pnOk rfl (.tmp 61) (.tmp 65) rfl rfl rfl ho0 ((HST.out).new (hw0)) HM1.out.1 HM1.out.2 (DoAt.size hd0) ?_
          intro va1 wa1 ho1 hg1 _
          obtain ⟨As1, ns1, cs1, hvs1⟩ := slShape (Owns.slIn pnOk ho1)
          subst hvs1
          have hn1 := New.grown (hn0) hg1 (fun k hk => by have := Owns.blockGe ho0 k hk; omega)
          have hd1 := DoAt.upd hd0 (Upd.grown (S := fun k => w.heap.size + 3 ≤ k) (Upd.refl _ _) hg1 (fun k _ hk => Owns.blockGe ho0 k hk)) (fun k hk => hk)
          have hw1 := New.grown (hw0) hg1 (fun k hk => by have := Owns.blockGe ho0 k hk; have := HWS.out; omega)
          refine hK.out _ _ ?_ (fun hHeld => ?_)
          · exact hn1
          clear hK K
          try simp only [Act.put, List.setIfInBounds_toArray, List.set_cons_zero, List.set_cons_succ]
          refine wpAnyH_ready (rs := [11]) (by kernel_rfl) (by simp) ?_
          refine AllReadyH.cons (o := { dst := some 72, op := Op.call { callee := Callee.builtin Builtin.append, args := #[Operand.tmp 66, Operand.tmp 71], argTypes := #[63, 63] }, type := 63, pos := "ref.go:69", after := #[{ on := 5, ground := Ground.data }, { on := 10, ground := Ground.data }, { on := 5, ground := Ground.chain }], guard := none }) rfl (fun K hK => ?_) AllReadyH.nil
          refine step_app pnTy pnOk rfl (.tmp 66) (.tmp 71) rfl rfl rfl ho1 ((HSA.out).new (hw1)) HM2.out.1 HM2.out.2 (DoAt.size hd1) ?_
          intro va2 wa2 ho2 hg2 _
          obtain ⟨As2, ns2, cs2, hvs2⟩ := slShape (Owns.slIn pnOk ho2)
          subst hvs2
          have hn2 := New.grown (hn1) hg2 (fun k hk => by have := Owns.blockGe ho1 k hk; omega)
          have hd2 := DoAt.upd hd1 (Upd.grown (S := fun k => w.heap.size + 3 ≤ k) (Upd.refl _ _) hg2 (fun k _ hk => Owns.blockGe ho1 k hk)) (fun k hk => hk)
          have hw2 := New.grown (hw1) hg2 (fun k hk => by have := Owns.blockGe ho1 k hk; have := HWS.out; omega)
          refine hK.out _ _ ?_ (fun hHeld => ?_)
          · exact hn2
          clear hK K
          try simp only [Act.put, List.setIfInBounds_toArray, List.set_cons_zero, List.set_cons_succ]
          refine wpAnyH_take (i := 12) (oi := { dst := some 73, op := Op.fieldAddr 70 (Operand.tmp 2) 0, type := 0, pos := "ref.go:69", after := #[{ on := 0, ground := Ground.phase }, { on := 1, ground := Ground.phase }, { on := 2, ground := Ground.phase }, { on := 3, ground := Ground.phase }, { on := 4, ground := Ground.phase }, { on := 5, ground := Ground.phase }, { on := 6, ground := Ground.phase }, { on := 7, ground := Ground.phase }, { on := 8, ground := Ground.phase }, { on := 9, ground := Ground.phase }, { on := 10, ground := Ground.phase }, { on := 11, ground := Ground.phase }], guard := none }) (v := ?_) rfl (by kernel_rfl) (by kernel_rfl) (by kernel_rfl) (fun _ _ _ h => h) (Or.inl ⟨by rfl, ?_⟩) (by assumption) ?_
          rotate_left
          · (intro wq hSw; (try dsimp only at hSw); go_simp; first | done | with_reducible rfl)
          try simp only [Act.put, List.setIfInBounds_toArray, List.set_cons_zero, List.set_cons_succ]
          refine wpAnyH_ready (rs := [13]) (by kernel_rfl) (by simp) ?_
          refine AllReadyH.cons (o := { dst := none, op := Op.store 63 (Operand.tmp 73) (Operand.tmp 72), type := 0, pos := "ref.go:69", after := #[{ on := 12, ground := Ground.data }, { on := 11, ground := Ground.data }, { on := 11, ground := Ground.chain }, { on := 0, ground := Ground.phase }, { on := 1, ground := Ground.phase }, { on := 2, ground := Ground.phase }, { on := 3, ground := Ground.phase }, { on := 4, ground := Ground.phase }, { on := 5, ground := Ground.phase }, { on := 6, ground := Ground.phase }, { on := 7, ground := Ground.phase }, { on := 8, ground := Ground.phase }, { on := 9, ground := Ground.phase }, { on := 10, ground := Ground.phase }, { on := 11, ground := Ground.phase }], guard := none }) rfl (fun K hK => ?_) AllReadyH.nil
          have qz := (DoAt.facts hd2).2.2.1
          have qs : w.heap.size < wa2.heap.size := (hd2).p.lt
          have qc := (DoAt.facts hd2).1
          go_simp
          refine hK.out _ _ ?_ (fun hHeld => ?_)
          · exact New.setCell (hn2) (p := ⟨w.heap.size, 0, none⟩) (Nat.le_refl _) _
          clear hK K
          try simp only [Act.put, List.setIfInBounds_toArray, List.set_cons_zero, List.set_cons_succ]
          refine wpAnyH_done (by kernel_rfl) ?_ _
          clear hHeld
          have hU := doUpd w wa2 (.slice As2 ns2 cs2) (.slice As2 ns2 cs2) (.slice A2 n2 c2)
          have hs6 := (Owns.slIn pnOk ho2).upd hU (fun k hk h => by have := (Owns.lt ho2 k hk).1; omega)
          have hn6 := (hd2).n.upd hU (fun k h => by omega)
          have HS6 := Lib.hid hs6
          have HN6 := Lib.hid hn6
          obtain ⟨y0, y1, yz, b0, b1, b2, b3, b4, t0, t1, tz⟩ := DoAt.facts hd2
          have hgt : w.heap.size + 2 < wa2.heap.size := (hd2).r.lt
          clear hU hs6 hn6
          go_wp2_with fail
          exact bodyPost_ret (v := .tuple #[.agg #[(.slice As2 ns2 cs2), .slice A2 n2 c2], .int .i64 0, .int .i64 0]) (by simp [results, Try.results28, go_sem, t0, t1]) rfl (HR.out _ _ 0 HN6.out (by rw [HSM.out]; rfl) (by rw [← HDK.out]; exact HS6.out))
      · have qL := (DoAt.facts (DoAt.new hDW (New.refl W).drew)).1
        go_simp
        refine hK.out _ _ ?_ (fun hHeld => ?_)
        · exact hDW.n.drew
        clear hK K
        try simp only [Act.put, List.setIfInBounds_toArray, List.set_cons_zero, List.set_cons_succ]
        refine wpAnyH_take (i := 10) (oi := { dst := some 71, op := Op.slice 63 (Operand.tmp 68) (some (Operand.tmp 70)) none none, type := 63, pos := "ref.go:69", after := #[{ on := 7, ground := Ground.data }, { on := 9, ground := Ground.data }], guard := none }) (v := (.slice (some ⟨b, off, none⟩) 0 0)) rfl (by kernel_rfl) (by kernel_rfl) (by kernel_rfl) (fun _ _ _ h => h) (Or.inl ⟨by rfl, ?_⟩) (by assumption) ?_
        · (intro wq hSw; (try dsimp only at hSw); go_simp; (try rw [HLN.out.1]); (try rw [HLN.out.2.1]); (try rw [HLN.out.2.2]); first | done | exact ⟨rfl, rfl, rfl⟩ | with_reducible rfl)
        try simp only [Act.put, List.setIfInBounds_toArray, List.set_cons_zero, List.set_cons_succ]
        refine wpAnyH_ready (rs := [0]) (by kernel_rfl) (by simp) ?_
        refine AllReadyH.cons (o := { dst := some 61, op := Op.buildSlice 63 0 #[], type := 63, pos := "ref.go:69", after := #[], guard := none }) rfl (fun K hK => ?_) AllReadyH.nil
        go_simp
        have hn0 := New.alloc (hDW.n.drew) (.cells #[] 66)
        have ho0 : Owns (W.drew.alloc (.cells #[] 66)) (w.heap.size + 3) 66 2 pnC (.slice (some ⟨W.drew.heap.size, 0, none⟩) 0 0) ([] : List Pnm) := (owns_made W.drew 66 pnC 2).lower (DoAt.size (DoAt.new hDW (New.refl W).drew))
        have hd0 := DoAt.new (DoAt.new hDW (New.refl W).drew) ((New.refl _).alloc (.cells #[] 66))
        have hw0 := New.alloc ((New.refl W).drew) (.cells #[] 66)
        refine hK.out _ _ ?_ (fun hHeld => ?_)
        · exact hn0
        clear hK K
        try simp only [Act.put, List.setIfInBounds_toArray, List.set_cons_zero, List.set_cons_succ]
        refine wpAnyH_ready (rs := [5]) (by kernel_rfl) (by simp) ?_
        refine AllReadyH.cons (o := { dst := some 66, op := Op.call { callee := Callee.builtin Builtin.append, args := #[Operand.tmp 61, Operand.tmp 65], argTypes := #[63, 63] }, type := 63, pos := "ref.go:69", after := #[{ on := 0, ground := Ground.data }, { on := 4, ground := Ground.data }], guard := none }) rfl (fun K hK => ?_) AllReadyH.nil
        refine step_app pnTy pnOk rfl (.tmp 61) (.tmp 65) rfl rfl rfl ho0 ((HST.out).new (hw0)) HM1.out.1 HM1.out.2 (DoAt.size hd0) ?_
        intro va1 wa1 ho1 hg1 _
        obtain ⟨As1, ns1, cs1, hvs1⟩ := slShape (Owns.slIn pnOk ho1)
        subst hvs1
        have hn1 := New.grown (hn0) hg1 (fun k hk => by have := Owns.blockGe ho0 k hk; omega)
        have hd1 := DoAt.upd hd0 (Upd.grown (S := fun k => w.heap.size + 3 ≤ k) (Upd.refl _ _) hg1 (fun k _ hk => Owns.blockGe ho0 k hk)) (fun k hk => hk)
        have hw1 := New.grown (hw0) hg1 (fun k hk => by have := Owns.blockGe ho0 k hk; have := HWS.out; omega)
        refine hK.out _ _ ?_ (fun hHeld => ?_)
        · exact hn1
        clear hK K
        try simp only [Act.put, List.setIfInBounds_toArray, List.set_cons_zero, List.set_cons_succ]
        refine wpAnyH_ready (rs := [11]) (by kernel_rfl) (by simp) ?_
        refine AllReadyH.cons (o := { dst := some 72, op := Op.call { callee := Callee.builtin Builtin.append, args := #[Operand.tmp 66, Operand.tmp 71], argTypes := #[63, 63] }, type := 63, pos := "ref.go:69", after := #[{ on := 5, ground := Ground.data }, { on := 10, ground := Ground.data }, { on := 5, ground := Ground.chain }], guard := none }) rfl (fun K hK => ?_) AllReadyH.nil
        refine step_app pnTy pnOk rfl (.tmp 66) (.tmp 71) rfl rfl rfl ho1 ((HSA.out).new (hw1)) HM2.out.1 HM2.out.2 (DoAt.size hd1) ?_
        intro va2 wa2 ho2 hg2 _
        obtain ⟨As2, ns2, cs2, hvs2⟩ := slShape (Owns.slIn pnOk ho2)
        subst hvs2
        have hn2 := New.grown (hn1) hg2 (fun k hk => by have := Owns.blockGe ho1 k hk; omega)
        have hd2 := DoAt.upd hd1 (Upd.grown (S := fun k => w.heap.size + 3 ≤ k) (Upd.refl _ _) hg2 (fun k _ hk => Owns.blockGe ho1 k hk)) (fun k hk => hk)
        have hw2 := New.grown (hw1) hg2 (fun k hk => by have := Owns.blockGe ho1 k hk; have := HWS.out; omega)
        refine hK.out _ _ ?_ (fun hHeld => ?_)
        · exact hn2
        clear hK K
        try simp only [Act.put, List.setIfInBounds_toArray, List.set_cons_zero, List.set_cons_succ]
        refine wpAnyH_take (i := 12) (oi := { dst := some 73, op := Op.fieldAddr 70 (Operand.tmp 2) 0, type := 0, pos := "ref.go:69", after := #[{ on := 0, ground := Ground.phase }, { on := 1, ground := Ground.phase }, { on := 2, ground := Ground.phase }, { on := 3, ground := Ground.phase }, { on := 4, ground := Ground.phase }, { on := 5, ground := Ground.phase }, { on := 6, ground := Ground.phase }, { on := 7, ground := Ground.phase }, { on := 8, ground := Ground.phase }, { on := 9, ground := Ground.phase }, { on := 10, ground := Ground.phase }, { on := 11, ground := Ground.phase }], guard := none }) (v := ?_) rfl (by kernel_rfl) (by kernel_rfl) (by kernel_rfl) (fun _ _ _ h => h) (Or.inl ⟨by rfl, ?_⟩) (by assumption) ?_
        rotate_left
        · (intro wq hSw; (try dsimp only at hSw); go_simp; first | done | with_reducible rfl)
        try simp only [Act.put, List.setIfInBounds_toArray, List.set_cons_zero, List.set_cons_succ]
        refine wpAnyH_ready (rs := [13]) (by kernel_rfl) (by simp) ?_
        refine AllReadyH.cons (o := { dst := none, op := Op.store 63 (Operand.tmp 73) (Operand.tmp 72), type := 0, pos := "ref.go:69", after := #[{ on := 12, ground := Ground.data }, { on := 11, ground := Ground.data }, { on := 11, ground := Ground.chain }, { on := 0, ground := Ground.phase }, { on := 1, ground := Ground.phase }, { on := 2, ground := Ground.phase }, { on := 3, ground := Ground.phase }, { on := 4, ground := Ground.phase }, { on := 5, ground := Ground.phase }, { on := 6, ground := Ground.phase }, { on := 7, ground := Ground.phase }, { on := 8, ground := Ground.phase }, { on := 9, ground := Ground.phase }, { on := 10, ground := Ground.phase }, { on := 11, ground := Ground.phase }], guard := none }) rfl (fun K hK => ?_) AllReadyH.nil
        have qz := (DoAt.facts hd2).2.2.1
        have qs : w.heap.size < wa2.heap.size := (hd2).p.lt
        have qc := (DoAt.facts hd2).1
        go_simp
        refine hK.out _ _ ?_ (fun hHeld => ?_)
        · exact New.setCell (hn2) (p := ⟨w.heap.size, 0, none⟩) (Nat.le_refl _) _
        clear hK K
        try simp only [Act.put, List.setIfInBounds_toArray, List.set_cons_zero, List.set_cons_succ]
        refine wpAnyH_done (by kernel_rfl) ?_ _
        clear hHeld
        have hU := doUpd w wa2 (.slice As2 ns2 cs2) (.slice As2 ns2 cs2) (.slice A2 n2 c2)
        have hs6 := (Owns.slIn pnOk ho2).upd hU (fun k hk h => by have := (Owns.lt ho2 k hk).1; omega)
        have hn6 := (hd2).n.upd hU (fun k h => by omega)
        have HS6 := Lib.hid hs6
        have HN6 := Lib.hid hn6
        obtain ⟨y0, y1, yz, b0, b1, b2, b3, b4, t0, t1, tz⟩ := DoAt.facts hd2
        have hgt : w.heap.size + 2 < wa2.heap.size := (hd2).r.lt
        clear hU hs6 hn6
        go_wp2_with fail
        exact bodyPost_ret (v := .tuple #[.agg #[(.slice As2 ns2 cs2), .slice A2 n2 c2], .int .i64 0, .int .i64 0]) (by simp [results, Try.results28, go_sem, t0, t1]) rfl (HR.out _ _ 0 HN6.out (by rw [HSM.out]; rfl) (by rw [← HDK.out]; exact HS6.out))
    · have qL := (DoAt.facts (DoAt.new hDW (New.refl W).drew)).1
      go_simp
      refine hK.out _ _ ?_ (fun hHeld => ?_)
      · exact hDW.n.drew
      clear hK K
      try simp only [Act.put, List.setIfInBounds_toArray, List.set_cons_zero, List.set_cons_succ]
      refine wpAnyH_take (i := 10) (oi := { dst := some 71, op := Op.slice 63 (Operand.tmp 68) (some (Operand.tmp 70)) none none, type := 63, pos := "ref.go:69", after := #[{ on := 7, ground := Ground.data }, { on := 9, ground := Ground.data }], guard := none }) (v := (.slice (some ⟨b, off, none⟩) 0 0)) rfl (by kernel_rfl) (by kernel_rfl) (by kernel_rfl) (fun _ _ _ h => h) (Or.inl ⟨by rfl, ?_⟩) (by assumption) ?_
      · (intro wq hSw; (try dsimp only at hSw); go_simp; (try rw [HLN.out.1]); (try rw [HLN.out.2.1]); (try rw [HLN.out.2.2]); first | done | exact ⟨rfl, rfl, rfl⟩ | with_reducible rfl)
      try simp only [Act.put, List.setIfInBounds_toArray, List.set_cons_zero, List.set_cons_succ]
      refine wpAnyH_ready (rs := [0, 2]) (by kernel_rfl) (by simp) ?_
      refine AllReadyH.cons (o := { dst := some 61, op := Op.buildSlice 63 0 #[], type := 63, pos := "ref.go:69", after := #[], guard := none }) rfl (fun K hK => ?_) (AllReadyH.cons (o := { dst := some 63, op := Op.load 63 (Operand.tmp 62), type := 63, pos := "ref.go:69", after := #[{ on := 1, ground := Ground.data }], guard := none }) rfl (fun K hK => ?_) AllReadyH.nil)
      · go_simp
        have hn0 := New.alloc (hDW.n.drew) (.cells #[] 66)
        have ho0 : Owns (W.drew.alloc (.cells #[] 66)) (w.heap.size + 3) 66 2 pnC (.slice (some ⟨W.drew.heap.size, 0, none⟩) 0 0) ([] : List Pnm) := (owns_made W.drew 66 pnC 2).lower (DoAt.size (DoAt.new hDW (New.refl W).drew))
        have hd0 := DoAt.new (DoAt.new hDW (New.refl W).drew) ((New.refl _).alloc (.cells #[] 66))
        have hw0 := New.alloc ((New.refl W).drew) (.cells #[] 66)
        refine hK.out _ _ ?_ (fun hHeld => ?_)
        · exact hn0
        clear hK K
        try simp only [Act.put, List.setIfInBounds_toArray, List.set_cons_zero, List.set_cons_succ]
        refine wpAnyH_ready (rs := [2]) (by kernel_rfl) (by simp) ?_
        refine AllReadyH.cons (o := { dst := some 63, op := Op.load 63 (Operand.tmp 62), type := 63, pos := "ref.go:69", after := #[{ on := 1, ground := Ground.data }], guard := none }) rfl (fun K hK => ?_) AllReadyH.nil
        have qL := (DoAt.facts (DoAt.new hDW ((New.refl W).alloc (.cells #[] 66)))).1
        go_simp
        refine hK.out _ _ ?_ (fun hHeld => ?_)
        · exact hn0
        clear hK K
        try simp only [Act.put, List.setIfInBounds_toArray, List.set_cons_zero, List.set_cons_succ]
        refine wpAnyH_take (i := 4) (oi := { dst := some 65, op := Op.slice 63 (Operand.tmp 63) none (some (Operand.tmp 64)) none, type := 63, pos := "ref.go:69", after := #[{ on := 2, ground := Ground.data }, { on := 3, ground := Ground.data }], guard := none }) (v := (.slice (some ⟨b, off, none⟩) k (k + 1))) rfl (by kernel_rfl) (by kernel_rfl) (by kernel_rfl) (fun _ _ _ h => h) (Or.inl ⟨by rfl, ?_⟩) (by assumption) ?_
        · (intro wq hSw; (try dsimp only at hSw); go_simp; first | done | with_reducible rfl)
        try simp only [Act.put, List.setIfInBounds_toArray, List.set_cons_zero, List.set_cons_succ]
        refine wpAnyH_ready (rs := [5]) (by kernel_rfl) (by simp) ?_
        refine AllReadyH.cons (o := { dst := some 66, op := Op.call { callee := Callee.builtin Builtin.append, args := #[Operand.tmp 61, Operand.tmp 65], argTypes := #[63, 63] }, type := 63, pos := "ref.go:69", after := #[{ on := 0, ground := Ground.data }, { on := 4, ground := Ground.data }], guard := none }) rfl (fun K hK => ?_) AllReadyH.nil
        refine step_app pnTy pnOk rfl (.tmp 61) (.tmp 65) rfl rfl rfl ho0 ((HST.out).new (hw0)) HM1.out.1 HM1.out.2 (DoAt.size hd0) ?_
        intro va1 wa1 ho1 hg1 _
        obtain ⟨As1, ns1, cs1, hvs1⟩ := slShape (Owns.slIn pnOk ho1)
        subst hvs1
        have hn1 := New.grown (hn0) hg1 (fun k hk => by have := Owns.blockGe ho0 k hk; omega)
        have hd1 := DoAt.upd hd0 (Upd.grown (S := fun k => w.heap.size + 3 ≤ k) (Upd.refl _ _) hg1 (fun k _ hk => Owns.blockGe ho0 k hk)) (fun k hk => hk)
        have hw1 := New.grown (hw0) hg1 (fun k hk => by have := Owns.blockGe ho0 k hk; have := HWS.out; omega)
        refine hK.out _ _ ?_ (fun hHeld => ?_)
        · exact hn1
        clear hK K
        try simp only [Act.put, List.setIfInBounds_toArray, List.set_cons_zero, List.set_cons_succ]
        refine wpAnyH_ready (rs := [11]) (by kernel_rfl) (by simp) ?_
        refine AllReadyH.cons (o := { dst := some 72, op := Op.call { callee := Callee.builtin Builtin.append, args := #[Operand.tmp 66, Operand.tmp 71], argTypes := #[63, 63] }, type := 63, pos := "ref.go:69", after := #[{ on := 5, ground := Ground.data }, { on := 10, ground := Ground.data }, { on := 5, ground := Ground.chain }], guard := none }) rfl (fun K hK => ?_) AllReadyH.nil
        refine step_app pnTy pnOk rfl (.tmp 66) (.tmp 71) rfl rfl rfl ho1 ((HSA.out).new (hw1)) HM2.out.1 HM2.out.2 (DoAt.size hd1) ?_
        intro va2 wa2 ho2 hg2 _
        obtain ⟨As2, ns2, cs2, hvs2⟩ := slShape (Owns.slIn pnOk ho2)
        subst hvs2
        have hn2 := New.grown (hn1) hg2 (fun k hk => by have := Owns.blockGe ho1 k hk; omega)
        have hd2 := DoAt.upd hd1 (Upd.grown (S := fun k => w.heap.size + 3 ≤ k) (Upd.refl _ _) hg2 (fun k _ hk => Owns.blockGe ho1 k hk)) (fun k hk => hk)
        have hw2 := New.grown (hw1) hg2 (fun k hk => by have := Owns.blockGe ho1 k hk; have := HWS.out; omega)
        refine hK.out _ _ ?_ (fun hHeld => ?_)
        · exact hn2
        clear hK K
        try simp only [Act.put, List.setIfInBounds_toArray, List.set_cons_zero, List.set_cons_succ]
        refine wpAnyH_take (i := 12) (oi := { dst := some 73, op := Op.fieldAddr 70 (Operand.tmp 2) 0, type := 0, pos := "ref.go:69", after := #[{ on := 0, ground := Ground.phase }, { on := 1, ground := Ground.phase }, { on := 2, ground := Ground.phase }, { on := 3, ground := Ground.phase }, { on := 4, ground := Ground.phase }, { on := 5, ground := Ground.phase }, { on := 6, ground := Ground.phase }, { on := 7, ground := Ground.phase }, { on := 8, ground := Ground.phase }, { on := 9, ground := Ground.phase }, { on := 10, ground := Ground.phase }, { on := 11, ground := Ground.phase }], guard := none }) (v := ?_) rfl (by kernel_rfl) (by kernel_rfl) (by kernel_rfl) (fun _ _ _ h => h) (Or.inl ⟨by rfl, ?_⟩) (by assumption) ?_
        rotate_left
        · (intro wq hSw; (try dsimp only at hSw); go_simp; first | done | with_reducible rfl)
        try simp only [Act.put, List.setIfInBounds_toArray, List.set_cons_zero, List.set_cons_succ]
        refine wpAnyH_ready (rs := [13]) (by kernel_rfl) (by simp) ?_
        refine AllReadyH.cons (o := { dst := none, op := Op.store 63 (Operand.tmp 73) (Operand.tmp 72), type := 0, pos := "ref.go:69", after := #[{ on := 12, ground := Ground.data }, { on := 11, ground := Ground.data }, { on := 11, ground := Ground.chain }, { on := 0, ground := Ground.phase }, { on := 1, ground := Ground.phase }, { on := 2, ground := Ground.phase }, { on := 3, ground := Ground.phase }, { on := 4, ground := Ground.phase }, { on := 5, ground := Ground.phase }, { on := 6, ground := Ground.phase }, { on := 7, ground := Ground.phase }, { on := 8, ground := Ground.phase }, { on := 9, ground := Ground.phase }, { on := 10, ground := Ground.phase }, { on := 11, ground := Ground.phase }], guard := none }) rfl (fun K hK => ?_) AllReadyH.nil
        have qz := (DoAt.facts hd2).2.2.1
        have qs : w.heap.size < wa2.heap.size := (hd2).p.lt
        have qc := (DoAt.facts hd2).1
        go_simp
        refine hK.out _ _ ?_ (fun hHeld => ?_)
        · exact New.setCell (hn2) (p := ⟨w.heap.size, 0, none⟩) (Nat.le_refl _) _
        clear hK K
        try simp only [Act.put, List.setIfInBounds_toArray, List.set_cons_zero, List.set_cons_succ]
        refine wpAnyH_done (by kernel_rfl) ?_ _
        clear hHeld
        have hU := doUpd w wa2 (.slice As2 ns2 cs2) (.slice As2 ns2 cs2) (.slice A2 n2 c2)
        have hs6 := (Owns.slIn pnOk ho2).upd hU (fun k hk h => by have := (Owns.lt ho2 k hk).1; omega)
        have hn6 := (hd2).n.upd hU (fun k h => by omega)
        have HS6 := Lib.hid hs6
        have HN6 := Lib.hid hn6
        obtain ⟨y0, y1, yz, b0, b1, b2, b3, b4, t0, t1, tz⟩ := DoAt.facts hd2
        have hgt : w.heap.size + 2 < wa2.heap.size := (hd2).r.lt
        clear hU hs6 hn6
        go_wp2_with fail
        exact bodyPost_ret (v := .tuple #[.agg #[(.slice As2 ns2 cs2), .slice A2 n2 c2], .int .i64 0, .int .i64 0]) (by simp [results, Try.results28, go_sem, t0, t1]) rfl (HR.out _ _ 0 HN6.out (by rw [HSM.out]; rfl) (by rw [← HDK.out]; exact HS6.out))
      · have qL := (DoAt.facts (DoAt.new hDW (New.refl W).drew)).1
        go_simp
        refine hK.out _ _ ?_ (fun hHeld => ?_)
        · exact hDW.n.drew
        clear hK K
        try simp only [Act.put, List.setIfInBounds_toArray, List.set_cons_zero, List.set_cons_succ]
        refine wpAnyH_take (i := 4) (oi := { dst := some 65, op := Op.slice 63 (Operand.tmp 63) none (some (Operand.tmp 64)) none, type := 63, pos := "ref.go:69", after := #[{ on := 2, ground := Ground.data }, { on := 3, ground := Ground.data }], guard := none }) (v := (.slice (some ⟨b, off, none⟩) k (k + 1))) rfl (by kernel_rfl) (by kernel_rfl) (by kernel_rfl) (fun _ _ _ h => h) (Or.inl ⟨by rfl, ?_⟩) (by assumption) ?_
        · (intro wq hSw; (try dsimp only at hSw); go_simp; first | done | with_reducible rfl)
        try simp only [Act.put, List.setIfInBounds_toArray, List.set_cons_zero, List.set_cons_succ]
        refine wpAnyH_ready (rs := [0]) (by kernel_rfl) (by simp) ?_
        refine AllReadyH.cons (o := { dst := some 61, op := Op.buildSlice 63 0 #[], type := 63, pos := "ref.go:69", after := #[], guard := none }) rfl (fun K hK => ?_) AllReadyH.nil
        go_simp
        have hn0 := New.alloc (hDW.n.drew) (.cells #[] 66)
        have ho0 : Owns (W.drew.alloc (.cells #[] 66)) (w.heap.size + 3) 66 2 pnC (.slice (some ⟨W.drew.heap.size, 0, none⟩) 0 0) ([] : List Pnm) := (owns_made W.drew 66 pnC 2).lower (DoAt.size (DoAt.new hDW (New.refl W).drew))
        have hd0 := DoAt.new (DoAt.new hDW (New.refl W).drew) ((New.refl _).alloc (.cells #[] 66))
        have hw0 := New.alloc ((New.refl W).drew) (.cells #[] 66)
        refine hK.out _ _ ?_ (fun hHeld => ?_)
        · exact hn0
        clear hK K
        try simp only [Act.put, List.setIfInBounds_toArray, List.set_cons_zero, List.set_cons_succ]
        refine wpAnyH_ready (rs := [5]) (by kernel_rfl) (by simp) ?_
        refine AllReadyH.cons (o := { dst := some 66, op := Op.call { callee := Callee.builtin Builtin.append, args := #[Operand.tmp 61, Operand.tmp 65], argTypes := #[63, 63] }, type := 63, pos := "ref.go:69", after := #[{ on := 0, ground := Ground.data }, { on := 4, ground := Ground.data }], guard := none }) rfl (fun K hK => ?_) AllReadyH.nil
        refine step_app pnTy pnOk rfl (.tmp 61) (.tmp 65) rfl rfl rfl ho0 ((HST.out).new (hw0)) HM1.out.1 HM1.out.2 (DoAt.size hd0) ?_
        intro va1 wa1 ho1 hg1 _
        obtain ⟨As1, ns1, cs1, hvs1⟩ := slShape (Owns.slIn pnOk ho1)
        subst hvs1
        have hn1 := New.grown (hn0) hg1 (fun k hk => by have := Owns.blockGe ho0 k hk; omega)
        have hd1 := DoAt.upd hd0 (Upd.grown (S := fun k => w.heap.size + 3 ≤ k) (Upd.refl _ _) hg1 (fun k _ hk => Owns.blockGe ho0 k hk)) (fun k hk => hk)
        have hw1 := New.grown (hw0) hg1 (fun k hk => by have := Owns.blockGe ho0 k hk; have := HWS.out; omega)
        refine hK.out _ _ ?_ (fun hHeld => ?_)
        · exact hn1
        clear hK K
        try simp only [Act.put, List.setIfInBounds_toArray, List.set_cons_zero, List.set_cons_succ]
        refine wpAnyH_ready (rs := [11]) (by kernel_rfl) (by simp) ?_
        refine AllReadyH.cons (o := { dst := some 72, op := Op.call { callee := Callee.builtin Builtin.append, args := #[Operand.tmp 66, Operand.tmp 71], argTypes := #[63, 63] }, type := 63, pos := "ref.go:69", after := #[{ on := 5, ground := Ground.data }, { on := 10, ground := Ground.data }, { on := 5, ground := Ground.chain }], guard := none }) rfl (fun K hK => ?_) AllReadyH.nil
        refine step_app pnTy pnOk rfl (.tmp 66) (.tmp 71) rfl rfl rfl ho1 ((HSA.out).new (hw1)) HM2.out.1 HM2.out.2 (DoAt.size hd1) ?_
        intro va2 wa2 ho2 hg2 _
        obtain ⟨As2, ns2, cs2, hvs2⟩ := slShape (Owns.slIn pnOk ho2)
        subst hvs2
        have hn2 := New.grown (hn1) hg2 (fun k hk => by have := Owns.blockGe ho1 k hk; omega)
        have hd2 := DoAt.upd hd1 (Upd.grown (S := fun k => w.heap.size + 3 ≤ k) (Upd.refl _ _) hg2 (fun k _ hk => Owns.blockGe ho1 k hk)) (fun k hk => hk)
        have hw2 := New.grown (hw1) hg2 (fun k hk => by have := Owns.blockGe ho1 k hk; have := HWS.out; omega)
        refine hK.out _ _ ?_ (fun hHeld => ?_)
        · exact hn2
        clear hK K
        try simp only [Act.put, List.setIfInBounds_toArray, List.set_cons_zero, List.set_cons_succ]
        refine wpAnyH_take (i := 12) (oi := { dst := some 73, op := Op.fieldAddr 70 (Operand.tmp 2) 0, type := 0, pos := "ref.go:69", after := #[{ on := 0, ground := Ground.phase }, { on := 1, ground := Ground.phase }, { on := 2, ground := Ground.phase }, { on := 3, ground := Ground.phase }, { on := 4, ground := Ground.phase }, { on := 5, ground := Ground.phase }, { on := 6, ground := Ground.phase }, { on := 7, ground := Ground.phase }, { on := 8, ground := Ground.phase }, { on := 9, ground := Ground.phase }, { on := 10, ground := Ground.phase }, { on := 11, ground := Ground.phase }], guard := none }) (v := ?_) rfl (by kernel_rfl) (by kernel_rfl) (by kernel_rfl) (fun _ _ _ h => h) (Or.inl ⟨by rfl, ?_⟩) (by assumption) ?_
        rotate_left
        · (intro wq hSw; (try dsimp only at hSw); go_simp; first | done | with_reducible rfl)
        try simp only [Act.put, List.setIfInBounds_toArray, List.set_cons_zero, List.set_cons_succ]
        refine wpAnyH_ready (rs := [13]) (by kernel_rfl) (by simp) ?_
        refine AllReadyH.cons (o := { dst := none, op := Op.store 63 (Operand.tmp 73) (Operand.tmp 72), type := 0, pos := "ref.go:69", after := #[{ on := 12, ground := Ground.data }, { on := 11, ground := Ground.data }, { on := 11, ground := Ground.chain }, { on := 0, ground := Ground.phase }, { on := 1, ground := Ground.phase }, { on := 2, ground := Ground.phase }, { on := 3, ground := Ground.phase }, { on := 4, ground := Ground.phase }, { on := 5, ground := Ground.phase }, { on := 6, ground := Ground.phase }, { on := 7, ground := Ground.phase }, { on := 8, ground := Ground.phase }, { on := 9, ground := Ground.phase }, { on := 10, ground := Ground.phase }, { on := 11, ground := Ground.phase }], guard := none }) rfl (fun K hK => ?_) AllReadyH.nil
        have qz := (DoAt.facts hd2).2.2.1
        have qs : w.heap.size < wa2.heap.size := (hd2).p.lt
        have qc := (DoAt.facts hd2).1
        go_simp
        refine hK.out _ _ ?_ (fun hHeld => ?_)
        · exact New.setCell (hn2) (p := ⟨w.heap.size, 0, none⟩) (Nat.le_refl _) _
        clear hK K
        try simp only [Act.put, List.setIfInBounds_toArray, List.set_cons_zero, List.set_cons_succ]
        refine wpAnyH_done (by kernel_rfl) ?_ _
        clear hHeld
        have hU := doUpd w wa2 (.slice As2 ns2 cs2) (.slice As2 ns2 cs2) (.slice A2 n2 c2)
        have hs6 := (Owns.slIn pnOk ho2).upd hU (fun k hk h => by have := (Owns.lt ho2 k hk).1; omega)
        have hn6 := (hd2).n.upd hU (fun k h => by omega)
        have HS6 := Lib.hid hs6
        have HN6 := Lib.hid hn6
        obtain ⟨y0, y1, yz, b0, b1, b2, b3, b4, t0, t1, tz⟩ := DoAt.facts hd2
        have hgt : w.heap.size + 2 < wa2.heap.size := (hd2).r.lt
        clear hU hs6 hn6
        go_wp2_with fail
        exact bodyPost_ret (v := .tuple #[.agg #[(.slice As2 ns2 cs2), .slice A2 n2 c2], .int .i64 0, .int .i64 0]) (by simp [results, Try.results28, go_sem, t0, t1]) rfl (HR.out _ _ 0 HN6.out (by rw [HSM.out]; rfl) (by rw [← HDK.out]; exact HS6.out))
  · have hkc : (k : Int) ≤ (c1 : Int) := by omega
    have HSB := Lib.hid (show SlIn W 2 pnC (.slice (some ⟨b, of2, none⟩) ln lc) (E.drop (k + 1)) by rw [← HLN.out.1, ← HLN.out.2.1, ← HLN.out.2.2]; exact SlIn.drop_at HS1W.out (by omega) hcap)
    refine wp_region_held_drew (S := fun w' => New w w') (by kernel_rfl) (hDW.n.drew) (fun hHeld => ?_)
    refine wpAnyH_take (i := 1) (oi := { dst := some 62, op := Op.fieldAddr 70 (Operand.tmp 2) 0, type := 0, pos := "ref.go:69", after := #[], guard := none }) (v := ?_) rfl (by kernel_rfl) (by kernel_rfl) (by kernel_rfl) (fun _ _ _ h => h) (Or.inl ⟨by rfl, ?_⟩) (by assumption) ?_
    rotate_left
    · (intro wq hSw; (try dsimp only at hSw); go_simp; first | done | with_reducible rfl)
    try simp only [Act.put, List.setIfInBounds_toArray, List.set_cons_zero, List.set_cons_succ]
    refine wpAnyH_take (i := 3) (oi := { dst := some 64, op := Op.move (Operand.tmp 7), type := 3, pos := "ref.go:69", after := #[], guard := none }) (v := ?_) rfl (by kernel_rfl) (by kernel_rfl) (by kernel_rfl) (fun _ _ _ h => h) (Or.inl ⟨by rfl, ?_⟩) (by assumption) ?_
    rotate_left
    · (intro wq hSw; (try dsimp only at hSw); go_simp; first | done | with_reducible rfl)
    try simp only [Act.put, List.setIfInBounds_toArray, List.set_cons_zero, List.set_cons_succ]
    refine wpAnyH_take (i := 6) (oi := { dst := some 67, op := Op.fieldAddr 70 (Operand.tmp 2) 0, type := 0, pos := "ref.go:69", after := #[], guard := none }) (v := ?_) rfl (by kernel_rfl) (by kernel_rfl) (by kernel_rfl) (fun _ _ _ h => h) (Or.inl ⟨by rfl, ?_⟩) (by assumption) ?_
    rotate_left
    · (intro wq hSw; (try dsimp only at hSw); go_simp; first | done | with_reducible rfl)
    try simp only [Act.put, List.setIfInBounds_toArray, List.set_cons_zero, List.set_cons_succ]
    refine wpAnyH_take (i := 8) (oi := { dst := some 69, op := Op.move (Operand.tmp 7), type := 3, pos := "ref.go:69", after := #[], guard := none }) (v := ?_) rfl (by kernel_rfl) (by kernel_rfl) (by kernel_rfl) (fun _ _ _ h => h) (Or.inl ⟨by rfl, ?_⟩) (by assumption) ?_
    rotate_left
    · (intro wq hSw; (try dsimp only at hSw); go_simp; first | done | with_reducible rfl)
    try simp only [Act.put, List.setIfInBounds_toArray, List.set_cons_zero, List.set_cons_succ]
    refine wpAnyH_take (i := 9) (oi := { dst := some 70, op := Op.binOp BinOp.add 3 (Operand.tmp 69) (Operand.const (Value.int IntKind.i64 1)) 3, type := 3, pos := "ref.go:69", after := #[{ on := 8, ground := Ground.data }], guard := none }) (v := (.int .i64 ((k : Int) + 1))) rfl (by kernel_rfl) (by kernel_rfl) (by kernel_rfl) (fun _ _ _ h => h) (Or.inl ⟨by rfl, ?_⟩) (by assumption) ?_
    · (intro wq hSw; (try dsimp only at hSw); go_simp; first | done | with_reducible rfl)
    try simp only [Act.put, List.setIfInBounds_toArray, List.set_cons_zero, List.set_cons_succ]
    refine wpAnyH_ready (rs := [0, 2, 7]) (by kernel_rfl) (by simp) ?_
    refine AllReadyH.cons (o := { dst := some 61, op := Op.buildSlice 63 0 #[], type := 63, pos := "ref.go:69", after := #[], guard := none }) rfl (fun K hK => ?_) (AllReadyH.cons (o := { dst := some 63, op := Op.load 63 (Operand.tmp 62), type := 63, pos := "ref.go:69", after := #[{ on := 1, ground := Ground.data }], guard := none }) rfl (fun K hK => ?_) (AllReadyH.cons (o := { dst := some 68, op := Op.load 63 (Operand.tmp 67), type := 63, pos := "ref.go:69", after := #[{ on := 6, ground := Ground.data }], guard := none }) rfl (fun K hK => ?_) AllReadyH.nil))
    · go_simp
      have hn0 := New.alloc (hDW.n.drew) (.cells #[] 66)
      have ho0 : Owns (W.drew.alloc (.cells #[] 66)) (w.heap.size + 3) 66 2 pnC (.slice (some ⟨W.drew.heap.size, 0, none⟩) 0 0) ([] : List Pnm) := (owns_made W.drew 66 pnC 2).lower (DoAt.size (DoAt.new hDW (New.refl W).drew))
      have hd0 := DoAt.new (DoAt.new hDW (New.refl W).drew) ((New.refl _).alloc (.cells #[] 66))
      have hw0 := New.alloc ((New.refl W).drew) (.cells #[] 66)
      refine hK.out _ _ ?_ (fun hHeld => ?_)
      · exact hn0
      clear hK K
      try simp only [Act.put, List.setIfInBounds_toArray, List.set_cons_zero, List.set_cons_succ]
      refine wpAnyH_ready (rs := [2, 7]) (by kernel_rfl) (by simp) ?_
      refine AllReadyH.cons (o := { dst := some 63, op := Op.load 63 (Operand.tmp 62), type := 63, pos := "ref.go:69", after := #[{ on := 1, ground := Ground.data }], guard := none }) rfl (fun K hK => ?_) (AllReadyH.cons (o := { dst := some 68, op := Op.load 63 (Operand.tmp 67), type := 63, pos := "ref.go:69", after := #[{ on := 6, ground := Ground.data }], guard := none }) rfl (fun K hK => ?_) AllReadyH.nil)
      · have qL := (DoAt.facts (DoAt.new hDW ((New.refl W).alloc (.cells #[] 66)))).1
        go_simp
        refine hK.out _ _ ?_ (fun hHeld => ?_)
        · exact hn0
        clear hK K
        try simp only [Act.put, List.setIfInBounds_toArray, List.set_cons_zero, List.set_cons_succ]
        refine wpAnyH_take (i := 4) (oi := { dst := some 65, op := Op.slice 63 (Operand.tmp 63) none (some (Operand.tmp 64)) none, type := 63, pos := "ref.go:69", after := #[{ on := 2, ground := Ground.data }, { on := 3, ground := Ground.data }], guard := none }) (v := (.slice (some ⟨b, off, none⟩) k c1)) rfl (by kernel_rfl) (by kernel_rfl) (by kernel_rfl) (fun _ _ _ h => h) (Or.inl ⟨by rfl, ?_⟩) (by assumption) ?_
        · (intro wq hSw; (try dsimp only at hSw); go_simp; first | done | with_reducible rfl)
        try simp only [Act.put, List.setIfInBounds_toArray, List.set_cons_zero, List.set_cons_succ]
        refine wpAnyH_ready (rs := [5, 7]) (by kernel_rfl) (by simp) ?_
        refine AllReadyH.cons (o := { dst := some 66, op := Op.call { callee := Callee.builtin Builtin.append, args := #[Operand.tmp 61, Operand.tmp 65], argTypes := #[63, 63] }, type := 63, pos := "ref.go:69", after := #[{ on := 0, ground := Ground.data }, { on := 4, ground := Ground.data }], guard := none }) rfl (fun K hK => ?_) (AllReadyH.cons (o := { dst := some 68, op := Op.load 63 (Operand.tmp 67), type := 63, pos := "ref.go:69", after := #[{ on := 6, ground := Ground.data }], guard := none }) rfl (fun K hK => ?_) AllReadyH.nil)
        · refine step_app pnTy pnOk rfl (.tmp 61) (.tmp 65) rfl rfl rfl ho0 ((HST.out).new (hw0)) HM1.out.1 HM1.out.2 (DoAt.size hd0) ?_
          intro va1 wa1 ho1 hg1 _
          obtain ⟨As1, ns1, cs1, hvs1⟩ := slShape (Owns.slIn pnOk ho1)
          subst hvs1
          have hn1 := New.grown (hn0) hg1 (fun k hk => by have := Owns.blockGe ho0 k hk; omega)
          have hd1 := DoAt.upd hd0 (Upd.grown (S := fun k => w.heap.size + 3 ≤ k) (Upd.refl _ _) hg1 (fun k _ hk => Owns.blockGe ho0 k hk)) (fun k hk => hk)
          have hw1 := New.grown (hw0) hg1 (fun k hk => by have := Owns.blockGe ho0 k hk; have := HWS.out; omega)
          refine hK.out _ _ ?_ (fun hHeld => ?_)
          · exact hn1
          clear hK K
          try simp only [Act.put, List.setIfInBounds_toArray, List.set_cons_zero, List.set_cons_succ]
          refine wpAnyH_ready (rs := [7]) (by kernel_rfl) (by simp) ?_
          refine AllReadyH.cons (o := { dst := some 68, op := Op.load 63 (Operand.tmp 67), type := 63, pos := "ref.go:69", after := #[{ on := 6, ground := Ground.data }], guard := none }) rfl (fun K hK => ?_) AllReadyH.nil
          have qL := (DoAt.facts hd1).1
          go_simp
          refine hK.out _ _ ?_ (fun hHeld => ?_)
          · exact hn1
          clear hK K
          try simp only [Act.put, List.setIfInBounds_toArray, List.set_cons_zero, List.set_cons_succ]
          refine wpAnyH_take (i := 10) (oi := { dst := some 71, op := Op.slice 63 (Operand.tmp 68) (some (Operand.tmp 70)) none none, type := 63, pos := "ref.go:69", after := #[{ on := 7, ground := Ground.data }, { on := 9, ground := Ground.data }], guard := none }) (v := (.slice (some ⟨b, of2, none⟩) ln lc)) rfl (by kernel_rfl) (by kernel_rfl) (by kernel_rfl) (fun _ _ _ h => h) (Or.inl ⟨by rfl, ?_⟩) (by assumption) ?_
          · (intro wq hSw; (try dsimp only at hSw); go_simp; (try rw [HLN.out.1]); (try rw [HLN.out.2.1]); (try rw [HLN.out.2.2]); first | done | exact ⟨rfl, rfl, rfl⟩ | with_reducible rfl)
          try simp only [Act.put, List.setIfInBounds_toArray, List.set_cons_zero, List.set_cons_succ]
          refine wpAnyH_ready (rs := [11]) (by kernel_rfl) (by simp) ?_
          refine AllReadyH.cons (o := { dst := some 72, op := Op.call { callee := Callee.builtin Builtin.append, args := #[Operand.tmp 66, Operand.tmp 71], argTypes := #[63, 63] }, type := 63, pos := "ref.go:69", after := #[{ on := 5, ground := Ground.data }, { on := 10, ground := Ground.data }, { on := 5, ground := Ground.chain }], guard := none }) rfl (fun K hK => ?_) AllReadyH.nil
          refine step_app pnTy pnOk rfl (.tmp 66) (.tmp 71) rfl rfl rfl ho1 ((HSB.out).new (hw1)) HM2.out.1 HM2.out.2 (DoAt.size hd1) ?_
          intro va2 wa2 ho2 hg2 _
          obtain ⟨As2, ns2, cs2, hvs2⟩ := slShape (Owns.slIn pnOk ho2)
          subst hvs2
          have hn2 := New.grown (hn1) hg2 (fun k hk => by have := Owns.blockGe ho1 k hk; omega)
          have hd2 := DoAt.upd hd1 (Upd.grown (S := fun k => w.heap.size + 3 ≤ k) (Upd.refl _ _) hg2 (fun k _ hk => Owns.blockGe ho1 k hk)) (fun k hk => hk)
          have hw2 := New.grown (hw1) hg2 (fun k hk => by have := Owns.blockGe ho1 k hk; have := HWS.out; omega)
          refine hK.out _ _ ?_ (fun hHeld => ?_)
          · exact hn2
          clear hK K
          try simp only [Act.put, List.setIfInBounds_toArray, List.set_cons_zero, List.set_cons_succ]
          refine wpAnyH_take (i := 12) (oi := { dst := some 73, op := Op.fieldAddr 70 (Operand.tmp 2) 0, type := 0, pos := "ref.go:69", after := #[{ on := 0, ground := Ground.phase }, { on := 1, ground := Ground.phase }, { on := 2, ground := Ground.phase }, { on := 3, ground := Ground.phase }, { on := 4, ground := Ground.phase }, { on := 5, ground := Ground.phase }, { on := 6, ground := Ground.phase }, { on := 7, ground := Ground.phase }, { on := 8, ground := Ground.phase }, { on := 9, ground := Ground.phase }, { on := 10, ground := Ground.phase }, { on := 11, ground := Ground.phase }], guard := none }) (v := ?_) rfl (by kernel_rfl) (by kernel_rfl) (by kernel_rfl) (fun _ _ _ h => h) (Or.inl ⟨by rfl, ?_⟩) (by assumption) ?_
          rotate_left
          · (intro wq hSw; (try dsimp only at hSw); go_simp; first | done | with_reducible rfl)
          try simp only [Act.put, List.setIfInBounds_toArray, List.set_cons_zero, List.set_cons_succ]
          refine wpAnyH_ready (rs := [13]) (by kernel_rfl) (by simp) ?_
          refine AllReadyH.cons (o := { dst := none, op := Op.store 63 (Operand.tmp 73) (Operand.tmp 72), type := 0, pos := "ref.go:69", after := #[{ on := 12, ground := Ground.data }, { on := 11, ground := Ground.data }, { on := 11, ground := Ground.chain }, { on := 0, ground := Ground.phase }, { on := 1, ground := Ground.phase }, { on := 2, ground := Ground.phase }, { on := 3, ground := Ground.phase }, { on := 4, ground := Ground.phase }, { on := 5, ground := Ground.phase }, { on := 6, ground := Ground.phase }, { on := 7, ground := Ground.phase }, { on := 8, ground := Ground.phase }, { on := 9, ground := Ground.phase }, { on := 10, ground := Ground.phase }, { on := 11, ground := Ground.phase }], guard := none }) rfl (fun K hK => ?_) AllReadyH.nil
          have qz := (DoAt.facts hd2).2.2.1
          have qs : w.heap.size < wa2.heap.size := (hd2).p.lt
          have qc := (DoAt.facts hd2).1
          go_simp
          refine hK.out _ _ ?_ (fun hHeld => ?_)
          · exact New.setCell (hn2) (p := ⟨w.heap.size, 0, none⟩) (Nat.le_refl _) _
          clear hK K
          try simp only [Act.put, List.setIfInBounds_toArray, List.set_cons_zero, List.set_cons_succ]
          refine wpAnyH_done (by kernel_rfl) ?_ _
          clear hHeld
          have hU := doUpd w wa2 (.slice As2 ns2 cs2) (.slice As2 ns2 cs2) (.slice A2 n2 c2)
          have hs6 := (Owns.slIn pnOk ho2).upd hU (fun k hk h => by have := (Owns.lt ho2 k hk).1; omega)
          have hn6 := (hd2).n.upd hU (fun k h => by omega)
          have HS6 := Lib.hid hs6
          have HN6 := Lib.hid hn6
          obtain ⟨y0, y1, yz, b0, b1, b2, b3, b4, t0, t1, tz⟩ := DoAt.facts hd2
          have hgt : w.heap.size + 2 < wa2.heap.size := (hd2).r.lt
          clear hU hs6 hn6
          go_wp2_with fail
          exact bodyPost_ret (v := .tuple #[.agg #[(.slice As2 ns2 cs2), .slice A2 n2 c2], .int .i64 0, .int .i64 0]) (by simp [results, Try.results28, go_sem, t0, t1]) rfl (HR.out _ _ 0 HN6.out (by rw [HSM.out]; rfl) (by rw [← HDK.out]; exact HS6.out))
        · have qL := (DoAt.facts (DoAt.new hDW ((New.refl W).alloc (.cells #[] 66)))).1
          go_simp
          refine hK.out _ _ ?_ (fun hHeld => ?_)
          · exact hn0
          clear hK K
          try simp only [Act.put, List.setIfInBounds_toArray, List.set_cons_zero, List.set_cons_succ]
          refine wpAnyH_take (i := 10) (oi := { dst := some 71, op := Op.slice 63 (Operand.tmp 68) (some (Operand.tmp 70)) none none, type := 63, pos := "ref.go:69", after := #[{ on := 7, ground := Ground.data }, { on := 9, ground := Ground.data }], guard := none }) (v := (.slice (some ⟨b, of2, none⟩) ln lc)) rfl (by kernel_rfl) (by kernel_rfl) (by kernel_rfl) (fun _ _ _ h => h) (Or.inl ⟨by rfl, ?_⟩) (by assumption) ?_
          · (intro wq hSw; (try dsimp only at hSw); go_simp; (try rw [HLN.out.1]); (try rw [HLN.out.2.1]); (try rw [HLN.out.2.2]); first | done | exact ⟨rfl, rfl, rfl⟩ | with_reducible rfl)
          try simp only [Act.put, List.setIfInBounds_toArray, List.set_cons_zero, List.set_cons_succ]
          refine wpAnyH_ready (rs := [5]) (by kernel_rfl) (by simp) ?_
          refine AllReadyH.cons (o := { dst := some 66, op := Op.call { callee := Callee.builtin Builtin.append, args := #[Operand.tmp 61, Operand.tmp 65], argTypes := #[63, 63] }, type := 63, pos := "ref.go:69", after := #[{ on := 0, ground := Ground.data }, { on := 4, ground := Ground.data }], guard := none }) rfl (fun K hK => ?_) AllReadyH.nil
          refine step_app pnTy pnOk rfl (.tmp 61) (.tmp 65) rfl rfl rfl ho0 ((HST.out).new (hw0)) HM1.out.1 HM1.out.2 (DoAt.size hd0) ?_
          intro va1 wa1 ho1 hg1 _
          obtain ⟨As1, ns1, cs1, hvs1⟩ := slShape (Owns.slIn pnOk ho1)
          subst hvs1
          have hn1 := New.grown (hn0) hg1 (fun k hk => by have := Owns.blockGe ho0 k hk; omega)
          have hd1 := DoAt.upd hd0 (Upd.grown (S := fun k => w.heap.size + 3 ≤ k) (Upd.refl _ _) hg1 (fun k _ hk => Owns.blockGe ho0 k hk)) (fun k hk => hk)
          have hw1 := New.grown (hw0) hg1 (fun k hk => by have := Owns.blockGe ho0 k hk; have := HWS.out; omega)
          refine hK.out _ _ ?_ (fun hHeld => ?_)
          · exact hn1
          clear hK K
          try simp only [Act.put, List.setIfInBounds_toArray, List.set_cons_zero, List.set_cons_succ]
          refine wpAnyH_ready (rs := [11]) (by kernel_rfl) (by simp) ?_
          refine AllReadyH.cons (o := { dst := some 72, op := Op.call { callee := Callee.builtin Builtin.append, args := #[Operand.tmp 66, Operand.tmp 71], argTypes := #[63, 63] }, type := 63, pos := "ref.go:69", after := #[{ on := 5, ground := Ground.data }, { on := 10, ground := Ground.data }, { on := 5, ground := Ground.chain }], guard := none }) rfl (fun K hK => ?_) AllReadyH.nil
          refine step_app pnTy pnOk rfl (.tmp 66) (.tmp 71) rfl rfl rfl ho1 ((HSB.out).new (hw1)) HM2.out.1 HM2.out.2 (DoAt.size hd1) ?_
          intro va2 wa2 ho2 hg2 _
          obtain ⟨As2, ns2, cs2, hvs2⟩ := slShape (Owns.slIn pnOk ho2)
          subst hvs2
          have hn2 := New.grown (hn1) hg2 (fun k hk => by have := Owns.blockGe ho1 k hk; omega)
          have hd2 := DoAt.upd hd1 (Upd.grown (S := fun k => w.heap.size + 3 ≤ k) (Upd.refl _ _) hg2 (fun k _ hk => Owns.blockGe ho1 k hk)) (fun k hk => hk)
          have hw2 := New.grown (hw1) hg2 (fun k hk => by have := Owns.blockGe ho1 k hk; have := HWS.out; omega)
          refine hK.out _ _ ?_ (fun hHeld => ?_)
          · exact hn2
          clear hK K
          try simp only [Act.put, List.setIfInBounds_toArray, List.set_cons_zero, List.set_cons_succ]
          refine wpAnyH_take (i := 12) (oi := { dst := some 73, op := Op.fieldAddr 70 (Operand.tmp 2) 0, type := 0, pos := "ref.go:69", after := #[{ on := 0, ground := Ground.phase }, { on := 1, ground := Ground.phase }, { on := 2, ground := Ground.phase }, { on := 3, ground := Ground.phase }, { on := 4, ground := Ground.phase }, { on := 5, ground := Ground.phase }, { on := 6, ground := Ground.phase }, { on := 7, ground := Ground.phase }, { on := 8, ground := Ground.phase }, { on := 9, ground := Ground.phase }, { on := 10, ground := Ground.phase }, { on := 11, ground := Ground.phase }], guard := none }) (v := ?_) rfl (by kernel_rfl) (by kernel_rfl) (by kernel_rfl) (fun _ _ _ h => h) (Or.inl ⟨by rfl, ?_⟩) (by assumption) ?_
          rotate_left
          · (intro wq hSw; (try dsimp only at hSw); go_simp; first | done | with_reducible rfl)
          try simp only [Act.put, List.setIfInBounds_toArray, List.set_cons_zero, List.set_cons_succ]
          refine wpAnyH_ready (rs := [13]) (by kernel_rfl) (by simp) ?_
          refine AllReadyH.cons (o := { dst := none, op := Op.store 63 (Operand.tmp 73) (Operand.tmp 72), type := 0, pos := "ref.go:69", after := #[{ on := 12, ground := Ground.data }, { on := 11, ground := Ground.data }, { on := 11, ground := Ground.chain }, { on := 0, ground := Ground.phase }, { on := 1, ground := Ground.phase }, { on := 2, ground := Ground.phase }, { on := 3, ground := Ground.phase }, { on := 4, ground := Ground.phase }, { on := 5, ground := Ground.phase }, { on := 6, ground := Ground.phase }, { on := 7, ground := Ground.phase }, { on := 8, ground := Ground.phase }, { on := 9, ground := Ground.phase }, { on := 10, ground := Ground.phase }, { on := 11, ground := Ground.phase }], guard := none }) rfl (fun K hK => ?_) AllReadyH.nil
          have qz := (DoAt.facts hd2).2.2.1
          have qs : w.heap.size < wa2.heap.size := (hd2).p.lt
          have qc := (DoAt.facts hd2).1
          go_simp
          refine hK.out _ _ ?_ (fun hHeld => ?_)
          · exact New.setCell (hn2) (p := ⟨w.heap.size, 0, none⟩) (Nat.le_refl _) _
          clear hK K
          try simp only [Act.put, List.setIfInBounds_toArray, List.set_cons_zero, List.set_cons_succ]
          refine wpAnyH_done (by kernel_rfl) ?_ _
          clear hHeld
          have hU := doUpd w wa2 (.slice As2 ns2 cs2) (.slice As2 ns2 cs2) (.slice A2 n2 c2)
          have hs6 := (Owns.slIn pnOk ho2).upd hU (fun k hk h => by have := (Owns.lt ho2 k hk).1; omega)
          have hn6 := (hd2).n.upd hU (fun k h => by omega)
          have HS6 := Lib.hid hs6
          have HN6 := Lib.hid hn6
          obtain ⟨y0, y1, yz, b0, b1, b2, b3, b4, t0, t1, tz⟩ := DoAt.facts hd2
          have hgt : w.heap.size + 2 < wa2.heap.size := (hd2).r.lt
          clear hU hs6 hn6
          go_wp2_with fail
          exact bodyPost_ret (v := .tuple #[.agg #[(.slice As2 ns2 cs2), .slice A2 n2 c2], .int .i64 0, .int .i64 0]) (by simp [results, Try.results28, go_sem, t0, t1]) rfl (HR.out _ _ 0 HN6.out (by rw [HSM.out]; rfl) (by rw [← HDK.out]; exact HS6.out))
      · have qL := (DoAt.facts (DoAt.new hDW ((New.refl W).alloc (.cells #[] 66)))).1
        go_simp
        refine hK.out _ _ ?_ (fun hHeld => ?_)
        · exact hn0
        clear hK K
        try simp only [Act.put, List.setIfInBounds_toArray, List.set_cons_zero, List.set_cons_succ]
        refine wpAnyH_take (i := 10) (oi := { dst := some 71, op := Op.slice 63 (Operand.tmp 68) (some (Operand.tmp 70)) none none, type := 63, pos := "ref.go:69", after := #[{ on := 7, ground := Ground.data }, { on := 9, ground := Ground.data }], guard := none }) (v := (.slice (some ⟨b, of2, none⟩) ln lc)) rfl (by kernel_rfl) (by kernel_rfl) (by kernel_rfl) (fun _ _ _ h => h) (Or.inl ⟨by rfl, ?_⟩) (by assumption) ?_
        · (intro wq hSw; (try dsimp only at hSw); go_simp; (try rw [HLN.out.1]); (try rw [HLN.out.2.1]); (try rw [HLN.out.2.2]); first | done | exact ⟨rfl, rfl, rfl⟩ | with_reducible rfl)
        try simp only [Act.put, List.setIfInBounds_toArray, List.set_cons_zero, List.set_cons_succ]
        refine wpAnyH_ready (rs := [2]) (by kernel_rfl) (by simp) ?_
        refine AllReadyH.cons (o := { dst := some 63, op := Op.load 63 (Operand.tmp 62), type := 63, pos := "ref.go:69", after := #[{ on := 1, ground := Ground.data }], guard := none }) rfl (fun K hK => ?_) AllReadyH.nil
        have qL := (DoAt.facts (DoAt.new hDW ((New.refl W).alloc (.cells #[] 66)))).1
        go_simp
        refine hK.out _ _ ?_ (fun hHeld => ?_)
        · exact hn0
        clear hK K
        try simp only [Act.put, List.setIfInBounds_toArray, List.set_cons_zero, List.set_cons_succ]
        refine wpAnyH_take (i := 4) (oi := { dst := some 65, op := Op.slice 63 (Operand.tmp 63) none (some (Operand.tmp 64)) none, type := 63, pos := "ref.go:69", after := #[{ on := 2, ground := Ground.data }, { on := 3, ground := Ground.data }], guard := none }) (v := (.slice (some ⟨b, off, none⟩) k c1)) rfl (by kernel_rfl) (by kernel_rfl) (by kernel_rfl) (fun _ _ _ h => h) (Or.inl ⟨by rfl, ?_⟩) (by assumption) ?_
        · (intro wq hSw; (try dsimp only at hSw); go_simp; first | done | with_reducible rfl)
        try simp only [Act.put, List.setIfInBounds_toArray, List.set_cons_zero, List.set_cons_succ]
        refine wpAnyH_ready (rs := [5]) (by kernel_rfl) (by simp) ?_
        refine AllReadyH.cons (o := { dst := some 66, op := Op.call { callee := Callee.builtin Builtin.append, args := #[Operand.tmp 61, Operand.tmp 65], argTypes := #[63, 63] }, type := 63, pos := "ref.go:69", after := #[{ on := 0, ground := Ground.data }, { on := 4, ground := Ground.data }], guard := none }) rfl (fun K hK => ?_) AllReadyH.nil
        refine step_app pnTy pnOk rfl (.tmp 61) (.tmp 65) rfl rfl rfl ho0 ((HST.out).new (hw0)) HM1.out.1 HM1.out.2 (DoAt.size hd0) ?_
        intro va1 wa1 ho1 hg1 _
        obtain ⟨As1, ns1, cs1, hvs1⟩ := slShape (Owns.slIn pnOk ho1)
        subst hvs1
        have hn1 := New.grown (hn0) hg1 (fun k hk => by have := Owns.blockGe ho0 k hk; omega)
        have hd1 := DoAt.upd hd0 (Upd.grown (S := fun k => w.heap.size + 3 ≤ k) (Upd.refl _ _) hg1 (fun k _ hk => Owns.blockGe ho0 k hk)) (fun k hk => hk)
        have hw1 := New.grown (hw0) hg1 (fun k hk => by have := Owns.blockGe ho0 k hk; have := HWS.out; omega)
        refine hK.out _ _ ?_ (fun hHeld => ?_)
        · exact hn1
        clear hK K
        try simp only [Act.put, List.setIfInBounds_toArray, List.set_cons_zero, List.set_cons_succ]
        refine wpAnyH_ready (rs := [11]) (by kernel_rfl) (by simp) ?_
        refine AllReadyH.cons (o := { dst := some 72, op := Op.call { callee := Callee.builtin Builtin.append, args := #[Operand.tmp 66, Operand.tmp 71], argTypes := #[63, 63] }, type := 63, pos := "ref.go:69", after := #[{ on := 5, ground := Ground.data }, { on := 10, ground := Ground.data }, { on := 5, ground := Ground.chain }], guard := none }) rfl (fun K hK => ?_) AllReadyH.nil
        refine step_app pnTy pnOk rfl (.tmp 66) (.tmp 71) rfl rfl rfl ho1 ((HSB.out).new (hw1)) HM2.out.1 HM2.out.2 (DoAt.size hd1) ?_
        intro va2 wa2 ho2 hg2 _
        obtain ⟨As2, ns2, cs2, hvs2⟩ := slShape (Owns.slIn pnOk ho2)
        subst hvs2
        have hn2 := New.grown (hn1) hg2 (fun k hk => by have := Owns.blockGe ho1 k hk; omega)
        have hd2 := DoAt.upd hd1 (Upd.grown (S := fun k => w.heap.size + 3 ≤ k) (Upd.refl _ _) hg2 (fun k _ hk => Owns.blockGe ho1 k hk)) (fun k hk => hk)
        have hw2 := New.grown (hw1) hg2 (fun k hk => by have := Owns.blockGe ho1 k hk; have := HWS.out; omega)
        refine hK.out _ _ ?_ (fun hHeld => ?_)
        · exact hn2
        clear hK K
        try simp only [Act.put, List.setIfInBounds_toArray, List.set_cons_zero, List.set_cons_succ]
        refine wpAnyH_take (i := 12) (oi := { dst := some 73, op := Op.fieldAddr 70 (Operand.tmp 2) 0, type := 0, pos := "ref.go:69", after := #[{ on := 0, ground := Ground.phase }, { on := 1, ground := Ground.phase }, { on := 2, ground := Ground.phase }, { on := 3, ground := Ground.phase }, { on := 4, ground := Ground.phase }, { on := 5, ground := Ground.phase }, { on := 6, ground := Ground.phase }, { on := 7, ground := Ground.phase }, { on := 8, ground := Ground.phase }, { on := 9, ground := Ground.phase }, { on := 10, ground := Ground.phase }, { on := 11, ground := Ground.phase }], guard := none }) (v := ?_) rfl (by kernel_rfl) (by kernel_rfl) (by kernel_rfl) (fun _ _ _ h => h) (Or.inl ⟨by rfl, ?_⟩) (by assumption) ?_
        rotate_left
        · (intro wq hSw; (try dsimp only at hSw); go_simp; first | done | with_reducible rfl)
        try simp only [Act.put, List.setIfInBounds_toArray, List.set_cons_zero, List.set_cons_succ]
        refine wpAnyH_ready (rs := [13]) (by kernel_rfl) (by simp) ?_
        refine AllReadyH.cons (o := { dst := none, op := Op.store 63 (Operand.tmp 73) (Operand.tmp 72), type := 0, pos := "ref.go:69", after := #[{ on := 12, ground := Ground.data }, { on := 11, ground := Ground.data }, { on := 11, ground := Ground.chain }, { on := 0, ground := Ground.phase }, { on := 1, ground := Ground.phase }, { on := 2, ground := Ground.phase }, { on := 3, ground := Ground.phase }, { on := 4, ground := Ground.phase }, { on := 5, ground := Ground.phase }, { on := 6, ground := Ground.phase }, { on := 7, ground := Ground.phase }, { on := 8, ground := Ground.phase }, { on := 9, ground := Ground.phase }, { on := 10, ground := Ground.phase }, { on := 11, ground := Ground.phase }], guard := none }) rfl (fun K hK => ?_) AllReadyH.nil
        have qz := (DoAt.facts hd2).2.2.1
        have qs : w.heap.size < wa2.heap.size := (hd2).p.lt
        have qc := (DoAt.facts hd2).1
        go_simp
        refine hK.out _ _ ?_ (fun hHeld => ?_)
        · exact New.setCell (hn2) (p := ⟨w.heap.size, 0, none⟩) (Nat.le_refl _) _
        clear hK K
        try simp only [Act.put, List.setIfInBounds_toArray, List.set_cons_zero, List.set_cons_succ]
        refine wpAnyH_done (by kernel_rfl) ?_ _
        clear hHeld
        have hU := doUpd w wa2 (.slice As2 ns2 cs2) (.slice As2 ns2 cs2) (.slice A2 n2 c2)
        have hs6 := (Owns.slIn pnOk ho2).upd hU (fun k hk h => by have := (Owns.lt ho2 k hk).1; omega)
        have hn6 := (hd2).n.upd hU (fun k h => by omega)
        have HS6 := Lib.hid hs6
        have HN6 := Lib.hid hn6
        obtain ⟨y0, y1, yz, b0, b1, b2, b3, b4, t0, t1, tz⟩ := DoAt.facts hd2
        have hgt : w.heap.size + 2 < wa2.heap.size := (hd2).r.lt
        clear hU hs6 hn6
        go_wp2_with fail
        exact bodyPost_ret (v := .tuple #[.agg #[(.slice As2 ns2 cs2), .slice A2 n2 c2], .int .i64 0, .int .i64 0]) (by simp [results, Try.results28, go_sem, t0, t1]) rfl (HR.out _ _ 0 HN6.out (by rw [HSM.out]; rfl) (by rw [← HDK.out]; exact HS6.out))
    · have qL := (DoAt.facts (DoAt.new hDW (New.refl W).drew)).1
      go_simp
      refine hK.out _ _ ?_ (fun hHeld => ?_)
      · exact hDW.n.drew
      clear hK K
      try simp only [Act.put, List.setIfInBounds_toArray, List.set_cons_zero, List.set_cons_succ]
      refine wpAnyH_take (i := 4) (oi := { dst := some 65, op := Op.slice 63 (Operand.tmp 63) none (some (Operand.tmp 64)) none, type := 63, pos := "ref.go:69", after := #[{ on := 2, ground := Ground.data }, { on := 3, ground := Ground.data }], guard := none }) (v := (.slice (some ⟨b, off, none⟩) k c1)) rfl (by kernel_rfl) (by kernel_rfl) (by kernel_rfl) (fun _ _ _ h => h) (Or.inl ⟨by rfl, ?_⟩) (by assumption) ?_
      · (intro wq hSw; (try dsimp only at hSw); go_simp; first | done | with_reducible rfl)
      try simp only [Act.put, List.setIfInBounds_toArray, List.set_cons_zero, List.set_cons_succ]
      refine wpAnyH_ready (rs := [0, 7]) (by kernel_rfl) (by simp) ?_
      refine AllReadyH.cons (o := { dst := some 61, op := Op.buildSlice 63 0 #[], type := 63, pos := "ref.go:69", after := #[], guard := none }) rfl (fun K hK => ?_) (AllReadyH.cons (o := { dst := some 68, op := Op.load 63 (Operand.tmp 67), type := 63, pos := "ref.go:69", after := #[{ on := 6, ground := Ground.data }], guard := none }) rfl (fun K hK => ?_) AllReadyH.nil)
      · go_simp
        have hn0 := New.alloc (hDW.n.drew) (.cells #[] 66)
        have ho0 : Owns (W.drew.alloc (.cells #[] 66)) (w.heap.size + 3) 66 2 pnC (.slice (some ⟨W.drew.heap.size, 0, none⟩) 0 0) ([] : List Pnm) := (owns_made W.drew 66 pnC 2).lower (DoAt.size (DoAt.new hDW (New.refl W).drew))
        have hd0 := DoAt.new (DoAt.new hDW (New.refl W).drew) ((New.refl _).alloc (.cells #[] 66))
        have hw0 := New.alloc ((New.refl W).drew) (.cells #[] 66)
        refine hK.out _ _ ?_ (fun hHeld => ?_)
        · exact hn0
        clear hK K
        try simp only [Act.put, List.setIfInBounds_toArray, List.set_cons_zero, List.set_cons_succ]
        refine wpAnyH_ready (rs := [5, 7]) (by kernel_rfl) (by simp) ?_
        refine AllReadyH.cons (o := { dst := some 66, op := Op.call { callee := Callee.builtin Builtin.append, args := #[Operand.tmp 61, Operand.tmp 65], argTypes := #[63, 63] }, type := 63, pos := "ref.go:69", after := #[{ on := 0, ground := Ground.data }, { on := 4, ground := Ground.data }], guard := none }) rfl (fun K hK => ?_) (AllReadyH.cons (o := { dst := some 68, op := Op.load 63 (Operand.tmp 67), type := 63, pos := "ref.go:69", after := #[{ on := 6, ground := Ground.data }], guard := none }) rfl (fun K hK => ?_) AllReadyH.nil)
        · refine step_app pnTy pnOk rfl (.tmp 61) (.tmp 65) rfl rfl rfl ho0 ((HST.out).new (hw0)) HM1.out.1 HM1.out.2 (DoAt.size hd0) ?_
          intro va1 wa1 ho1 hg1 _
          obtain ⟨As1, ns1, cs1, hvs1⟩ := slShape (Owns.slIn pnOk ho1)
          subst hvs1
          have hn1 := New.grown (hn0) hg1 (fun k hk => by have := Owns.blockGe ho0 k hk; omega)
          have hd1 := DoAt.upd hd0 (Upd.grown (S := fun k => w.heap.size + 3 ≤ k) (Upd.refl _ _) hg1 (fun k _ hk => Owns.blockGe ho0 k hk)) (fun k hk => hk)
          have hw1 := New.grown (hw0) hg1 (fun k hk => by have := Owns.blockGe ho0 k hk; have := HWS.out; omega)
          refine hK.out _ _ ?_ (fun hHeld => ?_)
          · exact hn1
          clear hK K
          try simp only [Act.put, List.setIfInBounds_toArray, List.set_cons_zero, List.set_cons_succ]
          refine wpAnyH_ready (rs := [7]) (by kernel_rfl) (by simp) ?_
          refine AllReadyH.cons (o := { dst := some 68, op := Op.load 63 (Operand.tmp 67), type := 63, pos := "ref.go:69", after := #[{ on := 6, ground := Ground.data }], guard := none }) rfl (fun K hK => ?_) AllReadyH.nil
          have qL := (DoAt.facts hd1).1
          go_simp
          refine hK.out _ _ ?_ (fun hHeld => ?_)
          · exact hn1
          clear hK K
          try simp only [Act.put, List.setIfInBounds_toArray, List.set_cons_zero, List.set_cons_succ]
          refine wpAnyH_take (i := 10) (oi := { dst := some 71, op := Op.slice 63 (Operand.tmp 68) (some (Operand.tmp 70)) none none, type := 63, pos := "ref.go:69", after := #[{ on := 7, ground := Ground.data }, { on := 9, ground := Ground.data }], guard := none }) (v := (.slice (some ⟨b, of2, none⟩) ln lc)) rfl (by kernel_rfl) (by kernel_rfl) (by kernel_rfl) (fun _ _ _ h => h) (Or.inl ⟨by rfl, ?_⟩) (by assumption) ?_
          · (intro wq hSw; (try dsimp only at hSw); go_simp; (try rw [HLN.out.1]); (try rw [HLN.out.2.1]); (try rw [HLN.out.2.2]); first | done | exact ⟨rfl, rfl, rfl⟩ | with_reducible rfl)
          try simp only [Act.put, List.setIfInBounds_toArray, List.set_cons_zero, List.set_cons_succ]
          refine wpAnyH_ready (rs := [11]) (by kernel_rfl) (by simp) ?_
          refine AllReadyH.cons (o := { dst := some 72, op := Op.call { callee := Callee.builtin Builtin.append, args := #[Operand.tmp 66, Operand.tmp 71], argTypes := #[63, 63] }, type := 63, pos := "ref.go:69", after := #[{ on := 5, ground := Ground.data }, { on := 10, ground := Ground.data }, { on := 5, ground := Ground.chain }], guard := none }) rfl (fun K hK => ?_) AllReadyH.nil
          refine step_app pnTy pnOk rfl (.tmp 66) (.tmp 71) rfl rfl rfl ho1 ((HSB.out).new (hw1)) HM2.out.1 HM2.out.2 (DoAt.size hd1) ?_
          intro va2 wa2 ho2 hg2 _
          obtain ⟨As2, ns2, cs2, hvs2⟩ := slShape (Owns.slIn pnOk ho2)
          subst hvs2
          have hn2 := New.grown (hn1) hg2 (fun k hk => by have := Owns.blockGe ho1 k hk; omega)
          have hd2 := DoAt.upd hd1 (Upd.grown (S := fun k => w.heap.size + 3 ≤ k) (Upd.refl _ _) hg2 (fun k _ hk => Owns.blockGe ho1 k hk)) (fun k hk => hk)
          have hw2 := New.grown (hw1) hg2 (fun k hk => by have := Owns.blockGe ho1 k hk; have := HWS.out; omega)
          refine hK.out _ _ ?_ (fun hHeld => ?_)
          · exact hn2
          clear hK K
          try simp only [Act.put, List.setIfInBounds_toArray, List.set_cons_zero, List.set_cons_succ]
          refine wpAnyH_take (i := 12) (oi := { dst := some 73, op := Op.fieldAddr 70 (Operand.tmp 2) 0, type := 0, pos := "ref.go:69", after := #[{ on := 0, ground := Ground.phase }, { on := 1, ground := Ground.phase }, { on := 2, ground := Ground.phase }, { on := 3, ground := Ground.phase }, { on := 4, ground := Ground.phase }, { on := 5, ground := Ground.phase }, { on := 6, ground := Ground.phase }, { on := 7, ground := Ground.phase }, { on := 8, ground := Ground.phase }, { on := 9, ground := Ground.phase }, { on := 10, ground := Ground.phase }, { on := 11, ground := Ground.phase }], guard := none }) (v := ?_) rfl (by kernel_rfl) (by kernel_rfl) (by kernel_rfl) (fun _ _ _ h => h) (Or.inl ⟨by rfl, ?_⟩) (by assumption) ?_
          rotate_left
          · (intro wq hSw; (try dsimp only at hSw); go_simp; first | done | with_reducible rfl)
          try simp only [Act.put, List.setIfInBounds_toArray, List.set_cons_zero, List.set_cons_succ]
          refine wpAnyH_ready (rs := [13]) (by kernel_rfl) (by simp) ?_
          refine AllReadyH.cons (o := { dst := none, op := Op.store 63 (Operand.tmp 73) (Operand.tmp 72), type := 0, pos := "ref.go:69", after := #[{ on := 12, ground := Ground.data }, { on := 11, ground := Ground.data }, { on := 11, ground := Ground.chain }, { on := 0, ground := Ground.phase }, { on := 1, ground := Ground.phase }, { on := 2, ground := Ground.phase }, { on := 3, ground := Ground.phase }, { on := 4, ground := Ground.phase }, { on := 5, ground := Ground.phase }, { on := 6, ground := Ground.phase }, { on := 7, ground := Ground.phase }, { on := 8, ground := Ground.phase }, { on := 9, ground := Ground.phase }, { on := 10, ground := Ground.phase }, { on := 11, ground := Ground.phase }], guard := none }) rfl (fun K hK => ?_) AllReadyH.nil
          have qz := (DoAt.facts hd2).2.2.1
          have qs : w.heap.size < wa2.heap.size := (hd2).p.lt
          have qc := (DoAt.facts hd2).1
          go_simp
          refine hK.out _ _ ?_ (fun hHeld => ?_)
          · exact New.setCell (hn2) (p := ⟨w.heap.size, 0, none⟩) (Nat.le_refl _) _
          clear hK K
          try simp only [Act.put, List.setIfInBounds_toArray, List.set_cons_zero, List.set_cons_succ]
          refine wpAnyH_done (by kernel_rfl) ?_ _
          clear hHeld
          have hU := doUpd w wa2 (.slice As2 ns2 cs2) (.slice As2 ns2 cs2) (.slice A2 n2 c2)
          have hs6 := (Owns.slIn pnOk ho2).upd hU (fun k hk h => by have := (Owns.lt ho2 k hk).1; omega)
          have hn6 := (hd2).n.upd hU (fun k h => by omega)
          have HS6 := Lib.hid hs6
          have HN6 := Lib.hid hn6
          obtain ⟨y0, y1, yz, b0, b1, b2, b3, b4, t0, t1, tz⟩ := DoAt.facts hd2
          have hgt : w.heap.size + 2 < wa2.heap.size := (hd2).r.lt
          clear hU hs6 hn6
          go_wp2_with fail
          exact bodyPost_ret (v := .tuple #[.agg #[(.slice As2 ns2 cs2), .slice A2 n2 c2], .int .i64 0, .int .i64 0]) (by simp [results, Try.results28, go_sem, t0, t1]) rfl (HR.out _ _ 0 HN6.out (by rw [HSM.out]; rfl) (by rw [← HDK.out]; exact HS6.out))
        · have qL := (DoAt.facts (DoAt.new hDW ((New.refl W).alloc (.cells #[] 66)))).1
          go_simp
          refine hK.out _ _ ?_ (fun hHeld => ?_)
          · exact hn0
          clear hK K
          try simp only [Act.put, List.setIfInBounds_toArray, List.set_cons_zero, List.set_cons_succ]
          refine wpAnyH_take (i := 10) (oi := { dst := some 71, op := Op.slice 63 (Operand.tmp 68) (some (Operand.tmp 70)) none none, type := 63, pos := "ref.go:69", after := #[{ on := 7, ground := Ground.data }, { on := 9, ground := Ground.data }], guard := none }) (v := (.slice (some ⟨b, of2, none⟩) ln lc)) rfl (by kernel_rfl) (by kernel_rfl) (by kernel_rfl) (fun _ _ _ h => h) (Or.inl ⟨by rfl, ?_⟩) (by assumption) ?_
          · (intro wq hSw; (try dsimp only at hSw); go_simp; (try rw [HLN.out.1]); (try rw [HLN.out.2.1]); (try rw [HLN.out.2.2]); first | done | exact ⟨rfl, rfl, rfl⟩ | with_reducible rfl)
          try simp only [Act.put, List.setIfInBounds_toArray, List.set_cons_zero, List.set_cons_succ]
          refine wpAnyH_ready (rs := [5]) (by kernel_rfl) (by simp) ?_
          refine AllReadyH.cons (o := { dst := some 66, op := Op.call { callee := Callee.builtin Builtin.append, args := #[Operand.tmp 61, Operand.tmp 65], argTypes := #[63, 63] }, type := 63, pos := "ref.go:69", after := #[{ on := 0, ground := Ground.data }, { on := 4, ground := Ground.data }], guard := none }) rfl (fun K hK => ?_) AllReadyH.nil
          refine step_app pnTy pnOk rfl (.tmp 61) (.tmp 65) rfl rfl rfl ho0 ((HST.out).new (hw0)) HM1.out.1 HM1.out.2 (DoAt.size hd0) ?_
          intro va1 wa1 ho1 hg1 _
          obtain ⟨As1, ns1, cs1, hvs1⟩ := slShape (Owns.slIn pnOk ho1)
          subst hvs1
          have hn1 := New.grown (hn0) hg1 (fun k hk => by have := Owns.blockGe ho0 k hk; omega)
          have hd1 := DoAt.upd hd0 (Upd.grown (S := fun k => w.heap.size + 3 ≤ k) (Upd.refl _ _) hg1 (fun k _ hk => Owns.blockGe ho0 k hk)) (fun k hk => hk)
          have hw1 := New.grown (hw0) hg1 (fun k hk => by have := Owns.blockGe ho0 k hk; have := HWS.out; omega)
          refine hK.out _ _ ?_ (fun hHeld => ?_)
          · exact hn1
          clear hK K
          try simp only [Act.put, List.setIfInBounds_toArray, List.set_cons_zero, List.set_cons_succ]
          refine wpAnyH_ready (rs := [11]) (by kernel_rfl) (by simp) ?_
          refine AllReadyH.cons (o := { dst := some 72, op := Op.call { callee := Callee.builtin Builtin.append, args := #[Operand.tmp 66, Operand.tmp 71], argTypes := #[63, 63] }, type := 63, pos := "ref.go:69", after := #[{ on := 5, ground := Ground.data }, { on := 10, ground := Ground.data }, { on := 5, ground := Ground.chain }], guard := none }) rfl (fun K hK => ?_) AllReadyH.nil
          refine step_app pnTy pnOk rfl (.tmp 66) (.tmp 71) rfl rfl rfl ho1 ((HSB.out).new (hw1)) HM2.out.1 HM2.out.2 (DoAt.size hd1) ?_
          intro va2 wa2 ho2 hg2 _
          obtain ⟨As2, ns2, cs2, hvs2⟩ := slShape (Owns.slIn pnOk ho2)
          subst hvs2
          have hn2 := New.grown (hn1) hg2 (fun k hk => by have := Owns.blockGe ho1 k hk; omega)
          have hd2 := DoAt.upd hd1 (Upd.grown (S := fun k => w.heap.size + 3 ≤ k) (Upd.refl _ _) hg2 (fun k _ hk => Owns.blockGe ho1 k hk)) (fun k hk => hk)
          have hw2 := New.grown (hw1) hg2 (fun k hk => by have := Owns.blockGe ho1 k hk; have := HWS.out; omega)
          refine hK.out _ _ ?_ (fun hHeld => ?_)
          · exact hn2
          clear hK K
          try simp only [Act.put, List.setIfInBounds_toArray, List.set_cons_zero, List.set_cons_succ]
          refine wpAnyH_take (i := 12) (oi := { dst := some 73, op := Op.fieldAddr 70 (Operand.tmp 2) 0, type := 0, pos := "ref.go:69", after := #[{ on := 0, ground := Ground.phase }, { on := 1, ground := Ground.phase }, { on := 2, ground := Ground.phase }, { on := 3, ground := Ground.phase }, { on := 4, ground := Ground.phase }, { on := 5, ground := Ground.phase }, { on := 6, ground := Ground.phase }, { on := 7, ground := Ground.phase }, { on := 8, ground := Ground.phase }, { on := 9, ground := Ground.phase }, { on := 10, ground := Ground.phase }, { on := 11, ground := Ground.phase }], guard := none }) (v := ?_) rfl (by kernel_rfl) (by kernel_rfl) (by kernel_rfl) (fun _ _ _ h => h) (Or.inl ⟨by rfl, ?_⟩) (by assumption) ?_
          rotate_left
          · (intro wq hSw; (try dsimp only at hSw); go_simp; first | done | with_reducible rfl)
          try simp only [Act.put, List.setIfInBounds_toArray, List.set_cons_zero, List.set_cons_succ]
          refine wpAnyH_ready (rs := [13]) (by kernel_rfl) (by simp) ?_
          refine AllReadyH.cons (o := { dst := none, op := Op.store 63 (Operand.tmp 73) (Operand.tmp 72), type := 0, pos := "ref.go:69", after := #[{ on := 12, ground := Ground.data }, { on := 11, ground := Ground.data }, { on := 11, ground := Ground.chain }, { on := 0, ground := Ground.phase }, { on := 1, ground := Ground.phase }, { on := 2, ground := Ground.phase }, { on := 3, ground := Ground.phase }, { on := 4, ground := Ground.phase }, { on := 5, ground := Ground.phase }, { on := 6, ground := Ground.phase }, { on := 7, ground := Ground.phase }, { on := 8, ground := Ground.phase }, { on := 9, ground := Ground.phase }, { on := 10, ground := Ground.phase }, { on := 11, ground := Ground.phase }], guard := none }) rfl (fun K hK => ?_) AllReadyH.nil
          have qz := (DoAt.facts hd2).2.2.1
          have qs : w.heap.size < wa2.heap.size := (hd2).p.lt
          have qc := (DoAt.facts hd2).1
          go_simp
          refine hK.out _ _ ?_ (fun hHeld => ?_)
          · exact New.setCell (hn2) (p := ⟨w.heap.size, 0, none⟩) (Nat.le_refl _) _
          clear hK K
          try simp only [Act.put, List.setIfInBounds_toArray, List.set_cons_zero, List.set_cons_succ]
          refine wpAnyH_done (by kernel_rfl) ?_ _
          clear hHeld
          have hU := doUpd w wa2 (.slice As2 ns2 cs2) (.slice As2 ns2 cs2) (.slice A2 n2 c2)
          have hs6 := (Owns.slIn pnOk ho2).upd hU (fun k hk h => by have := (Owns.lt ho2 k hk).1; omega)
          have hn6 := (hd2).n.upd hU (fun k h => by omega)
          have HS6 := Lib.hid hs6
          have HN6 := Lib.hid hn6
          obtain ⟨y0, y1, yz, b0, b1, b2, b3, b4, t0, t1, tz⟩ := DoAt.facts hd2
          have hgt : w.heap.size + 2 < wa2.heap.size := (hd2).r.lt
          clear hU hs6 hn6
          go_wp2_with fail
          exact bodyPost_ret (v := .tuple #[.agg #[(.slice As2 ns2 cs2), .slice A2 n2 c2], .int .i64 0, .int .i64 0]) (by simp [results, Try.results28, go_sem, t0, t1]) rfl (HR.out _ _ 0 HN6.out (by rw [HSM.out]; rfl) (by rw [← HDK.out]; exact HS6.out))
      · have qL := (DoAt.facts (DoAt.new hDW (New.refl W).drew)).1
        go_simp
        refine hK.out _ _ ?_ (fun hHeld => ?_)
        · exact hDW.n.drew
        clear hK K
        try simp only [Act.put, List.setIfInBounds_toArray, List.set_cons_zero, List.set_cons_succ]
        refine wpAnyH_take (i := 10) (oi := { dst := some 71, op := Op.slice 63 (Operand.tmp 68) (some (Operand.tmp 70)) none none, type := 63, pos := "ref.go:69", after := #[{ on := 7, ground := Ground.data }, { on := 9, ground := Ground.data }], guard := none }) (v := (.slice (some ⟨b, of2, none⟩) ln lc)) rfl (by kernel_rfl) (by kernel_rfl) (by kernel_rfl) (fun _ _ _ h => h) (Or.inl ⟨by rfl, ?_⟩) (by assumption) ?_
        · (intro wq hSw; (try dsimp only at hSw); go_simp; (try rw [HLN.out.1]); (try rw [HLN.out.2.1]); (try rw [HLN.out.2.2]); first | done | exact ⟨rfl, rfl, rfl⟩ | with_reducible rfl)
        try simp only [Act.put, List.setIfInBounds_toArray, List.set_cons_zero, List.set_cons_succ]
        refine wpAnyH_ready (rs := [0]) (by kernel_rfl) (by simp) ?_
        refine AllReadyH.cons (o := { dst := some 61, op := Op.buildSlice 63 0 #[], type := 63, pos := "ref.go:69", after := #[], guard := none }) rfl (fun K hK => ?_) AllReadyH.nil
        go_simp
        have hn0 := New.alloc (hDW.n.drew) (.cells #[] 66)
        have ho0 : Owns (W.drew.alloc (.cells #[] 66)) (w.heap.size + 3) 66 2 pnC (.slice (some ⟨W.drew.heap.size, 0, none⟩) 0 0) ([] : List Pnm) := (owns_made W.drew 66 pnC 2).lower (DoAt.size (DoAt.new hDW (New.refl W).drew))
        have hd0 := DoAt.new (DoAt.new hDW (New.refl W).drew) ((New.refl _).alloc (.cells #[] 66))
        have hw0 := New.alloc ((New.refl W).drew) (.cells #[] 66)
        refine hK.out _ _ ?_ (fun hHeld => ?_)
        · exact hn0
        clear hK K
        try simp only [Act.put, List.setIfInBounds_toArray, List.set_cons_zero, List.set_cons_succ]
        refine wpAnyH_ready (rs := [5]) (by kernel_rfl) (by simp) ?_
        refine AllReadyH.cons (o := { dst := some 66, op := Op.call { callee := Callee.builtin Builtin.append, args := #[Operand.tmp 61, Operand.tmp 65], argTypes := #[63, 63] }, type := 63, pos := "ref.go:69", after := #[{ on := 0, ground := Ground.data }, { on := 4, ground := Ground.data }], guard := none }) rfl (fun K hK => ?_) AllReadyH.nil
        refine step_app pnTy pnOk rfl (.tmp 61) (.tmp 65) rfl rfl rfl ho0 ((HST.out).new (hw0)) HM1.out.1 HM1.out.2 (DoAt.size hd0) ?_
        intro va1 wa1 ho1 hg1 _
        obtain ⟨As1, ns1, cs1, hvs1⟩ := slShape (Owns.slIn pnOk ho1)
        subst hvs1
        have hn1 := New.grown (hn0) hg1 (fun k hk => by have := Owns.blockGe ho0 k hk; omega)
        have hd1 := DoAt.upd hd0 (Upd.grown (S := fun k => w.heap.size + 3 ≤ k) (Upd.refl _ _) hg1 (fun k _ hk => Owns.blockGe ho0 k hk)) (fun k hk => hk)
        have hw1 := New.grown (hw0) hg1 (fun k hk => by have := Owns.blockGe ho0 k hk; have := HWS.out; omega)
        refine hK.out _ _ ?_ (fun hHeld => ?_)
        · exact hn1
        clear hK K
        try simp only [Act.put, List.setIfInBounds_toArray, List.set_cons_zero, List.set_cons_succ]
        refine wpAnyH_ready (rs := [11]) (by kernel_rfl) (by simp) ?_
        refine AllReadyH.cons (o := { dst := some 72, op := Op.call { callee := Callee.builtin Builtin.append, args := #[Operand.tmp 66, Operand.tmp 71], argTypes := #[63, 63] }, type := 63, pos := "ref.go:69", after := #[{ on := 5, ground := Ground.data }, { on := 10, ground := Ground.data }, { on := 5, ground := Ground.chain }], guard := none }) rfl (fun K hK => ?_) AllReadyH.nil
        refine step_app pnTy pnOk rfl (.tmp 66) (.tmp 71) rfl rfl rfl ho1 ((HSB.out).new (hw1)) HM2.out.1 HM2.out.2 (DoAt.size hd1) ?_
        intro va2 wa2 ho2 hg2 _
        obtain ⟨As2, ns2, cs2, hvs2⟩ := slShape (Owns.slIn pnOk ho2)
        subst hvs2
        have hn2 := New.grown (hn1) hg2 (fun k hk => by have := Owns.blockGe ho1 k hk; omega)
        have hd2 := DoAt.upd hd1 (Upd.grown (S := fun k => w.heap.size + 3 ≤ k) (Upd.refl _ _) hg2 (fun k _ hk => Owns.blockGe ho1 k hk)) (fun k hk => hk)
        have hw2 := New.grown (hw1) hg2 (fun k hk => by have := Owns.blockGe ho1 k hk; have := HWS.out; omega)
        refine hK.out _ _ ?_ (fun hHeld => ?_)
        · exact hn2
        clear hK K
        try simp only [Act.put, List.setIfInBounds_toArray, List.set_cons_zero, List.set_cons_succ]
        refine wpAnyH_take (i := 12) (oi := { dst := some 73, op := Op.fieldAddr 70 (Operand.tmp 2) 0, type := 0, pos := "ref.go:69", after := #[{ on := 0, ground := Ground.phase }, { on := 1, ground := Ground.phase }, { on := 2, ground := Ground.phase }, { on := 3, ground := Ground.phase }, { on := 4, ground := Ground.phase }, { on := 5, ground := Ground.phase }, { on := 6, ground := Ground.phase }, { on := 7, ground := Ground.phase }, { on := 8, ground := Ground.phase }, { on := 9, ground := Ground.phase }, { on := 10, ground := Ground.phase }, { on := 11, ground := Ground.phase }], guard := none }) (v := ?_) rfl (by kernel_rfl) (by kernel_rfl) (by kernel_rfl) (fun _ _ _ h => h) (Or.inl ⟨by rfl, ?_⟩) (by assumption) ?_
        rotate_left
        · (intro wq hSw; (try dsimp only at hSw); go_simp; first | done | with_reducible rfl)
        try simp only [Act.put, List.setIfInBounds_toArray, List.set_cons_zero, List.set_cons_succ]
        refine wpAnyH_ready (rs := [13]) (by kernel_rfl) (by simp) ?_
        refine AllReadyH.cons (o := { dst := none, op := Op.store 63 (Operand.tmp 73) (Operand.tmp 72), type := 0, pos := "ref.go:69", after := #[{ on := 12, ground := Ground.data }, { on := 11, ground := Ground.data }, { on := 11, ground := Ground.chain }, { on := 0, ground := Ground.phase }, { on := 1, ground := Ground.phase }, { on := 2, ground := Ground.phase }, { on := 3, ground := Ground.phase }, { on := 4, ground := Ground.phase }, { on := 5, ground := Ground.phase }, { on := 6, ground := Ground.phase }, { on := 7, ground := Ground.phase }, { on := 8, ground := Ground.phase }, { on := 9, ground := Ground.phase }, { on := 10, ground := Ground.phase }, { on := 11, ground := Ground.phase }], guard := none }) rfl (fun K hK => ?_) AllReadyH.nil
        have qz := (DoAt.facts hd2).2.2.1
        have qs : w.heap.size < wa2.heap.size := (hd2).p.lt
        have qc := (DoAt.facts hd2).1
        go_simp
        refine hK.out _ _ ?_ (fun hHeld => ?_)
        · exact New.setCell (hn2) (p := ⟨w.heap.size, 0, none⟩) (Nat.le_refl _) _
        clear hK K
        try simp only [Act.put, List.setIfInBounds_toArray, List.set_cons_zero, List.set_cons_succ]
        refine wpAnyH_done (by kernel_rfl) ?_ _
        clear hHeld
        have hU := doUpd w wa2 (.slice As2 ns2 cs2) (.slice As2 ns2 cs2) (.slice A2 n2 c2)
        have hs6 := (Owns.slIn pnOk ho2).upd hU (fun k hk h => by have := (Owns.lt ho2 k hk).1; omega)
        have hn6 := (hd2).n.upd hU (fun k h => by omega)
        have HS6 := Lib.hid hs6
        have HN6 := Lib.hid hn6
        obtain ⟨y0, y1, yz, b0, b1, b2, b3, b4, t0, t1, tz⟩ := DoAt.facts hd2
        have hgt : w.heap.size + 2 < wa2.heap.size := (hd2).r.lt
        clear hU hs6 hn6
        go_wp2_with fail
        exact bodyPost_ret (v := .tuple #[.agg #[(.slice As2 ns2 cs2), .slice A2 n2 c2], .int .i64 0, .int .i64 0]) (by simp [results, Try.results28, go_sem, t0, t1]) rfl (HR.out _ _ 0 HN6.out (by rw [HSM.out]; rfl) (by rw [← HDK.out]; exact HS6.out))
    · have qL := (DoAt.facts (DoAt.new hDW (New.refl W).drew)).1
      go_simp
      refine hK.out _ _ ?_ (fun hHeld => ?_)
      · exact hDW.n.drew
      clear hK K
      try simp only [Act.put, List.setIfInBounds_toArray, List.set_cons_zero, List.set_cons_succ]
      refine wpAnyH_take (i := 10) (oi := { dst := some 71, op := Op.slice 63 (Operand.tmp 68) (some (Operand.tmp 70)) none none, type := 63, pos := "ref.go:69", after := #[{ on := 7, ground := Ground.data }, { on := 9, ground := Ground.data }], guard := none }) (v := (.slice (some ⟨b, of2, none⟩) ln lc)) rfl (by kernel_rfl) (by kernel_rfl) (by kernel_rfl) (fun _ _ _ h => h) (Or.inl ⟨by rfl, ?_⟩) (by assumption) ?_
      · (intro wq hSw; (try dsimp only at hSw); go_simp; (try rw [HLN.out.1]); (try rw [HLN.out.2.1]); (try rw [HLN.out.2.2]); first | done | exact ⟨rfl, rfl, rfl⟩ | with_reducible rfl)
      try simp only [Act.put, List.setIfInBounds_toArray, List.set_cons_zero, List.set_cons_succ]
      refine wpAnyH_ready (rs := [0, 2]) (by kernel_rfl) (by simp) ?_
      refine AllReadyH.cons (o := { dst := some 61, op := Op.buildSlice 63 0 #[], type := 63, pos := "ref.go:69", after := #[], guard := none }) rfl (fun K hK => ?_) (AllReadyH.cons (o := { dst := some 63, op := Op.load 63 (Operand.tmp 62), type := 63, pos := "ref.go:69", after := #[{ on := 1, ground := Ground.data }], guard := none }) rfl (fun K hK => ?_) AllReadyH.nil)
      · go_simp
        have hn0 := New.alloc (hDW.n.drew) (.cells #[] 66)
        have ho0 : Owns (W.drew.alloc (.cells #[] 66)) (w.heap.size + 3) 66 2 pnC (.slice (some ⟨W.drew.heap.size, 0, none⟩) 0 0) ([] : List Pnm) := (owns_made W.drew 66 pnC 2).lower (DoAt.size (DoAt.new hDW (New.refl W).drew))
        have hd0 := DoAt.new (DoAt.new hDW (New.refl W).drew) ((New.refl _).alloc (.cells #[] 66))
        have hw0 := New.alloc ((New.refl W).drew) (.cells #[] 66)
        refine hK.out _ _ ?_ (fun hHeld => ?_)
        · exact hn0
        clear hK K
        try simp only [Act.put, List.setIfInBounds_toArray, List.set_cons_zero, List.set_cons_succ]
        refine wpAnyH_ready (rs := [2]) (by kernel_rfl) (by simp) ?_
        refine AllReadyH.cons (o := { dst := some 63, op := Op.load 63 (Operand.tmp 62), type := 63, pos := "ref.go:69", after := #[{ on := 1, ground := Ground.data }], guard := none }) rfl (fun K hK => ?_) AllReadyH.nil
        have qL := (DoAt.facts (DoAt.new hDW ((New.refl W).alloc (.cells #[] 66)))).1
        go_simp
        refine hK.out _ _ ?_ (fun hHeld => ?_)
        · exact hn0
        clear hK K
        try simp only [Act.put, List.setIfInBounds_toArray, List.set_cons_zero, List.set_cons_succ]
        refine wpAnyH_take (i := 4) (oi := { dst := some 65, op := Op.slice 63 (Operand.tmp 63) none (some (Operand.tmp 64)) none, type := 63, pos := "ref.go:69", after := #[{ on := 2, ground := Ground.data }, { on := 3, ground := Ground.data }], guard := none }) (v := (.slice (some ⟨b, off, none⟩) k c1)) rfl (by kernel_rfl) (by kernel_rfl) (by kernel_rfl) (fun _ _ _ h => h) (Or.inl ⟨by rfl, ?_⟩) (by assumption) ?_
        · (intro wq hSw; (try dsimp only at hSw); go_simp; first | done | with_reducible rfl)
        try simp only [Act.put, List.setIfInBounds_toArray, List.set_cons_zero, List.set_cons_succ]
        refine wpAnyH_ready (rs := [5]) (by kernel_rfl) (by simp) ?_
        refine AllReadyH.cons (o := { dst := some 66, op := Op.call { callee := Callee.builtin Builtin.append, args := #[Operand.tmp 61, Operand.tmp 65], argTypes := #[63, 63] }, type := 63, pos := "ref.go:69", after := #[{ on := 0, ground := Ground.data }, { on := 4, ground := Ground.data }], guard := none }) rfl (fun K hK => ?_) AllReadyH.nil
        refine step_app pnTy pnOk rfl (.tmp 61) (.tmp 65) rfl rfl rfl ho0 ((HST.out).new (hw0)) HM1.out.1 HM1.out.2 (DoAt.size hd0) ?_
        intro va1 wa1 ho1 hg1 _
        obtain ⟨As1, ns1, cs1, hvs1⟩ := slShape (Owns.slIn pnOk ho1)
        subst hvs1
        have hn1 := New.grown (hn0) hg1 (fun k hk => by have := Owns.blockGe ho0 k hk; omega)
        have hd1 := DoAt.upd hd0 (Upd.grown (S := fun k => w.heap.size + 3 ≤ k) (Upd.refl _ _) hg1 (fun k _ hk => Owns.blockGe ho0 k hk)) (fun k hk => hk)
        have hw1 := New.grown (hw0) hg1 (fun k hk => by have := Owns.blockGe ho0 k hk; have := HWS.out; omega)
        refine hK.out _ _ ?_ (fun hHeld => ?_)
        · exact hn1
        clear hK K
        try simp only [Act.put, List.setIfInBounds_toArray, List.set_cons_zero, List.set_cons_succ]
        refine wpAnyH_ready (rs := [11]) (by kernel_rfl) (by simp) ?_
        refine AllReadyH.cons (o := { dst := some 72, op := Op.call { callee := Callee.builtin Builtin.append, args := #[Operand.tmp 66, Operand.tmp 71], argTypes := #[63, 63] }, type := 63, pos := "ref.go:69", after := #[{ on := 5, ground := Ground.data }, { on := 10, ground := Ground.data }, { on := 5, ground := Ground.chain }], guard := none }) rfl (fun K hK => ?_) AllReadyH.nil
        refine step_app pnTy pnOk rfl (.tmp 66) (.tmp 71) rfl rfl rfl ho1 ((HSB.out).new (hw1)) HM2.out.1 HM2.out.2 (DoAt.size hd1) ?_
        intro va2 wa2 ho2 hg2 _
        obtain ⟨As2, ns2, cs2, hvs2⟩ := slShape (Owns.slIn pnOk ho2)
        subst hvs2
        have hn2 := New.grown (hn1) hg2 (fun k hk => by have := Owns.blockGe ho1 k hk; omega)
        have hd2 := DoAt.upd hd1 (Upd.grown (S := fun k => w.heap.size + 3 ≤ k) (Upd.refl _ _) hg2 (fun k _ hk => Owns.blockGe ho1 k hk)) (fun k hk => hk)
        have hw2 := New.grown (hw1) hg2 (fun k hk => by have := Owns.blockGe ho1 k hk; have := HWS.out; omega)
        refine hK.out _ _ ?_ (fun hHeld => ?_)
        · exact hn2
        clear hK K
        try simp only [Act.put, List.setIfInBounds_toArray, List.set_cons_zero, List.set_cons_succ]
        refine wpAnyH_take (i := 12) (oi := { dst := some 73, op := Op.fieldAddr 70 (Operand.tmp 2) 0, type := 0, pos := "ref.go:69", after := #[{ on := 0, ground := Ground.phase }, { on := 1, ground := Ground.phase }, { on := 2, ground := Ground.phase }, { on := 3, ground := Ground.phase }, { on := 4, ground := Ground.phase }, { on := 5, ground := Ground.phase }, { on := 6, ground := Ground.phase }, { on := 7, ground := Ground.phase }, { on := 8, ground := Ground.phase }, { on := 9, ground := Ground.phase }, { on := 10, ground := Ground.phase }, { on := 11, ground := Ground.phase }], guard := none }) (v := ?_) rfl (by kernel_rfl) (by kernel_rfl) (by kernel_rfl) (fun _ _ _ h => h) (Or.inl ⟨by rfl, ?_⟩) (by assumption) ?_
        rotate_left
        · (intro wq hSw; (try dsimp only at hSw); go_simp; first | done | with_reducible rfl)
        try simp only [Act.put, List.setIfInBounds_toArray, List.set_cons_zero, List.set_cons_succ]
        refine wpAnyH_ready (rs := [13]) (by kernel_rfl) (by simp) ?_
        refine AllReadyH.cons (o := { dst := none, op := Op.store 63 (Operand.tmp 73) (Operand.tmp 72), type := 0, pos := "ref.go:69", after := #[{ on := 12, ground := Ground.data }, { on := 11, ground := Ground.data }, { on := 11, ground := Ground.chain }, { on := 0, ground := Ground.phase }, { on := 1, ground := Ground.phase }, { on := 2, ground := Ground.phase }, { on := 3, ground := Ground.phase }, { on := 4, ground := Ground.phase }, { on := 5, ground := Ground.phase }, { on := 6, ground := Ground.phase }, { on := 7, ground := Ground.phase }, { on := 8, ground := Ground.phase }, { on := 9, ground := Ground.phase }, { on := 10, ground := Ground.phase }, { on := 11, ground := Ground.phase }], guard := none }) rfl (fun K hK => ?_) AllReadyH.nil
        have qz := (DoAt.facts hd2).2.2.1
        have qs : w.heap.size < wa2.heap.size := (hd2).p.lt
        have qc := (DoAt.facts hd2).1
        go_simp
        refine hK.out _ _ ?_ (fun hHeld => ?_)
        · exact New.setCell (hn2) (p := ⟨w.heap.size, 0, none⟩) (Nat.le_refl _) _
        clear hK K
        try simp only [Act.put, List.setIfInBounds_toArray, List.set_cons_zero, List.set_cons_succ]
        refine wpAnyH_done (by kernel_rfl) ?_ _
        clear hHeld
        have hU := doUpd w wa2 (.slice As2 ns2 cs2) (.slice As2 ns2 cs2) (.slice A2 n2 c2)
        have hs6 := (Owns.slIn pnOk ho2).upd hU (fun k hk h => by have := (Owns.lt ho2 k hk).1; omega)
        have hn6 := (hd2).n.upd hU (fun k h => by omega)
        have HS6 := Lib.hid hs6
        have HN6 := Lib.hid hn6
        obtain ⟨y0, y1, yz, b0, b1, b2, b3, b4, t0, t1, tz⟩ := DoAt.facts hd2
        have hgt : w.heap.size + 2 < wa2.heap.size := (hd2).r.lt
        clear hU hs6 hn6
        go_wp2_with fail
        exact bodyPost_ret (v := .tuple #[.agg #[(.slice As2 ns2 cs2), .slice A2 n2 c2], .int .i64 0, .int .i64 0]) (by simp [results, Try.results28, go_sem, t0, t1]) rfl (HR.out _ _ 0 HN6.out (by rw [HSM.out]; rfl) (by rw [← HDK.out]; exact HS6.out))
      · have qL := (DoAt.facts (DoAt.new hDW (New.refl W).drew)).1
        go_simp
        refine hK.out _ _ ?_ (fun hHeld => ?_)
        · exact hDW.n.drew
        clear hK K
        try simp only [Act.put, List.setIfInBounds_toArray, List.set_cons_zero, List.set_cons_succ]
        refine wpAnyH_take (i := 4) (oi := { dst := some 65, op := Op.slice 63 (Operand.tmp 63) none (some (Operand.tmp 64)) none, type := 63, pos := "ref.go:69", after := #[{ on := 2, ground := Ground.data }, { on := 3, ground := Ground.data }], guard := none }) (v := (.slice (some ⟨b, off, none⟩) k c1)) rfl (by kernel_rfl) (by kernel_rfl) (by kernel_rfl) (fun _ _ _ h => h) (Or.inl ⟨by rfl, ?_⟩) (by assumption) ?_
        · (intro wq hSw; (try dsimp only at hSw); go_simp; first | done | with_reducible rfl)
        try simp only [Act.put, List.setIfInBounds_toArray, List.set_cons_zero, List.set_cons_succ]
        refine wpAnyH_ready (rs := [0]) (by kernel_rfl) (by simp) ?_
        refine AllReadyH.cons (o := { dst := some 61, op := Op.buildSlice 63 0 #[], type := 63, pos := "ref.go:69", after := #[], guard := none }) rfl (fun K hK => ?_) AllReadyH.nil
        go_simp
        have hn0 := New.alloc (hDW.n.drew) (.cells #[] 66)
        have ho0 : Owns (W.drew.alloc (.cells #[] 66)) (w.heap.size + 3) 66 2 pnC (.slice (some ⟨W.drew.heap.size, 0, none⟩) 0 0) ([] : List Pnm) := (owns_made W.drew 66 pnC 2).lower (DoAt.size (DoAt.new hDW (New.refl W).drew))
        have hd0 := DoAt.new (DoAt.new hDW (New.refl W).drew) ((New.refl _).alloc (.cells #[] 66))
        have hw0 := New.alloc ((New.refl W).drew) (.cells #[] 66)
        refine hK.out _ _ ?_ (fun hHeld => ?_)
        · exact hn0
        clear hK K
        try simp only [Act.put, List.setIfInBounds_toArray, List.set_cons_zero, List.set_cons_succ]
        refine wpAnyH_ready (rs := [5]) (by kernel_rfl) (by simp) ?_
        refine AllReadyH.cons (o := { dst := some 66, op := Op.call { callee := Callee.builtin Builtin.append, args := #[Operand.tmp 61, Operand.tmp 65], argTypes := #[63, 63] }, type := 63, pos := "ref.go:69", after := #[{ on := 0, ground := Ground.data }, { on := 4, ground := Ground.data }], guard := none }) rfl (fun K hK => ?_) AllReadyH.nil
        refine step_app pnTy pnOk rfl (.tmp 61) (.tmp 65) rfl rfl rfl ho0 ((HST.out).new (hw0)) HM1.out.1 HM1.out.2 (DoAt.size hd0) ?_
        intro va1 wa1 ho1 hg1 _
        obtain ⟨As1, ns1, cs1, hvs1⟩ := slShape (Owns.slIn pnOk ho1)
        subst hvs1
        have hn1 := New.grown (hn0) hg1 (fun k hk => by have := Owns.blockGe ho0 k hk; omega)
        have hd1 := DoAt.upd hd0 (Upd.grown (S := fun k => w.heap.size + 3 ≤ k) (Upd.refl _ _) hg1 (fun k _ hk => Owns.blockGe ho0 k hk)) (fun k hk => hk)
        have hw1 := New.grown (hw0) hg1 (fun k hk => by have := Owns.blockGe ho0 k hk; have := HWS.out; omega)
        refine hK.out _ _ ?_ (fun hHeld => ?_)
        · exact hn1
        clear hK K
        try simp only [Act.put, List.setIfInBounds_toArray, List.set_cons_zero, List.set_cons_succ]
        refine wpAnyH_ready (rs := [11]) (by kernel_rfl) (by simp) ?_
        refine AllReadyH.cons (o := { dst := some 72, op := Op.call { callee := Callee.builtin Builtin.append, args := #[Operand.tmp 66, Operand.tmp 71], argTypes := #[63, 63] }, type := 63, pos := "ref.go:69", after := #[{ on := 5, ground := Ground.data }, { on := 10, ground := Ground.data }, { on := 5, ground := Ground.chain }], guard := none }) rfl (fun K hK => ?_) AllReadyH.nil
        refine step_app pnTy pnOk rfl (.tmp 66) (.tmp 71) rfl rfl rfl ho1 ((HSB.out).new (hw1)) HM2.out.1 HM2.out.2 (DoAt.size hd1) ?_
        intro va2 wa2 ho2 hg2 _
        obtain ⟨As2, ns2, cs2, hvs2⟩ := slShape (Owns.slIn pnOk ho2)
        subst hvs2
        have hn2 := New.grown (hn1) hg2 (fun k hk => by have := Owns.blockGe ho1 k hk; omega)
        have hd2 := DoAt.upd hd1 (Upd.grown (S := fun k => w.heap.size + 3 ≤ k) (Upd.refl _ _) hg2 (fun k _ hk => Owns.blockGe ho1 k hk)) (fun k hk => hk)
        have hw2 := New.grown (hw1) hg2 (fun k hk => by have := Owns.blockGe ho1 k hk; have := HWS.out; omega)
        refine hK.out _ _ ?_ (fun hHeld => ?_)
        · exact hn2
        clear hK K
        try simp only [Act.put, List.setIfInBounds_toArray, List.set_cons_zero, List.set_cons_succ]
        refine wpAnyH_take (i := 12) (oi := { dst := some 73, op := Op.fieldAddr 70 (Operand.tmp 2) 0, type := 0, pos := "ref.go:69", after := #[{ on := 0, ground := Ground.phase }, { on := 1, ground := Ground.phase }, { on := 2, ground := Ground.phase }, { on := 3, ground := Ground.phase }, { on := 4, ground := Ground.phase }, { on := 5, ground := Ground.phase }, { on := 6, ground := Ground.phase }, { on := 7, ground := Ground.phase }, { on := 8, ground := Ground.phase }, { on := 9, ground := Ground.phase }, { on := 10, ground := Ground.phase }, { on := 11, ground := Ground.phase }], guard := none }) (v := ?_) rfl (by kernel_rfl) (by kernel_rfl) (by kernel_rfl) (fun _ _ _ h => h) (Or.inl ⟨by rfl, ?_⟩) (by assumption) ?_
        rotate_left
        · (intro wq hSw; (try dsimp only at hSw); go_simp; first | done | with_reducible rfl)
        try simp only [Act.put, List.setIfInBounds_toArray, List.set_cons_zero, List.set_cons_succ]
        refine wpAnyH_ready (rs := [13]) (by kernel_rfl) (by simp) ?_
        refine AllReadyH.cons (o := { dst := none, op := Op.store 63 (Operand.tmp 73) (Operand.tmp 72), type := 0, pos := "ref.go:69", after := #[{ on := 12, ground := Ground.data }, { on := 11, ground := Ground.data }, { on := 11, ground := Ground.chain }, { on := 0, ground := Ground.phase }, { on := 1, ground := Ground.phase }, { on := 2, ground := Ground.phase }, { on := 3, ground := Ground.phase }, { on := 4, ground := Ground.phase }, { on := 5, ground := Ground.phase }, { on := 6, ground := Ground.phase }, { on := 7, ground := Ground.phase }, { on := 8, ground := Ground.phase }, { on := 9, ground := Ground.phase }, { on := 10, ground := Ground.phase }, { on := 11, ground := Ground.phase }], guard := none }) rfl (fun K hK => ?_) AllReadyH.nil
        have qz := (DoAt.facts hd2).2.2.1
        have qs : w.heap.size < wa2.heap.size := (hd2).p.lt
        have qc := (DoAt.facts hd2).1
        go_simp
        refine hK.out _ _ ?_ (fun hHeld => ?_)
        · exact New.setCell (hn2) (p := ⟨w.heap.size, 0, none⟩) (Nat.le_refl _) _
        clear hK K
        try simp only [Act.put, List.setIfInBounds_toArray, List.set_cons_zero, List.set_cons_succ]
        refine wpAnyH_done (by kernel_rfl) ?_ _
        clear hHeld
        have hU := doUpd w wa2 (.slice As2 ns2 cs2) (.slice As2 ns2 cs2) (.slice A2 n2 c2)
        have hs6 := (Owns.slIn pnOk ho2).upd hU (fun k hk h => by have := (Owns.lt ho2 k hk).1; omega)
        have hn6 := (hd2).n.upd hU (fun k h => by omega)
        have HS6 := Lib.hid hs6
        have HN6 := Lib.hid hn6
        obtain ⟨y0, y1, yz, b0, b1, b2, b3, b4, t0, t1, tz⟩ := DoAt.facts hd2
        have hgt : w.heap.size + 2 < wa2.heap.size := (hd2).r.lt
        clear hU hs6 hn6
        go_wp2_with fail
        exact bodyPost_ret (v := .tuple #[.agg #[(.slice As2 ns2 cs2), .slice A2 n2 c2], .int .i64 0, .int .i64 0]) (by simp [results, Try.results28, go_sem, t0, t1]) rfl (HR.out _ _ 0 HN6.out (by rw [HSM.out]; rfl) (by rw [← HDK.out]; exact HS6.out))
end
end Go.Proofs.Ytcganajbfplmpaa
