/- Chapter 11 (cache), the document's answer: Get, Put. Printed by genCaR3.py. -/
import Derived.Test.YtcganajbfplmpaaCaR2
import Derived.Deep.RegionHeld3
import Derived.Deep.DeepCutAuto
namespace Go.Proofs.Ytcganajbfplmpaa
open Go.RowKit Go.Lap
set_option linter.unusedVariables false

theorem owns_one (w : World) {base : Nat} (hb : base ≤ w.heap.size) (x : Ent) : Owns (w.alloc (.cells #[.int .i64 x.id, .string x.b, .bool x.d] 32)) base 32 3 entC (.slice (some ⟨w.heap.size, 0, none⟩) 1 1) [x] :=
  ⟨rfl, .inr ⟨w.heap.size, 1, _, rfl, hb, Blk.mk_new w _ _, Nat.le_refl _, by unfold maxLen; omega, rfl, rfl⟩⟩
theorem fnd_plc {E : List Ent} {id : Int} {x : Ent} (h : fnd E id = some x) : E[plc E id]? = some x ∧ plc E id < E.length := by
  have hl : plc E id < E.length := by
    have := plc_has E id
    rw [h] at this
    simpa using this.symm
  refine ⟨?_, hl⟩
  unfold fnd at h
  rw [List.find?_eq_some_iff_getElem] at h
  obtain ⟨_, i, hi, hx, hj⟩ := h
  have hp := plc_at (E := E) (id := id) (k := i) (x := x) (by rw [List.getElem?_eq_getElem hi, hx]) (by rename_i a; simpa using a) (fun j y hjl hy => by
    have := hj j hjl
    rw [List.getElem?_eq_getElem (by omega)] at hy
    cases hy
    simpa using this)
  rw [hp, List.getElem?_eq_getElem hi, hx]
theorem plcI_some {E : List Ent} {id : Int} {x : Ent} (h : fnd E id = some x) : plcI E id = (plc E id : Int) := if_pos (fnd_plc h).2
theorem plcI_none {E : List Ent} {id : Int} (h : fnd E id = none) : plcI E id = -1 := by
  unfold plcI
  have := plc_has E id
  rw [h] at this
  exact if_neg (by simpa using this.symm)
def getV (u : Value) : Option Ent → Value
  | some x => .tuple #[u, .string x.b, .int .i64 0]
  | none => .tuple #[u, .string ⟨#[]⟩, .int .i64 111]
def RGetPost (w : World) (v : Value) (E : List Ent) (id : Int) (e : Ending) (w' : World) : Prop := ∃ u, e = .returned (getV u (fnd E id)) ∧ SlIn w' 3 entC u (getE E id) ∧ New w w' ∧ Fresh w v u

set_option maxRecDepth 100000 in
set_option maxHeartbeats 4000000 in
theorem rget_any {v : Value} {E : List Ent} (w : World) (hs : SlIn w 3 entC v E) (hl : E.length ≤ 10000) (id : Int) :
    Calls Try.prog 14 #[v, .int .i64 id] w (RGetPost w v E id) := by
  obtain ⟨A, cp, hv, hcp, hor⟩ := _root_.id hs
  subst hv
  have HS := Lib.hid hs
  have HL := Lib.hid (show E.length ≤ 100000 by omega)
  cases hf : fnd E id with
  | none =>
    have hge := getE_none hf
    have HF := Lib.hid hf
    have HGE := Lib.hid hge
    clear hs hf hge
    go_enter Try.func14, Try.ntmps14
    go_wp2_with fail
    refine (rfind_any w HS.out (by omega) id).mono ?_
    rintro e w2 ⟨rfl, rfl⟩
    rw [plcI_none HF.out]
    go_wp2_with fail
    go_ret3
    exact ⟨_, by rw [HF.out]; rfl, by rw [HGE.out]; exact HS.out, New.refl _, .inl rfl⟩
  | some x =>
    obtain ⟨hx, hlt⟩ := fnd_plc hf
    have HPI := Lib.hid (plcI_some hf)
    have HGE := Lib.hid (show getE E id = x :: wo E (plc E id : Int) by rw [getE_eq, hf]; show x :: delE E id = _; rw [← wo_del, plcI_some hf])
    have HF := Lib.hid hf
    rcases hor with hor | ⟨b, off, rfl, hb, hc⟩
    · rw [hor] at hlt; simp at hlt
    generalize plc E id = k at hx hlt HPI HGE
    obtain ⟨e0, e1, e2⟩ := ent3 hc hx
    have hlt' : (k : Int) < (E.length : Int) := by omega
    have hk0 : (0 : Int) ≤ (k : Int) := by omega
    have hk1 : ¬ (k : Int) < 0 := by omega
    have hwl := wo_len E (k : Int)
    have HM1 := Lib.hid (show [x].length + (wo E (k : Int)).length ≤ maxLen by unfold maxLen; simp only [List.length_singleton]; omega)
    have HM2 := Lib.hid (show ([x].length + (wo E (k : Int)).length) * 32 ≤ 140737488355328 by simp only [List.length_singleton]; omega)
    clear hs hc hx hf hwl
    go_enter Try.func14, Try.ntmps14
    go_wp2_with fail
    refine (rfind_any w HS.out (by omega) id).mono ?_
    rintro e w2 ⟨rfl, hw2⟩
    subst hw2
    rw [HPI.out]
    go_upto_region 4 with fail
    refine wp_region_held_drew (S := fun w' => Held w2 w') (by kernel_rfl) (Held.of (New.refl _).drew) (fun hHeld => ?_)
    refine wpAnyH_take (i := 0) (oi := { dst := some 14, op := Op.move (Operand.tmp 0), type := 28, pos := "ref.go:47", after := #[], guard := none }) (v := ?_) rfl (by kernel_rfl) (by kernel_rfl) (by kernel_rfl) (fun _ _ _ h => h) (Or.inl ⟨by rfl, ?_⟩) (by assumption) ?_
    rotate_left
    · (intro wq hSw; (try dsimp only at hSw); go_simp; first | done | with_reducible rfl)
    try simp only [Act.put, List.setIfInBounds_toArray, List.set_cons_zero, List.set_cons_succ]
    refine wpAnyH_take (i := 1) (oi := { dst := some 15, op := Op.move (Operand.tmp 7), type := 3, pos := "ref.go:47", after := #[], guard := none }) (v := ?_) rfl (by kernel_rfl) (by kernel_rfl) (by kernel_rfl) (fun _ _ _ h => h) (Or.inl ⟨by rfl, ?_⟩) (by assumption) ?_
    rotate_left
    · (intro wq hSw; (try dsimp only at hSw); go_simp; first | done | with_reducible rfl)
    try simp only [Act.put, List.setIfInBounds_toArray, List.set_cons_zero, List.set_cons_succ]
    refine wpAnyH_take (i := 2) (oi := { dst := some 16, op := Op.indexAddr 28 (Operand.tmp 14) (Operand.tmp 15), type := 0, pos := "ref.go:47", after := #[{ on := 0, ground := Ground.data }, { on := 1, ground := Ground.data }], guard := none }) (v := ?_) rfl (by kernel_rfl) (by kernel_rfl) (by kernel_rfl) (fun _ _ _ h => h) (Or.inl ⟨by rfl, ?_⟩) (by assumption) ?_
    rotate_left
    · (intro wq hSw; (try dsimp only at hSw); go_simp; first | done | with_reducible rfl)
    try simp only [Act.put, List.setIfInBounds_toArray, List.set_cons_zero, List.set_cons_succ]
    refine wpAnyH_take (i := 3) (oi := { dst := some 17, op := Op.load 32 (Operand.tmp 16), type := 32, pos := "ref.go:47", after := #[{ on := 2, ground := Ground.data }], guard := none }) (v := ?_) rfl (by kernel_rfl) (by kernel_rfl) (by kernel_rfl) (fun _ _ _ h => h) (Or.inl ⟨by rfl, ?_⟩) (by assumption) ?_
    rotate_left
    · (intro wq hSw; (try dsimp only at hSw); go_simp; first | done | with_reducible rfl)
    try simp only [Act.put, List.setIfInBounds_toArray, List.set_cons_zero, List.set_cons_succ]
    refine wpAnyH_take (i := 5) (oi := { dst := some 19, op := Op.move (Operand.tmp 0), type := 28, pos := "ref.go:47", after := #[], guard := none }) (v := ?_) rfl (by kernel_rfl) (by kernel_rfl) (by kernel_rfl) (fun _ _ _ h => h) (Or.inl ⟨by rfl, ?_⟩) (by assumption) ?_
    rotate_left
    · (intro wq hSw; (try dsimp only at hSw); go_simp; first | done | with_reducible rfl)
    try simp only [Act.put, List.setIfInBounds_toArray, List.set_cons_zero, List.set_cons_succ]
    refine wpAnyH_take (i := 6) (oi := { dst := some 20, op := Op.move (Operand.tmp 7), type := 3, pos := "ref.go:47", after := #[], guard := none }) (v := ?_) rfl (by kernel_rfl) (by kernel_rfl) (by kernel_rfl) (fun _ _ _ h => h) (Or.inl ⟨by rfl, ?_⟩) (by assumption) ?_
    rotate_left
    · (intro wq hSw; (try dsimp only at hSw); go_simp; first | done | with_reducible rfl)
    try simp only [Act.put, List.setIfInBounds_toArray, List.set_cons_zero, List.set_cons_succ]
    refine wpAnyH_take (i := 9) (oi := { dst := some 23, op := Op.move (Operand.tmp 0), type := 28, pos := "ref.go:47", after := #[{ on := 14, ground := Ground.gcOnly Departure.lateStores }], guard := none }) (v := ?_) rfl (by kernel_rfl) (by kernel_rfl) (by kernel_rfl) (fun _ _ _ h => h) (Or.inl ⟨by rfl, ?_⟩) (by assumption) ?_
    rotate_left
    · (intro wq hSw; (try dsimp only at hSw); go_simp; first | done | with_reducible rfl)
    try simp only [Act.put, List.setIfInBounds_toArray, List.set_cons_zero, List.set_cons_succ]
    refine wpAnyH_take (i := 10) (oi := { dst := some 24, op := Op.move (Operand.tmp 7), type := 3, pos := "ref.go:47", after := #[{ on := 14, ground := Ground.gcOnly Departure.lateStores }], guard := none }) (v := ?_) rfl (by kernel_rfl) (by kernel_rfl) (by kernel_rfl) (fun _ _ _ h => h) (Or.inl ⟨by rfl, ?_⟩) (by assumption) ?_
    rotate_left
    · (intro wq hSw; (try dsimp only at hSw); go_simp; first | done | with_reducible rfl)
    try simp only [Act.put, List.setIfInBounds_toArray, List.set_cons_zero, List.set_cons_succ]
    refine wpAnyH_take (i := 11) (oi := { dst := some 25, op := Op.indexAddr 28 (Operand.tmp 23) (Operand.tmp 24), type := 0, pos := "ref.go:47", after := #[{ on := 9, ground := Ground.data }, { on := 10, ground := Ground.data }, { on := 14, ground := Ground.gcOnly Departure.lateStores }], guard := none }) (v := ?_) rfl (by kernel_rfl) (by kernel_rfl) (by kernel_rfl) (fun _ _ _ h => h) (Or.inl ⟨by rfl, ?_⟩) (by assumption) ?_
    rotate_left
    · (intro wq hSw; (try dsimp only at hSw); go_simp; first | done | with_reducible rfl)
    try simp only [Act.put, List.setIfInBounds_toArray, List.set_cons_zero, List.set_cons_succ]
    refine wpAnyH_take (i := 12) (oi := { dst := some 26, op := Op.fieldAddr 32 (Operand.tmp 25) 1, type := 0, pos := "ref.go:47", after := #[{ on := 11, ground := Ground.data }, { on := 14, ground := Ground.gcOnly Departure.lateStores }], guard := none }) (v := ?_) rfl (by kernel_rfl) (by kernel_rfl) (by kernel_rfl) (fun _ _ _ h => h) (Or.inl ⟨by rfl, ?_⟩) (by assumption) ?_
    rotate_left
    · (intro wq hSw; (try dsimp only at hSw); go_simp; first | done | with_reducible rfl)
    try simp only [Act.put, List.setIfInBounds_toArray, List.set_cons_zero, List.set_cons_succ]
    refine wpAnyH_take (i := 13) (oi := { dst := some 27, op := Op.load 9 (Operand.tmp 26), type := 9, pos := "ref.go:47", after := #[{ on := 12, ground := Ground.data }, { on := 14, ground := Ground.gcOnly Departure.lateStores }], guard := none }) (v := ?_) rfl (by kernel_rfl) (by kernel_rfl) (by kernel_rfl) (fun _ _ _ h => h) (Or.inl ⟨by rfl, ?_⟩) (by assumption) ?_
    rotate_left
    · (intro wq hSw; (try dsimp only at hSw); go_simp; first | done | with_reducible rfl)
    try simp only [Act.put, List.setIfInBounds_toArray, List.set_cons_zero, List.set_cons_succ]
    refine wpAnyH_ready (rs := [4, 7]) (by kernel_rfl) (by simp) ?_
    refine AllReadyH.cons (o := { dst := some 18, op := Op.buildSlice 28 1 #[(0, Operand.tmp 17)], type := 28, pos := "ref.go:47", after := #[{ on := 3, ground := Ground.data }], guard := none }) rfl (fun K hK => ?_) (AllReadyH.cons (o := { dst := some 21, op := Op.call { callee := Callee.value (Operand.func 38), args := #[Operand.tmp 19, Operand.tmp 20], argTypes := #[28, 3] }, type := 28, pos := "ref.go:47", after := #[{ on := 5, ground := Ground.data }, { on := 6, ground := Ground.data }], guard := none }) rfl (fun K hK => ?_) AllReadyH.nil)
    · go_simp
      have hn0 := New.alloc ((New.refl w2).drew) (.cells #[.int .i64 x.id, .string x.b, .bool x.d] 32)
      have ho0 : Owns (w2.drew.alloc (.cells #[.int .i64 x.id, .string x.b, .bool x.d] 32)) w2.heap.size 32 3 entC (.slice (some ⟨w2.drew.heap.size, 0, none⟩) 1 1) [(x : Ent)] := owns_one w2.drew (Below.size ((New.refl w2).drew)) _
      refine hK.out _ _ ?_ (fun hHeld => ?_)
      · exact Held.of hn0
      clear hK K
      try simp only [Act.put, List.setIfInBounds_toArray, List.set_cons_zero, List.set_cons_succ]
      refine wpAnyH_ready (rs := [7]) (by kernel_rfl) (by simp) ?_
      refine AllReadyH.cons (o := { dst := some 21, op := Op.call { callee := Callee.value (Operand.func 38), args := #[Operand.tmp 19, Operand.tmp 20], argTypes := #[28, 3] }, type := 28, pos := "ref.go:47", after := #[{ on := 5, ground := Ground.data }, { on := 6, ground := Ground.data }], guard := none }) rfl (fun K hK => ?_) AllReadyH.nil
      go_simp
      refine (rwithout_any (w2.drew.alloc (.cells #[.int .i64 x.id, .string x.b, .bool x.d] 32)) (HS.out.new (hn0)) HL.out ((k : Int))).mono ?_
      rintro e w1 ⟨u1, rfl, hw1, hc1⟩
      have hn1 := New.trans (hn0) hc1
      have hr1 := Owns.slIn entOk hw1
      have ho1 := Owns.new ho0 hc1
      refine hK.out _ _ ?_ (fun hHeld => ?_)
      · exact Held.of hn1
      clear hK K
      try simp only [Act.put, List.setIfInBounds_toArray, List.set_cons_zero, List.set_cons_succ]
      refine wpAnyH_ready (rs := [8]) (by kernel_rfl) (by simp) ?_
      refine AllReadyH.cons (o := { dst := some 22, op := Op.call { callee := Callee.builtin Builtin.append, args := #[Operand.tmp 18, Operand.tmp 21], argTypes := #[28, 28] }, type := 28, pos := "ref.go:47", after := #[{ on := 4, ground := Ground.data }, { on := 7, ground := Ground.data }, { on := 7, ground := Ground.chain }], guard := none }) rfl (fun K hK => ?_) AllReadyH.nil
      refine step_app entTy entOk rfl (.tmp 18) (.tmp 21) rfl rfl rfl ho1 hr1 HM1.out HM2.out (by have := Below.size (hn1); omega) ?_
      intro va2 wa2 ho2 hg2 _
      have hn2 := New.grown (hn1) hg2 (fun k hk => Owns.blockGe ho1 k hk)
      refine hK.out _ _ ?_ (fun hHeld => ?_)
      · exact Held.of hn2
      clear hK K
      try simp only [Act.put, List.setIfInBounds_toArray, List.set_cons_zero, List.set_cons_succ]
      refine wpAnyH_take (i := 14) (oi := { dst := some 4, op := Op.assign (Operand.tmp 22), type := 28, pos := "ref.go:47", after := #[{ on := 8, ground := Ground.data }, { on := 8, ground := Ground.chain }, { on := 0, ground := Ground.phase }, { on := 1, ground := Ground.phase }, { on := 2, ground := Ground.phase }, { on := 3, ground := Ground.phase }, { on := 4, ground := Ground.phase }, { on := 5, ground := Ground.phase }, { on := 6, ground := Ground.phase }, { on := 7, ground := Ground.phase }, { on := 8, ground := Ground.phase }, { on := 9, ground := Ground.textOnly Departure.lateStores }, { on := 10, ground := Ground.textOnly Departure.lateStores }, { on := 11, ground := Ground.textOnly Departure.lateStores }, { on := 12, ground := Ground.textOnly Departure.lateStores }, { on := 13, ground := Ground.textOnly Departure.lateStores }], guard := none }) (v := ?_) rfl (by kernel_rfl) (by kernel_rfl) (by kernel_rfl) (fun _ _ _ h => h) (Or.inl ⟨by rfl, ?_⟩) (by assumption) ?_
      rotate_left
      · (intro wq hSw; (try dsimp only at hSw); go_simp; first | done | with_reducible rfl)
      try simp only [Act.put, List.setIfInBounds_toArray, List.set_cons_zero, List.set_cons_succ]
      refine wpAnyH_take (i := 15) (oi := { dst := some 5, op := Op.assign (Operand.tmp 27), type := 9, pos := "ref.go:47", after := #[{ on := 13, ground := Ground.data }, { on := 14, ground := Ground.chain }, { on := 0, ground := Ground.phase }, { on := 1, ground := Ground.phase }, { on := 2, ground := Ground.phase }, { on := 3, ground := Ground.phase }, { on := 4, ground := Ground.phase }, { on := 5, ground := Ground.phase }, { on := 6, ground := Ground.phase }, { on := 7, ground := Ground.phase }, { on := 8, ground := Ground.phase }, { on := 9, ground := Ground.phase }, { on := 10, ground := Ground.phase }, { on := 11, ground := Ground.phase }, { on := 12, ground := Ground.phase }, { on := 13, ground := Ground.phase }, { on := 14, ground := Ground.phase }], guard := none }) (v := ?_) rfl (by kernel_rfl) (by kernel_rfl) (by kernel_rfl) (fun _ _ _ h => h) (Or.inl ⟨by rfl, ?_⟩) (by assumption) ?_
      rotate_left
      · (intro wq hSw; (try dsimp only at hSw); go_simp; first | done | with_reducible rfl)
      try simp only [Act.put, List.setIfInBounds_toArray, List.set_cons_zero, List.set_cons_succ]
      refine wpAnyH_take (i := 16) (oi := { dst := some 6, op := Op.assign (Operand.const (Value.int IntKind.i64 0)), type := 24, pos := "ref.go:47", after := #[{ on := 15, ground := Ground.chain }, { on := 0, ground := Ground.phase }, { on := 1, ground := Ground.phase }, { on := 2, ground := Ground.phase }, { on := 3, ground := Ground.phase }, { on := 4, ground := Ground.phase }, { on := 5, ground := Ground.phase }, { on := 6, ground := Ground.phase }, { on := 7, ground := Ground.phase }, { on := 8, ground := Ground.phase }, { on := 9, ground := Ground.phase }, { on := 10, ground := Ground.phase }, { on := 11, ground := Ground.phase }, { on := 12, ground := Ground.phase }, { on := 13, ground := Ground.phase }, { on := 14, ground := Ground.phase }, { on := 15, ground := Ground.phase }], guard := none }) (v := ?_) rfl (by kernel_rfl) (by kernel_rfl) (by kernel_rfl) (fun _ _ _ h => h) (Or.inl ⟨by rfl, ?_⟩) (by assumption) ?_
      rotate_left
      · (intro wq hSw; (try dsimp only at hSw); go_simp; first | done | with_reducible rfl)
      try simp only [Act.put, List.setIfInBounds_toArray, List.set_cons_zero, List.set_cons_succ]
      refine wpAnyH_done (by kernel_rfl) ?_ _
      clear hHeld
      go_wp2_with fail
      go_ret3
      exact ⟨_, by rw [HF.out]; rfl, by rw [HGE.out]; exact Owns.slIn entOk ho2, hn2, Fresh.of ho2 (Nat.le_refl _)⟩
    · go_simp
      refine (rwithout_any w2.drew (HS.out.new ((New.refl w2).drew)) HL.out ((k : Int))).mono ?_
      rintro e w0 ⟨u0, rfl, hw0, hc0⟩
      have hn0 := New.trans ((New.refl w2).drew) hc0
      have hr0 := Owns.slIn entOk hw0
      refine hK.out _ _ ?_ (fun hHeld => ?_)
      · exact Held.of hn0
      clear hK K
      try simp only [Act.put, List.setIfInBounds_toArray, List.set_cons_zero, List.set_cons_succ]
      refine wpAnyH_ready (rs := [4]) (by kernel_rfl) (by simp) ?_
      refine AllReadyH.cons (o := { dst := some 18, op := Op.buildSlice 28 1 #[(0, Operand.tmp 17)], type := 28, pos := "ref.go:47", after := #[{ on := 3, ground := Ground.data }], guard := none }) rfl (fun K hK => ?_) AllReadyH.nil
      go_simp
      have hn1 := New.alloc (hn0) (.cells #[.int .i64 x.id, .string x.b, .bool x.d] 32)
      have ho1 : Owns (w0.alloc (.cells #[.int .i64 x.id, .string x.b, .bool x.d] 32)) w2.heap.size 32 3 entC (.slice (some ⟨w0.heap.size, 0, none⟩) 1 1) [(x : Ent)] := owns_one w0 (Below.size (hn0)) _
      have hr1 := SlIn.new hr0 ((New.refl _).alloc (.cells #[.int .i64 x.id, .string x.b, .bool x.d] 32))
      refine hK.out _ _ ?_ (fun hHeld => ?_)
      · exact Held.of hn1
      clear hK K
      try simp only [Act.put, List.setIfInBounds_toArray, List.set_cons_zero, List.set_cons_succ]
      refine wpAnyH_ready (rs := [8]) (by kernel_rfl) (by simp) ?_
      refine AllReadyH.cons (o := { dst := some 22, op := Op.call { callee := Callee.builtin Builtin.append, args := #[Operand.tmp 18, Operand.tmp 21], argTypes := #[28, 28] }, type := 28, pos := "ref.go:47", after := #[{ on := 4, ground := Ground.data }, { on := 7, ground := Ground.data }, { on := 7, ground := Ground.chain }], guard := none }) rfl (fun K hK => ?_) AllReadyH.nil
      refine step_app entTy entOk rfl (.tmp 18) (.tmp 21) rfl rfl rfl ho1 hr1 HM1.out HM2.out (by have := Below.size (hn1); omega) ?_
      intro va2 wa2 ho2 hg2 _
      have hn2 := New.grown (hn1) hg2 (fun k hk => Owns.blockGe ho1 k hk)
      refine hK.out _ _ ?_ (fun hHeld => ?_)
      · exact Held.of hn2
      clear hK K
      try simp only [Act.put, List.setIfInBounds_toArray, List.set_cons_zero, List.set_cons_succ]
      refine wpAnyH_take (i := 14) (oi := { dst := some 4, op := Op.assign (Operand.tmp 22), type := 28, pos := "ref.go:47", after := #[{ on := 8, ground := Ground.data }, { on := 8, ground := Ground.chain }, { on := 0, ground := Ground.phase }, { on := 1, ground := Ground.phase }, { on := 2, ground := Ground.phase }, { on := 3, ground := Ground.phase }, { on := 4, ground := Ground.phase }, { on := 5, ground := Ground.phase }, { on := 6, ground := Ground.phase }, { on := 7, ground := Ground.phase }, { on := 8, ground := Ground.phase }, { on := 9, ground := Ground.textOnly Departure.lateStores }, { on := 10, ground := Ground.textOnly Departure.lateStores }, { on := 11, ground := Ground.textOnly Departure.lateStores }, { on := 12, ground := Ground.textOnly Departure.lateStores }, { on := 13, ground := Ground.textOnly Departure.lateStores }], guard := none }) (v := ?_) rfl (by kernel_rfl) (by kernel_rfl) (by kernel_rfl) (fun _ _ _ h => h) (Or.inl ⟨by rfl, ?_⟩) (by assumption) ?_
      rotate_left
      · (intro wq hSw; (try dsimp only at hSw); go_simp; first | done | with_reducible rfl)
      try simp only [Act.put, List.setIfInBounds_toArray, List.set_cons_zero, List.set_cons_succ]
      refine wpAnyH_take (i := 15) (oi := { dst := some 5, op := Op.assign (Operand.tmp 27), type := 9, pos := "ref.go:47", after := #[{ on := 13, ground := Ground.data }, { on := 14, ground := Ground.chain }, { on := 0, ground := Ground.phase }, { on := 1, ground := Ground.phase }, { on := 2, ground := Ground.phase }, { on := 3, ground := Ground.phase }, { on := 4, ground := Ground.phase }, { on := 5, ground := Ground.phase }, { on := 6, ground := Ground.phase }, { on := 7, ground := Ground.phase }, { on := 8, ground := Ground.phase }, { on := 9, ground := Ground.phase }, { on := 10, ground := Ground.phase }, { on := 11, ground := Ground.phase }, { on := 12, ground := Ground.phase }, { on := 13, ground := Ground.phase }, { on := 14, ground := Ground.phase }], guard := none }) (v := ?_) rfl (by kernel_rfl) (by kernel_rfl) (by kernel_rfl) (fun _ _ _ h => h) (Or.inl ⟨by rfl, ?_⟩) (by assumption) ?_
      rotate_left
      · (intro wq hSw; (try dsimp only at hSw); go_simp; first | done | with_reducible rfl)
      try simp only [Act.put, List.setIfInBounds_toArray, List.set_cons_zero, List.set_cons_succ]
      refine wpAnyH_take (i := 16) (oi := { dst := some 6, op := Op.assign (Operand.const (Value.int IntKind.i64 0)), type := 24, pos := "ref.go:47", after := #[{ on := 15, ground := Ground.chain }, { on := 0, ground := Ground.phase }, { on := 1, ground := Ground.phase }, { on := 2, ground := Ground.phase }, { on := 3, ground := Ground.phase }, { on := 4, ground := Ground.phase }, { on := 5, ground := Ground.phase }, { on := 6, ground := Ground.phase }, { on := 7, ground := Ground.phase }, { on := 8, ground := Ground.phase }, { on := 9, ground := Ground.phase }, { on := 10, ground := Ground.phase }, { on := 11, ground := Ground.phase }, { on := 12, ground := Ground.phase }, { on := 13, ground := Ground.phase }, { on := 14, ground := Ground.phase }, { on := 15, ground := Ground.phase }], guard := none }) (v := ?_) rfl (by kernel_rfl) (by kernel_rfl) (by kernel_rfl) (fun _ _ _ h => h) (Or.inl ⟨by rfl, ?_⟩) (by assumption) ?_
      rotate_left
      · (intro wq hSw; (try dsimp only at hSw); go_simp; first | done | with_reducible rfl)
      try simp only [Act.put, List.setIfInBounds_toArray, List.set_cons_zero, List.set_cons_succ]
      refine wpAnyH_done (by kernel_rfl) ?_ _
      clear hHeld
      go_wp2_with fail
      go_ret3
      exact ⟨_, by rw [HF.out]; rfl, by rw [HGE.out]; exact Owns.slIn entOk ho2, hn2, Fresh.of ho2 (Nat.le_refl _)⟩

def retV (u : Value) : Option Ent → Value
  | none => .tuple #[u, .agg #[.int .i64 0, .string ⟨#[]⟩, .bool false], .bool false]
  | some z => .tuple #[u, .agg #[.int .i64 z.id, .string z.b, .bool z.d], .bool true]
def RPutPost (w : World) (v : Value) (room : Nat) (E : List Ent) (id : Int) (b : ByteArray) (d : Bool) (e : Ending) (w' : World) : Prop := ∃ u, e = .returned (retV u (frontE E id b d)[room]?) ∧ SlIn w' 3 entC u (putE room E id b d) ∧ New w w' ∧ Fresh w v u
theorem front_wo (E : List Ent) (id : Int) (b : ByteArray) (d : Bool) {dd : Bool} (h : dd = (d || ((fnd E id).elim false (·.d)))) : [(⟨id, b, dd⟩ : Ent)] ++ wo E (plcI E id) = frontE E id b d := by
  rw [frontE_eq, wo_del, h]; rfl
theorem slUpd8 {w w' : World} {S : Nat → Prop} {A : Option Addr} {n c : Nat} {l : List Ent} (h : SlIn w 3 entC (.slice A n c) l) (hu : Upd S w w') (hS : ∀ b off, A = some ⟨b, off, none⟩ → ¬ S b) : SlIn w' 3 entC (.slice A n c) l := by
  obtain ⟨A', c', hv, hc, hor⟩ := h
  cases hv
  refine ⟨A, c, rfl, hc, hor.imp (fun h => h) ?_⟩
  rintro ⟨b, off, rfl, hb, hh⟩
  exact ⟨b, off, rfl, Nat.lt_of_lt_of_le hb hu.size, fun k x hk j u hj => (upd_cellC hu hb (hS b off rfl) _).trans (hh k x hk j u hj)⟩
theorem Blk3R {w : World} {g t : Nat} {a b c : Value} (h : Blk w g t #[a, b, c]) : g < w.heap.size ∧ w.cell? ⟨g, 0, none⟩ = some a ∧ w.cell? ⟨g, 1, none⟩ = some b ∧ w.cell? ⟨g, 2, none⟩ = some c ∧ (∀ i, w.frozen? ⟨g, i, none⟩ = false) := ⟨h.lt, h.cell 0, h.cell 1, h.cell 2, h.frozen⟩

set_option maxRecDepth 100000 in
set_option maxHeartbeats 8000000 in
theorem rput_any {v : Value} {E : List Ent} (w : World) (hs : SlIn w 3 entC v E) (hl : E.length ≤ 10000) (room : Nat) (hr : room ≤ 10000) (id : Int) (bb : ByteArray) (d : Bool) :
    Calls Try.prog 12 #[v, .int .i64 (room : Int), .int .i64 id, .string bb, .bool d] w (RPutPost w v room E id bb d) := by
  obtain ⟨A, cp, hv, hcp, hor⟩ := _root_.id hs
  subst hv
  have HL := Lib.hid (show E.length ≤ 100000 by omega)
  have HS0 := Lib.hid hs
  have hZ := (Blk.mk_new w 32 #[.int .i64 0, .string ⟨#[]⟩, .bool false]).alloc (.cells #[.int .i64 id, .string bb, .bool d] 32)
  have hX0 := Blk.mk_new (w.alloc (.cells #[.int .i64 0, .string ⟨#[]⟩, .bool false] 32)) 32 #[.int .i64 0, .string ⟨#[]⟩, .bool false]
  have hX := Blk.mk_new (w.alloc (.cells #[.int .i64 0, .string ⟨#[]⟩, .bool false] 32)) 32 #[.int .i64 id, .string bb, .bool d]
  rw [World.size_alloc] at hX hX0
  have hN1 := (New.refl w).alloc (.cells #[.int .i64 0, .string ⟨#[]⟩, .bool false] 32)
  have hN := hN1.alloc (.cells #[.int .i64 id, .string bb, .bool d] 32)
  have HS1 := Lib.hid (hs.new hN1)
  obtain ⟨t0, t1, t2, t3, tz⟩ := Blk3R hX0
  obtain ⟨q0, q1, q2, q3, qz⟩ := Blk3R hX
  have HZ := Lib.hid hZ
  have HX := Lib.hid hX
  have HN := Lib.hid hN
  have HS2 := Lib.hid (hs.new hN)
  clear hZ hX0 hX hN hN1
  cases hf : fnd E id with
  | none =>
    have HPI := Lib.hid (plcI_none hf)
    have HFE := Lib.hid (front_wo E id bb d (dd := d) (by rw [hf]; simp))
    clear hs hf hor
    go_enter Try.func12, Try.ntmps12
    go_wp2_with fail
    refine (rfind_any _ HS1.out (by omega) id).mono ?_
    rintro e w2 ⟨rfl, hw2⟩
    subst hw2
    rw [HPI.out]
    rw [HPI.out] at HFE
    go_upto_region 5 with fail
    have hB11 : Blk ((w.alloc (.cells #[.int .i64 0, .string ⟨#[]⟩, .bool false] 32)).alloc (.cells #[.int .i64 id, .string bb, .bool d] 32)) w.heap.size 32 #[.int .i64 0, .string ⟨#[]⟩, .bool false] := (Blk.mk_new w 32 #[.int .i64 0, .string ⟨#[]⟩, .bool false]).alloc _
    have hB14 : Blk ((w.alloc (.cells #[.int .i64 0, .string ⟨#[]⟩, .bool false] 32)).alloc (.cells #[.int .i64 id, .string bb, .bool d] 32)) (w.heap.size + 1) 32 #[.int .i64 id, .string bb, .bool d] := by have := Blk.mk_new (w.alloc (.cells #[.int .i64 0, .string ⟨#[]⟩, .bool false] 32)) 32 #[.int .i64 id, .string bb, .bool d]; rw [World.size_alloc] at this; exact this
    have hNW : New w ((w.alloc (.cells #[.int .i64 0, .string ⟨#[]⟩, .bool false] 32)).alloc (.cells #[.int .i64 id, .string bb, .bool d] 32)) := ((New.refl w).alloc _).alloc _
    have hSW := HS0.out.new hNW
    clear t0 t1 t2 t3 tz q0 q1 q2 q3 qz HZ HX HN HS1 HS2
    generalize ((w.alloc (.cells #[.int .i64 0, .string ⟨#[]⟩, .bool false] 32)).alloc (.cells #[.int .i64 id, .string bb, .bool d] 32)) = W at *
    have HFE := Lib.hid (show [(⟨id, bb, d⟩ : Ent)] ++ wo E (-1) = frontE E id bb d from HFE.out)
    have HS := Lib.hid hSW
    have HB11 := Lib.hid hB11
    have HNW := Lib.hid hNW
    have HW11 := Lib.hid hB11.lt
    obtain ⟨r0, r1, r2, r3, rz⟩ := Blk3R hB14
    have hwl := wo_len E (-1)
    have HM1 := Lib.hid (show [(⟨id, bb, d⟩ : Ent)].length + (wo E (-1)).length ≤ maxLen by unfold maxLen; simp only [List.length_singleton]; omega)
    have HM2 := Lib.hid (show ([(⟨id, bb, d⟩ : Ent)].length + (wo E (-1)).length) * 32 ≤ 140737488355328 by simp only [List.length_singleton]; omega)
    have hfl : (frontE E id bb d).length ≤ 10001 := by have := front_len E id bb d; omega
    clear hSW hB11 hB14 hNW hwl
    refine wp_region_held_drew (S := fun w' => Held W w') (by kernel_rfl) (Held.of (New.refl _).drew) (fun hHeld => ?_)
    refine wpAnyH_take (i := 0) (oi := { dst := some 34, op := Op.load 32 (Operand.tmp 14), type := 32, pos := "ref.go:34", after := #[], guard := none }) (v := ?_) rfl (by kernel_rfl) (by kernel_rfl) (by kernel_rfl) (fun _ _ _ h => h) (Or.inl ⟨by rfl, ?_⟩) (by assumption) ?_
    rotate_left
    · (intro wq hSw; (try dsimp only at hSw); go_simp; first | done | with_reducible rfl)
    try simp only [Act.put, List.setIfInBounds_toArray, List.set_cons_zero, List.set_cons_succ]
    refine wpAnyH_take (i := 2) (oi := { dst := some 36, op := Op.move (Operand.tmp 0), type := 28, pos := "ref.go:34", after := #[], guard := none }) (v := ?_) rfl (by kernel_rfl) (by kernel_rfl) (by kernel_rfl) (fun _ _ _ h => h) (Or.inl ⟨by rfl, ?_⟩) (by assumption) ?_
    rotate_left
    · (intro wq hSw; (try dsimp only at hSw); go_simp; first | done | with_reducible rfl)
    try simp only [Act.put, List.setIfInBounds_toArray, List.set_cons_zero, List.set_cons_succ]
    refine wpAnyH_take (i := 3) (oi := { dst := some 37, op := Op.move (Operand.tmp 13), type := 3, pos := "ref.go:34", after := #[], guard := none }) (v := ?_) rfl (by kernel_rfl) (by kernel_rfl) (by kernel_rfl) (fun _ _ _ h => h) (Or.inl ⟨by rfl, ?_⟩) (by assumption) ?_
    rotate_left
    · (intro wq hSw; (try dsimp only at hSw); go_simp; first | done | with_reducible rfl)
    try simp only [Act.put, List.setIfInBounds_toArray, List.set_cons_zero, List.set_cons_succ]
    refine wpAnyH_ready (rs := [1, 4]) (by kernel_rfl) (by simp) ?_
    refine AllReadyH.cons (o := { dst := some 35, op := Op.buildSlice 28 1 #[(0, Operand.tmp 34)], type := 28, pos := "ref.go:34", after := #[{ on := 0, ground := Ground.data }], guard := none }) rfl (fun K hK => ?_) (AllReadyH.cons (o := { dst := some 38, op := Op.call { callee := Callee.value (Operand.func 38), args := #[Operand.tmp 36, Operand.tmp 37], argTypes := #[28, 3] }, type := 28, pos := "ref.go:34", after := #[{ on := 2, ground := Ground.data }, { on := 3, ground := Ground.data }], guard := none }) rfl (fun K hK => ?_) AllReadyH.nil)
    · go_simp
      have hn0 := New.alloc ((New.refl W).drew) (.cells #[.int .i64 id, .string bb, .bool d] 32)
      have ho0 : Owns (W.drew.alloc (.cells #[.int .i64 id, .string bb, .bool d] 32)) W.heap.size 32 3 entC (.slice (some ⟨W.drew.heap.size, 0, none⟩) 1 1) [((⟨id, bb, d⟩ : Ent) : Ent)] := owns_one W.drew (Below.size ((New.refl W).drew)) _
      refine hK.out _ _ ?_ (fun hHeld => ?_)
      · exact Held.of hn0
      clear hK K
      try simp only [Act.put, List.setIfInBounds_toArray, List.set_cons_zero, List.set_cons_succ]
      refine wpAnyH_ready (rs := [4]) (by kernel_rfl) (by simp) ?_
      refine AllReadyH.cons (o := { dst := some 38, op := Op.call { callee := Callee.value (Operand.func 38), args := #[Operand.tmp 36, Operand.tmp 37], argTypes := #[28, 3] }, type := 28, pos := "ref.go:34", after := #[{ on := 2, ground := Ground.data }, { on := 3, ground := Ground.data }], guard := none }) rfl (fun K hK => ?_) AllReadyH.nil
      go_simp
      refine (rwithout_any (W.drew.alloc (.cells #[.int .i64 id, .string bb, .bool d] 32)) (HS.out.new (hn0)) HL.out ((-1))).mono ?_
      rintro e w1 ⟨u1, rfl, hw1, hc1⟩
      have hn1 := New.trans (hn0) hc1
      have hr1 := Owns.slIn entOk hw1
      have ho1 := Owns.new ho0 hc1
      refine hK.out _ _ ?_ (fun hHeld => ?_)
      · exact Held.of hn1
      clear hK K
      try simp only [Act.put, List.setIfInBounds_toArray, List.set_cons_zero, List.set_cons_succ]
      refine wpAnyH_ready (rs := [5]) (by kernel_rfl) (by simp) ?_
      refine AllReadyH.cons (o := { dst := some 39, op := Op.call { callee := Callee.builtin Builtin.append, args := #[Operand.tmp 35, Operand.tmp 38], argTypes := #[28, 28] }, type := 28, pos := "ref.go:34", after := #[{ on := 1, ground := Ground.data }, { on := 4, ground := Ground.data }, { on := 4, ground := Ground.chain }], guard := none }) rfl (fun K hK => ?_) AllReadyH.nil
      refine step_app entTy entOk rfl (.tmp 35) (.tmp 38) rfl rfl rfl ho1 hr1 HM1.out HM2.out (by have := Below.size (hn1); omega) ?_
      intro va2 wa2 ho2 hg2 _
      have hn2 := New.grown (hn1) hg2 (fun k hk => Owns.blockGe ho1 k hk)
      refine hK.out _ _ ?_ (fun hHeld => ?_)
      · exact Held.of hn2
      clear hK K
      try simp only [Act.put, List.setIfInBounds_toArray, List.set_cons_zero, List.set_cons_succ]
      refine wpAnyH_take (i := 6) (oi := { dst := some 15, op := Op.assign (Operand.tmp 39), type := 28, pos := "ref.go:34", after := #[{ on := 5, ground := Ground.data }, { on := 5, ground := Ground.chain }, { on := 0, ground := Ground.phase }, { on := 1, ground := Ground.phase }, { on := 2, ground := Ground.phase }, { on := 3, ground := Ground.phase }, { on := 4, ground := Ground.phase }, { on := 5, ground := Ground.phase }], guard := none }) (v := ?_) rfl (by kernel_rfl) (by kernel_rfl) (by kernel_rfl) (fun _ _ _ h => h) (Or.inl ⟨by rfl, ?_⟩) (by assumption) ?_
      rotate_left
      · (intro wq hSw; (try dsimp only at hSw); go_simp; first | done | with_reducible rfl)
      try simp only [Act.put, List.setIfInBounds_toArray, List.set_cons_zero, List.set_cons_succ]
      refine wpAnyH_done (by kernel_rfl) ?_ _
      clear hHeld
      have hown := ho2
      rw [HFE.out] at hown
      have hB11 := HB11.out.new (hn2)
      have hNx := New.trans HNW.out (hn2)
      have hbo : ∀ j, va2.ownBlock = some j → W.heap.size ≤ j := fun j hj => (Owns.lt ho2 j hj).1
      generalize wa2 = wx at *
      obtain ⟨Ao, co, hvo, hco, horo⟩ := Owns.slIn entOk hown
      have HSO := Lib.hid (Owns.slIn entOk hown)
      subst hvo
      have HB := Lib.hid hB11
      have HNX := Lib.hid hNx
      clear hown hNx r0 r1 r2 r3 rz
      by_cases hgt : room < (frontE E id bb d).length
      · have hgt' : (room : Int) < ((frontE E id bb d).length : Int) := by omega
        have hr0 : (0 : Int) ≤ (room : Int) := by omega
        have hrc : (room : Int) ≤ (co : Int) := by omega
        have hrn : (room : Int).toNat = room := by omega
        obtain ⟨z, hz⟩ : ∃ z, (frontE E id bb d)[room]? = some z := ⟨_, List.getElem?_eq_getElem hgt⟩
        rcases horo with horo | ⟨bo, offo, rfl, hbx, hcx⟩
        · rw [horo] at hgt; simp at hgt
        obtain ⟨f0, f1, f2⟩ := ent3 hcx hz
        obtain ⟨zi, zb, zd⟩ := z
        have HZZ := Lib.hid hz
        have HBO := Lib.hid hbx
        have HFS : Hid (w.heap.size ≤ bo) := Lib.hid (by have h1 := hbo bo rfl; have h2 := HW11.out; omega)
        have HBN : Hid (¬ bo = w.heap.size) := Lib.hid (by have h1 := hbo bo rfl; have h2 := HW11.out; omega)
        have hu8 : ∀ wy : World, Upd (· = w.heap.size) wy (((wy.setCell ⟨w.heap.size, 0, none⟩ (.int .i64 zi)).setCell ⟨w.heap.size, 1, none⟩ (.string zb)).setCell ⟨w.heap.size, 2, none⟩ (.bool zd)) := fun wy => (((Upd.refl _ wy).setIn 0 _).setIn 1 _).setIn 2 _
        have HB8 := Lib.hid (((hB11.drew.set_ 0 (.int .i64 zi)).set_ 1 (.string zb)).set_ 2 (.bool zd))
        have HN8 := Lib.hid (HNX.out.drew.upd (hu8 _) (fun j hj => by omega))
        have HSL := Lib.hid (slUpd8 (S := (· = w.heap.size)) ((HSO.out.new (New.refl wx).drew).take (k := room) (c' := co) (by omega) (by omega)) (hu8 wx.drew) (fun b0 off0 e => by cases e; exact HBN.out))
        obtain ⟨y0, y1, y2, y3, yz⟩ := Blk3R hB11
        clear hcx hz hB11
        go_upto_region 7 with fail
        refine wp_region_held_drew (S := fun w' => w'.cell? ⟨bo, offo + room * 3, none⟩ = some (.int .i64 zi) ∧ w'.cell? ⟨bo, offo + room * 3 + 1, none⟩ = some (.string zb) ∧ w'.cell? ⟨bo, offo + room * 3 + 2, none⟩ = some (.bool zd)) (by kernel_rfl) (⟨f0, f1, f2⟩) (fun hHeld => ?_)
        refine wpAnyH_take (i := 0) (oi := { dst := some 44, op := Op.move (Operand.tmp 15), type := 28, pos := "ref.go:36", after := #[], guard := none }) (v := ?_) rfl (by kernel_rfl) (by kernel_rfl) (by kernel_rfl) (fun _ _ _ h => h) (Or.inl ⟨by rfl, ?_⟩) (by assumption) ?_
        rotate_left
        · (intro wq hSw; (try dsimp only at hSw); go_simp; first | done | with_reducible rfl)
        try simp only [Act.put, List.setIfInBounds_toArray, List.set_cons_zero, List.set_cons_succ]
        refine wpAnyH_take (i := 1) (oi := { dst := some 45, op := Op.move (Operand.tmp 1), type := 3, pos := "ref.go:36", after := #[], guard := none }) (v := ?_) rfl (by kernel_rfl) (by kernel_rfl) (by kernel_rfl) (fun _ _ _ h => h) (Or.inl ⟨by rfl, ?_⟩) (by assumption) ?_
        rotate_left
        · (intro wq hSw; (try dsimp only at hSw); go_simp; first | done | with_reducible rfl)
        try simp only [Act.put, List.setIfInBounds_toArray, List.set_cons_zero, List.set_cons_succ]
        refine wpAnyH_take (i := 2) (oi := { dst := some 46, op := Op.slice 28 (Operand.tmp 44) none (some (Operand.tmp 45)) none, type := 28, pos := "ref.go:36", after := #[{ on := 0, ground := Ground.data }, { on := 1, ground := Ground.data }], guard := none }) (v := ?_) rfl (by kernel_rfl) (by kernel_rfl) (by kernel_rfl) (fun _ _ _ h => h) (Or.inl ⟨by rfl, ?_⟩) (by assumption) ?_
        rotate_left
        · (intro wq hSw; (try dsimp only at hSw); go_simp; first | done | with_reducible rfl)
        try simp only [Act.put, List.setIfInBounds_toArray, List.set_cons_zero, List.set_cons_succ]
        refine wpAnyH_take (i := 3) (oi := { dst := some 47, op := Op.move (Operand.tmp 15), type := 28, pos := "ref.go:36", after := #[{ on := 7, ground := Ground.gcOnly Departure.lateStores }], guard := none }) (v := ?_) rfl (by kernel_rfl) (by kernel_rfl) (by kernel_rfl) (fun _ _ _ h => h) (Or.inl ⟨by rfl, ?_⟩) (by assumption) ?_
        rotate_left
        · (intro wq hSw; (try dsimp only at hSw); go_simp; first | done | with_reducible rfl)
        try simp only [Act.put, List.setIfInBounds_toArray, List.set_cons_zero, List.set_cons_succ]
        refine wpAnyH_take (i := 4) (oi := { dst := some 48, op := Op.move (Operand.tmp 1), type := 3, pos := "ref.go:36", after := #[{ on := 7, ground := Ground.gcOnly Departure.lateStores }], guard := none }) (v := ?_) rfl (by kernel_rfl) (by kernel_rfl) (by kernel_rfl) (fun _ _ _ h => h) (Or.inl ⟨by rfl, ?_⟩) (by assumption) ?_
        rotate_left
        · (intro wq hSw; (try dsimp only at hSw); go_simp; first | done | with_reducible rfl)
        try simp only [Act.put, List.setIfInBounds_toArray, List.set_cons_zero, List.set_cons_succ]
        refine wpAnyH_take (i := 5) (oi := { dst := some 49, op := Op.indexAddr 28 (Operand.tmp 47) (Operand.tmp 48), type := 0, pos := "ref.go:36", after := #[{ on := 3, ground := Ground.data }, { on := 4, ground := Ground.data }, { on := 7, ground := Ground.gcOnly Departure.lateStores }], guard := none }) (v := ?_) rfl (by kernel_rfl) (by kernel_rfl) (by kernel_rfl) (fun _ _ _ h => h) (Or.inl ⟨by rfl, ?_⟩) (by assumption) ?_
        rotate_left
        · (intro wq hSw; (try dsimp only at hSw); go_simp; first | done | with_reducible rfl)
        try simp only [Act.put, List.setIfInBounds_toArray, List.set_cons_zero, List.set_cons_succ]
        refine wpAnyH_take (i := 6) (oi := { dst := some 50, op := Op.load 32 (Operand.tmp 49), type := 32, pos := "ref.go:36", after := #[{ on := 5, ground := Ground.data }, { on := 7, ground := Ground.gcOnly Departure.lateStores }], guard := none }) (v := ?_) rfl (by kernel_rfl) (by kernel_rfl) (by kernel_rfl) (fun _ _ _ h => h) (Or.inl ⟨by rfl, ?_⟩) (by assumption) ?_
        rotate_left
        · (intro wq hSw; (try dsimp only at hSw); go_simp; first | done | with_reducible rfl)
        try simp only [Act.put, List.setIfInBounds_toArray, List.set_cons_zero, List.set_cons_succ]
        refine wpAnyH_take (i := 7) (oi := { dst := some 10, op := Op.assign (Operand.tmp 46), type := 28, pos := "ref.go:36", after := #[{ on := 2, ground := Ground.data }, { on := 0, ground := Ground.phase }, { on := 1, ground := Ground.phase }, { on := 2, ground := Ground.phase }, { on := 3, ground := Ground.textOnly Departure.lateStores }, { on := 4, ground := Ground.textOnly Departure.lateStores }, { on := 5, ground := Ground.textOnly Departure.lateStores }, { on := 6, ground := Ground.textOnly Departure.lateStores }], guard := none }) (v := ?_) rfl (by kernel_rfl) (by kernel_rfl) (by kernel_rfl) (fun _ _ _ h => h) (Or.inl ⟨by rfl, ?_⟩) (by assumption) ?_
        rotate_left
        · (intro wq hSw; (try dsimp only at hSw); go_simp; first | done | with_reducible rfl)
        try simp only [Act.put, List.setIfInBounds_toArray, List.set_cons_zero, List.set_cons_succ]
        refine wpAnyH_ready (rs := [8]) (by kernel_rfl) (by simp) ?_
        refine AllReadyH.cons (o := { dst := none, op := Op.store 32 (Operand.tmp 11) (Operand.tmp 50), type := 0, pos := "ref.go:36", after := #[{ on := 6, ground := Ground.data }, { on := 7, ground := Ground.chain }, { on := 0, ground := Ground.phase }, { on := 1, ground := Ground.phase }, { on := 2, ground := Ground.phase }, { on := 3, ground := Ground.phase }, { on := 4, ground := Ground.phase }, { on := 5, ground := Ground.phase }, { on := 6, ground := Ground.phase }, { on := 7, ground := Ground.phase }], guard := none }) rfl (fun K hK => ?_) AllReadyH.nil
        go_simp
        refine hK.out _ _ ?_ (fun hHeld => ?_)
        · exact ⟨(upd_cellC (hu8 _) HBO.out HBN.out _).trans f0, (upd_cellC (hu8 _) HBO.out HBN.out _).trans f1, (upd_cellC (hu8 _) HBO.out HBN.out _).trans f2⟩
        clear hK K
        try simp only [Act.put, List.setIfInBounds_toArray, List.set_cons_zero, List.set_cons_succ]
        refine wpAnyH_take (i := 9) (oi := { dst := some 12, op := Op.assign (Operand.const (Value.bool true)), type := 4, pos := "ref.go:36", after := #[{ on := 8, ground := Ground.chain }, { on := 0, ground := Ground.phase }, { on := 1, ground := Ground.phase }, { on := 2, ground := Ground.phase }, { on := 3, ground := Ground.phase }, { on := 4, ground := Ground.phase }, { on := 5, ground := Ground.phase }, { on := 6, ground := Ground.phase }, { on := 7, ground := Ground.phase }, { on := 8, ground := Ground.phase }], guard := none }) (v := ?_) rfl (by kernel_rfl) (by kernel_rfl) (by kernel_rfl) (fun _ _ _ h => h) (Or.inl ⟨by rfl, ?_⟩) (by assumption) ?_
        rotate_left
        · (intro wq hSw; (try dsimp only at hSw); go_simp; first | done | with_reducible rfl)
        try simp only [Act.put, List.setIfInBounds_toArray, List.set_cons_zero, List.set_cons_succ]
        refine wpAnyH_done (by kernel_rfl) ?_ _
        clear hHeld
        go_wp2_with fail
        obtain ⟨m0, m1, m2, m3, mz⟩ := Blk3R (((HB.out.set_ 0 (.int .i64 zi)).set_ 1 (.string zb)).set_ 2 (.bool zd)).drew
        refine bodyPost_ret (v := .tuple #[.slice (some ⟨bo, offo, none⟩) room co, .agg #[.int .i64 zi, .string zb, .bool zd], .bool true]) (by simp [results, Try.results12, go_sem, m1, m2, m3]) rfl ?_
        refine ⟨.slice (some ⟨bo, offo, none⟩) room co, by rw [HZZ.out]; rfl, ?_, ?_, ?_⟩
        · exact HSL.out
        · exact HN8.out
        · exact .inr fun b0 off0 n0 c0 e => by cases e; exact HFS.out
      · have hgt' : ¬ (room : Int) < ((frontE E id bb d).length : Int) := by omega
        have HZN := Lib.hid (show (frontE E id bb d)[room]? = none from List.getElem?_eq_none (by omega))
        have HPE := Lib.hid (show putE room E id bb d = frontE E id bb d from List.take_of_length_le (by omega))
        have hu8 : Upd (· = w.heap.size) wx (((wx.setCell ⟨w.heap.size, 0, none⟩ (.int .i64 0)).setCell ⟨w.heap.size, 1, none⟩ (.string ⟨#[]⟩)).setCell ⟨w.heap.size, 2, none⟩ (.bool false)) := (((Upd.refl _ wx).setIn 0 _).setIn 1 _).setIn 2 _
        have HB8 := Lib.hid (((hB11.set_ 0 (.int .i64 0)).set_ 1 (.string ⟨#[]⟩)).set_ 2 (.bool false))
        have HN8 := Lib.hid (HNX.out.upd hu8 (fun j hj => by omega))
        have HSL := Lib.hid (slUpd8 HSO.out hu8 (fun b0 off0 e => by rw [e] at hbo; have h1 := hbo b0 rfl; have h2 := HW11.out; omega))
        have HFS : Hid (Fresh w (.slice A E.length cp) (.slice Ao (frontE E id bb d).length co)) := Lib.hid (.inr fun b0 off0 n0 c0 e => by injection e with e1 e2 e3; have h1 := hbo b0 (by rw [e1]; rfl); have h2 := HW11.out; omega)
        obtain ⟨y0, y1, y2, y3, yz⟩ := Blk3R hB11
        clear hB11
        go_wp2_with fail
        obtain ⟨m0, m1, m2, m3, mz⟩ := Blk3R HB8.out
        refine bodyPost_ret (v := .tuple #[.slice Ao (frontE E id bb d).length co, .agg #[.int .i64 0, .string ⟨#[]⟩, .bool false], .bool false]) (by simp [results, Try.results12, go_sem, m1, m2, m3]) rfl ?_
        exact ⟨_, by rw [HZN.out]; rfl, by rw [HPE.out]; exact HSL.out, HN8.out, HFS.out⟩
    · go_simp
      refine (rwithout_any W.drew (HS.out.new ((New.refl W).drew)) HL.out ((-1))).mono ?_
      rintro e w0 ⟨u0, rfl, hw0, hc0⟩
      have hn0 := New.trans ((New.refl W).drew) hc0
      have hr0 := Owns.slIn entOk hw0
      refine hK.out _ _ ?_ (fun hHeld => ?_)
      · exact Held.of hn0
      clear hK K
      try simp only [Act.put, List.setIfInBounds_toArray, List.set_cons_zero, List.set_cons_succ]
      refine wpAnyH_ready (rs := [1]) (by kernel_rfl) (by simp) ?_
      refine AllReadyH.cons (o := { dst := some 35, op := Op.buildSlice 28 1 #[(0, Operand.tmp 34)], type := 28, pos := "ref.go:34", after := #[{ on := 0, ground := Ground.data }], guard := none }) rfl (fun K hK => ?_) AllReadyH.nil
      go_simp
      have hn1 := New.alloc (hn0) (.cells #[.int .i64 id, .string bb, .bool d] 32)
      have ho1 : Owns (w0.alloc (.cells #[.int .i64 id, .string bb, .bool d] 32)) W.heap.size 32 3 entC (.slice (some ⟨w0.heap.size, 0, none⟩) 1 1) [((⟨id, bb, d⟩ : Ent) : Ent)] := owns_one w0 (Below.size (hn0)) _
      have hr1 := SlIn.new hr0 ((New.refl _).alloc (.cells #[.int .i64 id, .string bb, .bool d] 32))
      refine hK.out _ _ ?_ (fun hHeld => ?_)
      · exact Held.of hn1
      clear hK K
      try simp only [Act.put, List.setIfInBounds_toArray, List.set_cons_zero, List.set_cons_succ]
      refine wpAnyH_ready (rs := [5]) (by kernel_rfl) (by simp) ?_
      refine AllReadyH.cons (o := { dst := some 39, op := Op.call { callee := Callee.builtin Builtin.append, args := #[Operand.tmp 35, Operand.tmp 38], argTypes := #[28, 28] }, type := 28, pos := "ref.go:34", after := #[{ on := 1, ground := Ground.data }, { on := 4, ground := Ground.data }, { on := 4, ground := Ground.chain }], guard := none }) rfl (fun K hK => ?_) AllReadyH.nil
      refine step_app entTy entOk rfl (.tmp 35) (.tmp 38) rfl rfl rfl ho1 hr1 HM1.out HM2.out (by have := Below.size (hn1); omega) ?_
      intro va2 wa2 ho2 hg2 _
      have hn2 := New.grown (hn1) hg2 (fun k hk => Owns.blockGe ho1 k hk)
      refine hK.out _ _ ?_ (fun hHeld => ?_)
      · exact Held.of hn2
      clear hK K
      try simp only [Act.put, List.setIfInBounds_toArray, List.set_cons_zero, List.set_cons_succ]
      refine wpAnyH_take (i := 6) (oi := { dst := some 15, op := Op.assign (Operand.tmp 39), type := 28, pos := "ref.go:34", after := #[{ on := 5, ground := Ground.data }, { on := 5, ground := Ground.chain }, { on := 0, ground := Ground.phase }, { on := 1, ground := Ground.phase }, { on := 2, ground := Ground.phase }, { on := 3, ground := Ground.phase }, { on := 4, ground := Ground.phase }, { on := 5, ground := Ground.phase }], guard := none }) (v := ?_) rfl (by kernel_rfl) (by kernel_rfl) (by kernel_rfl) (fun _ _ _ h => h) (Or.inl ⟨by rfl, ?_⟩) (by assumption) ?_
      rotate_left
      · (intro wq hSw; (try dsimp only at hSw); go_simp; first | done | with_reducible rfl)
      try simp only [Act.put, List.setIfInBounds_toArray, List.set_cons_zero, List.set_cons_succ]
      refine wpAnyH_done (by kernel_rfl) ?_ _
      clear hHeld
      have hown := ho2
      rw [HFE.out] at hown
      have hB11 := HB11.out.new (hn2)
      have hNx := New.trans HNW.out (hn2)
      have hbo : ∀ j, va2.ownBlock = some j → W.heap.size ≤ j := fun j hj => (Owns.lt ho2 j hj).1
      generalize wa2 = wx at *
      obtain ⟨Ao, co, hvo, hco, horo⟩ := Owns.slIn entOk hown
      have HSO := Lib.hid (Owns.slIn entOk hown)
      subst hvo
      have HB := Lib.hid hB11
      have HNX := Lib.hid hNx
      clear hown hNx r0 r1 r2 r3 rz
      by_cases hgt : room < (frontE E id bb d).length
      · have hgt' : (room : Int) < ((frontE E id bb d).length : Int) := by omega
        have hr0 : (0 : Int) ≤ (room : Int) := by omega
        have hrc : (room : Int) ≤ (co : Int) := by omega
        have hrn : (room : Int).toNat = room := by omega
        obtain ⟨z, hz⟩ : ∃ z, (frontE E id bb d)[room]? = some z := ⟨_, List.getElem?_eq_getElem hgt⟩
        rcases horo with horo | ⟨bo, offo, rfl, hbx, hcx⟩
        · rw [horo] at hgt; simp at hgt
        obtain ⟨f0, f1, f2⟩ := ent3 hcx hz
        obtain ⟨zi, zb, zd⟩ := z
        have HZZ := Lib.hid hz
        have HBO := Lib.hid hbx
        have HFS : Hid (w.heap.size ≤ bo) := Lib.hid (by have h1 := hbo bo rfl; have h2 := HW11.out; omega)
        have HBN : Hid (¬ bo = w.heap.size) := Lib.hid (by have h1 := hbo bo rfl; have h2 := HW11.out; omega)
        have hu8 : ∀ wy : World, Upd (· = w.heap.size) wy (((wy.setCell ⟨w.heap.size, 0, none⟩ (.int .i64 zi)).setCell ⟨w.heap.size, 1, none⟩ (.string zb)).setCell ⟨w.heap.size, 2, none⟩ (.bool zd)) := fun wy => (((Upd.refl _ wy).setIn 0 _).setIn 1 _).setIn 2 _
        have HB8 := Lib.hid (((hB11.drew.set_ 0 (.int .i64 zi)).set_ 1 (.string zb)).set_ 2 (.bool zd))
        have HN8 := Lib.hid (HNX.out.drew.upd (hu8 _) (fun j hj => by omega))
        have HSL := Lib.hid (slUpd8 (S := (· = w.heap.size)) ((HSO.out.new (New.refl wx).drew).take (k := room) (c' := co) (by omega) (by omega)) (hu8 wx.drew) (fun b0 off0 e => by cases e; exact HBN.out))
        obtain ⟨y0, y1, y2, y3, yz⟩ := Blk3R hB11
        clear hcx hz hB11
        go_upto_region 7 with fail
        refine wp_region_held_drew (S := fun w' => w'.cell? ⟨bo, offo + room * 3, none⟩ = some (.int .i64 zi) ∧ w'.cell? ⟨bo, offo + room * 3 + 1, none⟩ = some (.string zb) ∧ w'.cell? ⟨bo, offo + room * 3 + 2, none⟩ = some (.bool zd)) (by kernel_rfl) (⟨f0, f1, f2⟩) (fun hHeld => ?_)
        refine wpAnyH_take (i := 0) (oi := { dst := some 44, op := Op.move (Operand.tmp 15), type := 28, pos := "ref.go:36", after := #[], guard := none }) (v := ?_) rfl (by kernel_rfl) (by kernel_rfl) (by kernel_rfl) (fun _ _ _ h => h) (Or.inl ⟨by rfl, ?_⟩) (by assumption) ?_
        rotate_left
        · (intro wq hSw; (try dsimp only at hSw); go_simp; first | done | with_reducible rfl)
        try simp only [Act.put, List.setIfInBounds_toArray, List.set_cons_zero, List.set_cons_succ]
        refine wpAnyH_take (i := 1) (oi := { dst := some 45, op := Op.move (Operand.tmp 1), type := 3, pos := "ref.go:36", after := #[], guard := none }) (v := ?_) rfl (by kernel_rfl) (by kernel_rfl) (by kernel_rfl) (fun _ _ _ h => h) (Or.inl ⟨by rfl, ?_⟩) (by assumption) ?_
        rotate_left
        · (intro wq hSw; (try dsimp only at hSw); go_simp; first | done | with_reducible rfl)
        try simp only [Act.put, List.setIfInBounds_toArray, List.set_cons_zero, List.set_cons_succ]
        refine wpAnyH_take (i := 2) (oi := { dst := some 46, op := Op.slice 28 (Operand.tmp 44) none (some (Operand.tmp 45)) none, type := 28, pos := "ref.go:36", after := #[{ on := 0, ground := Ground.data }, { on := 1, ground := Ground.data }], guard := none }) (v := ?_) rfl (by kernel_rfl) (by kernel_rfl) (by kernel_rfl) (fun _ _ _ h => h) (Or.inl ⟨by rfl, ?_⟩) (by assumption) ?_
        rotate_left
        · (intro wq hSw; (try dsimp only at hSw); go_simp; first | done | with_reducible rfl)
        try simp only [Act.put, List.setIfInBounds_toArray, List.set_cons_zero, List.set_cons_succ]
        refine wpAnyH_take (i := 3) (oi := { dst := some 47, op := Op.move (Operand.tmp 15), type := 28, pos := "ref.go:36", after := #[{ on := 7, ground := Ground.gcOnly Departure.lateStores }], guard := none }) (v := ?_) rfl (by kernel_rfl) (by kernel_rfl) (by kernel_rfl) (fun _ _ _ h => h) (Or.inl ⟨by rfl, ?_⟩) (by assumption) ?_
        rotate_left
        · (intro wq hSw; (try dsimp only at hSw); go_simp; first | done | with_reducible rfl)
        try simp only [Act.put, List.setIfInBounds_toArray, List.set_cons_zero, List.set_cons_succ]
        refine wpAnyH_take (i := 4) (oi := { dst := some 48, op := Op.move (Operand.tmp 1), type := 3, pos := "ref.go:36", after := #[{ on := 7, ground := Ground.gcOnly Departure.lateStores }], guard := none }) (v := ?_) rfl (by kernel_rfl) (by kernel_rfl) (by kernel_rfl) (fun _ _ _ h => h) (Or.inl ⟨by rfl, ?_⟩) (by assumption) ?_
        rotate_left
        · (intro wq hSw; (try dsimp only at hSw); go_simp; first | done | with_reducible rfl)
        try simp only [Act.put, List.setIfInBounds_toArray, List.set_cons_zero, List.set_cons_succ]
        refine wpAnyH_take (i := 5) (oi := { dst := some 49, op := Op.indexAddr 28 (Operand.tmp 47) (Operand.tmp 48), type := 0, pos := "ref.go:36", after := #[{ on := 3, ground := Ground.data }, { on := 4, ground := Ground.data }, { on := 7, ground := Ground.gcOnly Departure.lateStores }], guard := none }) (v := ?_) rfl (by kernel_rfl) (by kernel_rfl) (by kernel_rfl) (fun _ _ _ h => h) (Or.inl ⟨by rfl, ?_⟩) (by assumption) ?_
        rotate_left
        · (intro wq hSw; (try dsimp only at hSw); go_simp; first | done | with_reducible rfl)
        try simp only [Act.put, List.setIfInBounds_toArray, List.set_cons_zero, List.set_cons_succ]
        refine wpAnyH_take (i := 6) (oi := { dst := some 50, op := Op.load 32 (Operand.tmp 49), type := 32, pos := "ref.go:36", after := #[{ on := 5, ground := Ground.data }, { on := 7, ground := Ground.gcOnly Departure.lateStores }], guard := none }) (v := ?_) rfl (by kernel_rfl) (by kernel_rfl) (by kernel_rfl) (fun _ _ _ h => h) (Or.inl ⟨by rfl, ?_⟩) (by assumption) ?_
        rotate_left
        · (intro wq hSw; (try dsimp only at hSw); go_simp; first | done | with_reducible rfl)
        try simp only [Act.put, List.setIfInBounds_toArray, List.set_cons_zero, List.set_cons_succ]
        refine wpAnyH_take (i := 7) (oi := { dst := some 10, op := Op.assign (Operand.tmp 46), type := 28, pos := "ref.go:36", after := #[{ on := 2, ground := Ground.data }, { on := 0, ground := Ground.phase }, { on := 1, ground := Ground.phase }, { on := 2, ground := Ground.phase }, { on := 3, ground := Ground.textOnly Departure.lateStores }, { on := 4, ground := Ground.textOnly Departure.lateStores }, { on := 5, ground := Ground.textOnly Departure.lateStores }, { on := 6, ground := Ground.textOnly Departure.lateStores }], guard := none }) (v := ?_) rfl (by kernel_rfl) (by kernel_rfl) (by kernel_rfl) (fun _ _ _ h => h) (Or.inl ⟨by rfl, ?_⟩) (by assumption) ?_
        rotate_left
        · (intro wq hSw; (try dsimp only at hSw); go_simp; first | done | with_reducible rfl)
        try simp only [Act.put, List.setIfInBounds_toArray, List.set_cons_zero, List.set_cons_succ]
        refine wpAnyH_ready (rs := [8]) (by kernel_rfl) (by simp) ?_
        refine AllReadyH.cons (o := { dst := none, op := Op.store 32 (Operand.tmp 11) (Operand.tmp 50), type := 0, pos := "ref.go:36", after := #[{ on := 6, ground := Ground.data }, { on := 7, ground := Ground.chain }, { on := 0, ground := Ground.phase }, { on := 1, ground := Ground.phase }, { on := 2, ground := Ground.phase }, { on := 3, ground := Ground.phase }, { on := 4, ground := Ground.phase }, { on := 5, ground := Ground.phase }, { on := 6, ground := Ground.phase }, { on := 7, ground := Ground.phase }], guard := none }) rfl (fun K hK => ?_) AllReadyH.nil
        go_simp
        refine hK.out _ _ ?_ (fun hHeld => ?_)
        · exact ⟨(upd_cellC (hu8 _) HBO.out HBN.out _).trans f0, (upd_cellC (hu8 _) HBO.out HBN.out _).trans f1, (upd_cellC (hu8 _) HBO.out HBN.out _).trans f2⟩
        clear hK K
        try simp only [Act.put, List.setIfInBounds_toArray, List.set_cons_zero, List.set_cons_succ]
        refine wpAnyH_take (i := 9) (oi := { dst := some 12, op := Op.assign (Operand.const (Value.bool true)), type := 4, pos := "ref.go:36", after := #[{ on := 8, ground := Ground.chain }, { on := 0, ground := Ground.phase }, { on := 1, ground := Ground.phase }, { on := 2, ground := Ground.phase }, { on := 3, ground := Ground.phase }, { on := 4, ground := Ground.phase }, { on := 5, ground := Ground.phase }, { on := 6, ground := Ground.phase }, { on := 7, ground := Ground.phase }, { on := 8, ground := Ground.phase }], guard := none }) (v := ?_) rfl (by kernel_rfl) (by kernel_rfl) (by kernel_rfl) (fun _ _ _ h => h) (Or.inl ⟨by rfl, ?_⟩) (by assumption) ?_
        rotate_left
        · (intro wq hSw; (try dsimp only at hSw); go_simp; first | done | with_reducible rfl)
        try simp only [Act.put, List.setIfInBounds_toArray, List.set_cons_zero, List.set_cons_succ]
        refine wpAnyH_done (by kernel_rfl) ?_ _
        clear hHeld
        go_wp2_with fail
        obtain ⟨m0, m1, m2, m3, mz⟩ := Blk3R (((HB.out.set_ 0 (.int .i64 zi)).set_ 1 (.string zb)).set_ 2 (.bool zd)).drew
        refine bodyPost_ret (v := .tuple #[.slice (some ⟨bo, offo, none⟩) room co, .agg #[.int .i64 zi, .string zb, .bool zd], .bool true]) (by simp [results, Try.results12, go_sem, m1, m2, m3]) rfl ?_
        refine ⟨.slice (some ⟨bo, offo, none⟩) room co, by rw [HZZ.out]; rfl, ?_, ?_, ?_⟩
        · exact HSL.out
        · exact HN8.out
        · exact .inr fun b0 off0 n0 c0 e => by cases e; exact HFS.out
      · have hgt' : ¬ (room : Int) < ((frontE E id bb d).length : Int) := by omega
        have HZN := Lib.hid (show (frontE E id bb d)[room]? = none from List.getElem?_eq_none (by omega))
        have HPE := Lib.hid (show putE room E id bb d = frontE E id bb d from List.take_of_length_le (by omega))
        have hu8 : Upd (· = w.heap.size) wx (((wx.setCell ⟨w.heap.size, 0, none⟩ (.int .i64 0)).setCell ⟨w.heap.size, 1, none⟩ (.string ⟨#[]⟩)).setCell ⟨w.heap.size, 2, none⟩ (.bool false)) := (((Upd.refl _ wx).setIn 0 _).setIn 1 _).setIn 2 _
        have HB8 := Lib.hid (((hB11.set_ 0 (.int .i64 0)).set_ 1 (.string ⟨#[]⟩)).set_ 2 (.bool false))
        have HN8 := Lib.hid (HNX.out.upd hu8 (fun j hj => by omega))
        have HSL := Lib.hid (slUpd8 HSO.out hu8 (fun b0 off0 e => by rw [e] at hbo; have h1 := hbo b0 rfl; have h2 := HW11.out; omega))
        have HFS : Hid (Fresh w (.slice A E.length cp) (.slice Ao (frontE E id bb d).length co)) := Lib.hid (.inr fun b0 off0 n0 c0 e => by injection e with e1 e2 e3; have h1 := hbo b0 (by rw [e1]; rfl); have h2 := HW11.out; omega)
        obtain ⟨y0, y1, y2, y3, yz⟩ := Blk3R hB11
        clear hB11
        go_wp2_with fail
        obtain ⟨m0, m1, m2, m3, mz⟩ := Blk3R HB8.out
        refine bodyPost_ret (v := .tuple #[.slice Ao (frontE E id bb d).length co, .agg #[.int .i64 0, .string ⟨#[]⟩, .bool false], .bool false]) (by simp [results, Try.results12, go_sem, m1, m2, m3]) rfl ?_
        exact ⟨_, by rw [HZN.out]; rfl, by rw [HPE.out]; exact HSL.out, HN8.out, HFS.out⟩
  | some x =>
    obtain ⟨hx, hlt⟩ := fnd_plc hf
    have HPI := Lib.hid (plcI_some hf)
    have hfe := front_wo E id bb d (dd := (d || x.d)) (by rw [hf]; rfl)
    rw [plcI_some hf] at hfe
    have HFE := Lib.hid hfe
    rcases hor with hor | ⟨b, off, rfl, hb, hc⟩
    · rw [hor] at hlt; simp at hlt
    generalize plc E id = k at hx hlt HPI HFE
    have hbN : b < (w.alloc (.cells #[.int .i64 0, .string ⟨#[]⟩, .bool false] 32)).heap.size := by rw [World.size_alloc]; omega
    obtain ⟨e0, e1, e2⟩ := ent3 (w := ((w.alloc (.cells #[.int .i64 0, .string ⟨#[]⟩, .bool false] 32)).alloc (.cells #[.int .i64 id, .string bb, .bool d] 32))) (fun k x h j u hu => (HN.out.cells.1 _ _ hb).trans (hc k x h j u hu)) hx
    have hlt' : (k : Int) < (E.length : Int) := by omega
    have hk0 : (0 : Int) ≤ (k : Int) := by omega
    clear hs hc hx hf hfe
    cases d with
    | true =>
      go_enter Try.func12, Try.ntmps12
      go_wp2_with fail
      refine (rfind_any _ HS1.out (by omega) id).mono ?_
      rintro e w2 ⟨rfl, hw2⟩
      subst hw2
      rw [HPI.out]
      go_upto_region 5 with fail
      have hB11 : Blk ((w.alloc (.cells #[.int .i64 0, .string ⟨#[]⟩, .bool false] 32)).alloc (.cells #[.int .i64 id, .string bb, .bool true] 32)) w.heap.size 32 #[.int .i64 0, .string ⟨#[]⟩, .bool false] := (Blk.mk_new w 32 #[.int .i64 0, .string ⟨#[]⟩, .bool false]).alloc _
      have hB14 : Blk ((w.alloc (.cells #[.int .i64 0, .string ⟨#[]⟩, .bool false] 32)).alloc (.cells #[.int .i64 id, .string bb, .bool true] 32)) (w.heap.size + 1) 32 #[.int .i64 id, .string bb, .bool true] := by have := Blk.mk_new (w.alloc (.cells #[.int .i64 0, .string ⟨#[]⟩, .bool false] 32)) 32 #[.int .i64 id, .string bb, .bool true]; rw [World.size_alloc] at this; exact this
      have hNW : New w ((w.alloc (.cells #[.int .i64 0, .string ⟨#[]⟩, .bool false] 32)).alloc (.cells #[.int .i64 id, .string bb, .bool true] 32)) := ((New.refl w).alloc _).alloc _
      have hSW := HS0.out.new hNW
      clear t0 t1 t2 t3 tz q0 q1 q2 q3 qz HZ HX HN HS1 HS2
      generalize ((w.alloc (.cells #[.int .i64 0, .string ⟨#[]⟩, .bool false] 32)).alloc (.cells #[.int .i64 id, .string bb, .bool true] 32)) = W at *
      have HFE := Lib.hid (show [(⟨id, bb, true⟩ : Ent)] ++ wo E (k : Int) = frontE E id bb true from HFE.out)
      have HS := Lib.hid hSW
      have HB11 := Lib.hid hB11
      have HNW := Lib.hid hNW
      have HW11 := Lib.hid hB11.lt
      obtain ⟨r0, r1, r2, r3, rz⟩ := Blk3R hB14
      have hwl := wo_len E (k : Int)
      have HM1 := Lib.hid (show [(⟨id, bb, true⟩ : Ent)].length + (wo E (k : Int)).length ≤ maxLen by unfold maxLen; simp only [List.length_singleton]; omega)
      have HM2 := Lib.hid (show ([(⟨id, bb, true⟩ : Ent)].length + (wo E (k : Int)).length) * 32 ≤ 140737488355328 by simp only [List.length_singleton]; omega)
      have hfl : (frontE E id bb true).length ≤ 10001 := by have := front_len E id bb true; omega
      clear hSW hB11 hB14 hNW hwl
      refine wp_region_held_drew (S := fun w' => Held W w') (by kernel_rfl) (Held.of (New.refl _).drew) (fun hHeld => ?_)
      refine wpAnyH_take (i := 0) (oi := { dst := some 34, op := Op.load 32 (Operand.tmp 14), type := 32, pos := "ref.go:34", after := #[], guard := none }) (v := ?_) rfl (by kernel_rfl) (by kernel_rfl) (by kernel_rfl) (fun _ _ _ h => h) (Or.inl ⟨by rfl, ?_⟩) (by assumption) ?_
      rotate_left
      · (intro wq hSw; (try dsimp only at hSw); go_simp; first | done | with_reducible rfl)
      try simp only [Act.put, List.setIfInBounds_toArray, List.set_cons_zero, List.set_cons_succ]
      refine wpAnyH_take (i := 2) (oi := { dst := some 36, op := Op.move (Operand.tmp 0), type := 28, pos := "ref.go:34", after := #[], guard := none }) (v := ?_) rfl (by kernel_rfl) (by kernel_rfl) (by kernel_rfl) (fun _ _ _ h => h) (Or.inl ⟨by rfl, ?_⟩) (by assumption) ?_
      rotate_left
      · (intro wq hSw; (try dsimp only at hSw); go_simp; first | done | with_reducible rfl)
      try simp only [Act.put, List.setIfInBounds_toArray, List.set_cons_zero, List.set_cons_succ]
      refine wpAnyH_take (i := 3) (oi := { dst := some 37, op := Op.move (Operand.tmp 13), type := 3, pos := "ref.go:34", after := #[], guard := none }) (v := ?_) rfl (by kernel_rfl) (by kernel_rfl) (by kernel_rfl) (fun _ _ _ h => h) (Or.inl ⟨by rfl, ?_⟩) (by assumption) ?_
      rotate_left
      · (intro wq hSw; (try dsimp only at hSw); go_simp; first | done | with_reducible rfl)
      try simp only [Act.put, List.setIfInBounds_toArray, List.set_cons_zero, List.set_cons_succ]
      refine wpAnyH_ready (rs := [1, 4]) (by kernel_rfl) (by simp) ?_
      refine AllReadyH.cons (o := { dst := some 35, op := Op.buildSlice 28 1 #[(0, Operand.tmp 34)], type := 28, pos := "ref.go:34", after := #[{ on := 0, ground := Ground.data }], guard := none }) rfl (fun K hK => ?_) (AllReadyH.cons (o := { dst := some 38, op := Op.call { callee := Callee.value (Operand.func 38), args := #[Operand.tmp 36, Operand.tmp 37], argTypes := #[28, 3] }, type := 28, pos := "ref.go:34", after := #[{ on := 2, ground := Ground.data }, { on := 3, ground := Ground.data }], guard := none }) rfl (fun K hK => ?_) AllReadyH.nil)
      · go_simp
        have hn0 := New.alloc ((New.refl W).drew) (.cells #[.int .i64 id, .string bb, .bool true] 32)
        have ho0 : Owns (W.drew.alloc (.cells #[.int .i64 id, .string bb, .bool true] 32)) W.heap.size 32 3 entC (.slice (some ⟨W.drew.heap.size, 0, none⟩) 1 1) [((⟨id, bb, true⟩ : Ent) : Ent)] := owns_one W.drew (Below.size ((New.refl W).drew)) _
        refine hK.out _ _ ?_ (fun hHeld => ?_)
        · exact Held.of hn0
        clear hK K
        try simp only [Act.put, List.setIfInBounds_toArray, List.set_cons_zero, List.set_cons_succ]
        refine wpAnyH_ready (rs := [4]) (by kernel_rfl) (by simp) ?_
        refine AllReadyH.cons (o := { dst := some 38, op := Op.call { callee := Callee.value (Operand.func 38), args := #[Operand.tmp 36, Operand.tmp 37], argTypes := #[28, 3] }, type := 28, pos := "ref.go:34", after := #[{ on := 2, ground := Ground.data }, { on := 3, ground := Ground.data }], guard := none }) rfl (fun K hK => ?_) AllReadyH.nil
        go_simp
        refine (rwithout_any (W.drew.alloc (.cells #[.int .i64 id, .string bb, .bool true] 32)) (HS.out.new (hn0)) HL.out ((k : Int))).mono ?_
        rintro e w1 ⟨u1, rfl, hw1, hc1⟩
        have hn1 := New.trans (hn0) hc1
        have hr1 := Owns.slIn entOk hw1
        have ho1 := Owns.new ho0 hc1
        refine hK.out _ _ ?_ (fun hHeld => ?_)
        · exact Held.of hn1
        clear hK K
        try simp only [Act.put, List.setIfInBounds_toArray, List.set_cons_zero, List.set_cons_succ]
        refine wpAnyH_ready (rs := [5]) (by kernel_rfl) (by simp) ?_
        refine AllReadyH.cons (o := { dst := some 39, op := Op.call { callee := Callee.builtin Builtin.append, args := #[Operand.tmp 35, Operand.tmp 38], argTypes := #[28, 28] }, type := 28, pos := "ref.go:34", after := #[{ on := 1, ground := Ground.data }, { on := 4, ground := Ground.data }, { on := 4, ground := Ground.chain }], guard := none }) rfl (fun K hK => ?_) AllReadyH.nil
        refine step_app entTy entOk rfl (.tmp 35) (.tmp 38) rfl rfl rfl ho1 hr1 HM1.out HM2.out (by have := Below.size (hn1); omega) ?_
        intro va2 wa2 ho2 hg2 _
        have hn2 := New.grown (hn1) hg2 (fun k hk => Owns.blockGe ho1 k hk)
        refine hK.out _ _ ?_ (fun hHeld => ?_)
        · exact Held.of hn2
        clear hK K
        try simp only [Act.put, List.setIfInBounds_toArray, List.set_cons_zero, List.set_cons_succ]
        refine wpAnyH_take (i := 6) (oi := { dst := some 15, op := Op.assign (Operand.tmp 39), type := 28, pos := "ref.go:34", after := #[{ on := 5, ground := Ground.data }, { on := 5, ground := Ground.chain }, { on := 0, ground := Ground.phase }, { on := 1, ground := Ground.phase }, { on := 2, ground := Ground.phase }, { on := 3, ground := Ground.phase }, { on := 4, ground := Ground.phase }, { on := 5, ground := Ground.phase }], guard := none }) (v := ?_) rfl (by kernel_rfl) (by kernel_rfl) (by kernel_rfl) (fun _ _ _ h => h) (Or.inl ⟨by rfl, ?_⟩) (by assumption) ?_
        rotate_left
        · (intro wq hSw; (try dsimp only at hSw); go_simp; first | done | with_reducible rfl)
        try simp only [Act.put, List.setIfInBounds_toArray, List.set_cons_zero, List.set_cons_succ]
        refine wpAnyH_done (by kernel_rfl) ?_ _
        clear hHeld
        have hown := ho2
        rw [HFE.out] at hown
        have hB11 := HB11.out.new (hn2)
        have hNx := New.trans HNW.out (hn2)
        have hbo : ∀ j, va2.ownBlock = some j → W.heap.size ≤ j := fun j hj => (Owns.lt ho2 j hj).1
        generalize wa2 = wx at *
        obtain ⟨Ao, co, hvo, hco, horo⟩ := Owns.slIn entOk hown
        have HSO := Lib.hid (Owns.slIn entOk hown)
        subst hvo
        have HB := Lib.hid hB11
        have HNX := Lib.hid hNx
        clear hown hNx r0 r1 r2 r3 rz
        by_cases hgt : room < (frontE E id bb true).length
        · have hgt' : (room : Int) < ((frontE E id bb true).length : Int) := by omega
          have hr0 : (0 : Int) ≤ (room : Int) := by omega
          have hrc : (room : Int) ≤ (co : Int) := by omega
          have hrn : (room : Int).toNat = room := by omega
          obtain ⟨z, hz⟩ : ∃ z, (frontE E id bb true)[room]? = some z := ⟨_, List.getElem?_eq_getElem hgt⟩
          rcases horo with horo | ⟨bo, offo, rfl, hbx, hcx⟩
          · rw [horo] at hgt; simp at hgt
          obtain ⟨f0, f1, f2⟩ := ent3 hcx hz
          obtain ⟨zi, zb, zd⟩ := z
          have HZZ := Lib.hid hz
          have HBO := Lib.hid hbx
          have HFS : Hid (w.heap.size ≤ bo) := Lib.hid (by have h1 := hbo bo rfl; have h2 := HW11.out; omega)
          have HBN : Hid (¬ bo = w.heap.size) := Lib.hid (by have h1 := hbo bo rfl; have h2 := HW11.out; omega)
          have hu8 : ∀ wy : World, Upd (· = w.heap.size) wy (((wy.setCell ⟨w.heap.size, 0, none⟩ (.int .i64 zi)).setCell ⟨w.heap.size, 1, none⟩ (.string zb)).setCell ⟨w.heap.size, 2, none⟩ (.bool zd)) := fun wy => (((Upd.refl _ wy).setIn 0 _).setIn 1 _).setIn 2 _
          have HB8 := Lib.hid (((hB11.drew.set_ 0 (.int .i64 zi)).set_ 1 (.string zb)).set_ 2 (.bool zd))
          have HN8 := Lib.hid (HNX.out.drew.upd (hu8 _) (fun j hj => by omega))
          have HSL := Lib.hid (slUpd8 (S := (· = w.heap.size)) ((HSO.out.new (New.refl wx).drew).take (k := room) (c' := co) (by omega) (by omega)) (hu8 wx.drew) (fun b0 off0 e => by cases e; exact HBN.out))
          obtain ⟨y0, y1, y2, y3, yz⟩ := Blk3R hB11
          clear hcx hz hB11
          go_upto_region 7 with fail
          refine wp_region_held_drew (S := fun w' => w'.cell? ⟨bo, offo + room * 3, none⟩ = some (.int .i64 zi) ∧ w'.cell? ⟨bo, offo + room * 3 + 1, none⟩ = some (.string zb) ∧ w'.cell? ⟨bo, offo + room * 3 + 2, none⟩ = some (.bool zd)) (by kernel_rfl) (⟨f0, f1, f2⟩) (fun hHeld => ?_)
          refine wpAnyH_take (i := 0) (oi := { dst := some 44, op := Op.move (Operand.tmp 15), type := 28, pos := "ref.go:36", after := #[], guard := none }) (v := ?_) rfl (by kernel_rfl) (by kernel_rfl) (by kernel_rfl) (fun _ _ _ h => h) (Or.inl ⟨by rfl, ?_⟩) (by assumption) ?_
          rotate_left
          · (intro wq hSw; (try dsimp only at hSw); go_simp; first | done | with_reducible rfl)
          try simp only [Act.put, List.setIfInBounds_toArray, List.set_cons_zero, List.set_cons_succ]
          refine wpAnyH_take (i := 1) (oi := { dst := some 45, op := Op.move (Operand.tmp 1), type := 3, pos := "ref.go:36", after := #[], guard := none }) (v := ?_) rfl (by kernel_rfl) (by kernel_rfl) (by kernel_rfl) (fun _ _ _ h => h) (Or.inl ⟨by rfl, ?_⟩) (by assumption) ?_
          rotate_left
          · (intro wq hSw; (try dsimp only at hSw); go_simp; first | done | with_reducible rfl)
          try simp only [Act.put, List.setIfInBounds_toArray, List.set_cons_zero, List.set_cons_succ]
          refine wpAnyH_take (i := 2) (oi := { dst := some 46, op := Op.slice 28 (Operand.tmp 44) none (some (Operand.tmp 45)) none, type := 28, pos := "ref.go:36", after := #[{ on := 0, ground := Ground.data }, { on := 1, ground := Ground.data }], guard := none }) (v := ?_) rfl (by kernel_rfl) (by kernel_rfl) (by kernel_rfl) (fun _ _ _ h => h) (Or.inl ⟨by rfl, ?_⟩) (by assumption) ?_
          rotate_left
          · (intro wq hSw; (try dsimp only at hSw); go_simp; first | done | with_reducible rfl)
          try simp only [Act.put, List.setIfInBounds_toArray, List.set_cons_zero, List.set_cons_succ]
          refine wpAnyH_take (i := 3) (oi := { dst := some 47, op := Op.move (Operand.tmp 15), type := 28, pos := "ref.go:36", after := #[{ on := 7, ground := Ground.gcOnly Departure.lateStores }], guard := none }) (v := ?_) rfl (by kernel_rfl) (by kernel_rfl) (by kernel_rfl) (fun _ _ _ h => h) (Or.inl ⟨by rfl, ?_⟩) (by assumption) ?_
          rotate_left
          · (intro wq hSw; (try dsimp only at hSw); go_simp; first | done | with_reducible rfl)
          try simp only [Act.put, List.setIfInBounds_toArray, List.set_cons_zero, List.set_cons_succ]
          refine wpAnyH_take (i := 4) (oi := { dst := some 48, op := Op.move (Operand.tmp 1), type := 3, pos := "ref.go:36", after := #[{ on := 7, ground := Ground.gcOnly Departure.lateStores }], guard := none }) (v := ?_) rfl (by kernel_rfl) (by kernel_rfl) (by kernel_rfl) (fun _ _ _ h => h) (Or.inl ⟨by rfl, ?_⟩) (by assumption) ?_
          rotate_left
          · (intro wq hSw; (try dsimp only at hSw); go_simp; first | done | with_reducible rfl)
          try simp only [Act.put, List.setIfInBounds_toArray, List.set_cons_zero, List.set_cons_succ]
          refine wpAnyH_take (i := 5) (oi := { dst := some 49, op := Op.indexAddr 28 (Operand.tmp 47) (Operand.tmp 48), type := 0, pos := "ref.go:36", after := #[{ on := 3, ground := Ground.data }, { on := 4, ground := Ground.data }, { on := 7, ground := Ground.gcOnly Departure.lateStores }], guard := none }) (v := ?_) rfl (by kernel_rfl) (by kernel_rfl) (by kernel_rfl) (fun _ _ _ h => h) (Or.inl ⟨by rfl, ?_⟩) (by assumption) ?_
          rotate_left
          · (intro wq hSw; (try dsimp only at hSw); go_simp; first | done | with_reducible rfl)
          try simp only [Act.put, List.setIfInBounds_toArray, List.set_cons_zero, List.set_cons_succ]
          refine wpAnyH_take (i := 6) (oi := { dst := some 50, op := Op.load 32 (Operand.tmp 49), type := 32, pos := "ref.go:36", after := #[{ on := 5, ground := Ground.data }, { on := 7, ground := Ground.gcOnly Departure.lateStores }], guard := none }) (v := ?_) rfl (by kernel_rfl) (by kernel_rfl) (by kernel_rfl) (fun _ _ _ h => h) (Or.inl ⟨by rfl, ?_⟩) (by assumption) ?_
          rotate_left
          · (intro wq hSw; (try dsimp only at hSw); go_simp; first | done | with_reducible rfl)
          try simp only [Act.put, List.setIfInBounds_toArray, List.set_cons_zero, List.set_cons_succ]
          refine wpAnyH_take (i := 7) (oi := { dst := some 10, op := Op.assign (Operand.tmp 46), type := 28, pos := "ref.go:36", after := #[{ on := 2, ground := Ground.data }, { on := 0, ground := Ground.phase }, { on := 1, ground := Ground.phase }, { on := 2, ground := Ground.phase }, { on := 3, ground := Ground.textOnly Departure.lateStores }, { on := 4, ground := Ground.textOnly Departure.lateStores }, { on := 5, ground := Ground.textOnly Departure.lateStores }, { on := 6, ground := Ground.textOnly Departure.lateStores }], guard := none }) (v := ?_) rfl (by kernel_rfl) (by kernel_rfl) (by kernel_rfl) (fun _ _ _ h => h) (Or.inl ⟨by rfl, ?_⟩) (by assumption) ?_
          rotate_left
          · (intro wq hSw; (try dsimp only at hSw); go_simp; first | done | with_reducible rfl)
          try simp only [Act.put, List.setIfInBounds_toArray, List.set_cons_zero, List.set_cons_succ]
          refine wpAnyH_ready (rs := [8]) (by kernel_rfl) (by simp) ?_
          refine AllReadyH.cons (o := { dst := none, op := Op.store 32 (Operand.tmp 11) (Operand.tmp 50), type := 0, pos := "ref.go:36", after := #[{ on := 6, ground := Ground.data }, { on := 7, ground := Ground.chain }, { on := 0, ground := Ground.phase }, { on := 1, ground := Ground.phase }, { on := 2, ground := Ground.phase }, { on := 3, ground := Ground.phase }, { on := 4, ground := Ground.phase }, { on := 5, ground := Ground.phase }, { on := 6, ground := Ground.phase }, { on := 7, ground := Ground.phase }], guard := none }) rfl (fun K hK => ?_) AllReadyH.nil
          go_simp
          refine hK.out _ _ ?_ (fun hHeld => ?_)
          · exact ⟨(upd_cellC (hu8 _) HBO.out HBN.out _).trans f0, (upd_cellC (hu8 _) HBO.out HBN.out _).trans f1, (upd_cellC (hu8 _) HBO.out HBN.out _).trans f2⟩
          clear hK K
          try simp only [Act.put, List.setIfInBounds_toArray, List.set_cons_zero, List.set_cons_succ]
          refine wpAnyH_take (i := 9) (oi := { dst := some 12, op := Op.assign (Operand.const (Value.bool true)), type := 4, pos := "ref.go:36", after := #[{ on := 8, ground := Ground.chain }, { on := 0, ground := Ground.phase }, { on := 1, ground := Ground.phase }, { on := 2, ground := Ground.phase }, { on := 3, ground := Ground.phase }, { on := 4, ground := Ground.phase }, { on := 5, ground := Ground.phase }, { on := 6, ground := Ground.phase }, { on := 7, ground := Ground.phase }, { on := 8, ground := Ground.phase }], guard := none }) (v := ?_) rfl (by kernel_rfl) (by kernel_rfl) (by kernel_rfl) (fun _ _ _ h => h) (Or.inl ⟨by rfl, ?_⟩) (by assumption) ?_
          rotate_left
          · (intro wq hSw; (try dsimp only at hSw); go_simp; first | done | with_reducible rfl)
          try simp only [Act.put, List.setIfInBounds_toArray, List.set_cons_zero, List.set_cons_succ]
          refine wpAnyH_done (by kernel_rfl) ?_ _
          clear hHeld
          go_wp2_with fail
          obtain ⟨m0, m1, m2, m3, mz⟩ := Blk3R (((HB.out.set_ 0 (.int .i64 zi)).set_ 1 (.string zb)).set_ 2 (.bool zd)).drew
          refine bodyPost_ret (v := .tuple #[.slice (some ⟨bo, offo, none⟩) room co, .agg #[.int .i64 zi, .string zb, .bool zd], .bool true]) (by simp [results, Try.results12, go_sem, m1, m2, m3]) rfl ?_
          refine ⟨.slice (some ⟨bo, offo, none⟩) room co, by rw [HZZ.out]; rfl, ?_, ?_, ?_⟩
          · exact HSL.out
          · exact HN8.out
          · exact .inr fun b0 off0 n0 c0 e => by cases e; exact HFS.out
        · have hgt' : ¬ (room : Int) < ((frontE E id bb true).length : Int) := by omega
          have HZN := Lib.hid (show (frontE E id bb true)[room]? = none from List.getElem?_eq_none (by omega))
          have HPE := Lib.hid (show putE room E id bb true = frontE E id bb true from List.take_of_length_le (by omega))
          have hu8 : Upd (· = w.heap.size) wx (((wx.setCell ⟨w.heap.size, 0, none⟩ (.int .i64 0)).setCell ⟨w.heap.size, 1, none⟩ (.string ⟨#[]⟩)).setCell ⟨w.heap.size, 2, none⟩ (.bool false)) := (((Upd.refl _ wx).setIn 0 _).setIn 1 _).setIn 2 _
          have HB8 := Lib.hid (((hB11.set_ 0 (.int .i64 0)).set_ 1 (.string ⟨#[]⟩)).set_ 2 (.bool false))
          have HN8 := Lib.hid (HNX.out.upd hu8 (fun j hj => by omega))
          have HSL := Lib.hid (slUpd8 HSO.out hu8 (fun b0 off0 e => by rw [e] at hbo; have h1 := hbo b0 rfl; have h2 := HW11.out; omega))
          have HFS : Hid (Fresh w (.slice (some ⟨b, off, none⟩) E.length cp) (.slice Ao (frontE E id bb true).length co)) := Lib.hid (.inr fun b0 off0 n0 c0 e => by injection e with e1 e2 e3; have h1 := hbo b0 (by rw [e1]; rfl); have h2 := HW11.out; omega)
          obtain ⟨y0, y1, y2, y3, yz⟩ := Blk3R hB11
          clear hB11
          go_wp2_with fail
          obtain ⟨m0, m1, m2, m3, mz⟩ := Blk3R HB8.out
          refine bodyPost_ret (v := .tuple #[.slice Ao (frontE E id bb true).length co, .agg #[.int .i64 0, .string ⟨#[]⟩, .bool false], .bool false]) (by simp [results, Try.results12, go_sem, m1, m2, m3]) rfl ?_
          exact ⟨_, by rw [HZN.out]; rfl, by rw [HPE.out]; exact HSL.out, HN8.out, HFS.out⟩
      · go_simp
        refine (rwithout_any W.drew (HS.out.new ((New.refl W).drew)) HL.out ((k : Int))).mono ?_
        rintro e w0 ⟨u0, rfl, hw0, hc0⟩
        have hn0 := New.trans ((New.refl W).drew) hc0
        have hr0 := Owns.slIn entOk hw0
        refine hK.out _ _ ?_ (fun hHeld => ?_)
        · exact Held.of hn0
        clear hK K
        try simp only [Act.put, List.setIfInBounds_toArray, List.set_cons_zero, List.set_cons_succ]
        refine wpAnyH_ready (rs := [1]) (by kernel_rfl) (by simp) ?_
        refine AllReadyH.cons (o := { dst := some 35, op := Op.buildSlice 28 1 #[(0, Operand.tmp 34)], type := 28, pos := "ref.go:34", after := #[{ on := 0, ground := Ground.data }], guard := none }) rfl (fun K hK => ?_) AllReadyH.nil
        go_simp
        have hn1 := New.alloc (hn0) (.cells #[.int .i64 id, .string bb, .bool true] 32)
        have ho1 : Owns (w0.alloc (.cells #[.int .i64 id, .string bb, .bool true] 32)) W.heap.size 32 3 entC (.slice (some ⟨w0.heap.size, 0, none⟩) 1 1) [((⟨id, bb, true⟩ : Ent) : Ent)] := owns_one w0 (Below.size (hn0)) _
        have hr1 := SlIn.new hr0 ((New.refl _).alloc (.cells #[.int .i64 id, .string bb, .bool true] 32))
        refine hK.out _ _ ?_ (fun hHeld => ?_)
        · exact Held.of hn1
        clear hK K
        try simp only [Act.put, List.setIfInBounds_toArray, List.set_cons_zero, List.set_cons_succ]
        refine wpAnyH_ready (rs := [5]) (by kernel_rfl) (by simp) ?_
        refine AllReadyH.cons (o := { dst := some 39, op := Op.call { callee := Callee.builtin Builtin.append, args := #[Operand.tmp 35, Operand.tmp 38], argTypes := #[28, 28] }, type := 28, pos := "ref.go:34", after := #[{ on := 1, ground := Ground.data }, { on := 4, ground := Ground.data }, { on := 4, ground := Ground.chain }], guard := none }) rfl (fun K hK => ?_) AllReadyH.nil
        refine step_app entTy entOk rfl (.tmp 35) (.tmp 38) rfl rfl rfl ho1 hr1 HM1.out HM2.out (by have := Below.size (hn1); omega) ?_
        intro va2 wa2 ho2 hg2 _
        have hn2 := New.grown (hn1) hg2 (fun k hk => Owns.blockGe ho1 k hk)
        refine hK.out _ _ ?_ (fun hHeld => ?_)
        · exact Held.of hn2
        clear hK K
        try simp only [Act.put, List.setIfInBounds_toArray, List.set_cons_zero, List.set_cons_succ]
        refine wpAnyH_take (i := 6) (oi := { dst := some 15, op := Op.assign (Operand.tmp 39), type := 28, pos := "ref.go:34", after := #[{ on := 5, ground := Ground.data }, { on := 5, ground := Ground.chain }, { on := 0, ground := Ground.phase }, { on := 1, ground := Ground.phase }, { on := 2, ground := Ground.phase }, { on := 3, ground := Ground.phase }, { on := 4, ground := Ground.phase }, { on := 5, ground := Ground.phase }], guard := none }) (v := ?_) rfl (by kernel_rfl) (by kernel_rfl) (by kernel_rfl) (fun _ _ _ h => h) (Or.inl ⟨by rfl, ?_⟩) (by assumption) ?_
        rotate_left
        · (intro wq hSw; (try dsimp only at hSw); go_simp; first | done | with_reducible rfl)
        try simp only [Act.put, List.setIfInBounds_toArray, List.set_cons_zero, List.set_cons_succ]
        refine wpAnyH_done (by kernel_rfl) ?_ _
        clear hHeld
        have hown := ho2
        rw [HFE.out] at hown
        have hB11 := HB11.out.new (hn2)
        have hNx := New.trans HNW.out (hn2)
        have hbo : ∀ j, va2.ownBlock = some j → W.heap.size ≤ j := fun j hj => (Owns.lt ho2 j hj).1
        generalize wa2 = wx at *
        obtain ⟨Ao, co, hvo, hco, horo⟩ := Owns.slIn entOk hown
        have HSO := Lib.hid (Owns.slIn entOk hown)
        subst hvo
        have HB := Lib.hid hB11
        have HNX := Lib.hid hNx
        clear hown hNx r0 r1 r2 r3 rz
        by_cases hgt : room < (frontE E id bb true).length
        · have hgt' : (room : Int) < ((frontE E id bb true).length : Int) := by omega
          have hr0 : (0 : Int) ≤ (room : Int) := by omega
          have hrc : (room : Int) ≤ (co : Int) := by omega
          have hrn : (room : Int).toNat = room := by omega
          obtain ⟨z, hz⟩ : ∃ z, (frontE E id bb true)[room]? = some z := ⟨_, List.getElem?_eq_getElem hgt⟩
          rcases horo with horo | ⟨bo, offo, rfl, hbx, hcx⟩
          · rw [horo] at hgt; simp at hgt
          obtain ⟨f0, f1, f2⟩ := ent3 hcx hz
          obtain ⟨zi, zb, zd⟩ := z
          have HZZ := Lib.hid hz
          have HBO := Lib.hid hbx
          have HFS : Hid (w.heap.size ≤ bo) := Lib.hid (by have h1 := hbo bo rfl; have h2 := HW11.out; omega)
          have HBN : Hid (¬ bo = w.heap.size) := Lib.hid (by have h1 := hbo bo rfl; have h2 := HW11.out; omega)
          have hu8 : ∀ wy : World, Upd (· = w.heap.size) wy (((wy.setCell ⟨w.heap.size, 0, none⟩ (.int .i64 zi)).setCell ⟨w.heap.size, 1, none⟩ (.string zb)).setCell ⟨w.heap.size, 2, none⟩ (.bool zd)) := fun wy => (((Upd.refl _ wy).setIn 0 _).setIn 1 _).setIn 2 _
          have HB8 := Lib.hid (((hB11.drew.set_ 0 (.int .i64 zi)).set_ 1 (.string zb)).set_ 2 (.bool zd))
          have HN8 := Lib.hid (HNX.out.drew.upd (hu8 _) (fun j hj => by omega))
          have HSL := Lib.hid (slUpd8 (S := (· = w.heap.size)) ((HSO.out.new (New.refl wx).drew).take (k := room) (c' := co) (by omega) (by omega)) (hu8 wx.drew) (fun b0 off0 e => by cases e; exact HBN.out))
          obtain ⟨y0, y1, y2, y3, yz⟩ := Blk3R hB11
          clear hcx hz hB11
          go_upto_region 7 with fail
          refine wp_region_held_drew (S := fun w' => w'.cell? ⟨bo, offo + room * 3, none⟩ = some (.int .i64 zi) ∧ w'.cell? ⟨bo, offo + room * 3 + 1, none⟩ = some (.string zb) ∧ w'.cell? ⟨bo, offo + room * 3 + 2, none⟩ = some (.bool zd)) (by kernel_rfl) (⟨f0, f1, f2⟩) (fun hHeld => ?_)
          refine wpAnyH_take (i := 0) (oi := { dst := some 44, op := Op.move (Operand.tmp 15), type := 28, pos := "ref.go:36", after := #[], guard := none }) (v := ?_) rfl (by kernel_rfl) (by kernel_rfl) (by kernel_rfl) (fun _ _ _ h => h) (Or.inl ⟨by rfl, ?_⟩) (by assumption) ?_
          rotate_left
          · (intro wq hSw; (try dsimp only at hSw); go_simp; first | done | with_reducible rfl)
          try simp only [Act.put, List.setIfInBounds_toArray, List.set_cons_zero, List.set_cons_succ]
          refine wpAnyH_take (i := 1) (oi := { dst := some 45, op := Op.move (Operand.tmp 1), type := 3, pos := "ref.go:36", after := #[], guard := none }) (v := ?_) rfl (by kernel_rfl) (by kernel_rfl) (by kernel_rfl) (fun _ _ _ h => h) (Or.inl ⟨by rfl, ?_⟩) (by assumption) ?_
          rotate_left
          · (intro wq hSw; (try dsimp only at hSw); go_simp; first | done | with_reducible rfl)
          try simp only [Act.put, List.setIfInBounds_toArray, List.set_cons_zero, List.set_cons_succ]
          refine wpAnyH_take (i := 2) (oi := { dst := some 46, op := Op.slice 28 (Operand.tmp 44) none (some (Operand.tmp 45)) none, type := 28, pos := "ref.go:36", after := #[{ on := 0, ground := Ground.data }, { on := 1, ground := Ground.data }], guard := none }) (v := ?_) rfl (by kernel_rfl) (by kernel_rfl) (by kernel_rfl) (fun _ _ _ h => h) (Or.inl ⟨by rfl, ?_⟩) (by assumption) ?_
          rotate_left
          · (intro wq hSw; (try dsimp only at hSw); go_simp; first | done | with_reducible rfl)
          try simp only [Act.put, List.setIfInBounds_toArray, List.set_cons_zero, List.set_cons_succ]
          refine wpAnyH_take (i := 3) (oi := { dst := some 47, op := Op.move (Operand.tmp 15), type := 28, pos := "ref.go:36", after := #[{ on := 7, ground := Ground.gcOnly Departure.lateStores }], guard := none }) (v := ?_) rfl (by kernel_rfl) (by kernel_rfl) (by kernel_rfl) (fun _ _ _ h => h) (Or.inl ⟨by rfl, ?_⟩) (by assumption) ?_
          rotate_left
          · (intro wq hSw; (try dsimp only at hSw); go_simp; first | done | with_reducible rfl)
          try simp only [Act.put, List.setIfInBounds_toArray, List.set_cons_zero, List.set_cons_succ]
          refine wpAnyH_take (i := 4) (oi := { dst := some 48, op := Op.move (Operand.tmp 1), type := 3, pos := "ref.go:36", after := #[{ on := 7, ground := Ground.gcOnly Departure.lateStores }], guard := none }) (v := ?_) rfl (by kernel_rfl) (by kernel_rfl) (by kernel_rfl) (fun _ _ _ h => h) (Or.inl ⟨by rfl, ?_⟩) (by assumption) ?_
          rotate_left
          · (intro wq hSw; (try dsimp only at hSw); go_simp; first | done | with_reducible rfl)
          try simp only [Act.put, List.setIfInBounds_toArray, List.set_cons_zero, List.set_cons_succ]
          refine wpAnyH_take (i := 5) (oi := { dst := some 49, op := Op.indexAddr 28 (Operand.tmp 47) (Operand.tmp 48), type := 0, pos := "ref.go:36", after := #[{ on := 3, ground := Ground.data }, { on := 4, ground := Ground.data }, { on := 7, ground := Ground.gcOnly Departure.lateStores }], guard := none }) (v := ?_) rfl (by kernel_rfl) (by kernel_rfl) (by kernel_rfl) (fun _ _ _ h => h) (Or.inl ⟨by rfl, ?_⟩) (by assumption) ?_
          rotate_left
          · (intro wq hSw; (try dsimp only at hSw); go_simp; first | done | with_reducible rfl)
          try simp only [Act.put, List.setIfInBounds_toArray, List.set_cons_zero, List.set_cons_succ]
          refine wpAnyH_take (i := 6) (oi := { dst := some 50, op := Op.load 32 (Operand.tmp 49), type := 32, pos := "ref.go:36", after := #[{ on := 5, ground := Ground.data }, { on := 7, ground := Ground.gcOnly Departure.lateStores }], guard := none }) (v := ?_) rfl (by kernel_rfl) (by kernel_rfl) (by kernel_rfl) (fun _ _ _ h => h) (Or.inl ⟨by rfl, ?_⟩) (by assumption) ?_
          rotate_left
          · (intro wq hSw; (try dsimp only at hSw); go_simp; first | done | with_reducible rfl)
          try simp only [Act.put, List.setIfInBounds_toArray, List.set_cons_zero, List.set_cons_succ]
          refine wpAnyH_take (i := 7) (oi := { dst := some 10, op := Op.assign (Operand.tmp 46), type := 28, pos := "ref.go:36", after := #[{ on := 2, ground := Ground.data }, { on := 0, ground := Ground.phase }, { on := 1, ground := Ground.phase }, { on := 2, ground := Ground.phase }, { on := 3, ground := Ground.textOnly Departure.lateStores }, { on := 4, ground := Ground.textOnly Departure.lateStores }, { on := 5, ground := Ground.textOnly Departure.lateStores }, { on := 6, ground := Ground.textOnly Departure.lateStores }], guard := none }) (v := ?_) rfl (by kernel_rfl) (by kernel_rfl) (by kernel_rfl) (fun _ _ _ h => h) (Or.inl ⟨by rfl, ?_⟩) (by assumption) ?_
          rotate_left
          · (intro wq hSw; (try dsimp only at hSw); go_simp; first | done | with_reducible rfl)
          try simp only [Act.put, List.setIfInBounds_toArray, List.set_cons_zero, List.set_cons_succ]
          refine wpAnyH_ready (rs := [8]) (by kernel_rfl) (by simp) ?_
          refine AllReadyH.cons (o := { dst := none, op := Op.store 32 (Operand.tmp 11) (Operand.tmp 50), type := 0, pos := "ref.go:36", after := #[{ on := 6, ground := Ground.data }, { on := 7, ground := Ground.chain }, { on := 0, ground := Ground.phase }, { on := 1, ground := Ground.phase }, { on := 2, ground := Ground.phase }, { on := 3, ground := Ground.phase }, { on := 4, ground := Ground.phase }, { on := 5, ground := Ground.phase }, { on := 6, ground := Ground.phase }, { on := 7, ground := Ground.phase }], guard := none }) rfl (fun K hK => ?_) AllReadyH.nil
          go_simp
          refine hK.out _ _ ?_ (fun hHeld => ?_)
          · exact ⟨(upd_cellC (hu8 _) HBO.out HBN.out _).trans f0, (upd_cellC (hu8 _) HBO.out HBN.out _).trans f1, (upd_cellC (hu8 _) HBO.out HBN.out _).trans f2⟩
          clear hK K
          try simp only [Act.put, List.setIfInBounds_toArray, List.set_cons_zero, List.set_cons_succ]
          refine wpAnyH_take (i := 9) (oi := { dst := some 12, op := Op.assign (Operand.const (Value.bool true)), type := 4, pos := "ref.go:36", after := #[{ on := 8, ground := Ground.chain }, { on := 0, ground := Ground.phase }, { on := 1, ground := Ground.phase }, { on := 2, ground := Ground.phase }, { on := 3, ground := Ground.phase }, { on := 4, ground := Ground.phase }, { on := 5, ground := Ground.phase }, { on := 6, ground := Ground.phase }, { on := 7, ground := Ground.phase }, { on := 8, ground := Ground.phase }], guard := none }) (v := ?_) rfl (by kernel_rfl) (by kernel_rfl) (by kernel_rfl) (fun _ _ _ h => h) (Or.inl ⟨by rfl, ?_⟩) (by assumption) ?_
          rotate_left
          · (intro wq hSw; (try dsimp only at hSw); go_simp; first | done | with_reducible rfl)
          try simp only [Act.put, List.setIfInBounds_toArray, List.set_cons_zero, List.set_cons_succ]
          refine wpAnyH_done (by kernel_rfl) ?_ _
          clear hHeld
          go_wp2_with fail
          obtain ⟨m0, m1, m2, m3, mz⟩ := Blk3R (((HB.out.set_ 0 (.int .i64 zi)).set_ 1 (.string zb)).set_ 2 (.bool zd)).drew
          refine bodyPost_ret (v := .tuple #[.slice (some ⟨bo, offo, none⟩) room co, .agg #[.int .i64 zi, .string zb, .bool zd], .bool true]) (by simp [results, Try.results12, go_sem, m1, m2, m3]) rfl ?_
          refine ⟨.slice (some ⟨bo, offo, none⟩) room co, by rw [HZZ.out]; rfl, ?_, ?_, ?_⟩
          · exact HSL.out
          · exact HN8.out
          · exact .inr fun b0 off0 n0 c0 e => by cases e; exact HFS.out
        · have hgt' : ¬ (room : Int) < ((frontE E id bb true).length : Int) := by omega
          have HZN := Lib.hid (show (frontE E id bb true)[room]? = none from List.getElem?_eq_none (by omega))
          have HPE := Lib.hid (show putE room E id bb true = frontE E id bb true from List.take_of_length_le (by omega))
          have hu8 : Upd (· = w.heap.size) wx (((wx.setCell ⟨w.heap.size, 0, none⟩ (.int .i64 0)).setCell ⟨w.heap.size, 1, none⟩ (.string ⟨#[]⟩)).setCell ⟨w.heap.size, 2, none⟩ (.bool false)) := (((Upd.refl _ wx).setIn 0 _).setIn 1 _).setIn 2 _
          have HB8 := Lib.hid (((hB11.set_ 0 (.int .i64 0)).set_ 1 (.string ⟨#[]⟩)).set_ 2 (.bool false))
          have HN8 := Lib.hid (HNX.out.upd hu8 (fun j hj => by omega))
          have HSL := Lib.hid (slUpd8 HSO.out hu8 (fun b0 off0 e => by rw [e] at hbo; have h1 := hbo b0 rfl; have h2 := HW11.out; omega))
          have HFS : Hid (Fresh w (.slice (some ⟨b, off, none⟩) E.length cp) (.slice Ao (frontE E id bb true).length co)) := Lib.hid (.inr fun b0 off0 n0 c0 e => by injection e with e1 e2 e3; have h1 := hbo b0 (by rw [e1]; rfl); have h2 := HW11.out; omega)
          obtain ⟨y0, y1, y2, y3, yz⟩ := Blk3R hB11
          clear hB11
          go_wp2_with fail
          obtain ⟨m0, m1, m2, m3, mz⟩ := Blk3R HB8.out
          refine bodyPost_ret (v := .tuple #[.slice Ao (frontE E id bb true).length co, .agg #[.int .i64 0, .string ⟨#[]⟩, .bool false], .bool false]) (by simp [results, Try.results12, go_sem, m1, m2, m3]) rfl ?_
          exact ⟨_, by rw [HZN.out]; rfl, by rw [HPE.out]; exact HSL.out, HN8.out, HFS.out⟩
    | false =>
      go_enter Try.func12, Try.ntmps12
      go_wp2_with fail
      refine (rfind_any _ HS1.out (by omega) id).mono ?_
      rintro e w2 ⟨rfl, hw2⟩
      subst hw2
      rw [HPI.out]
      go_upto_region 5 with fail
      have hB11 : Blk ((w.alloc (.cells #[.int .i64 0, .string ⟨#[]⟩, .bool false] 32)).alloc (.cells #[.int .i64 id, .string bb, .bool x.d] 32)) w.heap.size 32 #[.int .i64 0, .string ⟨#[]⟩, .bool false] := (Blk.mk_new w 32 #[.int .i64 0, .string ⟨#[]⟩, .bool false]).alloc _
      have hB14 : Blk ((w.alloc (.cells #[.int .i64 0, .string ⟨#[]⟩, .bool false] 32)).alloc (.cells #[.int .i64 id, .string bb, .bool x.d] 32)) (w.heap.size + 1) 32 #[.int .i64 id, .string bb, .bool x.d] := by have := Blk.mk_new (w.alloc (.cells #[.int .i64 0, .string ⟨#[]⟩, .bool false] 32)) 32 #[.int .i64 id, .string bb, .bool x.d]; rw [World.size_alloc] at this; exact this
      have hNW : New w ((w.alloc (.cells #[.int .i64 0, .string ⟨#[]⟩, .bool false] 32)).alloc (.cells #[.int .i64 id, .string bb, .bool x.d] 32)) := ((New.refl w).alloc _).alloc _
      have hSW := HS0.out.new hNW
      clear t0 t1 t2 t3 tz q0 q1 q2 q3 qz HZ HX HN HS1 HS2
      generalize ((w.alloc (.cells #[.int .i64 0, .string ⟨#[]⟩, .bool false] 32)).alloc (.cells #[.int .i64 id, .string bb, .bool x.d] 32)) = W at *
      have HFE := Lib.hid (show [(⟨id, bb, x.d⟩ : Ent)] ++ wo E (k : Int) = frontE E id bb false from HFE.out)
      have HS := Lib.hid hSW
      have HB11 := Lib.hid hB11
      have HNW := Lib.hid hNW
      have HW11 := Lib.hid hB11.lt
      obtain ⟨r0, r1, r2, r3, rz⟩ := Blk3R hB14
      have hwl := wo_len E (k : Int)
      have HM1 := Lib.hid (show [(⟨id, bb, x.d⟩ : Ent)].length + (wo E (k : Int)).length ≤ maxLen by unfold maxLen; simp only [List.length_singleton]; omega)
      have HM2 := Lib.hid (show ([(⟨id, bb, x.d⟩ : Ent)].length + (wo E (k : Int)).length) * 32 ≤ 140737488355328 by simp only [List.length_singleton]; omega)
      have hfl : (frontE E id bb false).length ≤ 10001 := by have := front_len E id bb false; omega
      clear hSW hB11 hB14 hNW hwl
      refine wp_region_held_drew (S := fun w' => Held W w') (by kernel_rfl) (Held.of (New.refl _).drew) (fun hHeld => ?_)
      refine wpAnyH_take (i := 0) (oi := { dst := some 34, op := Op.load 32 (Operand.tmp 14), type := 32, pos := "ref.go:34", after := #[], guard := none }) (v := ?_) rfl (by kernel_rfl) (by kernel_rfl) (by kernel_rfl) (fun _ _ _ h => h) (Or.inl ⟨by rfl, ?_⟩) (by assumption) ?_
      rotate_left
      · (intro wq hSw; (try dsimp only at hSw); go_simp; first | done | with_reducible rfl)
      try simp only [Act.put, List.setIfInBounds_toArray, List.set_cons_zero, List.set_cons_succ]
      refine wpAnyH_take (i := 2) (oi := { dst := some 36, op := Op.move (Operand.tmp 0), type := 28, pos := "ref.go:34", after := #[], guard := none }) (v := ?_) rfl (by kernel_rfl) (by kernel_rfl) (by kernel_rfl) (fun _ _ _ h => h) (Or.inl ⟨by rfl, ?_⟩) (by assumption) ?_
      rotate_left
      · (intro wq hSw; (try dsimp only at hSw); go_simp; first | done | with_reducible rfl)
      try simp only [Act.put, List.setIfInBounds_toArray, List.set_cons_zero, List.set_cons_succ]
      refine wpAnyH_take (i := 3) (oi := { dst := some 37, op := Op.move (Operand.tmp 13), type := 3, pos := "ref.go:34", after := #[], guard := none }) (v := ?_) rfl (by kernel_rfl) (by kernel_rfl) (by kernel_rfl) (fun _ _ _ h => h) (Or.inl ⟨by rfl, ?_⟩) (by assumption) ?_
      rotate_left
      · (intro wq hSw; (try dsimp only at hSw); go_simp; first | done | with_reducible rfl)
      try simp only [Act.put, List.setIfInBounds_toArray, List.set_cons_zero, List.set_cons_succ]
      refine wpAnyH_ready (rs := [1, 4]) (by kernel_rfl) (by simp) ?_
      refine AllReadyH.cons (o := { dst := some 35, op := Op.buildSlice 28 1 #[(0, Operand.tmp 34)], type := 28, pos := "ref.go:34", after := #[{ on := 0, ground := Ground.data }], guard := none }) rfl (fun K hK => ?_) (AllReadyH.cons (o := { dst := some 38, op := Op.call { callee := Callee.value (Operand.func 38), args := #[Operand.tmp 36, Operand.tmp 37], argTypes := #[28, 3] }, type := 28, pos := "ref.go:34", after := #[{ on := 2, ground := Ground.data }, { on := 3, ground := Ground.data }], guard := none }) rfl (fun K hK => ?_) AllReadyH.nil)
      · go_simp
        have hn0 := New.alloc ((New.refl W).drew) (.cells #[.int .i64 id, .string bb, .bool x.d] 32)
        have ho0 : Owns (W.drew.alloc (.cells #[.int .i64 id, .string bb, .bool x.d] 32)) W.heap.size 32 3 entC (.slice (some ⟨W.drew.heap.size, 0, none⟩) 1 1) [((⟨id, bb, x.d⟩ : Ent) : Ent)] := owns_one W.drew (Below.size ((New.refl W).drew)) _
        refine hK.out _ _ ?_ (fun hHeld => ?_)
        · exact Held.of hn0
        clear hK K
        try simp only [Act.put, List.setIfInBounds_toArray, List.set_cons_zero, List.set_cons_succ]
        refine wpAnyH_ready (rs := [4]) (by kernel_rfl) (by simp) ?_
        refine AllReadyH.cons (o := { dst := some 38, op := Op.call { callee := Callee.value (Operand.func 38), args := #[Operand.tmp 36, Operand.tmp 37], argTypes := #[28, 3] }, type := 28, pos := "ref.go:34", after := #[{ on := 2, ground := Ground.data }, { on := 3, ground := Ground.data }], guard := none }) rfl (fun K hK => ?_) AllReadyH.nil
        go_simp
        refine (rwithout_any (W.drew.alloc (.cells #[.int .i64 id, .string bb, .bool x.d] 32)) (HS.out.new (hn0)) HL.out ((k : Int))).mono ?_
        rintro e w1 ⟨u1, rfl, hw1, hc1⟩
        have hn1 := New.trans (hn0) hc1
        have hr1 := Owns.slIn entOk hw1
        have ho1 := Owns.new ho0 hc1
        refine hK.out _ _ ?_ (fun hHeld => ?_)
        · exact Held.of hn1
        clear hK K
        try simp only [Act.put, List.setIfInBounds_toArray, List.set_cons_zero, List.set_cons_succ]
        refine wpAnyH_ready (rs := [5]) (by kernel_rfl) (by simp) ?_
        refine AllReadyH.cons (o := { dst := some 39, op := Op.call { callee := Callee.builtin Builtin.append, args := #[Operand.tmp 35, Operand.tmp 38], argTypes := #[28, 28] }, type := 28, pos := "ref.go:34", after := #[{ on := 1, ground := Ground.data }, { on := 4, ground := Ground.data }, { on := 4, ground := Ground.chain }], guard := none }) rfl (fun K hK => ?_) AllReadyH.nil
        refine step_app entTy entOk rfl (.tmp 35) (.tmp 38) rfl rfl rfl ho1 hr1 HM1.out HM2.out (by have := Below.size (hn1); omega) ?_
        intro va2 wa2 ho2 hg2 _
        have hn2 := New.grown (hn1) hg2 (fun k hk => Owns.blockGe ho1 k hk)
        refine hK.out _ _ ?_ (fun hHeld => ?_)
        · exact Held.of hn2
        clear hK K
        try simp only [Act.put, List.setIfInBounds_toArray, List.set_cons_zero, List.set_cons_succ]
        refine wpAnyH_take (i := 6) (oi := { dst := some 15, op := Op.assign (Operand.tmp 39), type := 28, pos := "ref.go:34", after := #[{ on := 5, ground := Ground.data }, { on := 5, ground := Ground.chain }, { on := 0, ground := Ground.phase }, { on := 1, ground := Ground.phase }, { on := 2, ground := Ground.phase }, { on := 3, ground := Ground.phase }, { on := 4, ground := Ground.phase }, { on := 5, ground := Ground.phase }], guard := none }) (v := ?_) rfl (by kernel_rfl) (by kernel_rfl) (by kernel_rfl) (fun _ _ _ h => h) (Or.inl ⟨by rfl, ?_⟩) (by assumption) ?_
        rotate_left
        · (intro wq hSw; (try dsimp only at hSw); go_simp; first | done | with_reducible rfl)
        try simp only [Act.put, List.setIfInBounds_toArray, List.set_cons_zero, List.set_cons_succ]
        refine wpAnyH_done (by kernel_rfl) ?_ _
        clear hHeld
        have hown := ho2
        rw [HFE.out] at hown
        have hB11 := HB11.out.new (hn2)
        have hNx := New.trans HNW.out (hn2)
        have hbo : ∀ j, va2.ownBlock = some j → W.heap.size ≤ j := fun j hj => (Owns.lt ho2 j hj).1
        generalize wa2 = wx at *
        obtain ⟨Ao, co, hvo, hco, horo⟩ := Owns.slIn entOk hown
        have HSO := Lib.hid (Owns.slIn entOk hown)
        subst hvo
        have HB := Lib.hid hB11
        have HNX := Lib.hid hNx
        clear hown hNx r0 r1 r2 r3 rz
        by_cases hgt : room < (frontE E id bb false).length
        · have hgt' : (room : Int) < ((frontE E id bb false).length : Int) := by omega
          have hr0 : (0 : Int) ≤ (room : Int) := by omega
          have hrc : (room : Int) ≤ (co : Int) := by omega
          have hrn : (room : Int).toNat = room := by omega
          obtain ⟨z, hz⟩ : ∃ z, (frontE E id bb false)[room]? = some z := ⟨_, List.getElem?_eq_getElem hgt⟩
          rcases horo with horo | ⟨bo, offo, rfl, hbx, hcx⟩
          · rw [horo] at hgt; simp at hgt
          obtain ⟨f0, f1, f2⟩ := ent3 hcx hz
          obtain ⟨zi, zb, zd⟩ := z
          have HZZ := Lib.hid hz
          have HBO := Lib.hid hbx
          have HFS : Hid (w.heap.size ≤ bo) := Lib.hid (by have h1 := hbo bo rfl; have h2 := HW11.out; omega)
          have HBN : Hid (¬ bo = w.heap.size) := Lib.hid (by have h1 := hbo bo rfl; have h2 := HW11.out; omega)
          have hu8 : ∀ wy : World, Upd (· = w.heap.size) wy (((wy.setCell ⟨w.heap.size, 0, none⟩ (.int .i64 zi)).setCell ⟨w.heap.size, 1, none⟩ (.string zb)).setCell ⟨w.heap.size, 2, none⟩ (.bool zd)) := fun wy => (((Upd.refl _ wy).setIn 0 _).setIn 1 _).setIn 2 _
          have HB8 := Lib.hid (((hB11.drew.set_ 0 (.int .i64 zi)).set_ 1 (.string zb)).set_ 2 (.bool zd))
          have HN8 := Lib.hid (HNX.out.drew.upd (hu8 _) (fun j hj => by omega))
          have HSL := Lib.hid (slUpd8 (S := (· = w.heap.size)) ((HSO.out.new (New.refl wx).drew).take (k := room) (c' := co) (by omega) (by omega)) (hu8 wx.drew) (fun b0 off0 e => by cases e; exact HBN.out))
          obtain ⟨y0, y1, y2, y3, yz⟩ := Blk3R hB11
          clear hcx hz hB11
          go_upto_region 7 with fail
          refine wp_region_held_drew (S := fun w' => w'.cell? ⟨bo, offo + room * 3, none⟩ = some (.int .i64 zi) ∧ w'.cell? ⟨bo, offo + room * 3 + 1, none⟩ = some (.string zb) ∧ w'.cell? ⟨bo, offo + room * 3 + 2, none⟩ = some (.bool zd)) (by kernel_rfl) (⟨f0, f1, f2⟩) (fun hHeld => ?_)
          refine wpAnyH_take (i := 0) (oi := { dst := some 44, op := Op.move (Operand.tmp 15), type := 28, pos := "ref.go:36", after := #[], guard := none }) (v := ?_) rfl (by kernel_rfl) (by kernel_rfl) (by kernel_rfl) (fun _ _ _ h => h) (Or.inl ⟨by rfl, ?_⟩) (by assumption) ?_
          rotate_left
          · (intro wq hSw; (try dsimp only at hSw); go_simp; first | done | with_reducible rfl)
          try simp only [Act.put, List.setIfInBounds_toArray, List.set_cons_zero, List.set_cons_succ]
          refine wpAnyH_take (i := 1) (oi := { dst := some 45, op := Op.move (Operand.tmp 1), type := 3, pos := "ref.go:36", after := #[], guard := none }) (v := ?_) rfl (by kernel_rfl) (by kernel_rfl) (by kernel_rfl) (fun _ _ _ h => h) (Or.inl ⟨by rfl, ?_⟩) (by assumption) ?_
          rotate_left
          · (intro wq hSw; (try dsimp only at hSw); go_simp; first | done | with_reducible rfl)
          try simp only [Act.put, List.setIfInBounds_toArray, List.set_cons_zero, List.set_cons_succ]
          refine wpAnyH_take (i := 2) (oi := { dst := some 46, op := Op.slice 28 (Operand.tmp 44) none (some (Operand.tmp 45)) none, type := 28, pos := "ref.go:36", after := #[{ on := 0, ground := Ground.data }, { on := 1, ground := Ground.data }], guard := none }) (v := ?_) rfl (by kernel_rfl) (by kernel_rfl) (by kernel_rfl) (fun _ _ _ h => h) (Or.inl ⟨by rfl, ?_⟩) (by assumption) ?_
          rotate_left
          · (intro wq hSw; (try dsimp only at hSw); go_simp; first | done | with_reducible rfl)
          try simp only [Act.put, List.setIfInBounds_toArray, List.set_cons_zero, List.set_cons_succ]
          refine wpAnyH_take (i := 3) (oi := { dst := some 47, op := Op.move (Operand.tmp 15), type := 28, pos := "ref.go:36", after := #[{ on := 7, ground := Ground.gcOnly Departure.lateStores }], guard := none }) (v := ?_) rfl (by kernel_rfl) (by kernel_rfl) (by kernel_rfl) (fun _ _ _ h => h) (Or.inl ⟨by rfl, ?_⟩) (by assumption) ?_
          rotate_left
          · (intro wq hSw; (try dsimp only at hSw); go_simp; first | done | with_reducible rfl)
          try simp only [Act.put, List.setIfInBounds_toArray, List.set_cons_zero, List.set_cons_succ]
          refine wpAnyH_take (i := 4) (oi := { dst := some 48, op := Op.move (Operand.tmp 1), type := 3, pos := "ref.go:36", after := #[{ on := 7, ground := Ground.gcOnly Departure.lateStores }], guard := none }) (v := ?_) rfl (by kernel_rfl) (by kernel_rfl) (by kernel_rfl) (fun _ _ _ h => h) (Or.inl ⟨by rfl, ?_⟩) (by assumption) ?_
          rotate_left
          · (intro wq hSw; (try dsimp only at hSw); go_simp; first | done | with_reducible rfl)
          try simp only [Act.put, List.setIfInBounds_toArray, List.set_cons_zero, List.set_cons_succ]
          refine wpAnyH_take (i := 5) (oi := { dst := some 49, op := Op.indexAddr 28 (Operand.tmp 47) (Operand.tmp 48), type := 0, pos := "ref.go:36", after := #[{ on := 3, ground := Ground.data }, { on := 4, ground := Ground.data }, { on := 7, ground := Ground.gcOnly Departure.lateStores }], guard := none }) (v := ?_) rfl (by kernel_rfl) (by kernel_rfl) (by kernel_rfl) (fun _ _ _ h => h) (Or.inl ⟨by rfl, ?_⟩) (by assumption) ?_
          rotate_left
          · (intro wq hSw; (try dsimp only at hSw); go_simp; first | done | with_reducible rfl)
          try simp only [Act.put, List.setIfInBounds_toArray, List.set_cons_zero, List.set_cons_succ]
          refine wpAnyH_take (i := 6) (oi := { dst := some 50, op := Op.load 32 (Operand.tmp 49), type := 32, pos := "ref.go:36", after := #[{ on := 5, ground := Ground.data }, { on := 7, ground := Ground.gcOnly Departure.lateStores }], guard := none }) (v := ?_) rfl (by kernel_rfl) (by kernel_rfl) (by kernel_rfl) (fun _ _ _ h => h) (Or.inl ⟨by rfl, ?_⟩) (by assumption) ?_
          rotate_left
          · (intro wq hSw; (try dsimp only at hSw); go_simp; first | done | with_reducible rfl)
          try simp only [Act.put, List.setIfInBounds_toArray, List.set_cons_zero, List.set_cons_succ]
          refine wpAnyH_take (i := 7) (oi := { dst := some 10, op := Op.assign (Operand.tmp 46), type := 28, pos := "ref.go:36", after := #[{ on := 2, ground := Ground.data }, { on := 0, ground := Ground.phase }, { on := 1, ground := Ground.phase }, { on := 2, ground := Ground.phase }, { on := 3, ground := Ground.textOnly Departure.lateStores }, { on := 4, ground := Ground.textOnly Departure.lateStores }, { on := 5, ground := Ground.textOnly Departure.lateStores }, { on := 6, ground := Ground.textOnly Departure.lateStores }], guard := none }) (v := ?_) rfl (by kernel_rfl) (by kernel_rfl) (by kernel_rfl) (fun _ _ _ h => h) (Or.inl ⟨by rfl, ?_⟩) (by assumption) ?_
          rotate_left
          · (intro wq hSw; (try dsimp only at hSw); go_simp; first | done | with_reducible rfl)
          try simp only [Act.put, List.setIfInBounds_toArray, List.set_cons_zero, List.set_cons_succ]
          refine wpAnyH_ready (rs := [8]) (by kernel_rfl) (by simp) ?_
          refine AllReadyH.cons (o := { dst := none, op := Op.store 32 (Operand.tmp 11) (Operand.tmp 50), type := 0, pos := "ref.go:36", after := #[{ on := 6, ground := Ground.data }, { on := 7, ground := Ground.chain }, { on := 0, ground := Ground.phase }, { on := 1, ground := Ground.phase }, { on := 2, ground := Ground.phase }, { on := 3, ground := Ground.phase }, { on := 4, ground := Ground.phase }, { on := 5, ground := Ground.phase }, { on := 6, ground := Ground.phase }, { on := 7, ground := Ground.phase }], guard := none }) rfl (fun K hK => ?_) AllReadyH.nil
          go_simp
          refine hK.out _ _ ?_ (fun hHeld => ?_)
          · exact ⟨(upd_cellC (hu8 _) HBO.out HBN.out _).trans f0, (upd_cellC (hu8 _) HBO.out HBN.out _).trans f1, (upd_cellC (hu8 _) HBO.out HBN.out _).trans f2⟩
          clear hK K
          try simp only [Act.put, List.setIfInBounds_toArray, List.set_cons_zero, List.set_cons_succ]
          refine wpAnyH_take (i := 9) (oi := { dst := some 12, op := Op.assign (Operand.const (Value.bool true)), type := 4, pos := "ref.go:36", after := #[{ on := 8, ground := Ground.chain }, { on := 0, ground := Ground.phase }, { on := 1, ground := Ground.phase }, { on := 2, ground := Ground.phase }, { on := 3, ground := Ground.phase }, { on := 4, ground := Ground.phase }, { on := 5, ground := Ground.phase }, { on := 6, ground := Ground.phase }, { on := 7, ground := Ground.phase }, { on := 8, ground := Ground.phase }], guard := none }) (v := ?_) rfl (by kernel_rfl) (by kernel_rfl) (by kernel_rfl) (fun _ _ _ h => h) (Or.inl ⟨by rfl, ?_⟩) (by assumption) ?_
          rotate_left
          · (intro wq hSw; (try dsimp only at hSw); go_simp; first | done | with_reducible rfl)
          try simp only [Act.put, List.setIfInBounds_toArray, List.set_cons_zero, List.set_cons_succ]
          refine wpAnyH_done (by kernel_rfl) ?_ _
          clear hHeld
          go_wp2_with fail
          obtain ⟨m0, m1, m2, m3, mz⟩ := Blk3R (((HB.out.set_ 0 (.int .i64 zi)).set_ 1 (.string zb)).set_ 2 (.bool zd)).drew
          refine bodyPost_ret (v := .tuple #[.slice (some ⟨bo, offo, none⟩) room co, .agg #[.int .i64 zi, .string zb, .bool zd], .bool true]) (by simp [results, Try.results12, go_sem, m1, m2, m3]) rfl ?_
          refine ⟨.slice (some ⟨bo, offo, none⟩) room co, by rw [HZZ.out]; rfl, ?_, ?_, ?_⟩
          · exact HSL.out
          · exact HN8.out
          · exact .inr fun b0 off0 n0 c0 e => by cases e; exact HFS.out
        · have hgt' : ¬ (room : Int) < ((frontE E id bb false).length : Int) := by omega
          have HZN := Lib.hid (show (frontE E id bb false)[room]? = none from List.getElem?_eq_none (by omega))
          have HPE := Lib.hid (show putE room E id bb false = frontE E id bb false from List.take_of_length_le (by omega))
          have hu8 : Upd (· = w.heap.size) wx (((wx.setCell ⟨w.heap.size, 0, none⟩ (.int .i64 0)).setCell ⟨w.heap.size, 1, none⟩ (.string ⟨#[]⟩)).setCell ⟨w.heap.size, 2, none⟩ (.bool false)) := (((Upd.refl _ wx).setIn 0 _).setIn 1 _).setIn 2 _
          have HB8 := Lib.hid (((hB11.set_ 0 (.int .i64 0)).set_ 1 (.string ⟨#[]⟩)).set_ 2 (.bool false))
          have HN8 := Lib.hid (HNX.out.upd hu8 (fun j hj => by omega))
          have HSL := Lib.hid (slUpd8 HSO.out hu8 (fun b0 off0 e => by rw [e] at hbo; have h1 := hbo b0 rfl; have h2 := HW11.out; omega))
          have HFS : Hid (Fresh w (.slice (some ⟨b, off, none⟩) E.length cp) (.slice Ao (frontE E id bb false).length co)) := Lib.hid (.inr fun b0 off0 n0 c0 e => by injection e with e1 e2 e3; have h1 := hbo b0 (by rw [e1]; rfl); have h2 := HW11.out; omega)
          obtain ⟨y0, y1, y2, y3, yz⟩ := Blk3R hB11
          clear hB11
          go_wp2_with fail
          obtain ⟨m0, m1, m2, m3, mz⟩ := Blk3R HB8.out
          refine bodyPost_ret (v := .tuple #[.slice Ao (frontE E id bb false).length co, .agg #[.int .i64 0, .string ⟨#[]⟩, .bool false], .bool false]) (by simp [results, Try.results12, go_sem, m1, m2, m3]) rfl ?_
          exact ⟨_, by rw [HZN.out]; rfl, by rw [HPE.out]; exact HSL.out, HN8.out, HFS.out⟩
      · go_simp
        refine (rwithout_any W.drew (HS.out.new ((New.refl W).drew)) HL.out ((k : Int))).mono ?_
        rintro e w0 ⟨u0, rfl, hw0, hc0⟩
        have hn0 := New.trans ((New.refl W).drew) hc0
        have hr0 := Owns.slIn entOk hw0
        refine hK.out _ _ ?_ (fun hHeld => ?_)
        · exact Held.of hn0
        clear hK K
        try simp only [Act.put, List.setIfInBounds_toArray, List.set_cons_zero, List.set_cons_succ]
        refine wpAnyH_ready (rs := [1]) (by kernel_rfl) (by simp) ?_
        refine AllReadyH.cons (o := { dst := some 35, op := Op.buildSlice 28 1 #[(0, Operand.tmp 34)], type := 28, pos := "ref.go:34", after := #[{ on := 0, ground := Ground.data }], guard := none }) rfl (fun K hK => ?_) AllReadyH.nil
        go_simp
        have hn1 := New.alloc (hn0) (.cells #[.int .i64 id, .string bb, .bool x.d] 32)
        have ho1 : Owns (w0.alloc (.cells #[.int .i64 id, .string bb, .bool x.d] 32)) W.heap.size 32 3 entC (.slice (some ⟨w0.heap.size, 0, none⟩) 1 1) [((⟨id, bb, x.d⟩ : Ent) : Ent)] := owns_one w0 (Below.size (hn0)) _
        have hr1 := SlIn.new hr0 ((New.refl _).alloc (.cells #[.int .i64 id, .string bb, .bool x.d] 32))
        refine hK.out _ _ ?_ (fun hHeld => ?_)
        · exact Held.of hn1
        clear hK K
        try simp only [Act.put, List.setIfInBounds_toArray, List.set_cons_zero, List.set_cons_succ]
        refine wpAnyH_ready (rs := [5]) (by kernel_rfl) (by simp) ?_
        refine AllReadyH.cons (o := { dst := some 39, op := Op.call { callee := Callee.builtin Builtin.append, args := #[Operand.tmp 35, Operand.tmp 38], argTypes := #[28, 28] }, type := 28, pos := "ref.go:34", after := #[{ on := 1, ground := Ground.data }, { on := 4, ground := Ground.data }, { on := 4, ground := Ground.chain }], guard := none }) rfl (fun K hK => ?_) AllReadyH.nil
        refine step_app entTy entOk rfl (.tmp 35) (.tmp 38) rfl rfl rfl ho1 hr1 HM1.out HM2.out (by have := Below.size (hn1); omega) ?_
        intro va2 wa2 ho2 hg2 _
        have hn2 := New.grown (hn1) hg2 (fun k hk => Owns.blockGe ho1 k hk)
        refine hK.out _ _ ?_ (fun hHeld => ?_)
        · exact Held.of hn2
        clear hK K
        try simp only [Act.put, List.setIfInBounds_toArray, List.set_cons_zero, List.set_cons_succ]
        refine wpAnyH_take (i := 6) (oi := { dst := some 15, op := Op.assign (Operand.tmp 39), type := 28, pos := "ref.go:34", after := #[{ on := 5, ground := Ground.data }, { on := 5, ground := Ground.chain }, { on := 0, ground := Ground.phase }, { on := 1, ground := Ground.phase }, { on := 2, ground := Ground.phase }, { on := 3, ground := Ground.phase }, { on := 4, ground := Ground.phase }, { on := 5, ground := Ground.phase }], guard := none }) (v := ?_) rfl (by kernel_rfl) (by kernel_rfl) (by kernel_rfl) (fun _ _ _ h => h) (Or.inl ⟨by rfl, ?_⟩) (by assumption) ?_
        rotate_left
        · (intro wq hSw; (try dsimp only at hSw); go_simp; first | done | with_reducible rfl)
        try simp only [Act.put, List.setIfInBounds_toArray, List.set_cons_zero, List.set_cons_succ]
        refine wpAnyH_done (by kernel_rfl) ?_ _
        clear hHeld
        have hown := ho2
        rw [HFE.out] at hown
        have hB11 := HB11.out.new (hn2)
        have hNx := New.trans HNW.out (hn2)
        have hbo : ∀ j, va2.ownBlock = some j → W.heap.size ≤ j := fun j hj => (Owns.lt ho2 j hj).1
        generalize wa2 = wx at *
        obtain ⟨Ao, co, hvo, hco, horo⟩ := Owns.slIn entOk hown
        have HSO := Lib.hid (Owns.slIn entOk hown)
        subst hvo
        have HB := Lib.hid hB11
        have HNX := Lib.hid hNx
        clear hown hNx r0 r1 r2 r3 rz
        by_cases hgt : room < (frontE E id bb false).length
        · have hgt' : (room : Int) < ((frontE E id bb false).length : Int) := by omega
          have hr0 : (0 : Int) ≤ (room : Int) := by omega
          have hrc : (room : Int) ≤ (co : Int) := by omega
          have hrn : (room : Int).toNat = room := by omega
          obtain ⟨z, hz⟩ : ∃ z, (frontE E id bb false)[room]? = some z := ⟨_, List.getElem?_eq_getElem hgt⟩
          rcases horo with horo | ⟨bo, offo, rfl, hbx, hcx⟩
          · rw [horo] at hgt; simp at hgt
          obtain ⟨f0, f1, f2⟩ := ent3 hcx hz
          obtain ⟨zi, zb, zd⟩ := z
          have HZZ := Lib.hid hz
          have HBO := Lib.hid hbx
          have HFS : Hid (w.heap.size ≤ bo) := Lib.hid (by have h1 := hbo bo rfl; have h2 := HW11.out; omega)
          have HBN : Hid (¬ bo = w.heap.size) := Lib.hid (by have h1 := hbo bo rfl; have h2 := HW11.out; omega)
          have hu8 : ∀ wy : World, Upd (· = w.heap.size) wy (((wy.setCell ⟨w.heap.size, 0, none⟩ (.int .i64 zi)).setCell ⟨w.heap.size, 1, none⟩ (.string zb)).setCell ⟨w.heap.size, 2, none⟩ (.bool zd)) := fun wy => (((Upd.refl _ wy).setIn 0 _).setIn 1 _).setIn 2 _
          have HB8 := Lib.hid (((hB11.drew.set_ 0 (.int .i64 zi)).set_ 1 (.string zb)).set_ 2 (.bool zd))
          have HN8 := Lib.hid (HNX.out.drew.upd (hu8 _) (fun j hj => by omega))
          have HSL := Lib.hid (slUpd8 (S := (· = w.heap.size)) ((HSO.out.new (New.refl wx).drew).take (k := room) (c' := co) (by omega) (by omega)) (hu8 wx.drew) (fun b0 off0 e => by cases e; exact HBN.out))
          obtain ⟨y0, y1, y2, y3, yz⟩ := Blk3R hB11
          clear hcx hz hB11
          go_upto_region 7 with fail
          refine wp_region_held_drew (S := fun w' => w'.cell? ⟨bo, offo + room * 3, none⟩ = some (.int .i64 zi) ∧ w'.cell? ⟨bo, offo + room * 3 + 1, none⟩ = some (.string zb) ∧ w'.cell? ⟨bo, offo + room * 3 + 2, none⟩ = some (.bool zd)) (by kernel_rfl) (⟨f0, f1, f2⟩) (fun hHeld => ?_)
          refine wpAnyH_take (i := 0) (oi := { dst := some 44, op := Op.move (Operand.tmp 15), type := 28, pos := "ref.go:36", after := #[], guard := none }) (v := ?_) rfl (by kernel_rfl) (by kernel_rfl) (by kernel_rfl) (fun _ _ _ h => h) (Or.inl ⟨by rfl, ?_⟩) (by assumption) ?_
          rotate_left
          · (intro wq hSw; (try dsimp only at hSw); go_simp; first | done | with_reducible rfl)
          try simp only [Act.put, List.setIfInBounds_toArray, List.set_cons_zero, List.set_cons_succ]
          refine wpAnyH_take (i := 1) (oi := { dst := some 45, op := Op.move (Operand.tmp 1), type := 3, pos := "ref.go:36", after := #[], guard := none }) (v := ?_) rfl (by kernel_rfl) (by kernel_rfl) (by kernel_rfl) (fun _ _ _ h => h) (Or.inl ⟨by rfl, ?_⟩) (by assumption) ?_
          rotate_left
          · (intro wq hSw; (try dsimp only at hSw); go_simp; first | done | with_reducible rfl)
          try simp only [Act.put, List.setIfInBounds_toArray, List.set_cons_zero, List.set_cons_succ]
          refine wpAnyH_take (i := 2) (oi := { dst := some 46, op := Op.slice 28 (Operand.tmp 44) none (some (Operand.tmp 45)) none, type := 28, pos := "ref.go:36", after := #[{ on := 0, ground := Ground.data }, { on := 1, ground := Ground.data }], guard := none }) (v := ?_) rfl (by kernel_rfl) (by kernel_rfl) (by kernel_rfl) (fun _ _ _ h => h) (Or.inl ⟨by rfl, ?_⟩) (by assumption) ?_
          rotate_left
          · (intro wq hSw; (try dsimp only at hSw); go_simp; first | done | with_reducible rfl)
          try simp only [Act.put, List.setIfInBounds_toArray, List.set_cons_zero, List.set_cons_succ]
          refine wpAnyH_take (i := 3) (oi := { dst := some 47, op := Op.move (Operand.tmp 15), type := 28, pos := "ref.go:36", after := #[{ on := 7, ground := Ground.gcOnly Departure.lateStores }], guard := none }) (v := ?_) rfl (by kernel_rfl) (by kernel_rfl) (by kernel_rfl) (fun _ _ _ h => h) (Or.inl ⟨by rfl, ?_⟩) (by assumption) ?_
          rotate_left
          · (intro wq hSw; (try dsimp only at hSw); go_simp; first | done | with_reducible rfl)
          try simp only [Act.put, List.setIfInBounds_toArray, List.set_cons_zero, List.set_cons_succ]
          refine wpAnyH_take (i := 4) (oi := { dst := some 48, op := Op.move (Operand.tmp 1), type := 3, pos := "ref.go:36", after := #[{ on := 7, ground := Ground.gcOnly Departure.lateStores }], guard := none }) (v := ?_) rfl (by kernel_rfl) (by kernel_rfl) (by kernel_rfl) (fun _ _ _ h => h) (Or.inl ⟨by rfl, ?_⟩) (by assumption) ?_
          rotate_left
          · (intro wq hSw; (try dsimp only at hSw); go_simp; first | done | with_reducible rfl)
          try simp only [Act.put, List.setIfInBounds_toArray, List.set_cons_zero, List.set_cons_succ]
          refine wpAnyH_take (i := 5) (oi := { dst := some 49, op := Op.indexAddr 28 (Operand.tmp 47) (Operand.tmp 48), type := 0, pos := "ref.go:36", after := #[{ on := 3, ground := Ground.data }, { on := 4, ground := Ground.data }, { on := 7, ground := Ground.gcOnly Departure.lateStores }], guard := none }) (v := ?_) rfl (by kernel_rfl) (by kernel_rfl) (by kernel_rfl) (fun _ _ _ h => h) (Or.inl ⟨by rfl, ?_⟩) (by assumption) ?_
          rotate_left
          · (intro wq hSw; (try dsimp only at hSw); go_simp; first | done | with_reducible rfl)
          try simp only [Act.put, List.setIfInBounds_toArray, List.set_cons_zero, List.set_cons_succ]
          refine wpAnyH_take (i := 6) (oi := { dst := some 50, op := Op.load 32 (Operand.tmp 49), type := 32, pos := "ref.go:36", after := #[{ on := 5, ground := Ground.data }, { on := 7, ground := Ground.gcOnly Departure.lateStores }], guard := none }) (v := ?_) rfl (by kernel_rfl) (by kernel_rfl) (by kernel_rfl) (fun _ _ _ h => h) (Or.inl ⟨by rfl, ?_⟩) (by assumption) ?_
          rotate_left
          · (intro wq hSw; (try dsimp only at hSw); go_simp; first | done | with_reducible rfl)
          try simp only [Act.put, List.setIfInBounds_toArray, List.set_cons_zero, List.set_cons_succ]
          refine wpAnyH_take (i := 7) (oi := { dst := some 10, op := Op.assign (Operand.tmp 46), type := 28, pos := "ref.go:36", after := #[{ on := 2, ground := Ground.data }, { on := 0, ground := Ground.phase }, { on := 1, ground := Ground.phase }, { on := 2, ground := Ground.phase }, { on := 3, ground := Ground.textOnly Departure.lateStores }, { on := 4, ground := Ground.textOnly Departure.lateStores }, { on := 5, ground := Ground.textOnly Departure.lateStores }, { on := 6, ground := Ground.textOnly Departure.lateStores }], guard := none }) (v := ?_) rfl (by kernel_rfl) (by kernel_rfl) (by kernel_rfl) (fun _ _ _ h => h) (Or.inl ⟨by rfl, ?_⟩) (by assumption) ?_
          rotate_left
          · (intro wq hSw; (try dsimp only at hSw); go_simp; first | done | with_reducible rfl)
          try simp only [Act.put, List.setIfInBounds_toArray, List.set_cons_zero, List.set_cons_succ]
          refine wpAnyH_ready (rs := [8]) (by kernel_rfl) (by simp) ?_
          refine AllReadyH.cons (o := { dst := none, op := Op.store 32 (Operand.tmp 11) (Operand.tmp 50), type := 0, pos := "ref.go:36", after := #[{ on := 6, ground := Ground.data }, { on := 7, ground := Ground.chain }, { on := 0, ground := Ground.phase }, { on := 1, ground := Ground.phase }, { on := 2, ground := Ground.phase }, { on := 3, ground := Ground.phase }, { on := 4, ground := Ground.phase }, { on := 5, ground := Ground.phase }, { on := 6, ground := Ground.phase }, { on := 7, ground := Ground.phase }], guard := none }) rfl (fun K hK => ?_) AllReadyH.nil
          go_simp
          refine hK.out _ _ ?_ (fun hHeld => ?_)
          · exact ⟨(upd_cellC (hu8 _) HBO.out HBN.out _).trans f0, (upd_cellC (hu8 _) HBO.out HBN.out _).trans f1, (upd_cellC (hu8 _) HBO.out HBN.out _).trans f2⟩
          clear hK K
          try simp only [Act.put, List.setIfInBounds_toArray, List.set_cons_zero, List.set_cons_succ]
          refine wpAnyH_take (i := 9) (oi := { dst := some 12, op := Op.assign (Operand.const (Value.bool true)), type := 4, pos := "ref.go:36", after := #[{ on := 8, ground := Ground.chain }, { on := 0, ground := Ground.phase }, { on := 1, ground := Ground.phase }, { on := 2, ground := Ground.phase }, { on := 3, ground := Ground.phase }, { on := 4, ground := Ground.phase }, { on := 5, ground := Ground.phase }, { on := 6, ground := Ground.phase }, { on := 7, ground := Ground.phase }, { on := 8, ground := Ground.phase }], guard := none }) (v := ?_) rfl (by kernel_rfl) (by kernel_rfl) (by kernel_rfl) (fun _ _ _ h => h) (Or.inl ⟨by rfl, ?_⟩) (by assumption) ?_
          rotate_left
          · (intro wq hSw; (try dsimp only at hSw); go_simp; first | done | with_reducible rfl)
          try simp only [Act.put, List.setIfInBounds_toArray, List.set_cons_zero, List.set_cons_succ]
          refine wpAnyH_done (by kernel_rfl) ?_ _
          clear hHeld
          go_wp2_with fail
          obtain ⟨m0, m1, m2, m3, mz⟩ := Blk3R (((HB.out.set_ 0 (.int .i64 zi)).set_ 1 (.string zb)).set_ 2 (.bool zd)).drew
          refine bodyPost_ret (v := .tuple #[.slice (some ⟨bo, offo, none⟩) room co, .agg #[.int .i64 zi, .string zb, .bool zd], .bool true]) (by simp [results, Try.results12, go_sem, m1, m2, m3]) rfl ?_
          refine ⟨.slice (some ⟨bo, offo, none⟩) room co, by rw [HZZ.out]; rfl, ?_, ?_, ?_⟩
          · exact HSL.out
          · exact HN8.out
          · exact .inr fun b0 off0 n0 c0 e => by cases e; exact HFS.out
        · have hgt' : ¬ (room : Int) < ((frontE E id bb false).length : Int) := by omega
          have HZN := Lib.hid (show (frontE E id bb false)[room]? = none from List.getElem?_eq_none (by omega))
          have HPE := Lib.hid (show putE room E id bb false = frontE E id bb false from List.take_of_length_le (by omega))
          have hu8 : Upd (· = w.heap.size) wx (((wx.setCell ⟨w.heap.size, 0, none⟩ (.int .i64 0)).setCell ⟨w.heap.size, 1, none⟩ (.string ⟨#[]⟩)).setCell ⟨w.heap.size, 2, none⟩ (.bool false)) := (((Upd.refl _ wx).setIn 0 _).setIn 1 _).setIn 2 _
          have HB8 := Lib.hid (((hB11.set_ 0 (.int .i64 0)).set_ 1 (.string ⟨#[]⟩)).set_ 2 (.bool false))
          have HN8 := Lib.hid (HNX.out.upd hu8 (fun j hj => by omega))
          have HSL := Lib.hid (slUpd8 HSO.out hu8 (fun b0 off0 e => by rw [e] at hbo; have h1 := hbo b0 rfl; have h2 := HW11.out; omega))
          have HFS : Hid (Fresh w (.slice (some ⟨b, off, none⟩) E.length cp) (.slice Ao (frontE E id bb false).length co)) := Lib.hid (.inr fun b0 off0 n0 c0 e => by injection e with e1 e2 e3; have h1 := hbo b0 (by rw [e1]; rfl); have h2 := HW11.out; omega)
          obtain ⟨y0, y1, y2, y3, yz⟩ := Blk3R hB11
          clear hB11
          go_wp2_with fail
          obtain ⟨m0, m1, m2, m3, mz⟩ := Blk3R HB8.out
          refine bodyPost_ret (v := .tuple #[.slice Ao (frontE E id bb false).length co, .agg #[.int .i64 0, .string ⟨#[]⟩, .bool false], .bool false]) (by simp [results, Try.results12, go_sem, m1, m2, m3]) rfl ?_
          exact ⟨_, by rw [HZN.out]; rfl, by rw [HPE.out]; exact HSL.out, HN8.out, HFS.out⟩
end Go.Proofs.Ytcganajbfplmpaa
