/- Chapter 23 (config): a configuration is read: the document's. Printed by genCfgQ.py. -/
import Derived.Test.YtinpbjknakncdaaDoorCfgP
import Derived.Test.YtinpbjknakncdaaDoorRef03d
namespace Go.Proofs.YtinpbjknakncdaaDoor
open Go.RowKit Go.Lap
set_option linter.unusedVariables false

/-- So many members are left. -/
def finM (e : Nat) : List Int → Nat → List UInt8 → Option Cfg
  | acc, 0, bs => if bs = [] then if chkC ⟨e, acc⟩ = true then some ⟨e, acc⟩ else none else none
  | acc, n + 1, bs => if (numR bs 0).2.2 = 0 then if 63 < (numR bs 0).1 then none else finM e (acc ++ [((numR bs 0).1 : Int)]) n (numR bs 0).2.1 else none
/-- The configuration of bytes, as the document reads it. -/
def ofRf (bs : List UInt8) : Option Cfg :=
  if (numR bs 0).2.2 = 0 then
    if (numR (numR bs 0).2.1 0).2.2 = 0 then
      if 7 < (numR (numR bs 0).2.1 0).1 then none else finM (numR bs 0).1 [] (numR (numR bs 0).2.1 0).1 (numR (numR bs 0).2.1 0).2.1
    else none
  else none
def OfPostR (w : World) (x : Option Cfg) (e : Ending) (w' : World) : Prop := New w w' ∧ ∃ (a : Cfg) (u : Value) (ok : Bool), e = .returned (.tuple #[.agg #[.int .u64 (a.e : Int), u], .bool ok]) ∧ SlIn w' 1 iEnc u a.ms ∧ x = if ok = true then some a else none
/-- The two blocks: the result, the configuration in work. -/
structure QS (w wx : World) (ep : Nat) (vO : Value) (acc : List Int) : Prop where
  res : Blk wx w.heap.size 25 #[.int .u64 0, .slice none 0 0]
  cfg : Blk wx (w.heap.size + 1) 25 #[.int .u64 (ep : Int), vO]
  own : Owns wx (w.heap.size + 2) 3 1 iEnc vO acc
  new : New w wx
section
variable {w wx wy : World} {ep : Nat} {vO : Value} {acc : List Int}
theorem QS.keep (h : QS w wx ep vO acc) (hn : New wx wy) : QS w wy ep vO acc := ⟨h.res.new hn, h.cfg.new hn, h.own.new hn, h.new.trans hn⟩
theorem QS.grow (h : QS w wx ep vO acc) (hg : wx.grownBy wy vO.ownBlock) : Blk wy w.heap.size 25 #[.int .u64 0, .slice none 0 0] ∧ Blk wy (w.heap.size + 1) 25 #[.int .u64 (ep : Int), vO] ∧ New w wy :=
  ⟨h.res.grown hg (fun e => by have := (h.own.lt _ e.symm).1; omega), h.cfg.grown hg (fun e => by have := (h.own.lt _ e.symm).1; omega), h.new.grown hg (fun k e => by have := (h.own.lt k e).1; omega)⟩
theorem QS.app (h : QS w wx ep vO acc) {v' : Value} {l : List Int} (hg : wx.grownBy wy vO.ownBlock) (ho : Owns wy (w.heap.size + 2) 3 1 iEnc v' l) : QS w (wy.setCell ⟨w.heap.size + 1, 1, none⟩ v') ep v' l := by
  obtain ⟨h1, h2, h3⟩ := h.grow hg
  exact ⟨h1.far (by show w.heap.size ≠ w.heap.size + 1; omega) _, h2.set_ 1 v', ho.upd (S := (· = w.heap.size + 1)) ((Upd.refl _ wy).setIn 1 v') (fun k hk e => by have := (ho.lt k hk).1; omega), h3.setCell (by show w.heap.size ≤ w.heap.size + 1; omega) _⟩
theorem QS.epo (h : QS w wx ep vO acc) (e : Nat) : QS w (wx.setCell ⟨w.heap.size + 1, 0, none⟩ (.int .u64 (e : Int))) e vO acc :=
  ⟨h.res.far (by show w.heap.size ≠ w.heap.size + 1; omega) _, h.cfg.set_ 0 _, h.own.upd (S := (· = w.heap.size + 1)) ((Upd.refl _ wx).setIn 0 _) (fun k hk e => by have := (h.own.lt k hk).1; omega), h.new.setCell (by show w.heap.size ≤ w.heap.size + 1; omega) _⟩
theorem QS.fin (h : QS w wx ep vO acc) (ok : Bool) {x : Option Cfg} (hx : x = if ok = true then some ⟨ep, acc⟩ else none) :
    OfPostR w x (.returned (.tuple #[.agg #[.int .u64 (ep : Int), vO], .bool ok])) ((wx.setCell ⟨w.heap.size, 0, none⟩ (.int .u64 (ep : Int))).setCell ⟨w.heap.size, 1, none⟩ vO) := by
  have hu : Upd (· = w.heap.size) wx ((wx.setCell ⟨w.heap.size, 0, none⟩ (.int .u64 (ep : Int))).setCell ⟨w.heap.size, 1, none⟩ vO) := ((Upd.refl _ wx).setIn 0 _).setIn 1 _
  exact ⟨(h.new.setCell (Nat.le_refl _) _).setCell (Nat.le_refl _) _, ⟨ep, acc⟩, vO, ok, rfl, Owns.slIn iEncOk (h.own.upd hu (fun k hk e => by have := (h.own.lt k hk).1; omega)), hx⟩
theorem QS.kept (h : QS w wx ep vO acc) (X Y : Value) (i : Nat) : ((wx.setCell ⟨w.heap.size, 0, none⟩ X).setCell ⟨w.heap.size, 1, none⟩ Y).cell? ⟨w.heap.size + 1, i, none⟩ = #[.int .u64 (ep : Int), vO][i]? :=
  ((h.cfg.far (p := ⟨w.heap.size, 0, none⟩) (by simp) X).far (p := ⟨w.heap.size, 1, none⟩) (by simp) Y).cell i
theorem QS.facts (h : QS w wx ep vO acc) : (w.heap.size < wx.heap.size ∧ wx.cell? ⟨w.heap.size, 0, none⟩ = some (.int .u64 0) ∧ wx.cell? ⟨w.heap.size, 1, none⟩ = some (.slice none 0 0) ∧ (∀ i, wx.frozen? ⟨w.heap.size, i, none⟩ = false)) ∧ (w.heap.size + 1 < wx.heap.size ∧ wx.cell? ⟨w.heap.size + 1, 0, none⟩ = some (.int .u64 (ep : Int)) ∧ wx.cell? ⟨w.heap.size + 1, 1, none⟩ = some vO ∧ (∀ i, wx.frozen? ⟨w.heap.size + 1, i, none⟩ = false)) := ⟨Blk2F h.res, Blk2F h.cfg⟩
end
theorem QS.start (w : World) : QS w ((w.alloc (.cells #[.int .u64 0, .slice none 0 0] 25)).alloc (.cells #[.int .u64 0, .slice none 0 0] 25)) 0 (.slice none 0 0) [] := by
  have h2 := Blk.mk_new (w.alloc (.cells #[.int .u64 0, .slice none 0 0] 25)) 25 #[.int .u64 0, .slice none 0 0]
  rw [World.size_alloc] at h2
  exact ⟨(Blk.mk_new w _ _).alloc _, h2, Owns.nil _ _ _ _ _, ((New.refl w).alloc _).alloc _⟩
/-- So many members are read. -/
def QRel (w wr : World) (ep n : Nat) (bs0 : List UInt8) (L k : Nat) (s : Value) : Prop := ∃ (bs : List UInt8) (vO : Value) (acc : List Int),
  s = .string (str bs) ∧ QS w wr ep vO acc ∧ bs.length ≤ L ∧ acc.length = k ∧ ofRf bs0 = finM ep acc (n - k) bs

set_option maxRecDepth 100000 in
set_option maxHeartbeats 8000000 in
theorem refOf_any (bs : List UInt8) (w : World) (hb : bs.length ≤ 100000000) :
    Calls Tryd.prog 28 #[.string (str bs)] w (OfPostR w (ofRf bs)) := by
  have hst := QS.start w
  go_enter Tryd.func28, Tryd.ntmps28
  go_wp2_with fail
  refine (refNum_any bs _ (by omega)).mono ?_
  rintro e w1 ⟨rfl, hn1⟩
  have hq1 := hst.keep hn1
  have hl1 := numR_lenE bs 0
  generalize hE1 : numR bs 0 = r1 at *
  have HE1 := Lib.hid hE1
  obtain ⟨n1, b1, e1⟩ := r1
  simp only at hl1 ⊢
  clear hE1 hn1 hst
  go_wp2_with fail
  refine (refNum_any b1 _ (by omega)).mono ?_
  rintro e w2 ⟨rfl, hn2⟩
  have hq2 := hq1.keep hn2
  have hl2 := numR_lenE b1 0
  generalize hE2 : numR b1 0 = r2 at *
  have HE2 := Lib.hid hE2
  obtain ⟨n, b2, e2⟩ := r2
  simp only at hl2 ⊢
  clear hE2 hn2 hq1
  obtain ⟨⟨q0, q1, q2, qz⟩, p0, p1, p2, pz⟩ := hq2.facts
  by_cases he1 : e1 = 0
  rotate_left
  · have HF : Hid (ofRf bs = none) := Lib.hid (by unfold ofRf; simp [HE1.out, he1])
    have hne : ((e1 : Int) != 0) = true := by simpa using he1
    clear he1
    go_wp2_with fail
    exact bodyPost_ret (v := .tuple #[.agg #[.int .u64 ((0 : Nat) : Int), .slice none 0 0], .bool false]) (by simp [results, Tryd.results28, go_sem, q1, q2]) rfl (hq2.fin false (by rw [HF.out]; rfl))
  subst he1
  by_cases he2 : e2 = 0
  rotate_left
  · have HF : Hid (ofRf bs = none) := Lib.hid (by unfold ofRf; simp [HE1.out, HE2.out, he2])
    have hne : ((e2 : Int) != 0) = true := by simpa using he2
    clear he2
    go_wp2_with fail
    exact bodyPost_ret (v := .tuple #[.agg #[.int .u64 ((0 : Nat) : Int), .slice none 0 0], .bool false]) (by simp [results, Tryd.results28, go_sem, q1, q2]) rfl (hq2.fin false (by rw [HF.out]; rfl))
  subst he2
  by_cases h7 : 7 < n
  · have HF : Hid (ofRf bs = none) := Lib.hid (by unfold ofRf; simp [HE1.out, HE2.out, h7])
    have h7i : (7 : Int) < (n : Int) := by omega
    clear h7
    go_wp2_with fail
    exact bodyPost_ret (v := .tuple #[.agg #[.int .u64 ((0 : Nat) : Int), .slice none 0 0], .bool false]) (by simp [results, Tryd.results28, go_sem, q1, q2]) rfl (hq2.fin false (by rw [HF.out]; rfl))
  have h7i : ¬ (7 : Int) < (n : Int) := by omega
  have hn7 : n ≤ 7 := by omega
  have HF : Hid (ofRf bs = finM n1 [] n b2) := Lib.hid (by unfold ofRf; simp [HE1.out, HE2.out, h7])
  clear h7 HE1 HE2
  have hq3 := hq2.epo n1
  clear hq2
  have HR0 : Hid (QRel w _ n1 n bs b2.length 0 (.string (str b2))) := Lib.hid ⟨b2, _, [], rfl, hq3, Nat.le_refl _, rfl, HF.out⟩
  clear hq3 HF
  go_wp2_with fail
  clear p0 p1 p2 pz q0 q1 q2 qz
  go_loopw [9, 11] (fun s i wr => ∃ k : Nat, k ≤ n ∧ i = .int .u64 k ∧ QRel w wr n1 n bs b2.length k s) (fun _ i _ => n - (intOf i).toNat)
  case atStart => exact ⟨0, by omega, rfl, HR0.out⟩
  case round =>
    clear HR0
    obtain ⟨k, hk, rfl, bx, vO, acc, rfl, hG, hbl, hal, hws⟩ := hrel
    have HWS := Lib.hid hws
    clear hws
    obtain ⟨vA, vn, vc, rfl⟩ := (Owns.slIn iEncOk hG.own).shape
    obtain ⟨⟨q0, q1, q2, qz⟩, p0, p1, p2, pz⟩ := hG.facts
    by_cases hlt : k < n
    · have hlt2 : (k : Int) < (n : Int) := by omega
      have hk0 : (0 : Int) ≤ (k : Int) := by omega
      have hst := HWS.out
      rw [show n - k = (n - (k + 1)) + 1 by omega] at hst
      have HST : Hid (ofRf bs = if (numR bx 0).2.2 = 0 then if 63 < (numR bx 0).1 then none else finM n1 (acc ++ [((numR bx 0).1 : Int)]) (n - (k + 1)) (numR bx 0).2.1 else none) := Lib.hid hst
      clear hst HWS
      go_wp2_with fail
      refine (refNum_any bx _ (by omega)).mono ?_
      rintro e w6 ⟨rfl, hn6⟩
      have hG6 := hG.keep hn6
      have hl6 := numR_lenE bx 0
      clear p0 p1 p2 pz q0 q1 q2 qz
      generalize numR bx 0 = r6 at *
      obtain ⟨x, b6, e6⟩ := r6
      simp only at hl6 HST ⊢
      clear hG hn6
      obtain ⟨⟨q0, q1, q2, qz⟩, p0, p1, p2, pz⟩ := hG6.facts
      by_cases he6 : e6 = 0
      rotate_left
      · have HF : Hid (ofRf bs = none) := Lib.hid (by rw [HST.out, if_neg he6])
        have hne : ((e6 : Int) != 0) = true := by simpa using he6
        clear he6 HST
        go_wp2_with fail
        exact bodyPost_ret (v := .tuple #[.agg #[.int .u64 (n1 : Int), .slice vA vn vc], .bool false]) (by simp [results, Tryd.results28, go_sem, q1, q2]) rfl (hG6.fin false (by rw [HF.out]; rfl))
      subst he6
      by_cases h63 : 63 < x
      · have HF : Hid (ofRf bs = none) := Lib.hid (by rw [HST.out, if_pos rfl, if_pos h63])
        have h63i : (63 : Int) < (x : Int) := by omega
        clear h63 HST
        go_wp2_with fail
        exact bodyPost_ret (v := .tuple #[.agg #[.int .u64 (n1 : Int), .slice vA vn vc], .bool false]) (by simp [results, Tryd.results28, go_sem, q1, q2]) rfl (hG6.fin false (by rw [HF.out]; rfl))
      have h63i : ¬ (63 : Int) < (x : Int) := by omega
      have HF : Hid (ofRf bs = finM n1 (acc ++ [(x : Int)]) (n - (k + 1)) b6) := Lib.hid (by rw [HST.out, if_pos rfl, if_neg h63])
      have hwx : IntKind.i64.wrap (x : Int) = (x : Int) := IntWalk.i64_in _ (by omega)
      have HM1 := Lib.hid (show acc.length + [(x : Int)].length ≤ maxLen by unfold maxLen; simp only [List.length_singleton]; omega)
      have HM2 := Lib.hid (show (acc.length + [(x : Int)].length) * 8 ≤ 140737488355328 by simp only [List.length_singleton]; omega)
      have hY := hG6.keep ((New.refl w6).alloc (.cells #[.int .i64 (x : Int)] 3))
      have hYb := Blk.mk_new w6 3 #[.int .i64 (x : Int)]
      have HM3 := Lib.hid (show w.heap.size + 2 ≤ (w6.alloc (.cells #[.int .i64 (x : Int)] 3)).heap.size from hY.cfg.lt)
      clear h63 HST
      go_wp2_with (at_builtin; refine wpList_app iTy iEncOk rfl _ _ rfl rfl rfl hY.own (SlIn.one (x := (x : Int)) hYb iEncOk rfl) HM1.out HM2.out HM3.out ?_; intro v9 w9 ho9 hg9 hb9; obtain ⟨A9, n9, c9, rfl⟩ := (Owns.slIn iEncOk ho9).shape; obtain ⟨hr9, hc9, hn9⟩ := hY.grow hg9; obtain ⟨t0, t1, t2, tz⟩ := Blk2F hc9)
      have hZ := hY.app hg9 ho9
      go_roundw
      case rel => exact ⟨k + 1, by omega, by go_num, b6, _, _, rfl, hZ, by omega, by simp [hal], HF.out⟩
      case measure => simp [intOf]; omega
    · have hlt2 : ¬ (k : Int) < (n : Int) := by omega
      have hkn : n - k = 0 := by omega
      have hws2 := HWS.out
      rw [hkn] at hws2
      have HF0 : Hid (ofRf bs = if bx = [] then if chkC ⟨n1, acc⟩ = true then some ⟨n1, acc⟩ else none else none) := Lib.hid hws2
      clear hws2 hkn HWS
      cases bx with
      | cons y ys =>
        have HF : Hid (ofRf bs = if false = true then some ⟨n1, acc⟩ else none) := Lib.hid (by rw [HF0.out, if_neg (by simp)]; rfl)
        clear HF0 p0 p1 p2 pz q0 q1 q2 qz
        go_upto_region 14 with fail
        refine wp_region_held_drew (S := fun w' => New w w' ∧ w'.cell? ⟨w.heap.size + 1, 0, none⟩ = some (.int .u64 (n1 : Int)) ∧ w'.cell? ⟨w.heap.size + 1, 1, none⟩ = some (.slice vA vn vc)) (by kernel_rfl) (⟨(hG.keep (New.refl wr).drew).new, (hG.keep (New.refl wr).drew).cfg.cell 0, (hG.keep (New.refl wr).drew).cfg.cell 1⟩) (fun hHeld => ?_)
        refine wpAnyH_take (i := 0) (oi := { dst := some 67, op := Op.load 25 (Operand.tmp 4), type := 25, pos := "ref.go:138", after := #[], guard := none }) (v := ?_) rfl (by kernel_rfl) (by kernel_rfl) (by kernel_rfl) (fun _ _ _ h => h) (Or.inl ⟨by rfl, ?_⟩) (by assumption) ?_
        rotate_left
        · (intro wq hSw; (try dsimp only at hSw); go_simp; first | done | with_reducible rfl)
        try simp only [Act.put, List.setIfInBounds_toArray, List.set_cons_zero, List.set_cons_succ]
        refine wpAnyH_take (i := 1) (oi := { dst := some 68, op := Op.move (Operand.tmp 9), type := 9, pos := "ref.go:138", after := #[], guard := none }) (v := ?_) rfl (by kernel_rfl) (by kernel_rfl) (by kernel_rfl) (fun _ _ _ h => h) (Or.inl ⟨by rfl, ?_⟩) (by assumption) ?_
        rotate_left
        · (intro wq hSw; (try dsimp only at hSw); go_simp; first | done | with_reducible rfl)
        try simp only [Act.put, List.setIfInBounds_toArray, List.set_cons_zero, List.set_cons_succ]
        refine wpAnyH_take (i := 2) (oi := { dst := some 69, op := Op.binOp BinOp.eql 9 (Operand.tmp 68) (Operand.const (Value.string { data := #[] })) 9, type := 4, pos := "ref.go:138", after := #[{ on := 1, ground := Ground.data }], guard := none }) (v := .bool false) rfl (by kernel_rfl) (by kernel_rfl) (by kernel_rfl) (fun _ _ _ h => h) (Or.inl ⟨by rfl, ?_⟩) (by assumption) ?_
        · (intro wq hSw; (try dsimp only at hSw); go_simp; first | done | with_reducible rfl | simp [str_toList])
        try simp only [Act.put, List.setIfInBounds_toArray, List.set_cons_zero, List.set_cons_succ]
        refine wpAnyH_take (i := 3) (oi := { dst := some 70, op := Op.move (Operand.tmp 69), type := 4, pos := "ref.go:138", after := #[{ on := 2, ground := Ground.data }], guard := none }) (v := ?_) rfl (by kernel_rfl) (by kernel_rfl) (by kernel_rfl) (fun _ _ _ h => h) (Or.inl ⟨by rfl, ?_⟩) (by assumption) ?_
        rotate_left
        · (intro wq hSw; (try dsimp only at hSw); go_simp; first | done | with_reducible rfl)
        try simp only [Act.put, List.setIfInBounds_toArray, List.set_cons_zero, List.set_cons_succ]
        refine wpAnyH_take (i := 4) (oi := { dst := some 71, op := Op.load 25 (Operand.tmp 4), type := 25, pos := "ref.go:138", after := #[{ on := 3, ground := Ground.guard }], guard := some (3, true) }) (v := undef) rfl (by kernel_rfl) (by kernel_rfl) (by kernel_rfl) (fun _ _ _ h => h) (Or.inr ⟨by rfl, rfl⟩) (by assumption) ?_
        try simp only [Act.put, List.setIfInBounds_toArray, List.set_cons_zero, List.set_cons_succ]
        refine wpAnyH_take (i := 5) (oi := { dst := some 72, op := Op.call { callee := Callee.value (Operand.func 18), args := #[Operand.tmp 71], argTypes := #[25] }, type := 4, pos := "ref.go:138", after := #[{ on := 4, ground := Ground.data }, { on := 3, ground := Ground.chain }, { on := 3, ground := Ground.guard }], guard := some (3, true) }) (v := undef) rfl (by kernel_rfl) (by kernel_rfl) (by kernel_rfl) (fun _ _ _ h => h) (Or.inr ⟨by rfl, rfl⟩) (by assumption) ?_
        try simp only [Act.put, List.setIfInBounds_toArray, List.set_cons_zero, List.set_cons_succ]
        refine wpAnyH_take (i := 6) (oi := { dst := some 73, op := Op.pick (Operand.tmp 70) (Operand.tmp 72) (Operand.const (Value.bool false)), type := 4, pos := "ref.go:138", after := #[{ on := 3, ground := Ground.data }, { on := 5, ground := Ground.data }, { on := 7, ground := Ground.gcOnly Departure.lateStores }], guard := none }) (v := .bool false) rfl (by kernel_rfl) (by kernel_rfl) (by kernel_rfl) (fun _ _ _ h => h) (Or.inl ⟨by rfl, ?_⟩) (by assumption) ?_
        · (intro wq hSw; (try dsimp only at hSw); go_simp; first | done | with_reducible rfl | simp [str_toList])
        try simp only [Act.put, List.setIfInBounds_toArray, List.set_cons_zero, List.set_cons_succ]
        refine wpAnyH_ready (rs := [7]) (by kernel_rfl) (by simp) ?_
        refine AllReadyH.cons (o := { dst := none, op := Op.store 25 (Operand.tmp 2) (Operand.tmp 67), type := 0, pos := "ref.go:138", after := #[{ on := 0, ground := Ground.data }, { on := 5, ground := Ground.chain }, { on := 0, ground := Ground.phase }, { on := 1, ground := Ground.textOnly Departure.lateStores }, { on := 2, ground := Ground.textOnly Departure.lateStores }, { on := 3, ground := Ground.textOnly Departure.lateStores }, { on := 4, ground := Ground.textOnly Departure.lateStores }, { on := 5, ground := Ground.textOnly Departure.lateStoresUnsure }, { on := 6, ground := Ground.textOnly Departure.lateStores }], guard := none }) rfl (fun K hK => ?_) AllReadyH.nil
        obtain ⟨⟨q0, q1, q2, qz⟩, p0, p1, p2, pz⟩ := hG.facts
        go_simp
        have hP := (hG.keep (New.refl wr).drew).fin false HF.out
        refine hK.out _ _ ?_ (fun hHeld => ?_)
        · exact ⟨hP.1, hG.kept _ _ 0, hG.kept _ _ 1⟩
        clear hK K
        try simp only [Act.put, List.setIfInBounds_toArray, List.set_cons_zero, List.set_cons_succ]
        refine wpAnyH_take (i := 8) (oi := { dst := some 3, op := Op.assign (Operand.tmp 73), type := 4, pos := "ref.go:138", after := #[{ on := 6, ground := Ground.data }, { on := 7, ground := Ground.chain }, { on := 0, ground := Ground.phase }, { on := 1, ground := Ground.phase }, { on := 2, ground := Ground.phase }, { on := 3, ground := Ground.phase }, { on := 4, ground := Ground.phase }, { on := 5, ground := Ground.phase }, { on := 6, ground := Ground.phase }, { on := 7, ground := Ground.phase }], guard := none }) (v := ?_) rfl (by kernel_rfl) (by kernel_rfl) (by kernel_rfl) (fun _ _ _ h => h) (Or.inl ⟨by rfl, ?_⟩) (by assumption) ?_
        rotate_left
        · (intro wq hSw; (try dsimp only at hSw); go_simp; first | done | with_reducible rfl)
        try simp only [Act.put, List.setIfInBounds_toArray, List.set_cons_zero, List.set_cons_succ]
        refine wpAnyH_done (by kernel_rfl) ?_ _
        clear hHeld
        go_wp2_with fail
        exact bodyPost_ret (v := .tuple #[.agg #[.int .u64 (n1 : Int), .slice vA vn vc], .bool false]) (by simp [results, Tryd.results28, go_sem, q1, q2]) rfl hP
      | nil =>
        have HF1 : Hid (ofRf bs = if chkC ⟨n1, acc⟩ = true then some ⟨n1, acc⟩ else none) := Lib.hid (by rw [HF0.out, if_pos rfl])
        have hck := fun wx hx => refCheck_any n1 (.slice vA vn vc) acc wx (by omega) hx
        clear HF0 p0 p1 p2 pz q0 q1 q2 qz
        go_upto_region 14 with fail
        generalize chkC ⟨n1, acc⟩ = ok at *
        refine wp_region_held_drew (S := fun w' => New w w' ∧ w'.cell? ⟨w.heap.size + 1, 0, none⟩ = some (.int .u64 (n1 : Int)) ∧ w'.cell? ⟨w.heap.size + 1, 1, none⟩ = some (.slice vA vn vc)) (by kernel_rfl) (⟨(hG.keep (New.refl wr).drew).new, (hG.keep (New.refl wr).drew).cfg.cell 0, (hG.keep (New.refl wr).drew).cfg.cell 1⟩) (fun hHeld => ?_)
        refine wpAnyH_take (i := 0) (oi := { dst := some 67, op := Op.load 25 (Operand.tmp 4), type := 25, pos := "ref.go:138", after := #[], guard := none }) (v := ?_) rfl (by kernel_rfl) (by kernel_rfl) (by kernel_rfl) (fun _ _ _ h => h) (Or.inl ⟨by rfl, ?_⟩) (by assumption) ?_
        rotate_left
        · (intro wq hSw; (try dsimp only at hSw); go_simp; first | done | with_reducible rfl)
        try simp only [Act.put, List.setIfInBounds_toArray, List.set_cons_zero, List.set_cons_succ]
        refine wpAnyH_take (i := 1) (oi := { dst := some 68, op := Op.move (Operand.tmp 9), type := 9, pos := "ref.go:138", after := #[], guard := none }) (v := ?_) rfl (by kernel_rfl) (by kernel_rfl) (by kernel_rfl) (fun _ _ _ h => h) (Or.inl ⟨by rfl, ?_⟩) (by assumption) ?_
        rotate_left
        · (intro wq hSw; (try dsimp only at hSw); go_simp; first | done | with_reducible rfl)
        try simp only [Act.put, List.setIfInBounds_toArray, List.set_cons_zero, List.set_cons_succ]
        refine wpAnyH_take (i := 2) (oi := { dst := some 69, op := Op.binOp BinOp.eql 9 (Operand.tmp 68) (Operand.const (Value.string { data := #[] })) 9, type := 4, pos := "ref.go:138", after := #[{ on := 1, ground := Ground.data }], guard := none }) (v := .bool true) rfl (by kernel_rfl) (by kernel_rfl) (by kernel_rfl) (fun _ _ _ h => h) (Or.inl ⟨by rfl, ?_⟩) (by assumption) ?_
        · (intro wq hSw; (try dsimp only at hSw); go_simp; first | done | with_reducible rfl | simp [str_toList])
        try simp only [Act.put, List.setIfInBounds_toArray, List.set_cons_zero, List.set_cons_succ]
        refine wpAnyH_take (i := 3) (oi := { dst := some 70, op := Op.move (Operand.tmp 69), type := 4, pos := "ref.go:138", after := #[{ on := 2, ground := Ground.data }], guard := none }) (v := ?_) rfl (by kernel_rfl) (by kernel_rfl) (by kernel_rfl) (fun _ _ _ h => h) (Or.inl ⟨by rfl, ?_⟩) (by assumption) ?_
        rotate_left
        · (intro wq hSw; (try dsimp only at hSw); go_simp; first | done | with_reducible rfl)
        try simp only [Act.put, List.setIfInBounds_toArray, List.set_cons_zero, List.set_cons_succ]
        refine wpAnyH_take (i := 4) (oi := { dst := some 71, op := Op.load 25 (Operand.tmp 4), type := 25, pos := "ref.go:138", after := #[{ on := 3, ground := Ground.guard }], guard := some (3, true) }) (v := ?_) rfl (by kernel_rfl) (by kernel_rfl) (by kernel_rfl) (fun _ _ _ h => h) (Or.inl ⟨by rfl, ?_⟩) (by assumption) ?_
        rotate_left
        · (intro wq hSw; (try dsimp only at hSw); go_simp; first | done | with_reducible rfl)
        try simp only [Act.put, List.setIfInBounds_toArray, List.set_cons_zero, List.set_cons_succ]
        refine wpAnyH_ready (rs := [5]) (by kernel_rfl) (by simp) ?_
        refine AllReadyH.cons (o := { dst := some 72, op := Op.call { callee := Callee.value (Operand.func 18), args := #[Operand.tmp 71], argTypes := #[25] }, type := 4, pos := "ref.go:138", after := #[{ on := 4, ground := Ground.data }, { on := 3, ground := Ground.chain }, { on := 3, ground := Ground.guard }], guard := some (3, true) }) rfl (fun K hK => ?_) AllReadyH.nil
        go_simp
        refine (hck _ ((Owns.slIn iEncOk hG.own).new (New.refl wr).drew)).mono ?_
        rintro e9 w7 ⟨rfl, hn7b⟩
        have hG7 := hG.keep ((New.refl wr).drew.trans hn7b)
        refine hK.out _ _ ?_ (fun hHeld => ?_)
        · exact ⟨hG7.new, hG7.cfg.cell 0, hG7.cfg.cell 1⟩
        clear hK K
        try simp only [Act.put, List.setIfInBounds_toArray, List.set_cons_zero, List.set_cons_succ]
        refine wpAnyH_take (i := 6) (oi := { dst := some 73, op := Op.pick (Operand.tmp 70) (Operand.tmp 72) (Operand.const (Value.bool false)), type := 4, pos := "ref.go:138", after := #[{ on := 3, ground := Ground.data }, { on := 5, ground := Ground.data }, { on := 7, ground := Ground.gcOnly Departure.lateStores }], guard := none }) (v := ?_) rfl (by kernel_rfl) (by kernel_rfl) (by kernel_rfl) (fun _ _ _ h => h) (Or.inl ⟨by rfl, ?_⟩) (by assumption) ?_
        rotate_left
        · (intro wq hSw; (try dsimp only at hSw); go_simp; first | done | with_reducible rfl)
        try simp only [Act.put, List.setIfInBounds_toArray, List.set_cons_zero, List.set_cons_succ]
        refine wpAnyH_ready (rs := [7]) (by kernel_rfl) (by simp) ?_
        refine AllReadyH.cons (o := { dst := none, op := Op.store 25 (Operand.tmp 2) (Operand.tmp 67), type := 0, pos := "ref.go:138", after := #[{ on := 0, ground := Ground.data }, { on := 5, ground := Ground.chain }, { on := 0, ground := Ground.phase }, { on := 1, ground := Ground.textOnly Departure.lateStores }, { on := 2, ground := Ground.textOnly Departure.lateStores }, { on := 3, ground := Ground.textOnly Departure.lateStores }, { on := 4, ground := Ground.textOnly Departure.lateStores }, { on := 5, ground := Ground.textOnly Departure.lateStoresUnsure }, { on := 6, ground := Ground.textOnly Departure.lateStores }], guard := none }) rfl (fun K hK => ?_) AllReadyH.nil
        obtain ⟨⟨q0, q1, q2, qz⟩, p0, p1, p2, pz⟩ := hG7.facts
        go_simp
        have hP := hG7.fin ok HF1.out
        refine hK.out _ _ ?_ (fun hHeld => ?_)
        · exact ⟨hP.1, hG7.kept _ _ 0, hG7.kept _ _ 1⟩
        clear hK K
        try simp only [Act.put, List.setIfInBounds_toArray, List.set_cons_zero, List.set_cons_succ]
        refine wpAnyH_take (i := 8) (oi := { dst := some 3, op := Op.assign (Operand.tmp 73), type := 4, pos := "ref.go:138", after := #[{ on := 6, ground := Ground.data }, { on := 7, ground := Ground.chain }, { on := 0, ground := Ground.phase }, { on := 1, ground := Ground.phase }, { on := 2, ground := Ground.phase }, { on := 3, ground := Ground.phase }, { on := 4, ground := Ground.phase }, { on := 5, ground := Ground.phase }, { on := 6, ground := Ground.phase }, { on := 7, ground := Ground.phase }], guard := none }) (v := ?_) rfl (by kernel_rfl) (by kernel_rfl) (by kernel_rfl) (fun _ _ _ h => h) (Or.inl ⟨by rfl, ?_⟩) (by assumption) ?_
        rotate_left
        · (intro wq hSw; (try dsimp only at hSw); go_simp; first | done | with_reducible rfl)
        try simp only [Act.put, List.setIfInBounds_toArray, List.set_cons_zero, List.set_cons_succ]
        refine wpAnyH_done (by kernel_rfl) ?_ _
        clear hHeld
        go_wp2_with fail
        exact bodyPost_ret (v := .tuple #[.agg #[.int .u64 (n1 : Int), .slice vA vn vc], .bool ok]) (by simp [results, Tryd.results28, go_sem, q1, q2]) rfl hP
end Go.Proofs.YtinpbjknakncdaaDoor
