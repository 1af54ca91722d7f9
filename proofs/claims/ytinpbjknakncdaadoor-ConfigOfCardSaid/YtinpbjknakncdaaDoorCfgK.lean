/- Chapter 23 (config): what commands make of a configuration: the program's Fold. Printed by genCfg.py. -/
import Derived.Test.YtinpbjknakncdaaDoorCfgJ
namespace Go.Proofs.YtinpbjknakncdaaDoor
open Go.RowKit Go.Lap
set_option linter.unusedVariables false

theorem act_big {c : Cfg} {j : Bool} {n : Int} : actC c j n = c ∨ ((actC c j n).e ≤ lastE ∧ (actC c j n).ms.length ≤ 7) := by
  cases j with
  | true =>
    rw [act_true]
    by_cases h : (joinC c n).2 = 0
    · have h2 : applyC c (joinC c n) = (joinC c n).1 := if_pos h
      obtain ⟨_, a, _⟩ := join_chk (c := c) (d := (joinC c n).1) (n := n) (by rw [← h])
      rw [h2]
      exact .inr ⟨(chk_parts a).2.1, (chk_parts a).2.2.2.1⟩
    · exact .inl (if_neg h)
  | false =>
    rw [act_false]
    by_cases h : (remC c n).2 = 0
    · have h2 : applyC c (remC c n) = (remC c n).1 := if_pos h
      obtain ⟨_, a, _⟩ := rem_chk (c := c) (d := (remC c n).1) (n := n) (by rw [← h])
      rw [h2]
      exact .inr ⟨(chk_parts a).2.1, (chk_parts a).2.2.2.1⟩
    · exact .inl (if_neg h)
def Fits (c : Cfg) : Prop := c.e < 18446744073709551616 ∧ c.ms.length ≤ 1000000
theorem Fits.step {c : Cfg} (h : Fits c) (cmd : List UInt8) : Fits (stepC c cmd) := by
  unfold stepC
  split
  · rename_i j n _
    rcases act_big (c := c) (j := j) (n := n) with e | ⟨a, b⟩
    · rw [e]; exact h
    · exact ⟨by simp only [lastE] at a; omega, by omega⟩
  · exact h
theorem Fits.fold {c : Cfg} (h : Fits c) : ∀ l : List (List UInt8), Fits (foldC c l) := by
  intro l
  induction l generalizing c with
  | nil => exact h
  | cons x l ih => exact ih (h.step x)
theorem fold_snoc {c : Cfg} {l : List ByteArray} {k : Nat} {x : ByteArray} (hx : l[k]? = some x) : foldC c ((l.take (k + 1)).map fun b => b.data.toList) = stepC (foldC c ((l.take k).map fun b => b.data.toList)) x.data.toList := by
  rw [List.take_add_one, hx]
  simp [foldC]
/-- So far folded. -/
structure FRel (w wr : World) (c : Cfg) (v : Value) : Prop where
  box : Blk wr w.heap.size 25 #[.int .u64 (c.e : Int), v]
  res : Blk wr (w.heap.size + 1) 25 #[.int .u64 0, .slice none 0 0]
  sl : SlIn wr 1 iEnc v c.ms
  new : New w wr
theorem FRel.keep {w wr w' : World} {c : Cfg} {v : Value} (h : FRel w wr c v) (hn : New wr w') : FRel w w' c v := ⟨h.box.new hn, h.res.new hn, h.sl.new hn, h.new.trans hn⟩
theorem FRel.of_eq {w wr : World} {c d : Cfg} {v : Value} (h : FRel w wr c v) (e : d = c) : FRel w wr d v := by rw [e]; exact h
theorem FRel.put {w wr : World} {c d : Cfg} {A B : Option Addr} {n m cap cap2 : Nat} (h : FRel w wr c (.slice A n cap)) (hs : SlIn wr 1 iEnc (.slice B m cap2) d.ms) :
    FRel w ((wr.setCell ⟨w.heap.size, 0, none⟩ (.int .u64 (d.e : Int))).setCell ⟨w.heap.size, 1, none⟩ (.slice B m cap2)) d (.slice B m cap2) :=
  ⟨(h.box.set_ 0 _).set_ 1 _, (h.res.far (p := ⟨w.heap.size, 0, none⟩) (by simp) _).far (p := ⟨w.heap.size, 1, none⟩) (by simp) _, slIn_cfgSet hs h.box (by simp), (h.new.setCell (p := ⟨w.heap.size, 0, none⟩) (by simp) _).setCell (p := ⟨w.heap.size, 1, none⟩) (by simp) _⟩
theorem sl_str {w : World} {b off : Nat} {l : List ByteArray} {k : Nat} {x : ByteArray} (hc : ∀ k x, l[k]? = some x → ∀ j u, (sEnc x)[j]? = some u → w.cell? ⟨b, off + k * 1 + j, none⟩ = some u) (h : l[k]? = some x) : w.cell? ⟨b, off + k, none⟩ = some (.string x) := by
  simpa using hc k x h 0 _ rfl

set_option maxRecDepth 100000 in
set_option maxHeartbeats 8000000 in
theorem fold_any (ep : Nat) (v : Value) (ms : List Int) (vc : Value) (l : List ByteArray) (w : World) (hep : ep < 18446744073709551616) (hl : ms.length ≤ 1000000) (hs : SlIn w 1 iEnc v ms) (hsl : SlIn w 1 sEnc vc l) (hll : l.length ≤ 1000000) (hcm : ∀ x ∈ l, x.size < 4294967281) (henv : Env w) :
    Calls Tryd.prog 19 #[.agg #[.int .u64 (ep : Int), v], vc] w (OnePost w (foldC ⟨ep, ms⟩ (l.map fun b => b.data.toList))) := by
  obtain ⟨A, m, cap, rfl⟩ := hs.shape
  obtain ⟨A', c', hv, hlc, -⟩ := id hs
  cases hv
  obtain ⟨B, m2, cap2, rfl⟩ := hsl.shape
  obtain ⟨A', c', hv, hlc2, -⟩ := id hsl
  cases hv
  have hfit : Fits ⟨ep, ms⟩ := ⟨hep, hl⟩
  have HSL := Lib.hid hsl
  have HE := Lib.hid henv
  have HCM := Lib.hid hcm
  have HFIT := Lib.hid hfit
  have hN := ((New.refl w).alloc (.cells #[.int .u64 (ep : Int), .slice A ms.length cap] 25)).alloc (.cells #[.int .u64 0, .slice none 0 0] 25)
  have hB := (Blk.mk_new w 25 #[.int .u64 (ep : Int), .slice A ms.length cap]).alloc (.cells #[.int .u64 0, .slice none 0 0] 25)
  have hR := Blk.mk_new (w.alloc (.cells #[.int .u64 (ep : Int), .slice A ms.length cap] 25)) 25 #[.int .u64 0, .slice none 0 0]
  rw [World.size_alloc] at hR
  have hG : FRel w ((w.alloc (.cells #[.int .u64 (ep : Int), .slice A ms.length cap] 25)).alloc (.cells #[.int .u64 0, .slice none 0 0] 25)) ⟨ep, ms⟩ (.slice A ms.length cap) := ⟨hB, hR, hs.new hN, hN⟩
  clear hs hsl henv hcm hB hR hN hfit
  go_enter Tryd.func19, Tryd.ntmps19
  go_upto_region 1 with fail
  generalize (w.alloc _).alloc _ = w1 at *
  obtain ⟨p0, p1, p2, pz⟩ := Blk2F hG.box
  obtain ⟨q0, q1, q2, qz⟩ := Blk2F hG.res
  go_wp2_with fail
  refine (clone_any _ ms w1 (by omega) hG.sl).mono ?_
  rintro e1 w2 ⟨u, rfl, hou, hn2⟩
  have hsu := Owns.slIn iEncOk hou
  obtain ⟨Au, nu, cu, rfl⟩ := hsu.shape
  have hG2 := hG.keep hn2
  have hG3 : FRel w (w2.setCell ⟨w.heap.size, 1, none⟩ (.slice Au nu cu)) ⟨ep, ms⟩ (.slice Au nu cu) := ⟨hG2.box.set_ 1 _, hG2.res.far (p := ⟨w.heap.size, 1, none⟩) (by simp) _, slIn_cfgSet1 hsu hG2.box (by simp), hG2.new.setCell (p := ⟨w.heap.size, 1, none⟩) (by simp) _⟩
  clear p0 p1 p2 pz q0 q1 q2 qz
  obtain ⟨p0, p1, p2, pz⟩ := Blk2F hG2.box
  obtain ⟨q0, q1, q2, qz⟩ := Blk2F hG2.res
  clear hG hG2 hn2 hou hsu
  go_upto_region 2 with fail
  generalize w2.setCell _ _ = w3 at *
  clear p0 p1 p2 pz q0 q1 q2 qz
  have HG3 := Lib.hid hG3
  clear hG3
  go_wp2_with fail
  go_loopw [12] (fun i wr => ∃ (k : Nat) (A : Option Addr) (n cap : Nat), k ≤ l.length ∧ i = .int .i64 (k : Int) ∧ FRel w wr (foldC ⟨ep, ms⟩ ((l.take k).map fun b => b.data.toList)) (.slice A n cap)) (fun i _ => l.length - (intOf i).toNat)
  case atStart => exact ⟨0, _, _, _, by omega, rfl, HG3.out⟩
  case round =>
    clear HG3
    obtain ⟨k, A3, n3, cap3, hk, rfl, hG⟩ := hrel
    have hft := HFIT.out.fold ((l.take k).map fun b => b.data.toList)
    by_cases hlt : k < l.length
    · have hlt2 : (k : Int) < (l.length : Int) := by omega
      have hk0 : (0 : Int) ≤ (k : Int) := by omega
      obtain ⟨A', c', hv, _, hh⟩ := HSL.out.new hG.new
      cases hv
      rcases hh with rfl | ⟨b, off, rfl, hbb, hc⟩
      · simp at hlt
      obtain ⟨x, hx⟩ : ∃ x, l[k]? = some x := ⟨_, List.getElem?_eq_getElem hlt⟩
      have e0 := sl_str hc hx
      have HX := Lib.hid hx
      have HXS := Lib.hid (HCM.out x (List.mem_of_getElem? hx))
      have HFS := Lib.hid (fold_snoc (c := ⟨ep, ms⟩) hx)
      clear hc hx
      generalize foldC ⟨ep, ms⟩ ((l.take k).map fun b => b.data.toList) = c at *
      obtain ⟨ce, cms⟩ := c
      have HG := Lib.hid hG
      have HFT := Lib.hid hft
      clear hG hft
      obtain ⟨p0, p1, p2, pz⟩ := Blk2F HG.out.box
      dsimp only at p1
      go_upto_region 5 with fail
      refine wp_region_held_drew (S := fun w' => New w w' ∧ w'.cell? ⟨b, off + k, none⟩ = some (.string x)) (by kernel_rfl) (⟨HG.out.new.drew, e0⟩) (fun hHeld => ?_)
      refine wpAnyH_take (i := 1) (oi := { dst := some 16, op := Op.move (Operand.tmp 1), type := 33, pos := "config.go:114", after := #[], guard := none }) (v := ?_) rfl (by kernel_rfl) (by kernel_rfl) (by kernel_rfl) (fun _ _ _ h => h) (Or.inl ⟨by rfl, ?_⟩) (by assumption) ?_
      rotate_left
      · (intro wq hSw; (try dsimp only at hSw); go_simp; first | done | with_reducible rfl)
      try simp only [Act.put, List.setIfInBounds_toArray, List.set_cons_zero, List.set_cons_succ]
      refine wpAnyH_take (i := 2) (oi := { dst := some 17, op := Op.move (Operand.tmp 5), type := 3, pos := "config.go:114", after := #[], guard := none }) (v := ?_) rfl (by kernel_rfl) (by kernel_rfl) (by kernel_rfl) (fun _ _ _ h => h) (Or.inl ⟨by rfl, ?_⟩) (by assumption) ?_
      rotate_left
      · (intro wq hSw; (try dsimp only at hSw); go_simp; first | done | with_reducible rfl)
      try simp only [Act.put, List.setIfInBounds_toArray, List.set_cons_zero, List.set_cons_succ]
      refine wpAnyH_take (i := 3) (oi := { dst := some 18, op := Op.indexAddr 33 (Operand.tmp 16) (Operand.tmp 17), type := 0, pos := "config.go:114", after := #[{ on := 1, ground := Ground.data }, { on := 2, ground := Ground.data }], guard := none }) (v := ?_) rfl (by kernel_rfl) (by kernel_rfl) (by kernel_rfl) (fun _ _ _ h => h) (Or.inl ⟨by rfl, ?_⟩) (by assumption) ?_
      rotate_left
      · (intro wq hSw; (try dsimp only at hSw); go_simp; first | done | with_reducible rfl)
      try simp only [Act.put, List.setIfInBounds_toArray, List.set_cons_zero, List.set_cons_succ]
      refine wpAnyH_take (i := 4) (oi := { dst := some 19, op := Op.load 9 (Operand.tmp 18), type := 9, pos := "config.go:114", after := #[{ on := 3, ground := Ground.data }], guard := none }) (v := ?_) rfl (by kernel_rfl) (by kernel_rfl) (by kernel_rfl) (fun _ _ _ h => h) (Or.inl ⟨by rfl, ?_⟩) (by assumption) ?_
      rotate_left
      · (intro wq hSw; (try dsimp only at hSw); go_simp; first | done | with_reducible rfl)
      try simp only [Act.put, List.setIfInBounds_toArray, List.set_cons_zero, List.set_cons_succ]
      refine wpAnyH_ready (rs := [0]) (by kernel_rfl) (by simp) ?_
      refine AllReadyH.cons (o := { dst := some 15, op := Op.load 25 (Operand.tmp 2), type := 25, pos := "config.go:114", after := #[], guard := none }) rfl (fun K hK => ?_) AllReadyH.nil
      have q1 := p1
      have q2 := p2
      go_simp
      refine hK.out _ _ ?_ (fun hHeld => ?_)
      · exact hHeld
      clear hK K
      try simp only [Act.put, List.setIfInBounds_toArray, List.set_cons_zero, List.set_cons_succ]
      refine wpAnyH_ready (rs := [5]) (by kernel_rfl) (by simp) ?_
      refine AllReadyH.cons (o := { dst := some 20, op := Op.call { callee := Callee.value (Operand.func 36), args := #[Operand.tmp 15, Operand.tmp 19], argTypes := #[25, 9] }, type := 25, pos := "config.go:114", after := #[{ on := 0, ground := Ground.data }, { on := 4, ground := Ground.data }], guard := none }) rfl (fun K hK => ?_) AllReadyH.nil
      go_simp
      refine (step_any ce _ cms x _ HFT.out.1 HFT.out.2 (HG.out.sl.new (New.refl wr).drew) HXS.out (HE.out.new HG.out.new.drew)).mono ?_
      rintro e1 w4 ⟨u4, rfl, hs4, hn4⟩
      obtain ⟨A4, n4, c4, rfl⟩ := hs4.shape
      have hn4b := (New.refl wr).drew.trans hn4
      have hG4 := HG.out.keep hn4b
      obtain ⟨t0, t1, t2, tz⟩ := Blk2F hG4.box
      refine hK.out _ _ ?_ (fun hHeld => ?_)
      · exact ⟨hG4.new, (hn4b.cells.1 _ _ (World.block_lt_of_cell? wr _ e0)).trans e0⟩
      clear hK K
      try simp only [Act.put, List.setIfInBounds_toArray, List.set_cons_zero, List.set_cons_succ]
      refine wpAnyH_ready (rs := [6]) (by kernel_rfl) (by simp) ?_
      refine AllReadyH.cons (o := { dst := none, op := Op.store 25 (Operand.tmp 2) (Operand.tmp 20), type := 0, pos := "config.go:114", after := #[{ on := 5, ground := Ground.data }, { on := 5, ground := Ground.chain }, { on := 0, ground := Ground.phase }, { on := 1, ground := Ground.phase }, { on := 2, ground := Ground.phase }, { on := 3, ground := Ground.phase }, { on := 4, ground := Ground.phase }, { on := 5, ground := Ground.phase }], guard := none }) rfl (fun K hK => ?_) AllReadyH.nil
      go_simp
      have hG5 := hG4.put (d := stepC ⟨ce, cms⟩ x.data.toList) hs4
      have hG6 := hG5.of_eq HFS.out
      have hbx : w.heap.size ≠ b := by intro e9; subst e9; have := hG4.box.cell (off + k); rw [(hn4b.cells.1 _ _ (World.block_lt_of_cell? wr _ e0)).trans e0] at this; match h9 : off + k, this with | 0, this => cases this | 1, this => cases this | m + 2, this => simp at this
      have hce : ∀ X Y : Value, ((w4.setCell ⟨w.heap.size, 0, none⟩ X).setCell ⟨w.heap.size, 1, none⟩ Y).cell? ⟨b, off + k, none⟩ = some (.string x) := fun X Y => (World.cell?_setCell_far _ ⟨w.heap.size, 1, none⟩ ⟨b, off + k, none⟩ _ hbx).trans ((World.cell?_setCell_far _ ⟨w.heap.size, 0, none⟩ ⟨b, off + k, none⟩ _ hbx).trans ((hn4b.cells.1 _ _ (World.block_lt_of_cell? wr _ e0)).trans e0))
      refine hK.out _ _ ?_ (fun hHeld => ?_)
      · exact ⟨hG5.new, hce _ _⟩
      clear hK K
      try simp only [Act.put, List.setIfInBounds_toArray, List.set_cons_zero, List.set_cons_succ]
      refine wpAnyH_done (by kernel_rfl) ?_ _
      clear hHeld
      go_wp2_with fail
      go_roundw
      case rel => exact ⟨k + 1, _, _, _, by omega, by go_num, hG6⟩
      case measure => simp [intOf]; omega
    · have hlt2 : ¬ (k : Int) < (l.length : Int) := by omega
      rw [List.take_of_length_le (by omega)] at hG
      obtain ⟨c, hce⟩ : ∃ c, foldC ⟨ep, ms⟩ (l.map fun b => b.data.toList) = c := ⟨_, rfl⟩
      rw [hce] at hG
      have HCE := Lib.hid hce
      clear hce
      obtain ⟨ce, cms⟩ := c
      obtain ⟨p0, p1, p2, pz⟩ := Blk2F hG.box
      obtain ⟨q0, q1, q2, qz⟩ := Blk2F hG.res
      dsimp only at p1
      have hsf := hG.sl
      have hNf := hG.new
      have hRf := hG.res
      clear hG
      go_wp2_with fail
      exact bodyPost_ret (v := .agg #[.int .u64 (ce : Int), .slice A3 n3 cap3]) (by simp [results, Tryd.results19, go_sem, q1, q2]) rfl (by unfold OnePost; rw [HCE.out]; exact ⟨_, rfl, slIn_cfgSet hsf hRf (by simp), (hNf.setCell (p := ⟨w.heap.size + 1, 0, none⟩) (by simp) _).setCell (p := ⟨w.heap.size + 1, 1, none⟩) (by simp) _⟩)
end Go.Proofs.YtinpbjknakncdaaDoor
