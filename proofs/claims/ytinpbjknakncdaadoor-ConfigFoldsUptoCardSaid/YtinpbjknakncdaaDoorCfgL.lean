/- Chapter 23 (config): what commands make of a configuration: the document's Fold. Printed by genCfg.py. -/
import Derived.Test.YtinpbjknakncdaaDoorCfgK
namespace Go.Proofs.YtinpbjknakncdaaDoor
open Go.RowKit Go.Lap
set_option linter.unusedVariables false

/-- The search for a command's node. -/
def InR (w wr : World) (c : Cfg) (cmd : List UInt8) (nd : Nat) (d : Bool) (v : Value) : Prop := (d = false ∧ FRel w wr c v ∧ ∀ (j : Bool) (m : Nat), m < nd → cmd ≠ showL j c.e m) ∨ (d = true ∧ FRel w wr (stepC c cmd) v)
theorem max_nat (n : Nat) : (max (n : Int) 0).toNat = n := by omega

set_option maxRecDepth 100000 in
set_option maxHeartbeats 16000000 in
theorem refFold_any (ep : Nat) (v : Value) (ms : List Int) (vc : Value) (l : List ByteArray) (w : World) (hep : ep < 18446744073709551616) (hl : ms.length ≤ 1000000) (hs : SlIn w 1 iEnc v ms) (hsl : SlIn w 1 sEnc vc l) (hll : l.length ≤ 1000000) (hcm : ∀ x ∈ l, x.size < 4294967281) (henv : Env w) :
    Calls Tryd.prog 20 #[.agg #[.int .u64 (ep : Int), v], vc] w (OnePost w (foldC ⟨ep, ms⟩ (l.map fun b => b.data.toList))) := by
  obtain ⟨A, m, cap, rfl⟩ := hs.shape
  obtain ⟨A', c', hv, hlc, -⟩ := id hs
  cases hv
  obtain ⟨B, m2, cap2, rfl⟩ := hsl.shape
  obtain ⟨A', c', hv, hlc2, -⟩ := id hsl
  cases hv
  have hfit : Fits ⟨ep, ms⟩ := ⟨hep, hl⟩
  have HSL := Lib.hid hsl
  have HE := Lib.hid henv
  have HCM := Lib.hid hcm
  have HFIT := Lib.hid hfit
  have hN := ((New.refl w).alloc (.cells #[.int .u64 (ep : Int), .slice A ms.length cap] 25)).alloc (.cells #[.int .u64 0, .slice none 0 0] 25)
  have hB := (Blk.mk_new w 25 #[.int .u64 (ep : Int), .slice A ms.length cap]).alloc (.cells #[.int .u64 0, .slice none 0 0] 25)
  have hR := Blk.mk_new (w.alloc (.cells #[.int .u64 (ep : Int), .slice A ms.length cap] 25)) 25 #[.int .u64 0, .slice none 0 0]
  rw [World.size_alloc] at hR
  have hG : FRel w ((w.alloc (.cells #[.int .u64 (ep : Int), .slice A ms.length cap] 25)).alloc (.cells #[.int .u64 0, .slice none 0 0] 25)) ⟨ep, ms⟩ (.slice A ms.length cap) := ⟨hB, hR, hs.new hN, hN⟩
  clear hs hsl henv hcm hB hR hN hfit
  go_enter Tryd.func20, Tryd.ntmps20
  go_upto_region 1 with fail
  generalize (w.alloc _).alloc _ = w1 at *
  obtain ⟨p0, p1, p2, pz⟩ := Blk2F hG.box
  obtain ⟨q0, q1, q2, qz⟩ := Blk2F hG.res
  have hO1 : Owns (w1.alloc (.cells #[] 3)) w1.heap.size 3 1 iEnc (.slice (some ⟨w1.heap.size, 0, none⟩) 0 0) ([] : List Int) := World.ownsRow_made w1 #[] 0 (Nat.le_refl _) (by unfold maxLen; omega) rfl
  have hs2 := hG.sl.alloc (.cells #[] 3)
  have HM1 := Lib.hid (show ([] : List Int).length + ms.length ≤ maxLen by unfold maxLen; simp only [List.length_nil]; omega)
  have HM2 := Lib.hid (show (([] : List Int).length + ms.length) * 8 ≤ 140737488355328 by simp only [List.length_nil]; omega)
  have HM3 := Lib.hid (show w1.heap.size ≤ (w1.alloc (.cells #[] 3)).heap.size by rw [World.size_alloc]; omega)
  have HG := Lib.hid hG
  clear hG
  go_wp2_with (at_builtin; refine wpList_app iTy iEncOk rfl _ _ rfl rfl rfl hO1 hs2 HM1.out HM2.out HM3.out ?_; intro v2 w2 ho2 hg2 hb2; rw [List.nil_append] at ho2; have hn2 : New w1 w2 := ((New.refl w1).alloc _).grown hg2 (fun k hk => hO1.blockGe k hk); have hG2 := HG.out.keep hn2; obtain ⟨A2, n2, c2, rfl⟩ := (Owns.slIn iEncOk ho2).shape; clear p0 p1 p2 pz q0 q1 q2 qz; obtain ⟨p0, p1, p2, pz⟩ := Blk2F hG2.box; obtain ⟨q0, q1, q2, qz⟩ := Blk2F hG2.res)
  have hsu := Owns.slIn iEncOk ho2
  have hG3 : FRel w (w2.setCell ⟨w.heap.size, 1, none⟩ (.slice A2 n2 c2)) ⟨ep, ms⟩ (.slice A2 n2 c2) := ⟨hG2.box.set_ 1 _, hG2.res.far (p := ⟨w.heap.size, 1, none⟩) (by simp) _, slIn_cfgSet1 hsu hG2.box (by simp), hG2.new.setCell (p := ⟨w.heap.size, 1, none⟩) (by simp) _⟩
  clear hO1 hs2 HM1 HM2 HM3 HG ho2 hg2 hb2 hn2 hG2 hsu
  clear p0 p1 p2 pz q0 q1 q2 qz
  generalize w2.setCell _ _ = w3 at *
  have HG3 := Lib.hid hG3
  clear hG3
  go_loopw [5] (fun i wr => ∃ (k : Nat) (A : Option Addr) (n cap : Nat), k ≤ l.length ∧ i = .int .i64 (k : Int) ∧ FRel w wr (foldC ⟨ep, ms⟩ ((l.take k).map fun b => b.data.toList)) (.slice A n cap)) (fun i _ => l.length - (intOf i).toNat)
  case atStart => exact ⟨0, _, _, _, by omega, rfl, HG3.out⟩
  case round =>
    clear HG3
    obtain ⟨k, A3, n3, cap3, hk, rfl, hG⟩ := hrel
    have hft := HFIT.out.fold ((l.take k).map fun b => b.data.toList)
    by_cases hlt : k < l.length
    · have hlt2 : (k : Int) < (l.length : Int) := by omega
      have hk0 : (0 : Int) ≤ (k : Int) := by omega
      obtain ⟨x, hx⟩ : ∃ x, l[k]? = some x := ⟨_, List.getElem?_eq_getElem hlt⟩
      have HX := Lib.hid hx
      have HFS := Lib.hid (fold_snoc (c := ⟨ep, ms⟩) hx)
      clear hx
      generalize foldC ⟨ep, ms⟩ ((l.take k).map fun b => b.data.toList) = c at *
      obtain ⟨ce, cms⟩ := c
      have HG := Lib.hid hG
      have HFT := Lib.hid hft
      clear hG hft
      go_wp2_with fail
      go_loopw [6, 7] (fun dv nv wr => ∃ (nd : Nat) (d : Bool) (A : Option Addr) (n cap : Nat), nd ≤ 64 ∧ dv = .bool d ∧ nv = .int .i64 (nd : Int) ∧ InR w wr ⟨ce, cms⟩ x.data.toList nd d (.slice A n cap)) (fun _ nv _ => 64 - (intOf nv).toNat)
      case atStart => exact ⟨0, false, _, _, _, by omega, rfl, rfl, .inl ⟨rfl, HG.out, fun j m hm => by omega⟩⟩
      case round =>
        clear HG
        obtain ⟨nd, d, A4, n4, cap4, hnd, rfl, rfl, hin⟩ := hrel
        rcases hin with ⟨rfl, hF, hno⟩ | ⟨rfl, hF⟩
        rotate_left
        · have HF := Lib.hid hF
          clear hF
          by_cases h64 : nd < 64
          · have h64b : (nd : Int) < 64 := by omega
            have HO := Lib.hid (HF.out.of_eq HFS.out)
            clear HFS HFT
            go_wp2_with fail
            go_roundw
            case rel => exact ⟨k + 1, _, _, _, by omega, by go_num, HO.out⟩
            case measure => simp [intOf]; omega
          · have h64b : ¬ (nd : Int) < 64 := by omega
            have HO := Lib.hid (HF.out.of_eq HFS.out)
            clear HFS HFT
            go_wp2_with fail
            go_roundw
            case rel => exact ⟨k + 1, _, _, _, by omega, by go_num, HO.out⟩
            case measure => simp [intOf]; omega
        by_cases h64 : nd < 64
        rotate_left
        · have h64b : ¬ (nd : Int) < 64 := by omega
          have HF : Hid (FRel w wr (stepC ⟨ce, cms⟩ x.data.toList) (.slice A4 n4 cap4)) := Lib.hid (by rw [step_none (fun j m hm => hno j m (by omega))]; exact hF)
          clear hF hno
          have HO := Lib.hid (HF.out.of_eq HFS.out)
          clear HFS HFT
          go_wp2_with fail
          go_roundw
          case rel => exact ⟨k + 1, _, _, _, by omega, by go_num, HO.out⟩
          case measure => simp [intOf]; omega
        have h64b : (nd : Int) < 64 := by omega
        obtain ⟨A', c', hv, _, hh⟩ := HSL.out.new hF.new
        cases hv
        rcases hh with rfl | ⟨b, off, rfl, hbb, hc⟩
        · simp at hlt
        have e0 := sl_str hc HX.out
        clear hc
        have hX := Blk.mk_new wr 25 #[.int .u64 0, .slice none 0 0]
        have hAx := (New.refl wr).alloc (.cells #[.int .u64 0, .slice none 0 0] 25)
        have hF2 := hF.keep hAx
        have e1 := (hAx.cells.1 _ _ hbb).trans e0
        have hbb2 : b < (wr.alloc (.cells #[.int .u64 0, .slice none 0 0] 25)).heap.size := Nat.lt_of_lt_of_le hbb hAx.size
        have hgx : w.heap.size + 2 ≤ wr.heap.size := by have := hF.res.lt; omega
        have HNO := Lib.hid hno
        clear hF hAx e0 hbb hno
        go_upto_region 10 with fail
        generalize wr.heap.size = gx at *
        generalize wr.alloc _ = wa at *
        have HF2 := Lib.hid hF2
        clear hF2
        obtain ⟨p0, p1, p2, pz⟩ := Blk2F HF2.out.box
        obtain ⟨q0, q1, q2, qz⟩ := Blk2F HF2.out.res
        dsimp only at p1
        have hsh := refShow_any true ce (nd : Int) wa.drew HFT.out.1 (by omega)
        rw [max_nat] at hsh
        by_cases hs1 : x = str (showL true ce nd)
        · have HSTEP : Hid (stepC ⟨ce, cms⟩ x.data.toList = actC ⟨ce, cms⟩ true (nd : Int)) := Lib.hid (by rw [hs1, (show ∀ m : List UInt8, (str m).data.toList = m from fun m => by simp [str])]; exact step_show HFT.out.1 h64)
          rw [← hs1] at hsh
          clear hs1
          refine wp_region_held_drew (S := fun w' => Held wa w') (by kernel_rfl) (Held.of (New.refl _).drew) (fun hHeld => ?_)
          refine wpAnyH_take (i := 0) (oi := { dst := some 30, op := Op.move (Operand.tmp 1), type := 33, pos := "ref.go:98", after := #[], guard := none }) (v := ?_) rfl (by kernel_rfl) (by kernel_rfl) (by kernel_rfl) (fun _ _ _ h => h) (Or.inl ⟨by rfl, ?_⟩) (by assumption) ?_
          rotate_left
          · (intro wq hSw; (try dsimp only at hSw); go_simp; first | done | with_reducible rfl)
          try simp only [Act.put, List.setIfInBounds_toArray, List.set_cons_zero, List.set_cons_succ]
          refine wpAnyH_take (i := 1) (oi := { dst := some 31, op := Op.move (Operand.tmp 5), type := 3, pos := "ref.go:98", after := #[], guard := none }) (v := ?_) rfl (by kernel_rfl) (by kernel_rfl) (by kernel_rfl) (fun _ _ _ h => h) (Or.inl ⟨by rfl, ?_⟩) (by assumption) ?_
          rotate_left
          · (intro wq hSw; (try dsimp only at hSw); go_simp; first | done | with_reducible rfl)
          try simp only [Act.put, List.setIfInBounds_toArray, List.set_cons_zero, List.set_cons_succ]
          refine wpAnyH_take (i := 2) (oi := { dst := some 32, op := Op.indexAddr 33 (Operand.tmp 30) (Operand.tmp 31), type := 0, pos := "ref.go:98", after := #[{ on := 0, ground := Ground.data }, { on := 1, ground := Ground.data }], guard := none }) (v := ?_) rfl (by kernel_rfl) (by kernel_rfl) (by kernel_rfl) (fun _ _ _ h => h) (Or.inl ⟨by rfl, ?_⟩) (by assumption) ?_
          rotate_left
          · (intro wq hSw; (try dsimp only at hSw); go_simp; first | done | with_reducible rfl)
          try simp only [Act.put, List.setIfInBounds_toArray, List.set_cons_zero, List.set_cons_succ]
          refine wpAnyH_take (i := 3) (oi := { dst := some 33, op := Op.load 9 (Operand.tmp 32), type := 9, pos := "ref.go:98", after := #[{ on := 2, ground := Ground.data }], guard := none }) (v := ?_) rfl (by kernel_rfl) (by kernel_rfl) (by kernel_rfl) (fun _ _ _ h => h) (Or.inl ⟨by rfl, ?_⟩) (by assumption) ?_
          rotate_left
          · (intro wq hSw; (try dsimp only at hSw); go_simp; first | done | with_reducible rfl)
          try simp only [Act.put, List.setIfInBounds_toArray, List.set_cons_zero, List.set_cons_succ]
          refine wpAnyH_take (i := 4) (oi := { dst := some 34, op := Op.fieldAddr 25 (Operand.tmp 2) 0, type := 0, pos := "ref.go:98", after := #[], guard := none }) (v := ?_) rfl (by kernel_rfl) (by kernel_rfl) (by kernel_rfl) (fun _ _ _ h => h) (Or.inl ⟨by rfl, ?_⟩) (by assumption) ?_
          rotate_left
          · (intro wq hSw; (try dsimp only at hSw); go_simp; first | done | with_reducible rfl)
          try simp only [Act.put, List.setIfInBounds_toArray, List.set_cons_zero, List.set_cons_succ]
          refine wpAnyH_take (i := 5) (oi := { dst := some 35, op := Op.load 22 (Operand.tmp 34), type := 22, pos := "ref.go:98", after := #[{ on := 4, ground := Ground.data }], guard := none }) (v := ?_) rfl (by kernel_rfl) (by kernel_rfl) (by kernel_rfl) (fun _ _ _ h => h) (Or.inl ⟨by rfl, ?_⟩) (by assumption) ?_
          rotate_left
          · (intro wq hSw; (try dsimp only at hSw); go_simp; first | done | with_reducible rfl)
          try simp only [Act.put, List.setIfInBounds_toArray, List.set_cons_zero, List.set_cons_succ]
          refine wpAnyH_take (i := 6) (oi := { dst := some 36, op := Op.move (Operand.tmp 7), type := 3, pos := "ref.go:98", after := #[], guard := none }) (v := ?_) rfl (by kernel_rfl) (by kernel_rfl) (by kernel_rfl) (fun _ _ _ h => h) (Or.inl ⟨by rfl, ?_⟩) (by assumption) ?_
          rotate_left
          · (intro wq hSw; (try dsimp only at hSw); go_simp; first | done | with_reducible rfl)
          try simp only [Act.put, List.setIfInBounds_toArray, List.set_cons_zero, List.set_cons_succ]
          refine wpAnyH_ready (rs := [7]) (by kernel_rfl) (by simp) ?_
          refine AllReadyH.cons (o := { dst := some 37, op := Op.call { callee := Callee.value (Operand.func 22), args := #[Operand.const (Value.bool true), Operand.tmp 35, Operand.tmp 36], argTypes := #[4, 22, 3] }, type := 9, pos := "ref.go:98", after := #[{ on := 5, ground := Ground.data }, { on := 6, ground := Ground.data }], guard := none }) rfl (fun K hK => ?_) AllReadyH.nil
          go_simp
          refine hsh.mono ?_
          rintro e9 wb ⟨rfl, hnb0⟩
          have hnb := (New.refl wa).drew.trans hnb0
          refine hK.out _ _ ?_ (fun hHeld => ?_)
          · exact Held.of hnb
          clear hK K
          try simp only [Act.put, List.setIfInBounds_toArray, List.set_cons_zero, List.set_cons_succ]
          refine wpAnyH_take (i := 8) (oi := { dst := some 38, op := Op.binOp BinOp.eql 9 (Operand.tmp 33) (Operand.tmp 37) 9, type := 4, pos := "ref.go:98", after := #[{ on := 3, ground := Ground.data }, { on := 7, ground := Ground.data }], guard := none }) (v := .bool true) rfl (by kernel_rfl) (by kernel_rfl) (by kernel_rfl) (fun _ _ _ h => h) (Or.inl ⟨by rfl, ?_⟩) (by assumption) ?_
          · (intro wq hSw; (try dsimp only at hSw); go_simp; first | done | with_reducible rfl | simp)
          try simp only [Act.put, List.setIfInBounds_toArray, List.set_cons_zero, List.set_cons_succ]
          refine wpAnyH_done (by kernel_rfl) ?_ _
          clear hHeld
          have hF3 := HF2.out.keep hnb
          have hX3 := hX.new hnb
          clear HF2 hX hnb hnb0 e1 hsh
          clear p0 p1 p2 pz q0 q1 q2 qz
          obtain ⟨p0, p1, p2, pz⟩ := Blk2F hF3.box
          obtain ⟨q0, q1, q2, qz⟩ := Blk2F hF3.res
          dsimp only at p1
          go_wp2_with fail
          refine (refJoin_any ce _ cms (nd : Int) wb HFT.out.1 (by have := HFT.out.2; dsimp only at this; omega) hF3.sl).mono ?_
          rintro e9 wd ⟨u8, rfl, hs8, hn8⟩
          obtain ⟨A8, n8, c8, rfl⟩ := hs8.shape
          obtain ⟨r, hr⟩ : ∃ r, r = joinC ⟨ce, cms⟩ (nd : Int) := ⟨_, rfl⟩
          rw [← hr] at hs8
          rw [← hr]
          obtain ⟨⟨je, jms⟩, jc⟩ := r
          dsimp only at hs8 ⊢
          have hX8 := hX3.new hn8
          have hF8 := hF3.keep hn8
          have hu9 : Upd (· = gx) wd ((wd.setCell ⟨gx, 0, none⟩ (.int .u64 (je : Int))).setCell ⟨gx, 1, none⟩ (.slice A8 n8 c8)) := ((Upd.refl _ wd).setIn 0 _).setIn 1 _
          have hS9 : SlIn ((wd.setCell ⟨gx, 0, none⟩ (.int .u64 (je : Int))).setCell ⟨gx, 1, none⟩ (.slice A8 n8 c8)) 1 iEnc (.slice A8 n8 c8) jms := slIn_cfgSet hs8 hX8 (by simp)
          have hX9 : Blk ((wd.setCell ⟨gx, 0, none⟩ (.int .u64 (je : Int))).setCell ⟨gx, 1, none⟩ (.slice A8 n8 c8)) gx 25 #[.int .u64 (je : Int), .slice A8 n8 c8] := (hX8.set_ 0 _).set_ 1 _
          have hF9 : FRel w ((wd.setCell ⟨gx, 0, none⟩ (.int .u64 (je : Int))).setCell ⟨gx, 1, none⟩ (.slice A8 n8 c8)) ⟨ce, cms⟩ (.slice A4 n4 cap4) := ⟨hF8.box.upd hu9 (by omega), hF8.res.upd hu9 (by omega), slIn_cfgSet hF8.sl hX8 (by simp), hF8.new.upd hu9 (fun k hk => by omega)⟩
          have HR := Lib.hid hr
          obtain ⟨y0, y1, y2, yz⟩ := Blk2F hX8
          clear hF3 hX3 hn8 hs8 hr hF8
          clear p0 p1 p2 pz q0 q1 q2 qz
          go_upto_region 16 with fail
          clear y0 y1 y2 yz hX8 hu9
          generalize World.setCell _ ⟨gx, 1, none⟩ _ = we at *
          by_cases hjc : jc = 0
          · subst hjc
            have hF10 := hF9.put (d := ⟨je, jms⟩) hS9
            have HD := Lib.hid (hF10.of_eq (show stepC ⟨ce, cms⟩ x.data.toList = ⟨je, jms⟩ by rw [HSTEP.out, act_true, ← HR.out]; rfl))
            obtain ⟨p0, p1, p2, pz⟩ := Blk2F hF9.box
            obtain ⟨x0, x1, x2, xz⟩ := Blk2F hX9
            clear hF9 hF10 hX9 hS9 HR HSTEP
            go_wp2_with fail
            go_roundw
            case rel => exact ⟨nd + 1, true, _, _, _, by omega, rfl, by go_num, .inr ⟨rfl, HD.out⟩⟩
            case measure => simp [intOf]; omega
          · have hjb : (jc == 0) = false := by simpa using hjc
            have HD := Lib.hid (hF9.of_eq (show stepC ⟨ce, cms⟩ x.data.toList = ⟨ce, cms⟩ by rw [HSTEP.out, act_true, ← HR.out]; exact if_neg hjc))
            clear hF9 hX9 hS9 HR HSTEP hjc
            go_wp2_with fail
            go_roundw
            case rel => exact ⟨nd + 1, true, _, _, _, by omega, rfl, by go_num, .inr ⟨rfl, HD.out⟩⟩
            case measure => simp [intOf]; omega
        have hno1 : ¬ x.data.toList = showL true ce nd := fun h => hs1 (by rw [← h, str_data])
        generalize str (showL true ce nd) = sh1 at *
        have hx1 : (x.toList == sh1.toList) = false := by rw [beq_eq_false_iff_ne]; intro h; rw [toList_data2, toList_data2] at h; exact hs1 (ba_ext h)
        have hx2 : ¬ x.toList = sh1.toList := by simpa using hx1
        clear hs1
        refine wp_region_held_drew (S := fun w' => Held wa w') (by kernel_rfl) (Held.of (New.refl _).drew) (fun hHeld => ?_)
        refine wpAnyH_take (i := 0) (oi := { dst := some 30, op := Op.move (Operand.tmp 1), type := 33, pos := "ref.go:98", after := #[], guard := none }) (v := ?_) rfl (by kernel_rfl) (by kernel_rfl) (by kernel_rfl) (fun _ _ _ h => h) (Or.inl ⟨by rfl, ?_⟩) (by assumption) ?_
        rotate_left
        · (intro wq hSw; (try dsimp only at hSw); go_simp; first | done | with_reducible rfl)
        try simp only [Act.put, List.setIfInBounds_toArray, List.set_cons_zero, List.set_cons_succ]
        refine wpAnyH_take (i := 1) (oi := { dst := some 31, op := Op.move (Operand.tmp 5), type := 3, pos := "ref.go:98", after := #[], guard := none }) (v := ?_) rfl (by kernel_rfl) (by kernel_rfl) (by kernel_rfl) (fun _ _ _ h => h) (Or.inl ⟨by rfl, ?_⟩) (by assumption) ?_
        rotate_left
        · (intro wq hSw; (try dsimp only at hSw); go_simp; first | done | with_reducible rfl)
        try simp only [Act.put, List.setIfInBounds_toArray, List.set_cons_zero, List.set_cons_succ]
        refine wpAnyH_take (i := 2) (oi := { dst := some 32, op := Op.indexAddr 33 (Operand.tmp 30) (Operand.tmp 31), type := 0, pos := "ref.go:98", after := #[{ on := 0, ground := Ground.data }, { on := 1, ground := Ground.data }], guard := none }) (v := ?_) rfl (by kernel_rfl) (by kernel_rfl) (by kernel_rfl) (fun _ _ _ h => h) (Or.inl ⟨by rfl, ?_⟩) (by assumption) ?_
        rotate_left
        · (intro wq hSw; (try dsimp only at hSw); go_simp; first | done | with_reducible rfl)
        try simp only [Act.put, List.setIfInBounds_toArray, List.set_cons_zero, List.set_cons_succ]
        refine wpAnyH_take (i := 3) (oi := { dst := some 33, op := Op.load 9 (Operand.tmp 32), type := 9, pos := "ref.go:98", after := #[{ on := 2, ground := Ground.data }], guard := none }) (v := ?_) rfl (by kernel_rfl) (by kernel_rfl) (by kernel_rfl) (fun _ _ _ h => h) (Or.inl ⟨by rfl, ?_⟩) (by assumption) ?_
        rotate_left
        · (intro wq hSw; (try dsimp only at hSw); go_simp; first | done | with_reducible rfl)
        try simp only [Act.put, List.setIfInBounds_toArray, List.set_cons_zero, List.set_cons_succ]
        refine wpAnyH_take (i := 4) (oi := { dst := some 34, op := Op.fieldAddr 25 (Operand.tmp 2) 0, type := 0, pos := "ref.go:98", after := #[], guard := none }) (v := ?_) rfl (by kernel_rfl) (by kernel_rfl) (by kernel_rfl) (fun _ _ _ h => h) (Or.inl ⟨by rfl, ?_⟩) (by assumption) ?_
        rotate_left
        · (intro wq hSw; (try dsimp only at hSw); go_simp; first | done | with_reducible rfl)
        try simp only [Act.put, List.setIfInBounds_toArray, List.set_cons_zero, List.set_cons_succ]
        refine wpAnyH_take (i := 5) (oi := { dst := some 35, op := Op.load 22 (Operand.tmp 34), type := 22, pos := "ref.go:98", after := #[{ on := 4, ground := Ground.data }], guard := none }) (v := ?_) rfl (by kernel_rfl) (by kernel_rfl) (by kernel_rfl) (fun _ _ _ h => h) (Or.inl ⟨by rfl, ?_⟩) (by assumption) ?_
        rotate_left
        · (intro wq hSw; (try dsimp only at hSw); go_simp; first | done | with_reducible rfl)
        try simp only [Act.put, List.setIfInBounds_toArray, List.set_cons_zero, List.set_cons_succ]
        refine wpAnyH_take (i := 6) (oi := { dst := some 36, op := Op.move (Operand.tmp 7), type := 3, pos := "ref.go:98", after := #[], guard := none }) (v := ?_) rfl (by kernel_rfl) (by kernel_rfl) (by kernel_rfl) (fun _ _ _ h => h) (Or.inl ⟨by rfl, ?_⟩) (by assumption) ?_
        rotate_left
        · (intro wq hSw; (try dsimp only at hSw); go_simp; first | done | with_reducible rfl)
        try simp only [Act.put, List.setIfInBounds_toArray, List.set_cons_zero, List.set_cons_succ]
        refine wpAnyH_ready (rs := [7]) (by kernel_rfl) (by simp) ?_
        refine AllReadyH.cons (o := { dst := some 37, op := Op.call { callee := Callee.value (Operand.func 22), args := #[Operand.const (Value.bool true), Operand.tmp 35, Operand.tmp 36], argTypes := #[4, 22, 3] }, type := 9, pos := "ref.go:98", after := #[{ on := 5, ground := Ground.data }, { on := 6, ground := Ground.data }], guard := none }) rfl (fun K hK => ?_) AllReadyH.nil
        go_simp
        refine hsh.mono ?_
        rintro e9 wb ⟨rfl, hnb0⟩
        have hnb := (New.refl wa).drew.trans hnb0
        refine hK.out _ _ ?_ (fun hHeld => ?_)
        · exact Held.of hnb
        clear hK K
        try simp only [Act.put, List.setIfInBounds_toArray, List.set_cons_zero, List.set_cons_succ]
        refine wpAnyH_take (i := 8) (oi := { dst := some 38, op := Op.binOp BinOp.eql 9 (Operand.tmp 33) (Operand.tmp 37) 9, type := 4, pos := "ref.go:98", after := #[{ on := 3, ground := Ground.data }, { on := 7, ground := Ground.data }], guard := none }) (v := .bool false) rfl (by kernel_rfl) (by kernel_rfl) (by kernel_rfl) (fun _ _ _ h => h) (Or.inl ⟨by rfl, ?_⟩) (by assumption) ?_
        · (intro wq hSw; (try dsimp only at hSw); go_simp; first | done | with_reducible rfl | simp)
        try simp only [Act.put, List.setIfInBounds_toArray, List.set_cons_zero, List.set_cons_succ]
        refine wpAnyH_done (by kernel_rfl) ?_ _
        clear hHeld hx1 hx2 hsh
        have HF3 := Lib.hid (HF2.out.keep hnb)
        have hX3 := hX.new hnb
        have e2 := (hnb.cells.1 _ _ hbb2).trans e1
        have hbb3 : b < wb.heap.size := Nat.lt_of_lt_of_le hbb2 hnb.size
        clear HF2 hX hnb hnb0 e1 hbb2
        clear p0 p1 p2 pz q0 q1 q2 qz
        obtain ⟨p0, p1, p2, pz⟩ := Blk2F HF3.out.box
        obtain ⟨q0, q1, q2, qz⟩ := Blk2F HF3.out.res
        dsimp only at p1
        have hsh := refShow_any false ce (nd : Int) wb.drew HFT.out.1 (by omega)
        rw [max_nat] at hsh
        go_upto_region 13 with fail
        by_cases hs1 : x = str (showL false ce nd)
        · have HSTEP : Hid (stepC ⟨ce, cms⟩ x.data.toList = actC ⟨ce, cms⟩ false (nd : Int)) := Lib.hid (by rw [hs1, (show ∀ m : List UInt8, (str m).data.toList = m from fun m => by simp [str])]; exact step_show HFT.out.1 h64)
          rw [← hs1] at hsh
          clear hs1
          have HF2 := HF3
          have hX := hX3
          have e1 := e2
          clear HF3 hX3 e2
          generalize wb = wa at *
          refine wp_region_held_drew (S := fun w' => Held wa w') (by kernel_rfl) (Held.of (New.refl _).drew) (fun hHeld => ?_)
          refine wpAnyH_take (i := 0) (oi := { dst := some 45, op := Op.move (Operand.tmp 1), type := 33, pos := "ref.go:101", after := #[], guard := none }) (v := ?_) rfl (by kernel_rfl) (by kernel_rfl) (by kernel_rfl) (fun _ _ _ h => h) (Or.inl ⟨by rfl, ?_⟩) (by assumption) ?_
          rotate_left
          · (intro wq hSw; (try dsimp only at hSw); go_simp; first | done | with_reducible rfl)
          try simp only [Act.put, List.setIfInBounds_toArray, List.set_cons_zero, List.set_cons_succ]
          refine wpAnyH_take (i := 1) (oi := { dst := some 46, op := Op.move (Operand.tmp 5), type := 3, pos := "ref.go:101", after := #[], guard := none }) (v := ?_) rfl (by kernel_rfl) (by kernel_rfl) (by kernel_rfl) (fun _ _ _ h => h) (Or.inl ⟨by rfl, ?_⟩) (by assumption) ?_
          rotate_left
          · (intro wq hSw; (try dsimp only at hSw); go_simp; first | done | with_reducible rfl)
          try simp only [Act.put, List.setIfInBounds_toArray, List.set_cons_zero, List.set_cons_succ]
          refine wpAnyH_take (i := 2) (oi := { dst := some 47, op := Op.indexAddr 33 (Operand.tmp 45) (Operand.tmp 46), type := 0, pos := "ref.go:101", after := #[{ on := 0, ground := Ground.data }, { on := 1, ground := Ground.data }], guard := none }) (v := ?_) rfl (by kernel_rfl) (by kernel_rfl) (by kernel_rfl) (fun _ _ _ h => h) (Or.inl ⟨by rfl, ?_⟩) (by assumption) ?_
          rotate_left
          · (intro wq hSw; (try dsimp only at hSw); go_simp; first | done | with_reducible rfl)
          try simp only [Act.put, List.setIfInBounds_toArray, List.set_cons_zero, List.set_cons_succ]
          refine wpAnyH_take (i := 3) (oi := { dst := some 48, op := Op.load 9 (Operand.tmp 47), type := 9, pos := "ref.go:101", after := #[{ on := 2, ground := Ground.data }], guard := none }) (v := ?_) rfl (by kernel_rfl) (by kernel_rfl) (by kernel_rfl) (fun _ _ _ h => h) (Or.inl ⟨by rfl, ?_⟩) (by assumption) ?_
          rotate_left
          · (intro wq hSw; (try dsimp only at hSw); go_simp; first | done | with_reducible rfl)
          try simp only [Act.put, List.setIfInBounds_toArray, List.set_cons_zero, List.set_cons_succ]
          refine wpAnyH_take (i := 4) (oi := { dst := some 49, op := Op.fieldAddr 25 (Operand.tmp 2) 0, type := 0, pos := "ref.go:101", after := #[], guard := none }) (v := ?_) rfl (by kernel_rfl) (by kernel_rfl) (by kernel_rfl) (fun _ _ _ h => h) (Or.inl ⟨by rfl, ?_⟩) (by assumption) ?_
          rotate_left
          · (intro wq hSw; (try dsimp only at hSw); go_simp; first | done | with_reducible rfl)
          try simp only [Act.put, List.setIfInBounds_toArray, List.set_cons_zero, List.set_cons_succ]
          refine wpAnyH_take (i := 5) (oi := { dst := some 50, op := Op.load 22 (Operand.tmp 49), type := 22, pos := "ref.go:101", after := #[{ on := 4, ground := Ground.data }], guard := none }) (v := ?_) rfl (by kernel_rfl) (by kernel_rfl) (by kernel_rfl) (fun _ _ _ h => h) (Or.inl ⟨by rfl, ?_⟩) (by assumption) ?_
          rotate_left
          · (intro wq hSw; (try dsimp only at hSw); go_simp; first | done | with_reducible rfl)
          try simp only [Act.put, List.setIfInBounds_toArray, List.set_cons_zero, List.set_cons_succ]
          refine wpAnyH_take (i := 6) (oi := { dst := some 51, op := Op.move (Operand.tmp 7), type := 3, pos := "ref.go:101", after := #[], guard := none }) (v := ?_) rfl (by kernel_rfl) (by kernel_rfl) (by kernel_rfl) (fun _ _ _ h => h) (Or.inl ⟨by rfl, ?_⟩) (by assumption) ?_
          rotate_left
          · (intro wq hSw; (try dsimp only at hSw); go_simp; first | done | with_reducible rfl)
          try simp only [Act.put, List.setIfInBounds_toArray, List.set_cons_zero, List.set_cons_succ]
          refine wpAnyH_ready (rs := [7]) (by kernel_rfl) (by simp) ?_
          refine AllReadyH.cons (o := { dst := some 52, op := Op.call { callee := Callee.value (Operand.func 22), args := #[Operand.const (Value.bool false), Operand.tmp 50, Operand.tmp 51], argTypes := #[4, 22, 3] }, type := 9, pos := "ref.go:101", after := #[{ on := 5, ground := Ground.data }, { on := 6, ground := Ground.data }], guard := none }) rfl (fun K hK => ?_) AllReadyH.nil
          go_simp
          refine hsh.mono ?_
          rintro e9 wb ⟨rfl, hnb0⟩
          have hnb := (New.refl wa).drew.trans hnb0
          refine hK.out _ _ ?_ (fun hHeld => ?_)
          · exact Held.of hnb
          clear hK K
          try simp only [Act.put, List.setIfInBounds_toArray, List.set_cons_zero, List.set_cons_succ]
          refine wpAnyH_take (i := 8) (oi := { dst := some 53, op := Op.binOp BinOp.eql 9 (Operand.tmp 48) (Operand.tmp 52) 9, type := 4, pos := "ref.go:101", after := #[{ on := 3, ground := Ground.data }, { on := 7, ground := Ground.data }], guard := none }) (v := .bool true) rfl (by kernel_rfl) (by kernel_rfl) (by kernel_rfl) (fun _ _ _ h => h) (Or.inl ⟨by rfl, ?_⟩) (by assumption) ?_
          · (intro wq hSw; (try dsimp only at hSw); go_simp; first | done | with_reducible rfl | simp)
          try simp only [Act.put, List.setIfInBounds_toArray, List.set_cons_zero, List.set_cons_succ]
          refine wpAnyH_done (by kernel_rfl) ?_ _
          clear hHeld
          have hF3 := HF2.out.keep hnb
          have hX3 := hX.new hnb
          clear HF2 hX hnb hnb0 e1 hsh
          clear p0 p1 p2 pz q0 q1 q2 qz
          obtain ⟨p0, p1, p2, pz⟩ := Blk2F hF3.box
          obtain ⟨q0, q1, q2, qz⟩ := Blk2F hF3.res
          dsimp only at p1
          go_wp2_with fail
          refine (refRemove_any ce _ cms (nd : Int) wb HFT.out.1 (by have := HFT.out.2; dsimp only at this; omega) hF3.sl).mono ?_
          rintro e9 wd ⟨u8, rfl, hs8, hn8⟩
          obtain ⟨A8, n8, c8, rfl⟩ := hs8.shape
          obtain ⟨r, hr⟩ : ∃ r, r = remC ⟨ce, cms⟩ (nd : Int) := ⟨_, rfl⟩
          rw [← hr] at hs8
          rw [← hr]
          obtain ⟨⟨je, jms⟩, jc⟩ := r
          dsimp only at hs8 ⊢
          have hX8 := hX3.new hn8
          have hF8 := hF3.keep hn8
          have hu9 : Upd (· = gx) wd ((wd.setCell ⟨gx, 0, none⟩ (.int .u64 (je : Int))).setCell ⟨gx, 1, none⟩ (.slice A8 n8 c8)) := ((Upd.refl _ wd).setIn 0 _).setIn 1 _
          have hS9 : SlIn ((wd.setCell ⟨gx, 0, none⟩ (.int .u64 (je : Int))).setCell ⟨gx, 1, none⟩ (.slice A8 n8 c8)) 1 iEnc (.slice A8 n8 c8) jms := slIn_cfgSet hs8 hX8 (by simp)
          have hX9 : Blk ((wd.setCell ⟨gx, 0, none⟩ (.int .u64 (je : Int))).setCell ⟨gx, 1, none⟩ (.slice A8 n8 c8)) gx 25 #[.int .u64 (je : Int), .slice A8 n8 c8] := (hX8.set_ 0 _).set_ 1 _
          have hF9 : FRel w ((wd.setCell ⟨gx, 0, none⟩ (.int .u64 (je : Int))).setCell ⟨gx, 1, none⟩ (.slice A8 n8 c8)) ⟨ce, cms⟩ (.slice A4 n4 cap4) := ⟨hF8.box.upd hu9 (by omega), hF8.res.upd hu9 (by omega), slIn_cfgSet hF8.sl hX8 (by simp), hF8.new.upd hu9 (fun k hk => by omega)⟩
          have HR := Lib.hid hr
          obtain ⟨y0, y1, y2, yz⟩ := Blk2F hX8
          clear hF3 hX3 hn8 hs8 hr hF8
          clear p0 p1 p2 pz q0 q1 q2 qz
          go_upto_region 16 with fail
          clear y0 y1 y2 yz hX8 hu9
          generalize World.setCell _ ⟨gx, 1, none⟩ _ = we at *
          by_cases hjc : jc = 0
          · subst hjc
            have hF10 := hF9.put (d := ⟨je, jms⟩) hS9
            have HD := Lib.hid (hF10.of_eq (show stepC ⟨ce, cms⟩ x.data.toList = ⟨je, jms⟩ by rw [HSTEP.out, act_false, ← HR.out]; rfl))
            obtain ⟨p0, p1, p2, pz⟩ := Blk2F hF9.box
            obtain ⟨x0, x1, x2, xz⟩ := Blk2F hX9
            clear hF9 hF10 hX9 hS9 HR HSTEP
            go_wp2_with fail
            go_roundw
            case rel => exact ⟨nd + 1, true, _, _, _, by omega, rfl, by go_num, .inr ⟨rfl, HD.out⟩⟩
            case measure => simp [intOf]; omega
          · have hjb : (jc == 0) = false := by simpa using hjc
            have HD := Lib.hid (hF9.of_eq (show stepC ⟨ce, cms⟩ x.data.toList = ⟨ce, cms⟩ by rw [HSTEP.out, act_false, ← HR.out]; exact if_neg hjc))
            clear hF9 hX9 hS9 HR HSTEP hjc
            go_wp2_with fail
            go_roundw
            case rel => exact ⟨nd + 1, true, _, _, _, by omega, rfl, by go_num, .inr ⟨rfl, HD.out⟩⟩
            case measure => simp [intOf]; omega
        have hno2 : ¬ x.data.toList = showL false ce nd := fun h => hs1 (by rw [← h, str_data])
        have HN2 : Hid (∀ (j : Bool) (m : Nat), m < nd + 1 → x.data.toList ≠ showL j ce m) := Lib.hid (fun j m hm => by rcases Nat.lt_succ_iff_lt_or_eq.1 hm with h | h; exact HNO.out j m h; subst h; cases j; exact hno2; exact hno1)
        generalize str (showL false ce nd) = sh1 at *
        have hx1 : (x.toList == sh1.toList) = false := by rw [beq_eq_false_iff_ne]; intro h; rw [toList_data2, toList_data2] at h; exact hs1 (ba_ext h)
        have hx2 : ¬ x.toList = sh1.toList := by simpa using hx1
        clear hs1 hno1 hno2
        generalize wb = wa at *
        refine wp_region_held_drew (S := fun w' => Held wa w') (by kernel_rfl) (Held.of (New.refl _).drew) (fun hHeld => ?_)
        refine wpAnyH_take (i := 0) (oi := { dst := some 45, op := Op.move (Operand.tmp 1), type := 33, pos := "ref.go:101", after := #[], guard := none }) (v := ?_) rfl (by kernel_rfl) (by kernel_rfl) (by kernel_rfl) (fun _ _ _ h => h) (Or.inl ⟨by rfl, ?_⟩) (by assumption) ?_
        rotate_left
        · (intro wq hSw; (try dsimp only at hSw); go_simp; first | done | with_reducible rfl)
        try simp only [Act.put, List.setIfInBounds_toArray, List.set_cons_zero, List.set_cons_succ]
        refine wpAnyH_take (i := 1) (oi := { dst := some 46, op := Op.move (Operand.tmp 5), type := 3, pos := "ref.go:101", after := #[], guard := none }) (v := ?_) rfl (by kernel_rfl) (by kernel_rfl) (by kernel_rfl) (fun _ _ _ h => h) (Or.inl ⟨by rfl, ?_⟩) (by assumption) ?_
        rotate_left
        · (intro wq hSw; (try dsimp only at hSw); go_simp; first | done | with_reducible rfl)
        try simp only [Act.put, List.setIfInBounds_toArray, List.set_cons_zero, List.set_cons_succ]
        refine wpAnyH_take (i := 2) (oi := { dst := some 47, op := Op.indexAddr 33 (Operand.tmp 45) (Operand.tmp 46), type := 0, pos := "ref.go:101", after := #[{ on := 0, ground := Ground.data }, { on := 1, ground := Ground.data }], guard := none }) (v := ?_) rfl (by kernel_rfl) (by kernel_rfl) (by kernel_rfl) (fun _ _ _ h => h) (Or.inl ⟨by rfl, ?_⟩) (by assumption) ?_
        rotate_left
        · (intro wq hSw; (try dsimp only at hSw); go_simp; first | done | with_reducible rfl)
        try simp only [Act.put, List.setIfInBounds_toArray, List.set_cons_zero, List.set_cons_succ]
        refine wpAnyH_take (i := 3) (oi := { dst := some 48, op := Op.load 9 (Operand.tmp 47), type := 9, pos := "ref.go:101", after := #[{ on := 2, ground := Ground.data }], guard := none }) (v := ?_) rfl (by kernel_rfl) (by kernel_rfl) (by kernel_rfl) (fun _ _ _ h => h) (Or.inl ⟨by rfl, ?_⟩) (by assumption) ?_
        rotate_left
        · (intro wq hSw; (try dsimp only at hSw); go_simp; first | done | with_reducible rfl)
        try simp only [Act.put, List.setIfInBounds_toArray, List.set_cons_zero, List.set_cons_succ]
        refine wpAnyH_take (i := 4) (oi := { dst := some 49, op := Op.fieldAddr 25 (Operand.tmp 2) 0, type := 0, pos := "ref.go:101", after := #[], guard := none }) (v := ?_) rfl (by kernel_rfl) (by kernel_rfl) (by kernel_rfl) (fun _ _ _ h => h) (Or.inl ⟨by rfl, ?_⟩) (by assumption) ?_
        rotate_left
        · (intro wq hSw; (try dsimp only at hSw); go_simp; first | done | with_reducible rfl)
        try simp only [Act.put, List.setIfInBounds_toArray, List.set_cons_zero, List.set_cons_succ]
        refine wpAnyH_take (i := 5) (oi := { dst := some 50, op := Op.load 22 (Operand.tmp 49), type := 22, pos := "ref.go:101", after := #[{ on := 4, ground := Ground.data }], guard := none }) (v := ?_) rfl (by kernel_rfl) (by kernel_rfl) (by kernel_rfl) (fun _ _ _ h => h) (Or.inl ⟨by rfl, ?_⟩) (by assumption) ?_
        rotate_left
        · (intro wq hSw; (try dsimp only at hSw); go_simp; first | done | with_reducible rfl)
        try simp only [Act.put, List.setIfInBounds_toArray, List.set_cons_zero, List.set_cons_succ]
        refine wpAnyH_take (i := 6) (oi := { dst := some 51, op := Op.move (Operand.tmp 7), type := 3, pos := "ref.go:101", after := #[], guard := none }) (v := ?_) rfl (by kernel_rfl) (by kernel_rfl) (by kernel_rfl) (fun _ _ _ h => h) (Or.inl ⟨by rfl, ?_⟩) (by assumption) ?_
        rotate_left
        · (intro wq hSw; (try dsimp only at hSw); go_simp; first | done | with_reducible rfl)
        try simp only [Act.put, List.setIfInBounds_toArray, List.set_cons_zero, List.set_cons_succ]
        refine wpAnyH_ready (rs := [7]) (by kernel_rfl) (by simp) ?_
        refine AllReadyH.cons (o := { dst := some 52, op := Op.call { callee := Callee.value (Operand.func 22), args := #[Operand.const (Value.bool false), Operand.tmp 50, Operand.tmp 51], argTypes := #[4, 22, 3] }, type := 9, pos := "ref.go:101", after := #[{ on := 5, ground := Ground.data }, { on := 6, ground := Ground.data }], guard := none }) rfl (fun K hK => ?_) AllReadyH.nil
        go_simp
        refine hsh.mono ?_
        rintro e9 wb ⟨rfl, hnb0⟩
        have hnb := (New.refl wa).drew.trans hnb0
        refine hK.out _ _ ?_ (fun hHeld => ?_)
        · exact Held.of hnb
        clear hK K
        try simp only [Act.put, List.setIfInBounds_toArray, List.set_cons_zero, List.set_cons_succ]
        refine wpAnyH_take (i := 8) (oi := { dst := some 53, op := Op.binOp BinOp.eql 9 (Operand.tmp 48) (Operand.tmp 52) 9, type := 4, pos := "ref.go:101", after := #[{ on := 3, ground := Ground.data }, { on := 7, ground := Ground.data }], guard := none }) (v := .bool false) rfl (by kernel_rfl) (by kernel_rfl) (by kernel_rfl) (fun _ _ _ h => h) (Or.inl ⟨by rfl, ?_⟩) (by assumption) ?_
        · (intro wq hSw; (try dsimp only at hSw); go_simp; first | done | with_reducible rfl | simp)
        try simp only [Act.put, List.setIfInBounds_toArray, List.set_cons_zero, List.set_cons_succ]
        refine wpAnyH_done (by kernel_rfl) ?_ _
        clear hHeld hx1 hx2 hsh
        have HD := Lib.hid (HF3.out.keep hnb)
        clear HF3 hX3 hnb hnb0 e2 hbb3
        clear p0 p1 p2 pz q0 q1 q2 qz
        go_wp2_with fail
        go_roundw
        case rel => exact ⟨nd + 1, false, _, _, _, by omega, rfl, by go_num, .inl ⟨rfl, HD.out, HN2.out⟩⟩
        case measure => simp [intOf]; omega
    · have hlt2 : ¬ (k : Int) < (l.length : Int) := by omega
      rw [List.take_of_length_le (by omega)] at hG
      obtain ⟨c, hce⟩ : ∃ c, foldC ⟨ep, ms⟩ (l.map fun b => b.data.toList) = c := ⟨_, rfl⟩
      rw [hce] at hG
      have HCE := Lib.hid hce
      clear hce
      obtain ⟨ce, cms⟩ := c
      obtain ⟨p0, p1, p2, pz⟩ := Blk2F hG.box
      obtain ⟨q0, q1, q2, qz⟩ := Blk2F hG.res
      dsimp only at p1
      have hsf := hG.sl
      have hNf := hG.new
      have hRf := hG.res
      clear hG
      go_wp2_with fail
      exact bodyPost_ret (v := .agg #[.int .u64 (ce : Int), .slice A3 n3 cap3]) (by simp [results, Tryd.results20, go_sem, q1, q2]) rfl (by unfold OnePost; rw [HCE.out]; exact ⟨_, rfl, slIn_cfgSet hsf hRf (by simp), (hNf.setCell (p := ⟨w.heap.size + 1, 0, none⟩) (by simp) _).setCell (p := ⟨w.heap.size + 1, 1, none⟩) (by simp) _⟩)
end Go.Proofs.YtinpbjknakncdaaDoor
