/- The walk of the law ConfigOnce (chapter 23), where no command is longer than four billion bytes: it answers true. Printed by genCfg.py. -/
import Derived.Test.YtinpbjknakncdaaDoorLaw23d
namespace Go.Proofs.YtinpbjknakncdaaDoor
open Go.RowKit Go.Lap
set_option linter.unusedVariables false

theorem fold_one (c : Cfg) (x : List UInt8) : foldC c [x] = stepC c x := rfl
theorem fold_chk {c : Cfg} (h : chkC c = true) : ∀ l : List (List UInt8), chkC (foldC c l) = true := by
  intro l
  induction l generalizing c with
  | nil => exact h
  | cons x l ih => exact ih (step_chk h).1
set_option maxRecDepth 100000 in
set_option maxHeartbeats 4000000 in
theorem once_big (e : Nat) (A : Option Addr) (cap : Nat) (ms : List Int) (vn : Value) (w : World) (hbig : ¬ ms.length ≤ 1000000000) (henv : Env w) :
    Calls Tryd.prog 6 #[.agg #[.int .u64 (e : Int), .slice A ms.length cap], vn] w fun e' w' => e' = .returned (.bool true) ∧ New w w' := by
  have HE := Lib.hid henv
  have HN0 := Lib.hid ((New.refl w).alloc (.cells #[.int .u64 (e : Int), .slice A ms.length cap] 25))
  have hc := fun wx => check_big e A ms.length cap wx (by omega)
  clear henv
  go_enter Tryd.func6, Tryd.ntmps6
  go_wp2_with fail
  refine (hc _).mono ?_
  rintro e9 w2 ⟨rfl, hn2⟩
  have HN2 := Lib.hid (HN0.out.trans hn2)
  clear HN0 hn2
  go_wp2_with fail
  refine (awake23 _ (HE.out.new HN2.out)).mono ?_
  rintro e9 wz ⟨rfl, hnz⟩
  go_wp2_with fail
  go_ret
  exact ⟨rfl, HN2.out.trans hnz⟩

set_option maxRecDepth 100000 in
set_option maxHeartbeats 16000000 in
theorem configOnce_walk (e : Nat) (v : Value) (ms : List Int) (vn : Value) (ls : List ByteArray) (w : World) (hep : e < 18446744073709551616) (hs : SlIn w 1 iEnc v ms) (hsn : SlIn w 1 sEnc vn ls) (hcm : ∀ x ∈ ls, x.size < 4294967281) (henv : Env w) :
    Calls Tryd.prog 6 #[.agg #[.int .u64 (e : Int), v], vn] w fun e' w' => e' = .returned (.bool true) ∧ New w w' := by
  obtain ⟨A, m, cap, rfl⟩ := hs.shape
  obtain ⟨A', c', hv, hlc, -⟩ := id hs
  cases hv
  have HE := Lib.hid henv
  have HS0 := Lib.hid hs
  have HN0 := Lib.hid ((New.refl w).alloc (.cells #[.int .u64 (e : Int), .slice A ms.length cap] 25))
  have HB0 := Lib.hid (Blk.mk_new w 25 #[.int .u64 (e : Int), .slice A ms.length cap])
  clear hs henv
  obtain ⟨B, m2, cap2, rfl⟩ := hsn.shape
  obtain ⟨A', c', hv, hlc2, -⟩ := id hsn
  cases hv
  have HSN := Lib.hid hsn
  have HCM := Lib.hid hcm
  clear hsn hcm
  have hck0 := fun wx hl hx => check_any e (.slice A ms.length cap) ms wx hl hx
  by_cases hbig : ms.length ≤ 1000000000
  rotate_left
  · exact once_big e A cap ms (.slice B ls.length cap2) w hbig HE.out
  go_enter Tryd.func6, Tryd.ntmps6
  go_upto_region 1 with fail
  generalize w.alloc _ = w1 at *
  obtain ⟨p0, p1, p2, pz⟩ := Blk2F HB0.out
  cases hck : chkC ⟨e, ms⟩ with
  | false =>
    have hc := hck0 w1 hbig (HS0.out.new HN0.out)
    rw [hck] at hc
    clear hck
    go_wp2_with fail
    refine hc.mono ?_
    rintro e9 w2 ⟨rfl, hn2⟩
    have HN2 := Lib.hid (HN0.out.trans hn2)
    clear HN0 hn2
    go_wp2_with fail
    refine (awake23 _ (HE.out.new HN2.out)).mono ?_
    rintro e9 wz ⟨rfl, hnz⟩
    go_wp2_with fail
    go_ret
    exact ⟨rfl, HN2.out.trans hnz⟩
  | true =>
    have HK := Lib.hid hck
    have hc := hck0 w1 hbig (HS0.out.new HN0.out)
    rw [hck] at hc
    clear hck
    go_wp2_with fail
    refine hc.mono ?_
    rintro e9 w2 ⟨rfl, hn2⟩
    have HN2 := Lib.hid (HN0.out.trans hn2)
    have HB2 := Lib.hid (HB0.out.new hn2)
    clear HN0 HB0 hn2 p0 p1 p2 pz hc
    by_cases h40 : 40 < ls.length
    · have h40b : (40 : Int) < (ls.length : Int) := by omega
      go_wp2_with fail
      refine (awake23 _ (HE.out.new HN2.out)).mono ?_
      rintro e9 wz ⟨rfl, hnz⟩
      go_wp2_with fail
      go_ret
      exact ⟨rfl, HN2.out.trans hnz⟩
    have h40b : ¬ (40 : Int) < (ls.length : Int) := by omega
    obtain ⟨p0, p1, p2, pz⟩ := Blk2F HB2.out
    have h7 := (chk_parts HK.out).2.2.2.1
    dsimp only at h7
    go_wp2_with fail
    refine (few_any e _ ms w2 (HS0.out.new HN2.out)).mono ?_
    rintro e9 w2b ⟨rfl, hn2b⟩
    rw [decide_eq_true (show ms.length ≤ 20 by omega)]
    have HN3 := Lib.hid (HN2.out.trans hn2b)
    have HB3 := Lib.hid (HB2.out.new hn2b)
    clear HN2 HB2 hn2b p0 p1 p2 pz
    obtain ⟨p0, p1, p2, pz⟩ := Blk2F HB3.out
    have hG := Blk.mk_new w2b 25 #[.int .u64 (e : Int), .slice A ms.length cap]
    have hAx := (New.refl w2b).alloc (.cells #[.int .u64 (e : Int), .slice A ms.length cap] 25)
    have hR : RmRel w (w2b.alloc (.cells #[.int .u64 (e : Int), .slice A ms.length cap] 25)) w2b.heap.size e A cap ms ⟨e, ms⟩ (.slice A ms.length cap) := ⟨HB3.out.new hAx, hG, HS0.out.new (HN3.out.trans hAx), HN3.out.trans hAx⟩
    have hg5 : w.heap.size < w2b.heap.size := HB3.out.lt
    have HR := Lib.hid hR
    clear hG hAx hR HB3 HN3
    go_upto_region 4 with fail
    generalize w2b.heap.size = g5 at *
    generalize w2b.alloc _ = w3 at *
    clear p0 p1 p2 pz
    go_wp2_with fail
    go_loopw [6] (fun i wr => ∃ (k : Nat) (C : Option Addr) (n cc : Nat), k ≤ ls.length ∧ i = .int .i64 (k : Int) ∧ RmRel w wr g5 e A cap ms (foldC ⟨e, ms⟩ ((ls.take k).map fun b => b.data.toList)) (.slice C n cc)) (fun i _ => ls.length - (intOf i).toNat)
    case atStart => exact ⟨0, _, _, _, by omega, rfl, HR.out⟩
    case round =>
      clear HR
      obtain ⟨k, C, n, cc, hk, rfl, hG⟩ := hrel
      have hcf := fold_chk HK.out ((ls.take k).map fun b => b.data.toList)
      by_cases hlt : k < ls.length
      · have hlt2 : (k : Int) < (ls.length : Int) := by omega
        have hk0 : (0 : Int) ≤ (k : Int) := by omega
        obtain ⟨A', c', hv, _, hh⟩ := HSN.out.new hG.new
        cases hv
        rcases hh with rfl | ⟨b, off, rfl, hbb, hc⟩
        · simp at hlt
        obtain ⟨x, hx⟩ : ∃ x, ls[k]? = some x := ⟨_, List.getElem?_eq_getElem hlt⟩
        have e0 := sl_str hc hx
        have HXS := Lib.hid (HCM.out x (List.mem_of_getElem? hx))
        have HFS := Lib.hid (fold_snoc (c := ⟨e, ms⟩) hx)
        clear hc hx
        generalize foldC ⟨e, ms⟩ ((ls.take k).map fun b => b.data.toList) = c at *
        obtain ⟨ce, cms⟩ := c
        have HCF := Lib.hid hcf
        have HG := Lib.hid hG
        clear hG hcf
        have hcl : cms.length ≤ 7 ∧ 1 ≤ cms.length ∧ ce ≤ 4611686018427387904 := by have := chk_parts HCF.out; exact ⟨this.2.2.2.1, this.2.2.1, this.2.1⟩
        have hce : ce < 18446744073709551616 := by omega
        obtain ⟨p0, p1, p2, pz⟩ := Blk2F HG.out.box
        obtain ⟨q0, q1, q2, qz⟩ := Blk2F HG.out.now
        dsimp only at q1
        have hst := step_chk (cmd := x.data.toList) HCF.out
        obtain ⟨⟨re, rms⟩, hrr⟩ : ∃ r, stepC ⟨ce, cms⟩ x.data.toList = r := ⟨_, rfl⟩
        have hw1 : IntKind.i64.wrap ((k : Int) + 1) = (k : Int) + 1 := by rw [IntWalk.i64_in _ (by omega)]
        have hkc : (k : Int) + 1 ≤ (cap2 : Int) := by omega
        have hkn : ((k : Int) + 1).toNat = k + 1 := by omega
        have hkk : (k : Int) ≤ (k : Int) + 1 := by omega
        have hkd : k + 1 - k = 1 := by omega
        have hne : ¬ cap2 = k := by omega
        have hfold := fun wx h1 h2 h3 => fold_any ce (.slice C n cc) cms (.slice (some ⟨b, off + k, none⟩) 1 (cap2 - k)) [x] wx hce (by omega) h1 h2 (by simp) (by simpa using HXS.out) h3
        have hsx : ∀ wx, New wr wx → SlIn wx 1 sEnc (.slice (some ⟨b, off + k, none⟩) 1 (cap2 - k)) [x] := fun wx hx => ⟨_, _, rfl, by show 1 ≤ cap2 - k; omega, .inr ⟨b, off + k, rfl, Nat.lt_of_lt_of_le hbb hx.size, fun k2 y hy j u hu => by
            cases k2 with
            | zero =>
              obtain rfl := Option.some.inj hy
              cases j with
              | zero => obtain rfl := Option.some.inj hu; simpa using (hx.cells.1 _ _ hbb).trans e0
              | succ j => simp [sEnc] at hu
            | succ k2 => simp at hy⟩⟩
        have HSX := Lib.hid hsx
        clear hsx
        simp only [List.map_cons, List.map_nil, fold_one] at hfold
        rw [hrr] at hst
        have HST := Lib.hid hst
        have HRR := Lib.hid hrr
        rw [hrr] at hfold
        clear hst hrr hbb
        go_upto_region 7 with fail
        refine wp_region_held_drew (S := fun w' => Held wr w') (by kernel_rfl) (Held.of (New.refl _).drew) (fun hHeld => ?_)
        refine wpAnyH_take (i := 0) (oi := { dst := some 29, op := Op.load 25 (Operand.tmp 5), type := 25, pos := "law.go:101", after := #[], guard := none }) (v := ?_) rfl (by kernel_rfl) (by kernel_rfl) (by kernel_rfl) (fun _ _ _ h => h) (Or.inl ⟨by rfl, ?_⟩) (by assumption) ?_
        rotate_left
        · (intro wq hSw; (try dsimp only at hSw); go_simp; first | done | with_reducible rfl)
        try simp only [Act.put, List.setIfInBounds_toArray, List.set_cons_zero, List.set_cons_succ]
        refine wpAnyH_take (i := 1) (oi := { dst := some 30, op := Op.move (Operand.tmp 1), type := 33, pos := "law.go:101", after := #[], guard := none }) (v := ?_) rfl (by kernel_rfl) (by kernel_rfl) (by kernel_rfl) (fun _ _ _ h => h) (Or.inl ⟨by rfl, ?_⟩) (by assumption) ?_
        rotate_left
        · (intro wq hSw; (try dsimp only at hSw); go_simp; first | done | with_reducible rfl)
        try simp only [Act.put, List.setIfInBounds_toArray, List.set_cons_zero, List.set_cons_succ]
        refine wpAnyH_take (i := 2) (oi := { dst := some 31, op := Op.move (Operand.tmp 6), type := 3, pos := "law.go:101", after := #[], guard := none }) (v := ?_) rfl (by kernel_rfl) (by kernel_rfl) (by kernel_rfl) (fun _ _ _ h => h) (Or.inl ⟨by rfl, ?_⟩) (by assumption) ?_
        rotate_left
        · (intro wq hSw; (try dsimp only at hSw); go_simp; first | done | with_reducible rfl)
        try simp only [Act.put, List.setIfInBounds_toArray, List.set_cons_zero, List.set_cons_succ]
        refine wpAnyH_take (i := 3) (oi := { dst := some 32, op := Op.move (Operand.tmp 6), type := 3, pos := "law.go:101", after := #[], guard := none }) (v := ?_) rfl (by kernel_rfl) (by kernel_rfl) (by kernel_rfl) (fun _ _ _ h => h) (Or.inl ⟨by rfl, ?_⟩) (by assumption) ?_
        rotate_left
        · (intro wq hSw; (try dsimp only at hSw); go_simp; first | done | with_reducible rfl)
        try simp only [Act.put, List.setIfInBounds_toArray, List.set_cons_zero, List.set_cons_succ]
        refine wpAnyH_take (i := 4) (oi := { dst := some 33, op := Op.binOp BinOp.add 3 (Operand.tmp 32) (Operand.const (Value.int IntKind.i64 1)) 3, type := 3, pos := "law.go:101", after := #[{ on := 3, ground := Ground.data }], guard := none }) (v := ?_) rfl (by kernel_rfl) (by kernel_rfl) (by kernel_rfl) (fun _ _ _ h => h) (Or.inl ⟨by rfl, ?_⟩) (by assumption) ?_
        rotate_left
        · (intro wq hSw; (try dsimp only at hSw); go_simp; first | done | with_reducible rfl)
        try simp only [Act.put, List.setIfInBounds_toArray, List.set_cons_zero, List.set_cons_succ]
        refine wpAnyH_take (i := 5) (oi := { dst := some 34, op := Op.slice 33 (Operand.tmp 30) (some (Operand.tmp 31)) (some (Operand.tmp 33)) none, type := 33, pos := "law.go:101", after := #[{ on := 1, ground := Ground.data }, { on := 2, ground := Ground.data }, { on := 4, ground := Ground.data }], guard := none }) (v := ?_) rfl (by kernel_rfl) (by kernel_rfl) (by kernel_rfl) (fun _ _ _ h => h) (Or.inl ⟨by rfl, ?_⟩) (by assumption) ?_
        rotate_left
        · (intro wq hSw; (try dsimp only at hSw); go_simp; first | done | with_reducible rfl)
        try simp only [Act.put, List.setIfInBounds_toArray, List.set_cons_zero, List.set_cons_succ]
        refine wpAnyH_ready (rs := [6, 7]) (by kernel_rfl) (by simp) ?_
        refine AllReadyH.cons (o := { dst := some 35, op := Op.call { callee := Callee.value (Operand.func 19), args := #[Operand.tmp 29, Operand.tmp 34], argTypes := #[25, 33] }, type := 25, pos := "law.go:101", after := #[{ on := 0, ground := Ground.data }, { on := 5, ground := Ground.data }], guard := none }) rfl (fun K hK => ?_) (AllReadyH.cons (o := { dst := some 7, op := Op.alloc 25, type := 0, pos := "law.go:101", after := #[], guard := none }) rfl (fun K hK => ?_) AllReadyH.nil)
        · go_simp
          refine (hfold _ (HG.out.sl.new ((New.refl wr).drew)) (HSX.out _ ((New.refl wr).drew)) (HE.out.new (HG.out.new.trans ((New.refl wr).drew)))).mono ?_
          rintro e9 wc ⟨uc, rfl, hsc0, hnc⟩
          obtain ⟨D, dn, dc, rfl⟩ := hsc0.shape
          dsimp only at hsc0 ⊢
          have hn0 := ((New.refl wr).drew).trans hnc
          refine hK.out _ _ ?_ (fun hHeld => ?_)
          · exact Held.of hn0
          clear hK K
          try simp only [Act.put, List.setIfInBounds_toArray, List.set_cons_zero, List.set_cons_succ]
          refine wpAnyH_ready (rs := [7]) (by kernel_rfl) (by simp) ?_
          refine AllReadyH.cons (o := { dst := some 7, op := Op.alloc 25, type := 0, pos := "law.go:101", after := #[], guard := none }) rfl (fun K hK => ?_) AllReadyH.nil
          go_simp
          have hn1 := (hn0).alloc (.cells #[.int .u64 0, .slice none 0 0] 25)
          have hx1 : Blk (wc.alloc (.cells #[.int .u64 0, .slice none 0 0] 25)) wc.heap.size 25 #[.int .u64 0, .slice none 0 0] := Blk.mk_new wc 25 #[.int .u64 0, .slice none 0 0]
          have hs1 := hsc0.alloc (.cells #[.int .u64 0, .slice none 0 0] 25)
          refine hK.out _ _ ?_ (fun hHeld => ?_)
          · exact Held.of hn1
          clear hK K
          try simp only [Act.put, List.setIfInBounds_toArray, List.set_cons_zero, List.set_cons_succ]
          refine wpAnyH_ready (rs := [8]) (by kernel_rfl) (by simp) ?_
          refine AllReadyH.cons (o := { dst := none, op := Op.store 25 (Operand.tmp 7) (Operand.tmp 35), type := 0, pos := "law.go:101", after := #[{ on := 7, ground := Ground.data }, { on := 6, ground := Ground.data }, { on := 6, ground := Ground.chain }, { on := 0, ground := Ground.phase }, { on := 1, ground := Ground.phase }, { on := 2, ground := Ground.phase }, { on := 3, ground := Ground.phase }, { on := 4, ground := Ground.phase }, { on := 5, ground := Ground.phase }, { on := 6, ground := Ground.phase }, { on := 7, ground := Ground.phase }], guard := none }) rfl (fun K hK => ?_) AllReadyH.nil
          obtain ⟨x0, x1, x2, xz⟩ := Blk2F hx1
          go_simp
          have hXs := Blk.mk_new wc 25 #[.int .u64 (re : Int), .slice D dn dc]
          have hSs := hsc0.alloc (.cells #[.int .u64 (re : Int), .slice D dn dc] 25)
          have hNs := (hn0).alloc (.cells #[.int .u64 (re : Int), .slice D dn dc] 25)
          refine hK.out _ _ ?_ (fun hHeld => ?_)
          · exact Held.of hNs
          clear hK K
          try simp only [Act.put, List.setIfInBounds_toArray, List.set_cons_zero, List.set_cons_succ]
          refine wpAnyH_done (by kernel_rfl) ?_ _
          clear hHeld
          have hG8 := HG.out.keep hNs
          have hXl := hXs.lt
          generalize wc.heap.size = gx at *
          generalize World.alloc wc (.cells #[.int .u64 (re : Int), .slice D dn dc] 25) = w8 at *
          have HG8 := Lib.hid hG8
          have HXS8 := Lib.hid hXs
          have HSS8 := Lib.hid hSs
          clear hG8 hXs hSs hNs p0 p1 p2 pz q0 q1 q2 qz hfold e0 hw1 hkc hkn hkk hkd hne
          obtain ⟨x0, x1, x2, xz⟩ := Blk2F HXS8.out
          obtain ⟨q0, q1, q2, qz⟩ := Blk2F HG8.out.now
          dsimp only at q1
          have hne5 : w.heap.size ≠ g5 := by omega
          rcases HST.out.2 with hsame | hup
          · injection hsame with h1 h2
            subst h1
            subst h2
            go_wp2_with fail
            refine (refSame_any re _ rms re _ rms w8 (by omega) (by omega) HSS8.out HG8.out.sl).mono ?_
            rintro e9 w9 ⟨rfl, hn9⟩
            rw [show sameC ⟨re, rms⟩ ⟨re, rms⟩ = true by simp [sameC]]
            have HG9 := Lib.hid (HG8.out.keep hn9)
            have HX9 := Lib.hid (HXS8.out.new hn9)
            have HS9 := Lib.hid (HSS8.out.new hn9)
            clear HG8 HXS8 HSS8 hn9 x0 x1 x2 xz q0 q1 q2 qz
            obtain ⟨x0, x1, x2, xz⟩ := Blk2F HX9.out
            obtain ⟨q0, q1, q2, qz⟩ := Blk2F HG9.out.now
            dsimp only at q1
            go_wp2_with fail
            have hc9 := fun hx => check_any (re) (.slice D dn dc) rms w9 (by have := (chk_parts HST.out.1).2.2.2.1; dsimp only at this; omega) hx
            rw [HST.out.1] at hc9
            refine (hc9 HS9.out).mono ?_
            rintro e9 wd ⟨rfl, hnd⟩
            have HG10 := Lib.hid (HG9.out.keep hnd)
            have HX10 := Lib.hid (HX9.out.new hnd)
            have HS10 := Lib.hid (HS9.out.new hnd)
            clear HG9 HX9 HS9 hnd hc9 x0 x1 x2 xz q0 q1 q2 qz
            obtain ⟨x0, x1, x2, xz⟩ := Blk2F HX10.out
            obtain ⟨q0, q1, q2, qz⟩ := Blk2F HG10.out.now
            dsimp only at q1
            have HN9 : Hid (RmRel w ((wd.setCell ⟨g5, 0, none⟩ (.int .u64 ((re : Nat) : Int))).setCell ⟨g5, 1, none⟩ (.slice D dn dc)) g5 e A cap ms (foldC ⟨e, ms⟩ ((ls.take (k + 1)).map fun b => b.data.toList)) (.slice D dn dc)) := Lib.hid (by rw [HFS.out, HRR.out]; exact ⟨(HG10.out.box.far (p := ⟨g5, 0, none⟩) hne5 _).far (p := ⟨g5, 1, none⟩) hne5 _, (HG10.out.now.set_ 0 _).set_ 1 _, slIn_cfgSet HS10.out HG10.out.now (by simp), (HG10.out.new.setCell (p := ⟨g5, 0, none⟩) (by show w.heap.size ≤ g5; omega) _).setCell (p := ⟨g5, 1, none⟩) (by show w.heap.size ≤ g5; omega) _⟩)
            go_wp2_with fail
            go_roundw
            case rel => exact ⟨k + 1, _, _, _, by omega, by go_num, HN9.out⟩
            case measure => simp [intOf]; omega
          · dsimp only at hup
            subst hup
            have hwx : IntKind.u64.wrap ((ce : Int) + 1) = (ce : Int) + 1 := by rw [IntKind.wrap_u64]; omega
            have hq1 : (((ce : Int) + 1) != (ce : Int)) = true := by rw [bne_iff_ne]; omega
            have hq2 : (((ce : Int) + 1) == (ce : Int)) = false := by rw [beq_eq_false_iff_ne]; omega
            go_wp2_with fail
            have hn9 := New.refl w8
            have HG9 := Lib.hid (HG8.out.keep hn9)
            have HX9 := Lib.hid (HXS8.out.new hn9)
            have HS9 := Lib.hid (HSS8.out.new hn9)
            clear HG8 HXS8 HSS8 hn9 x0 x1 x2 xz q0 q1 q2 qz
            obtain ⟨x0, x1, x2, xz⟩ := Blk2F HX9.out
            obtain ⟨q0, q1, q2, qz⟩ := Blk2F HG9.out.now
            dsimp only at q1
            have hc9 := fun hx => check_any (ce + 1) (.slice D dn dc) rms w8 (by have := (chk_parts HST.out.1).2.2.2.1; dsimp only at this; omega) hx
            rw [HST.out.1] at hc9
            refine (hc9 HS9.out).mono ?_
            rintro e9 wd ⟨rfl, hnd⟩
            have HG10 := Lib.hid (HG9.out.keep hnd)
            have HX10 := Lib.hid (HX9.out.new hnd)
            have HS10 := Lib.hid (HS9.out.new hnd)
            clear HG9 HX9 HS9 hnd hc9 x0 x1 x2 xz q0 q1 q2 qz
            obtain ⟨x0, x1, x2, xz⟩ := Blk2F HX10.out
            obtain ⟨q0, q1, q2, qz⟩ := Blk2F HG10.out.now
            dsimp only at q1
            have HN9 : Hid (RmRel w ((wd.setCell ⟨g5, 0, none⟩ (.int .u64 ((ce + 1 : Nat) : Int))).setCell ⟨g5, 1, none⟩ (.slice D dn dc)) g5 e A cap ms (foldC ⟨e, ms⟩ ((ls.take (k + 1)).map fun b => b.data.toList)) (.slice D dn dc)) := Lib.hid (by rw [HFS.out, HRR.out]; exact ⟨(HG10.out.box.far (p := ⟨g5, 0, none⟩) hne5 _).far (p := ⟨g5, 1, none⟩) hne5 _, (HG10.out.now.set_ 0 _).set_ 1 _, slIn_cfgSet HS10.out HG10.out.now (by simp), (HG10.out.new.setCell (p := ⟨g5, 0, none⟩) (by show w.heap.size ≤ g5; omega) _).setCell (p := ⟨g5, 1, none⟩) (by show w.heap.size ≤ g5; omega) _⟩)
            go_wp2_with fail
            go_roundw
            case rel => exact ⟨k + 1, _, _, _, by omega, by go_num, HN9.out⟩
            case measure => simp [intOf]; omega
        · go_simp
          have hn0 := ((New.refl wr).drew).alloc (.cells #[.int .u64 0, .slice none 0 0] 25)
          have hx0 : Blk (wr.drew.alloc (.cells #[.int .u64 0, .slice none 0 0] 25)) wr.heap.size 25 #[.int .u64 0, .slice none 0 0] := Blk.mk_new wr.drew 25 #[.int .u64 0, .slice none 0 0]
          refine hK.out _ _ ?_ (fun hHeld => ?_)
          · exact Held.of hn0
          clear hK K
          try simp only [Act.put, List.setIfInBounds_toArray, List.set_cons_zero, List.set_cons_succ]
          refine wpAnyH_ready (rs := [6]) (by kernel_rfl) (by simp) ?_
          refine AllReadyH.cons (o := { dst := some 35, op := Op.call { callee := Callee.value (Operand.func 19), args := #[Operand.tmp 29, Operand.tmp 34], argTypes := #[25, 33] }, type := 25, pos := "law.go:101", after := #[{ on := 0, ground := Ground.data }, { on := 5, ground := Ground.data }], guard := none }) rfl (fun K hK => ?_) AllReadyH.nil
          go_simp
          refine (hfold _ (HG.out.sl.new (hn0)) (HSX.out _ (hn0)) (HE.out.new (HG.out.new.trans (hn0)))).mono ?_
          rintro e9 wc ⟨uc, rfl, hsc0, hnc⟩
          obtain ⟨D, dn, dc, rfl⟩ := hsc0.shape
          dsimp only at hsc0 ⊢
          have hn1 := (hn0).trans hnc
          have hx1 := hx0.new hnc
          refine hK.out _ _ ?_ (fun hHeld => ?_)
          · exact Held.of hn1
          clear hK K
          try simp only [Act.put, List.setIfInBounds_toArray, List.set_cons_zero, List.set_cons_succ]
          refine wpAnyH_ready (rs := [8]) (by kernel_rfl) (by simp) ?_
          refine AllReadyH.cons (o := { dst := none, op := Op.store 25 (Operand.tmp 7) (Operand.tmp 35), type := 0, pos := "law.go:101", after := #[{ on := 7, ground := Ground.data }, { on := 6, ground := Ground.data }, { on := 6, ground := Ground.chain }, { on := 0, ground := Ground.phase }, { on := 1, ground := Ground.phase }, { on := 2, ground := Ground.phase }, { on := 3, ground := Ground.phase }, { on := 4, ground := Ground.phase }, { on := 5, ground := Ground.phase }, { on := 6, ground := Ground.phase }, { on := 7, ground := Ground.phase }], guard := none }) rfl (fun K hK => ?_) AllReadyH.nil
          obtain ⟨x0, x1, x2, xz⟩ := Blk2F hx1
          go_simp
          have hXs := (hx1.set_ 0 (.int .u64 (re : Int))).set_ 1 (.slice D dn dc)
          have hSs : SlIn ((wc.setCell ⟨wr.heap.size, 0, none⟩ (.int .u64 (re : Int))).setCell ⟨wr.heap.size, 1, none⟩ (.slice D dn dc)) 1 iEnc (.slice D dn dc) rms := slIn_cfgSet hsc0 hx1 (by simp)
          have hgx : wr.heap.size ≤ wr.heap.size := ((New.refl wr).drew).size
          have hNs : New wr ((wc.setCell ⟨wr.heap.size, 0, none⟩ (.int .u64 (re : Int))).setCell ⟨wr.heap.size, 1, none⟩ (.slice D dn dc)) := ((hn1).setCell (p := ⟨wr.heap.size, 0, none⟩) hgx (.int .u64 (re : Int))).setCell (p := ⟨wr.heap.size, 1, none⟩) hgx (.slice D dn dc)
          refine hK.out _ _ ?_ (fun hHeld => ?_)
          · exact Held.of hNs
          clear hK K
          try simp only [Act.put, List.setIfInBounds_toArray, List.set_cons_zero, List.set_cons_succ]
          refine wpAnyH_done (by kernel_rfl) ?_ _
          clear hHeld
          have hG8 := HG.out.keep hNs
          have hXl := hXs.lt
          generalize wr.heap.size = gx at *
          generalize World.setCell _ ⟨gx, 1, none⟩ _ = w8 at *
          have HG8 := Lib.hid hG8
          have HXS8 := Lib.hid hXs
          have HSS8 := Lib.hid hSs
          clear hG8 hXs hSs hNs p0 p1 p2 pz q0 q1 q2 qz hfold e0 hw1 hkc hkn hkk hkd hne
          obtain ⟨x0, x1, x2, xz⟩ := Blk2F HXS8.out
          obtain ⟨q0, q1, q2, qz⟩ := Blk2F HG8.out.now
          dsimp only at q1
          have hne5 : w.heap.size ≠ g5 := by omega
          rcases HST.out.2 with hsame | hup
          · injection hsame with h1 h2
            subst h1
            subst h2
            go_wp2_with fail
            refine (refSame_any re _ rms re _ rms w8 (by omega) (by omega) HSS8.out HG8.out.sl).mono ?_
            rintro e9 w9 ⟨rfl, hn9⟩
            rw [show sameC ⟨re, rms⟩ ⟨re, rms⟩ = true by simp [sameC]]
            have HG9 := Lib.hid (HG8.out.keep hn9)
            have HX9 := Lib.hid (HXS8.out.new hn9)
            have HS9 := Lib.hid (HSS8.out.new hn9)
            clear HG8 HXS8 HSS8 hn9 x0 x1 x2 xz q0 q1 q2 qz
            obtain ⟨x0, x1, x2, xz⟩ := Blk2F HX9.out
            obtain ⟨q0, q1, q2, qz⟩ := Blk2F HG9.out.now
            dsimp only at q1
            go_wp2_with fail
            have hc9 := fun hx => check_any (re) (.slice D dn dc) rms w9 (by have := (chk_parts HST.out.1).2.2.2.1; dsimp only at this; omega) hx
            rw [HST.out.1] at hc9
            refine (hc9 HS9.out).mono ?_
            rintro e9 wd ⟨rfl, hnd⟩
            have HG10 := Lib.hid (HG9.out.keep hnd)
            have HX10 := Lib.hid (HX9.out.new hnd)
            have HS10 := Lib.hid (HS9.out.new hnd)
            clear HG9 HX9 HS9 hnd hc9 x0 x1 x2 xz q0 q1 q2 qz
            obtain ⟨x0, x1, x2, xz⟩ := Blk2F HX10.out
            obtain ⟨q0, q1, q2, qz⟩ := Blk2F HG10.out.now
            dsimp only at q1
            have HN9 : Hid (RmRel w ((wd.setCell ⟨g5, 0, none⟩ (.int .u64 ((re : Nat) : Int))).setCell ⟨g5, 1, none⟩ (.slice D dn dc)) g5 e A cap ms (foldC ⟨e, ms⟩ ((ls.take (k + 1)).map fun b => b.data.toList)) (.slice D dn dc)) := Lib.hid (by rw [HFS.out, HRR.out]; exact ⟨(HG10.out.box.far (p := ⟨g5, 0, none⟩) hne5 _).far (p := ⟨g5, 1, none⟩) hne5 _, (HG10.out.now.set_ 0 _).set_ 1 _, slIn_cfgSet HS10.out HG10.out.now (by simp), (HG10.out.new.setCell (p := ⟨g5, 0, none⟩) (by show w.heap.size ≤ g5; omega) _).setCell (p := ⟨g5, 1, none⟩) (by show w.heap.size ≤ g5; omega) _⟩)
            go_wp2_with fail
            go_roundw
            case rel => exact ⟨k + 1, _, _, _, by omega, by go_num, HN9.out⟩
            case measure => simp [intOf]; omega
          · dsimp only at hup
            subst hup
            have hwx : IntKind.u64.wrap ((ce : Int) + 1) = (ce : Int) + 1 := by rw [IntKind.wrap_u64]; omega
            have hq1 : (((ce : Int) + 1) != (ce : Int)) = true := by rw [bne_iff_ne]; omega
            have hq2 : (((ce : Int) + 1) == (ce : Int)) = false := by rw [beq_eq_false_iff_ne]; omega
            go_wp2_with fail
            have hn9 := New.refl w8
            have HG9 := Lib.hid (HG8.out.keep hn9)
            have HX9 := Lib.hid (HXS8.out.new hn9)
            have HS9 := Lib.hid (HSS8.out.new hn9)
            clear HG8 HXS8 HSS8 hn9 x0 x1 x2 xz q0 q1 q2 qz
            obtain ⟨x0, x1, x2, xz⟩ := Blk2F HX9.out
            obtain ⟨q0, q1, q2, qz⟩ := Blk2F HG9.out.now
            dsimp only at q1
            have hc9 := fun hx => check_any (ce + 1) (.slice D dn dc) rms w8 (by have := (chk_parts HST.out.1).2.2.2.1; dsimp only at this; omega) hx
            rw [HST.out.1] at hc9
            refine (hc9 HS9.out).mono ?_
            rintro e9 wd ⟨rfl, hnd⟩
            have HG10 := Lib.hid (HG9.out.keep hnd)
            have HX10 := Lib.hid (HX9.out.new hnd)
            have HS10 := Lib.hid (HS9.out.new hnd)
            clear HG9 HX9 HS9 hnd hc9 x0 x1 x2 xz q0 q1 q2 qz
            obtain ⟨x0, x1, x2, xz⟩ := Blk2F HX10.out
            obtain ⟨q0, q1, q2, qz⟩ := Blk2F HG10.out.now
            dsimp only at q1
            have HN9 : Hid (RmRel w ((wd.setCell ⟨g5, 0, none⟩ (.int .u64 ((ce + 1 : Nat) : Int))).setCell ⟨g5, 1, none⟩ (.slice D dn dc)) g5 e A cap ms (foldC ⟨e, ms⟩ ((ls.take (k + 1)).map fun b => b.data.toList)) (.slice D dn dc)) := Lib.hid (by rw [HFS.out, HRR.out]; exact ⟨(HG10.out.box.far (p := ⟨g5, 0, none⟩) hne5 _).far (p := ⟨g5, 1, none⟩) hne5 _, (HG10.out.now.set_ 0 _).set_ 1 _, slIn_cfgSet HS10.out HG10.out.now (by simp), (HG10.out.new.setCell (p := ⟨g5, 0, none⟩) (by show w.heap.size ≤ g5; omega) _).setCell (p := ⟨g5, 1, none⟩) (by show w.heap.size ≤ g5; omega) _⟩)
            go_wp2_with fail
            go_roundw
            case rel => exact ⟨k + 1, _, _, _, by omega, by go_num, HN9.out⟩
            case measure => simp [intOf]; omega
      · have hlt2 : ¬ (k : Int) < (ls.length : Int) := by omega
        rw [List.take_of_length_le (by omega)] at hG hcf
        have hfin := fun wx h1 h2 h3 => fold_any e (.slice A ms.length cap) ms (.slice B ls.length cap2) ls wx hep (by omega) h1 h2 (by omega) HCM.out h3
        obtain ⟨⟨fe, fms⟩, hff⟩ : ∃ c, foldC ⟨e, ms⟩ (ls.map fun b => b.data.toList) = c := ⟨_, rfl⟩
        rw [hff] at hG hcf hfin
        have HFL : Hid (fms.length ≤ 7) := Lib.hid (chk_parts hcf).2.2.2.1
        have HG := Lib.hid hG
        clear hcf hff hG
        obtain ⟨p0, p1, p2, pz⟩ := Blk2F HG.out.box
        obtain ⟨q0, q1, q2, qz⟩ := Blk2F HG.out.now
        dsimp only at q1
        go_upto_region 11 with fail
        refine wp_region_held_drew (S := fun w' => Held wr w') (by kernel_rfl) (Held.of (New.refl _).drew) (fun hHeld => ?_)
        refine wpAnyH_ready (rs := [0]) (by kernel_rfl) (by simp) ?_
        refine AllReadyH.cons (o := { dst := some 68, op := Op.call { callee := Callee.value (Operand.func 11), args := #[], argTypes := #[] }, type := 4, pos := "law.go:107", after := #[], guard := none }) rfl (fun K hK => ?_) AllReadyH.nil
        go_simp
        refine (awake23 _ (HE.out.new (HG.out.new.trans (New.refl wr).drew))).mono ?_
        rintro e9 wk0 ⟨rfl, hk0⟩
        have hn0 := ((New.refl wr).drew).trans hk0
        refine hK.out _ _ ?_ (fun hHeld => ?_)
        · exact Held.of hn0
        clear hK K
        try simp only [Act.put, List.setIfInBounds_toArray, List.set_cons_zero, List.set_cons_succ]
        refine wpAnyH_take (i := 1) (oi := { dst := some 69, op := Op.move (Operand.tmp 68), type := 4, pos := "law.go:107", after := #[{ on := 0, ground := Ground.data }, { on := 0, ground := Ground.chain }], guard := none }) (v := ?_) rfl (by kernel_rfl) (by kernel_rfl) (by kernel_rfl) (fun _ _ _ h => h) (Or.inl ⟨by rfl, ?_⟩) (by assumption) ?_
        rotate_left
        · (intro wq hSw; (try dsimp only at hSw); go_simp; first | done | with_reducible rfl)
        try simp only [Act.put, List.setIfInBounds_toArray, List.set_cons_zero, List.set_cons_succ]
        refine wpAnyH_take (i := 2) (oi := { dst := some 70, op := Op.load 25 (Operand.tmp 5), type := 25, pos := "law.go:107", after := #[{ on := 1, ground := Ground.guard }], guard := some (1, true) }) (v := ?_) rfl (by kernel_rfl) (by kernel_rfl) (by kernel_rfl) (fun _ _ _ h => h) (Or.inl ⟨by rfl, ?_⟩) (by assumption) ?_
        rotate_left
        · (intro wq hSw; (try dsimp only at hSw); go_simp; first | done | with_reducible rfl)
        try simp only [Act.put, List.setIfInBounds_toArray, List.set_cons_zero, List.set_cons_succ]
        refine wpAnyH_take (i := 3) (oi := { dst := some 71, op := Op.load 25 (Operand.tmp 2), type := 25, pos := "law.go:107", after := #[{ on := 1, ground := Ground.guard }], guard := some (1, true) }) (v := ?_) rfl (by kernel_rfl) (by kernel_rfl) (by kernel_rfl) (fun _ _ _ h => h) (Or.inl ⟨by rfl, ?_⟩) (by assumption) ?_
        rotate_left
        · (intro wq hSw; (try dsimp only at hSw); go_simp; first | done | with_reducible rfl)
        try simp only [Act.put, List.setIfInBounds_toArray, List.set_cons_zero, List.set_cons_succ]
        refine wpAnyH_take (i := 4) (oi := { dst := some 72, op := Op.move (Operand.tmp 1), type := 33, pos := "law.go:107", after := #[{ on := 1, ground := Ground.guard }], guard := some (1, true) }) (v := ?_) rfl (by kernel_rfl) (by kernel_rfl) (by kernel_rfl) (fun _ _ _ h => h) (Or.inl ⟨by rfl, ?_⟩) (by assumption) ?_
        rotate_left
        · (intro wq hSw; (try dsimp only at hSw); go_simp; first | done | with_reducible rfl)
        try simp only [Act.put, List.setIfInBounds_toArray, List.set_cons_zero, List.set_cons_succ]
        refine wpAnyH_ready (rs := [5]) (by kernel_rfl) (by simp) ?_
        refine AllReadyH.cons (o := { dst := some 73, op := Op.call { callee := Callee.value (Operand.func 19), args := #[Operand.tmp 71, Operand.tmp 72], argTypes := #[25, 33] }, type := 25, pos := "law.go:107", after := #[{ on := 3, ground := Ground.data }, { on := 4, ground := Ground.data }, { on := 1, ground := Ground.chain }, { on := 1, ground := Ground.guard }], guard := some (1, true) }) rfl (fun K hK => ?_) AllReadyH.nil
        go_simp
        refine (hfin _ (HS0.out.new (HG.out.new.trans hn0)) (HSN.out.new (HG.out.new.trans hn0)) (HE.out.new (HG.out.new.trans hn0))).mono ?_
        rintro e9 wk1 ⟨ub, rfl, hsb, hk1⟩
        obtain ⟨Ab, nb, cb, rfl⟩ := hsb.shape
        dsimp only at hsb ⊢
        have hn1 := (hn0).trans hk1
        refine hK.out _ _ ?_ (fun hHeld => ?_)
        · exact Held.of hn1
        clear hK K
        try simp only [Act.put, List.setIfInBounds_toArray, List.set_cons_zero, List.set_cons_succ]
        refine wpAnyH_ready (rs := [6]) (by kernel_rfl) (by simp) ?_
        refine AllReadyH.cons (o := { dst := some 74, op := Op.call { callee := Callee.value (Operand.func 16), args := #[Operand.tmp 70, Operand.tmp 73], argTypes := #[25, 25] }, type := 4, pos := "law.go:107", after := #[{ on := 2, ground := Ground.data }, { on := 5, ground := Ground.data }, { on := 5, ground := Ground.chain }, { on := 1, ground := Ground.guard }], guard := some (1, true) }) rfl (fun K hK => ?_) AllReadyH.nil
        go_simp
        refine (refSame_any fe _ fms fe _ fms _ (by have := HFL.out; omega) (by have := HFL.out; omega) (HG.out.sl.new hn1) hsb).mono ?_
        rintro e9 wk2 ⟨rfl, hk2⟩
        rw [show sameC ⟨fe, fms⟩ ⟨fe, fms⟩ = true by simp [sameC]]
        have hn2 := (hn1).trans hk2
        refine hK.out _ _ ?_ (fun hHeld => ?_)
        · exact Held.of hn2
        clear hK K
        try simp only [Act.put, List.setIfInBounds_toArray, List.set_cons_zero, List.set_cons_succ]
        refine wpAnyH_take (i := 7) (oi := { dst := some 75, op := Op.pick (Operand.tmp 69) (Operand.tmp 74) (Operand.const (Value.bool false)), type := 4, pos := "law.go:107", after := #[{ on := 1, ground := Ground.data }, { on := 6, ground := Ground.data }], guard := none }) (v := .bool true) rfl (by kernel_rfl) (by kernel_rfl) (by kernel_rfl) (fun _ _ _ h => h) (Or.inl ⟨by rfl, ?_⟩) (by assumption) ?_
        · (intro wq hSw; (try dsimp only at hSw); go_simp; first | done | with_reducible rfl | (simp; done) | (simp [str]))
        try simp only [Act.put, List.setIfInBounds_toArray, List.set_cons_zero, List.set_cons_succ]
        refine wpAnyH_take (i := 8) (oi := { dst := some 4, op := Op.assign (Operand.tmp 75), type := 4, pos := "law.go:107", after := #[{ on := 7, ground := Ground.data }, { on := 6, ground := Ground.chain }, { on := 0, ground := Ground.phase }, { on := 1, ground := Ground.phase }, { on := 2, ground := Ground.phase }, { on := 3, ground := Ground.phase }, { on := 4, ground := Ground.phase }, { on := 5, ground := Ground.phase }, { on := 6, ground := Ground.phase }, { on := 7, ground := Ground.phase }], guard := none }) (v := ?_) rfl (by kernel_rfl) (by kernel_rfl) (by kernel_rfl) (fun _ _ _ h => h) (Or.inl ⟨by rfl, ?_⟩) (by assumption) ?_
        rotate_left
        · (intro wq hSw; (try dsimp only at hSw); go_simp; first | done | with_reducible rfl)
        try simp only [Act.put, List.setIfInBounds_toArray, List.set_cons_zero, List.set_cons_succ]
        refine wpAnyH_done (by kernel_rfl) ?_ _
        clear hHeld
        go_wp2_with fail
        go_ret
        exact ⟨rfl, HG.out.new.trans hn2⟩
end Go.Proofs.YtinpbjknakncdaaDoor
