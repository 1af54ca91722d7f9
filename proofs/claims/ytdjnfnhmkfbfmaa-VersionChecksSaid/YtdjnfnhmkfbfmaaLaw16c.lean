/- The walk of the law VersionChecks (chapter 16): for every input it answers true. -/
import Derived.Test.YtdjnfnhmkfbfmaaLaw16
import Derived.Test.YtdjnfnhmkfbfmaaVer5
namespace Go.Proofs.Ytdjnfnhmkfbfmaa
open Go.RowKit Go.Lap
set_option linter.unusedVariables false

theorem check_is (l : List Ver) (v : Value) (b : Bool) (w : World) (hl : l.length ≤ 1000000000) (hs : SlIn w 3 Ver.enc v l) (h : riseB l = b) :
    Calls Try.prog 25 #[v] w fun e w' => e = .returned (.bool b) ∧ New w w' := (check_any l v w hl hs).mono fun e w' ⟨he, hn⟩ => ⟨by rw [he, h], hn⟩
theorem last_is (l : List Ver) (v : Value) (n : Int) (w : World) (hl : l.length ≤ 1000000000) (hs : SlIn w 3 Ver.enc v l) (h : lastN l = n) :
    Calls Try.prog 27 #[v] w fun e w' => e = .returned (.int .u64 n) ∧ New w w' := (last_any l v w hl hs).mono fun e w' ⟨he, hn⟩ => ⟨by rw [he, h], by rw [← hn]; exact New.refl _⟩
theorem lastN_snoc (l : List Ver) (x : Ver) : lastN (l ++ [x]) = x.at_ := by simp [lastN]
theorem lastN_get {l : List Ver} {y : Ver} (h : l[l.length - 1]? = some y) : lastN l = y.at_ := by simp [lastN, h]
theorem rise_snoc {l : List Ver} {x : Ver} (hr : Rise l) (h : l.length = 0 ∨ lastN l < x.at_) : Rise (l ++ [x]) := by
  intro i a b ha hb
  have hi := (List.getElem?_eq_some_iff.1 hb).1
  simp at hi
  rw [List.getElem?_append_left (by omega)] at ha
  by_cases h2 : i + 1 < l.length
  · rw [List.getElem?_append_left h2] at hb
    exact hr i a b ha hb
  · have hil : i + 1 = l.length := by omega
    rw [List.getElem?_append_right (by omega), show i + 1 - l.length = 0 from by omega] at hb
    simp at hb
    subst hb
    have : lastN l = a.at_ := lastN_get (by rw [← ha]; congr 1; omega)
    rcases h with h | h <;> omega

set_option maxRecDepth 100000 in
set_option maxHeartbeats 4000000 in
theorem versionChecks_walk (l : List Ver) (v : Value) (x : Ver) (w : World) (hl : l.length ≤ maxLen) (hs : SlIn w 3 Ver.enc v l) :
    Calls Try.prog 9 #[v, .agg #[.int .u64 x.at_, .string x.val, .bool x.gone]] w fun e w' => e = .returned (.bool true) ∧ New w w' := by
  unfold maxLen at hl
  by_cases hbig : 200 < l.length
  · go_enter Try.func9, Try.ntmps9
    go_wp2_with fail
    refine (few_no l _ _ hbig (by omega) (hs.alloc _)).mono ?_
    rintro e w1 ⟨rfl, rfl⟩
    go_wp2_with fail
    refine (awake16 _).mono ?_
    rintro e w2 ⟨rfl, hn⟩
    go_wp2_with fail
    go_ret
    exact ⟨rfl, ((New.refl w).alloc _).trans hn⟩
  by_cases hr : riseB l = false
  · have HR := Lib.hid hr
    clear hr
    go_enter Try.func9, Try.ntmps9
    go_wp2_with fail
    refine (few_yes l _ _ (by omega) (hs.alloc _)).mono ?_
    rintro e w1 ⟨rfl, rfl⟩
    go_wp2_with fail
    refine (refCheck_no l _ _ (by omega) (hs.alloc _) HR.out).mono ?_
    rintro e w2 ⟨rfl, hn2⟩
    go_wp2_with fail
    have hN2 := ((New.refl w).alloc (Obj.cells #[Value.int IntKind.u64 x.at_, Value.string x.val, Value.bool x.gone] 43)).trans hn2
    refine (check_is l _ false _ (by omega) (hs.new hN2) HR.out).mono ?_
    rintro e w3 ⟨rfl, hn3⟩
    go_wp2_with fail
    refine (awake16 _).mono ?_
    rintro e w4 ⟨rfl, hn4⟩
    go_wp2_with fail
    refine (check_is l _ false _ (by omega) (hs.new ((hN2.trans hn3).trans hn4)) HR.out).mono ?_
    rintro e w5 ⟨rfl, hn5⟩
    go_wp2_with fail
    go_ret
    exact ⟨rfl, ((hN2.trans hn3).trans hn4).trans hn5⟩
  have hrt : riseB l = true := by simpa using hr
  have hrise := (riseB_iff l).1 hrt
  clear hr
  have HRT := Lib.hid hrt
  have HR := Lib.hid hrise
  clear hrt hrise
  have hs' := hs
  obtain ⟨A, c, rfl, hlc, h⟩ := hs'
  by_cases hA : 0 < l.length ∧ x.at_ ≤ lastN l
  · obtain ⟨h0, hlast⟩ := hA
    rcases h with rfl | ⟨b, off, rfl, hb, hc⟩
    · simp at h0
    obtain ⟨y, hy⟩ : ∃ y, l[l.length - 1]? = some y := ⟨_, List.getElem?_eq_getElem (by omega)⟩
    have ey : w.cell? ⟨b, off + (l.length - 1) * 3, none⟩ = some (.int .u64 y.at_) := hc _ y hy 0 _ rfl
    have hly := lastN_get hy
    have hle : x.at_ ≤ y.at_ := by omega
    have h0' : (0 : Int) < (l.length : Int) := by omega
    have h1' : (1 : Int) ≤ (l.length : Int) := by omega
    have h2' : (0 : Int) ≤ (l.length : Int) - 1 := by omega
    have HL := Lib.hid hlast
    clear hc hy hly hlast
    go_enter Try.func9, Try.ntmps9
    go_wp2_with fail
    refine (few_yes l _ _ (by omega) (hs.alloc _)).mono ?_
    rintro e w1 ⟨rfl, rfl⟩
    go_wp2_with fail
    refine (refCheck_yes l _ _ (by omega) (hs.alloc _) HRT.out).mono ?_
    rintro e w2 ⟨rfl, hn2⟩
    have hN2 := ((New.refl w).alloc (Obj.cells #[Value.int IntKind.u64 x.at_, Value.string x.val, Value.bool x.gone] 43)).trans hn2
    have hbx := Blk.new (Blk.mk_new w 43 #[Value.int IntKind.u64 x.at_, Value.string x.val, Value.bool x.gone]) hn2
    clear hn2
    go_wp2_with fail
    refine (check_is l _ true _ (by omega) (hs.new hN2) HRT.out).mono ?_
    rintro e w3 ⟨rfl, hn3⟩
    have hbx3 := hbx.new hn3
    have hN3 := hN2.trans hn3
    clear hbx hn3 hN2
    have e0 : w3.cell? ⟨w.heap.size, 0, none⟩ = some (.int .u64 x.at_) := hbx3.cell 0
    have e1 : w3.cell? ⟨w.heap.size, 1, none⟩ = some (.string x.val) := hbx3.cell 1
    have e2 : w3.cell? ⟨w.heap.size, 2, none⟩ = some (.bool x.gone) := hbx3.cell 2
    go_wp2_with fail
    refine (add_no l _ x _ (by omega) (hs.new hN3) h0 HL.out).mono ?_
    rintro e w4 ⟨rfl, hn4⟩
    have hN4 := hN3.trans hn4
    have ey4 : w4.cell? ⟨b, off + (l.length - 1) * 3, none⟩ = some (.int .u64 y.at_) := (hN4.cells.1 _ _ hb).trans ey
    have hbx4 := hbx3.new hn4
    have f0 : w4.cell? ⟨w.heap.size, 0, none⟩ = some (.int .u64 x.at_) := hbx4.cell 0
    clear hbx3 hn4 hN3 ey e0 e1 e2
    go_wp2_with fail
    go_quiet (fail)
    go_wp2_with fail
    refine (awake16 _).mono ?_
    rintro e w5 ⟨rfl, hn5⟩
    go_wp2_with fail
    go_ret
    exact ⟨rfl, (hN4.drewN _).trans hn5⟩
  · have hadd : l.length = 0 ∨ lastN l < x.at_ := by
      rcases Nat.eq_zero_or_pos l.length with h0 | h0
      · exact .inl h0
      · right; rcases Int.lt_or_le (lastN l) x.at_ with h1 | h1
        · exact h1
        · exact absurd ⟨h0, h1⟩ hA
    have hrs : riseB (l ++ [x]) = true := (riseB_iff _).2 (rise_snoc HR.out hadd)
    have hls := lastN_snoc l x
    have HRS := Lib.hid hrs
    have HLS := Lib.hid hls
    have HAD := Lib.hid hadd
    clear hrs hls hA
    go_enter Try.func9, Try.ntmps9
    go_wp2_with fail
    refine (few_yes l _ _ (by omega) (hs.alloc _)).mono ?_
    rintro e w1 ⟨rfl, rfl⟩
    go_wp2_with fail
    refine (refCheck_yes l _ _ (by omega) (hs.alloc _) HRT.out).mono ?_
    rintro e w2 ⟨rfl, hn2⟩
    have hN2 := ((New.refl w).alloc (Obj.cells #[Value.int IntKind.u64 x.at_, Value.string x.val, Value.bool x.gone] 43)).trans hn2
    have hbx := Blk.new (Blk.mk_new w 43 #[Value.int IntKind.u64 x.at_, Value.string x.val, Value.bool x.gone]) hn2
    clear hn2
    go_wp2_with fail
    refine (check_is l _ true _ (by omega) (hs.new hN2) HRT.out).mono ?_
    rintro e w3 ⟨rfl, hn3⟩
    have hbx3 := hbx.new hn3
    have hN3 := hN2.trans hn3
    clear hbx hn3 hN2
    have e0 : w3.cell? ⟨w.heap.size, 0, none⟩ = some (.int .u64 x.at_) := hbx3.cell 0
    have e1 : w3.cell? ⟨w.heap.size, 1, none⟩ = some (.string x.val) := hbx3.cell 1
    have e2 : w3.cell? ⟨w.heap.size, 2, none⟩ = some (.bool x.gone) := hbx3.cell 2
    go_wp2_with fail
    refine (add_yes l _ x _ (by omega) (hs.new hN3) HAD.out).mono ?_
    rintro e w4 ⟨u, rfl, ho4, hn4⟩
    have hN4 := hN3.trans hn4
    have hu4 := Owns.slIn Ver.encOk ho4
    have hbx4 := hbx3.new hn4
    clear hbx3 hn4 hN3 e0 e1 e2 ho4
    have f0 : w4.cell? ⟨w.heap.size, 0, none⟩ = some (.int .u64 x.at_) := hbx4.cell 0
    have f1 : w4.cell? ⟨w.heap.size, 1, none⟩ = some (.string x.val) := hbx4.cell 1
    have f2 : w4.cell? ⟨w.heap.size, 2, none⟩ = some (.bool x.gone) := hbx4.cell 2
    have fl := hbx4.lt
    by_cases h0 : l.length = 0
    · have h0' : ¬ (0 : Int) < (l.length : Int) := by omega
      have h0d : decide (0 < l.length) = false := by simp; exact List.eq_nil_of_length_eq_zero h0
      clear h0 h
      go_wp2_with fail
      go_quiet (fail)
      go_wp2_with fail
      generalize hW : w4.drewN nq = W
      have hnW : New w4 W := by rw [← hW]; exact (New.refl _).drewN _
      have hbW := hbx4.new hnW
      have g0 : W.cell? ⟨w.heap.size, 0, none⟩ = some (.int .u64 x.at_) := hbW.cell 0
      have g1 : W.cell? ⟨w.heap.size, 1, none⟩ = some (.string x.val) := hbW.cell 1
      have g2 : W.cell? ⟨w.heap.size, 2, none⟩ = some (.bool x.gone) := hbW.cell 2
      have hlt := hbW.lt
      have hsW := hs.new (hN4.trans hnW)
      have huW := hu4.new hnW
      have hNW := hN4.trans hnW
      clear hW hbW hnW hbx4 f0 f1 f2 fl hu4 hN4
      have hm1 : ([] : List Ver).length + l.length ≤ maxLen := by simp [maxLen]; omega
      have hm2 : (([] : List Ver).length + l.length) * 32 ≤ 140737488355328 := by simp; omega
      have hm3 : (([] : List Ver) ++ l).length + [x].length ≤ maxLen := by simp [maxLen]; omega
      have hm4 : ((([] : List Ver) ++ l).length + [x].length) * 32 ≤ 140737488355328 := by simp; omega
      have HM1 := Lib.hid hm1
      have HM2 := Lib.hid hm2
      have HM3 := Lib.hid hm3
      have HM4 := Lib.hid hm4
      clear hm1 hm2 hm3 hm4
      go_region_held3 (fun w' => Held W w') (first | exact Held.of (New.refl _).drew | assumption | exact Held.step (by assumption) (by assumption) | exact Held.step (by assumption) ((New.refl _).alloc _))
        (first
          | (go_at_call 18; refine (awake16 _).mono ?_; rintro e wb ⟨rfl, hnb⟩; have hsb : W.heap.size ≤ wb.heap.size := hnb.size)
          | (go_at_call 22; refine (same_eq (l ++ [x]) _ _ _ (by simp; omega) (huW.new (show Held W _ by assumption).1) (Owns.slIn Ver.encOk (by simpa using ho2))).mono ?_; rintro e wc ⟨rfl, hnc⟩)
          | (go_at_call 27; refine (last_is (l ++ [x]) _ x.at_ _ (by simp; omega) (huW.new (show Held W _ by assumption).1) HLS.out).mono ?_; rintro e wd ⟨rfl, hnd⟩)
          | (go_at_call 25; refine (check_is (l ++ [x]) _ true _ (by simp; omega) (huW.new (show Held W _ by assumption).1) HRS.out).mono ?_; rintro e we ⟨rfl, hne⟩)
          | (have ho0 : Owns _ W.heap.size 43 3 Ver.enc _ ([] : List Ver) := World.ownsRow_made (base := W.heap.size) (e := 43) (size := 3) wb #[] 0 hsb (by simp) (by simp); refine step_appg verTy Ver.encOk rfl (.tmp 67) (.tmp 68) rfl rfl rfl ho0 (hsW.new (show Held W _ by assumption).1) HM1.out HM2.out ?_ ?_; (exact (show Held W _ by assumption).1.size); intro v1 w6 ho1 hg1 _; have hh6 : Held W w6 := Held.grow (show Held W _ by assumption) hg1 (fun k hk => ho0.blockGe k hk))
          | (have ho0 : Owns _ W.heap.size 43 3 Ver.enc _ ([] : List Ver) := Owns.alloc (l := ([] : List Ver)) (World.ownsRow_made (base := W.heap.size) (e := 43) (size := 3) wb #[] 0 hsb (by simp) (by simp)) (.cells #[.int .u64 x.at_, .string x.val, .bool x.gone] 43); refine step_appg verTy Ver.encOk rfl (.tmp 67) (.tmp 68) rfl rfl rfl ho0 (hsW.new (show Held W _ by assumption).1) HM1.out HM2.out ?_ ?_; (exact (show Held W _ by assumption).1.size); intro v1 w6 ho1 hg1 _; have hh6 : Held W w6 := Held.grow (show Held W _ by assumption) hg1 (fun k hk => ho0.blockGe k hk); have hX0 := Blk.grown (Blk.mk_new (wb.alloc (.cells #[] 43)) 43 #[.int .u64 x.at_, .string x.val, .bool x.gone]) hg1 (show some (wb.alloc (.cells #[] 43)).heap.size ≠ some wb.heap.size by simp); have hX : Blk w6 (wb.heap.size + 1) 43 #[.int .u64 x.at_, .string x.val, .bool x.gone] := (by rw [World.size_alloc] at hX0; exact hX0))
          | (have ho00 := World.ownsRow_made (base := W.heap.size) (e := 43) (size := 3) (wb.alloc (.cells #[.int .u64 x.at_, .string x.val, .bool x.gone] 43)) #[] 0 (by simp; omega) (by simp) (by simp); rw [World.size_alloc] at ho00; have ho0 : Owns _ W.heap.size 43 3 Ver.enc _ ([] : List Ver) := ho00; refine step_appg verTy Ver.encOk rfl (.tmp 67) (.tmp 68) rfl rfl rfl ho0 (hsW.new (show Held W _ by assumption).1) HM1.out HM2.out ?_ ?_; (exact (show Held W _ by assumption).1.size); intro v1 w6 ho1 hg1 _; have hh6 : Held W w6 := Held.grow (show Held W _ by assumption) hg1 (fun k hk => ho0.blockGe k hk); have hX := Blk.grown (Blk.alloc (Blk.mk_new wb 43 #[.int .u64 x.at_, .string x.val, .bool x.gone]) (.cells #[] 43)) hg1 (show some wb.heap.size ≠ some (wb.heap.size + 1) by simp))
          | (refine step_appg verTy Ver.encOk rfl (.tmp 69) (.tmp 71) rfl rfl rfl (ho1.alloc _) (SlIn.one (x := x) (Blk.mk_new w6 43 #[.int .u64 x.at_, .string x.val, .bool x.gone]) Ver.encOk rfl) HM3.out HM4.out ?_ ?_; (exact (show Held W _ by assumption).1.size); intro v2 w7 ho2 hg2 _; have hh7 : Held W w7 := Held.grow (show Held W _ by assumption) hg2 (fun k hk => ho1.blockGe k hk))
          | (refine step_appg verTy Ver.encOk rfl (.tmp 69) (.tmp 71) rfl rfl rfl ho1 (SlIn.one (x := x) hX Ver.encOk rfl) HM3.out HM4.out ?_ ?_; (exact (show Held W _ by assumption).1.size); intro v2 w7 ho2 hg2 _; have hh7 : Held W w7 := Held.grow (show Held W _ by assumption) hg2 (fun k hk => ho1.blockGe k hk)))
      all_goals
        go_wp2_with fail
        go_ret
        exact ⟨rfl, hNW.trans (show Held W _ by assumption).1⟩
    · rcases h with rfl | ⟨b, off, rfl, hb, hc⟩
      · simp at h0
      obtain ⟨y, hy⟩ : ∃ y, l[l.length - 1]? = some y := ⟨_, List.getElem?_eq_getElem (by omega)⟩
      have ey : w4.cell? ⟨b, off + (l.length - 1) * 3, none⟩ = some (.int .u64 y.at_) := (hN4.cells.1 _ _ hb).trans (hc _ y hy 0 _ rfl)
      have h0n : 0 < l.length := by omega
      have hly := lastN_get hy
      have hle : ¬ x.at_ ≤ y.at_ := by rcases HAD.out with h1 | h1 <;> omega
      have h0' : (0 : Int) < (l.length : Int) := by omega
      have h1' : (1 : Int) ≤ (l.length : Int) := by omega
      have h2' : (0 : Int) ≤ (l.length : Int) - 1 := by omega
      clear hc hy hly
      go_wp2_with fail
      go_quiet (fail)
      go_wp2_with fail
      generalize hW : w4.drewN nq = W
      have hnW : New w4 W := by rw [← hW]; exact (New.refl _).drewN _
      have hbW := hbx4.new hnW
      have g0 : W.cell? ⟨w.heap.size, 0, none⟩ = some (.int .u64 x.at_) := hbW.cell 0
      have g1 : W.cell? ⟨w.heap.size, 1, none⟩ = some (.string x.val) := hbW.cell 1
      have g2 : W.cell? ⟨w.heap.size, 2, none⟩ = some (.bool x.gone) := hbW.cell 2
      have hlt := hbW.lt
      have hsW := hs.new (hN4.trans hnW)
      have huW := hu4.new hnW
      have hNW := hN4.trans hnW
      clear hW hbW hnW hbx4 f0 f1 f2 fl hu4 hN4
      have hm1 : ([] : List Ver).length + l.length ≤ maxLen := by simp [maxLen]; omega
      have hm2 : (([] : List Ver).length + l.length) * 32 ≤ 140737488355328 := by simp; omega
      have hm3 : (([] : List Ver) ++ l).length + [x].length ≤ maxLen := by simp [maxLen]; omega
      have hm4 : ((([] : List Ver) ++ l).length + [x].length) * 32 ≤ 140737488355328 := by simp; omega
      have HM1 := Lib.hid hm1
      have HM2 := Lib.hid hm2
      have HM3 := Lib.hid hm3
      have HM4 := Lib.hid hm4
      clear hm1 hm2 hm3 hm4
      go_region_held3 (fun w' => Held W w') (first | exact Held.of (New.refl _).drew | assumption | exact Held.step (by assumption) (by assumption) | exact Held.step (by assumption) ((New.refl _).alloc _))
        (first
          | (go_at_call 18; refine (awake16 _).mono ?_; rintro e wb ⟨rfl, hnb⟩; have hsb : W.heap.size ≤ wb.heap.size := hnb.size)
          | (go_at_call 22; refine (same_eq (l ++ [x]) _ _ _ (by simp; omega) (huW.new (show Held W _ by assumption).1) (Owns.slIn Ver.encOk (by simpa using ho2))).mono ?_; rintro e wc ⟨rfl, hnc⟩)
          | (go_at_call 27; refine (last_is (l ++ [x]) _ x.at_ _ (by simp; omega) (huW.new (show Held W _ by assumption).1) HLS.out).mono ?_; rintro e wd ⟨rfl, hnd⟩)
          | (go_at_call 25; refine (check_is (l ++ [x]) _ true _ (by simp; omega) (huW.new (show Held W _ by assumption).1) HRS.out).mono ?_; rintro e we ⟨rfl, hne⟩)
          | (have ho0 : Owns _ W.heap.size 43 3 Ver.enc _ ([] : List Ver) := World.ownsRow_made (base := W.heap.size) (e := 43) (size := 3) wb #[] 0 hsb (by simp) (by simp); refine step_appg verTy Ver.encOk rfl (.tmp 67) (.tmp 68) rfl rfl rfl ho0 (hsW.new (show Held W _ by assumption).1) HM1.out HM2.out ?_ ?_; (exact (show Held W _ by assumption).1.size); intro v1 w6 ho1 hg1 _; have hh6 : Held W w6 := Held.grow (show Held W _ by assumption) hg1 (fun k hk => ho0.blockGe k hk))
          | (have ho0 : Owns _ W.heap.size 43 3 Ver.enc _ ([] : List Ver) := Owns.alloc (l := ([] : List Ver)) (World.ownsRow_made (base := W.heap.size) (e := 43) (size := 3) wb #[] 0 hsb (by simp) (by simp)) (.cells #[.int .u64 x.at_, .string x.val, .bool x.gone] 43); refine step_appg verTy Ver.encOk rfl (.tmp 67) (.tmp 68) rfl rfl rfl ho0 (hsW.new (show Held W _ by assumption).1) HM1.out HM2.out ?_ ?_; (exact (show Held W _ by assumption).1.size); intro v1 w6 ho1 hg1 _; have hh6 : Held W w6 := Held.grow (show Held W _ by assumption) hg1 (fun k hk => ho0.blockGe k hk); have hX0 := Blk.grown (Blk.mk_new (wb.alloc (.cells #[] 43)) 43 #[.int .u64 x.at_, .string x.val, .bool x.gone]) hg1 (show some (wb.alloc (.cells #[] 43)).heap.size ≠ some wb.heap.size by simp); have hX : Blk w6 (wb.heap.size + 1) 43 #[.int .u64 x.at_, .string x.val, .bool x.gone] := (by rw [World.size_alloc] at hX0; exact hX0))
          | (have ho00 := World.ownsRow_made (base := W.heap.size) (e := 43) (size := 3) (wb.alloc (.cells #[.int .u64 x.at_, .string x.val, .bool x.gone] 43)) #[] 0 (by simp; omega) (by simp) (by simp); rw [World.size_alloc] at ho00; have ho0 : Owns _ W.heap.size 43 3 Ver.enc _ ([] : List Ver) := ho00; refine step_appg verTy Ver.encOk rfl (.tmp 67) (.tmp 68) rfl rfl rfl ho0 (hsW.new (show Held W _ by assumption).1) HM1.out HM2.out ?_ ?_; (exact (show Held W _ by assumption).1.size); intro v1 w6 ho1 hg1 _; have hh6 : Held W w6 := Held.grow (show Held W _ by assumption) hg1 (fun k hk => ho0.blockGe k hk); have hX := Blk.grown (Blk.alloc (Blk.mk_new wb 43 #[.int .u64 x.at_, .string x.val, .bool x.gone]) (.cells #[] 43)) hg1 (show some wb.heap.size ≠ some (wb.heap.size + 1) by simp))
          | (refine step_appg verTy Ver.encOk rfl (.tmp 69) (.tmp 71) rfl rfl rfl (ho1.alloc _) (SlIn.one (x := x) (Blk.mk_new w6 43 #[.int .u64 x.at_, .string x.val, .bool x.gone]) Ver.encOk rfl) HM3.out HM4.out ?_ ?_; (exact (show Held W _ by assumption).1.size); intro v2 w7 ho2 hg2 _; have hh7 : Held W w7 := Held.grow (show Held W _ by assumption) hg2 (fun k hk => ho1.blockGe k hk))
          | (refine step_appg verTy Ver.encOk rfl (.tmp 69) (.tmp 71) rfl rfl rfl ho1 (SlIn.one (x := x) hX Ver.encOk rfl) HM3.out HM4.out ?_ ?_; (exact (show Held W _ by assumption).1.size); intro v2 w7 ho2 hg2 _; have hh7 : Held W w7 := Held.grow (show Held W _ by assumption) hg2 (fun k hk => ho1.blockGe k hk)))
      all_goals
        go_wp2_with fail
        go_ret
        exact ⟨rfl, hNW.trans (show Held W _ by assumption).1⟩
end Go.Proofs.Ytdjnfnhmkfbfmaa
