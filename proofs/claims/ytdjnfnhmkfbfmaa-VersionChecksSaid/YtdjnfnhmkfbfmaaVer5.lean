/- The contract of version.Add (chapter 16). -/
import Derived.Test.YtdjnfnhmkfbfmaaVer4
namespace Go.Proofs.Ytdjnfnhmkfbfmaa
open Go.RowKit Go.Lap
set_option linter.unusedVariables false

set_option maxRecDepth 100000 in
set_option maxHeartbeats 2000000 in
theorem add_no (l : List Ver) (v : Value) (x : Ver) (w : World) (hl : l.length ≤ 1000000) (hs : SlIn w 3 Ver.enc v l) (h0 : 0 < l.length) (hlast : x.at_ ≤ lastN l) :
    Calls Try.prog 26 #[v, .agg #[.int .u64 x.at_, .string x.val, .bool x.gone]] w fun e w' => e = .returned (.tuple #[.slice none 0 0, .int .i64 160]) ∧ New w w' := by
  obtain ⟨A, c, hv⟩ := hs.form
  subst hv
  have h0' : (0 : Int) < (l.length : Int) := by omega
  go_enter Try.func26, Try.ntmps26
  go_wp2_with fail
  go_quiet ((go_at_call 27; refine Calls.quiet_of_same ((last_any l _ _ (by omega) ((hs.alloc _).drewN _)).mono fun _ _ h => ⟨h.1, h.2.symm⟩)))
  go_wp2_with fail
  go_ret2
  exact ⟨rfl, ((New.refl w).alloc _).drewN _⟩
theorem Held.grow {a b c : World} {row : Option Nat} (h : Held a b) (hg : b.grownBy c row) (hr : ∀ k, row = some k → a.heap.size ≤ k) : Held a c := Held.of (h.1.grown hg hr)
/-- What Add answers where it may: behind a name, so that the walk leaves it. -/
def AddPost (w : World) (l : List Ver) (x : Ver) (e : Ending) (w' : World) : Prop := ∃ u, e = .returned (.tuple #[u, .int .i64 0]) ∧ Owns w' w.heap.size 43 3 Ver.enc u (l ++ [x]) ∧ New w w'

set_option maxRecDepth 100000 in
set_option maxHeartbeats 2000000 in
theorem add_yes (l : List Ver) (v : Value) (x : Ver) (w : World) (hl : l.length ≤ 1000000) (hs : SlIn w 3 Ver.enc v l) (hlast : l.length = 0 ∨ lastN l < x.at_) :
    Calls Try.prog 26 #[v, .agg #[.int .u64 x.at_, .string x.val, .bool x.gone]] w (AddPost w l x) := by
  obtain ⟨A, c, hv⟩ := hs.form
  subst hv
  have hm1 : l.length + [x].length ≤ maxLen := by simp [maxLen]; omega
  have hm2 : (l.length + [x].length) * 32 ≤ 140737488355328 := by simp; omega
  have HM1 := Lib.hid hm1
  have HM2 := Lib.hid hm2
  clear hm1 hm2
  have key : ∀ (P : Prop), (0 < l.length → lastN l < x.at_ → P) → (l.length = 0 → P) → P := fun P h1 h2 => by
    by_cases h0 : l.length = 0
    · exact h2 h0
    · rcases hlast with h | h
      · exact absurd h h0
      · exact h1 (by omega) h
  apply key
  · intro h0 hla
    have h0' : (0 : Int) < (l.length : Int) := by omega
    have hla' : ¬ x.at_ ≤ lastN l := by omega
    clear key hlast
    go_enter Try.func26, Try.ntmps26
    go_wp2_with fail
    go_quiet ((go_at_call 27; refine Calls.quiet_of_same ((last_any l _ _ (by omega) ((hs.alloc _).drewN _)).mono fun _ _ h => ⟨h.1, h.2.symm⟩)))
    go_wp2_with fail
    generalize hW : (w.alloc (Obj.cells #[Value.int IntKind.u64 x.at_, Value.string x.val, Value.bool x.gone] 43)).drewN nq = W
    have hnW : New w W := by rw [← hW]; exact ((New.refl w).alloc _).drewN _
    have hbW : Blk W w.heap.size 43 #[.int .u64 x.at_, .string x.val, .bool x.gone] := by rw [← hW]; exact Blk.drewN (Blk.mk_new _ _ _) _
    have e0 : W.cell? ⟨w.heap.size, 0, none⟩ = some (.int .u64 x.at_) := hbW.cell 0
    have e1 : W.cell? ⟨w.heap.size, 1, none⟩ = some (.string x.val) := hbW.cell 1
    have e2 : W.cell? ⟨w.heap.size, 2, none⟩ = some (.bool x.gone) := hbW.cell 2
    have hsW := hs.new hnW
    have hlt := hbW.lt
    clear hW hbW
    go_region_held3 (fun w' => Held W w') (first | exact Held.of (New.refl _).drew | exact Held.step (by assumption) (by assumption) | exact Held.step (by assumption) ((New.refl _).alloc _) | exact Held.grow (by assumption) hg' (fun k hk => Nat.le_trans hb1 (ho.lt k hk).1))
      (first
        | (go_at_call 44; refine (own_any l _ _ (by omega) (hsW.new (show Held W _ by assumption).1)).mono ?_; rintro e w1 ⟨u, rfl, ho, hn1⟩; have hb1 := (show Held W _ by assumption).1.size)
        | (refine step_app verTy Ver.encOk rfl (.tmp 17) (.tmp 19) rfl rfl rfl (ho.alloc _) (SlIn.one (x := x) (Blk.mk_new _ _ _) Ver.encOk rfl) HM1.out HM2.out ?_ ?_; (have := hn1.size; simp; omega); intro v' w2 ho' hg' _)
        | (refine step_app verTy Ver.encOk rfl (.tmp 17) (.tmp 19) rfl rfl rfl ho (SlIn.new (SlIn.one (x := x) (Blk.drew (Blk.mk_new W 43 #[.int .u64 x.at_, .string x.val, .bool x.gone])) Ver.encOk rfl) hn1) HM1.out HM2.out ?_ ?_; (exact hn1.size); intro v' w2 ho' hg' _))
    all_goals
      go_wp2_with fail
      go_ret2
      exact ⟨_, rfl, ho'.lower (by have := hnW.size; simp at *; omega), hnW.trans (show Held W _ by assumption).1⟩
  · intro h0
    have hl0 : l = [] := List.eq_nil_of_length_eq_zero h0
    subst hl0
    clear key hlast
    go_enter Try.func26, Try.ntmps26
    go_wp2_with fail
    go_quiet (fail)
    go_wp2_with fail
    generalize hW : (w.alloc (Obj.cells #[Value.int IntKind.u64 x.at_, Value.string x.val, Value.bool x.gone] 43)).drewN nq = W
    have hnW : New w W := by rw [← hW]; exact ((New.refl w).alloc _).drewN _
    have hbW : Blk W w.heap.size 43 #[.int .u64 x.at_, .string x.val, .bool x.gone] := by rw [← hW]; exact Blk.drewN (Blk.mk_new _ _ _) _
    have e0 : W.cell? ⟨w.heap.size, 0, none⟩ = some (.int .u64 x.at_) := hbW.cell 0
    have e1 : W.cell? ⟨w.heap.size, 1, none⟩ = some (.string x.val) := hbW.cell 1
    have e2 : W.cell? ⟨w.heap.size, 2, none⟩ = some (.bool x.gone) := hbW.cell 2
    have hsW := hs.new hnW
    have hlt := hbW.lt
    clear hW hbW
    go_region_held3 (fun w' => Held W w') (first | exact Held.of (New.refl _).drew | exact Held.step (by assumption) (by assumption) | exact Held.step (by assumption) ((New.refl _).alloc _) | exact Held.grow (by assumption) hg' (fun k hk => Nat.le_trans hb1 (ho.lt k hk).1))
      (first
        | (go_at_call 44; refine (own_any [] _ _ (by simp) (hsW.new (show Held W _ by assumption).1)).mono ?_; rintro e w1 ⟨u, rfl, ho, hn1⟩; have hb1 := (show Held W _ by assumption).1.size)
        | (refine step_app verTy Ver.encOk rfl (.tmp 17) (.tmp 19) rfl rfl rfl (ho.alloc _) (SlIn.one (x := x) (Blk.mk_new _ _ _) Ver.encOk rfl) HM1.out HM2.out ?_ ?_; (have := hn1.size; simp; omega); intro v' w2 ho' hg' _)
        | (refine step_app verTy Ver.encOk rfl (.tmp 17) (.tmp 19) rfl rfl rfl ho (SlIn.new (SlIn.one (x := x) (Blk.drew (Blk.mk_new W 43 #[.int .u64 x.at_, .string x.val, .bool x.gone])) Ver.encOk rfl) hn1) HM1.out HM2.out ?_ ?_; (exact hn1.size); intro v' w2 ho' hg' _))
    all_goals
      go_wp2_with fail
      go_ret2
      exact ⟨_, rfl, ho'.lower (by have := hnW.size; simp at *; omega), hnW.trans (show Held W _ by assumption).1⟩
end Go.Proofs.Ytdjnfnhmkfbfmaa
