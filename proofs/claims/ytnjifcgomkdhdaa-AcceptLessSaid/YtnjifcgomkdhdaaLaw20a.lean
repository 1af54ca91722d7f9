/- The walks of the laws AcceptLess and AcceptChooses (chapter 20): for every input they answer true. -/
import Derived.Test.YtnjifcgomkdhdaaAwake20
namespace Go.Proofs.Ytnjifcgomkdhdaa
open Go.RowKit Go.Lap

theorem lessB_irrefl (a b : Int) : lessB a b a b = false := by simp [lessB]
theorem lessB_anti {a b c d : Int} (h : lessB a b c d = true) : lessB c d a b = false := by simp [lessB] at *; omega
theorem lessB_eq {a b c d : Int} (h : lessB a b c d = false) (k : lessB c d a b = false) : a = c ∧ b = d := by simp [lessB] at *; omega
theorem lessB_trans {a b c d e f : Int} (h : lessB a b c d = true) (k : lessB c d e f = true) : lessB a b e f = true := by simp [lessB] at *; omega

set_option maxHeartbeats 1000000 in
theorem acceptLess_no (a0 a1 b0 b1 c0 c1 : Int) (w : World) (hirr : lessB a0 a1 a0 a1 = false) (hx : lessB a0 a1 b0 b1 = false) (hy : lessB b0 b1 a0 a1 = true) :
    Calls Try.prog 4 #[.agg #[.int .u64 a0, .int .u64 a1], .agg #[.int .u64 b0, .int .u64 b1], .agg #[.int .u64 c0, .int .u64 c1]] w fun e w' => e = .returned (.bool true) ∧ New w w' := by
  have hl0 : w.heap.size < w.heap.size + 3 := by omega
  have hl1 : w.heap.size + 1 < w.heap.size + 3 := by omega
  have hl2 : w.heap.size + 2 < w.heap.size + 3 := by omega
  go_enter Try.func4, Try.ntmps4
  go_wp2_with fail
  go_region_held3 (fun w' => Held (((w.alloc (.cells #[.int .u64 a0, .int .u64 a1] 30)).alloc (.cells #[.int .u64 b0, .int .u64 b1] 30)).alloc (.cells #[.int .u64 c0, .int .u64 c1] 30)) w') (first | exact Held.of (New.refl _).drew | exact Held.step (by assumption) (by assumption))
    (first | (go_at_call 17; refine (less_any _ _ _ _ _).mono ?_; rintro e wb ⟨rfl, hnb⟩))
  have h1 := (show Held _ wb by assumption)
  go_wp2_with fail
  refine (refLess_any _ _ _ _ _).mono ?_
  rintro e w2 ⟨rfl, hn2⟩
  have h2 := Held.step h1 hn2
  clear hn2
  go_wp2_with fail
  refine (less_any _ _ _ _ _).mono ?_
  rintro e w3 ⟨rfl, hn3⟩
  have h3 := Held.step h2 hn3
  clear hn3
  go_wp2_with fail
  refine (awake20 _).mono ?_
  rintro e w4 ⟨rfl, hn4⟩
  have h4 := Held.step h3 hn4
  clear hn4
  go_wp2_with fail
  go_ret
  exact ⟨rfl, ((((New.refl w).alloc _).alloc _).alloc _).trans h4.1⟩

set_option maxHeartbeats 1000000 in
theorem acceptLess_eq (a0 a1 c0 c1 : Int) (w : World) (hirr : lessB a0 a1 a0 a1 = false) :
    Calls Try.prog 4 #[.agg #[.int .u64 a0, .int .u64 a1], .agg #[.int .u64 a0, .int .u64 a1], .agg #[.int .u64 c0, .int .u64 c1]] w fun e w' => e = .returned (.bool true) ∧ New w w' := by
  have hl0 : w.heap.size < w.heap.size + 3 := by omega
  have hl1 : w.heap.size + 1 < w.heap.size + 3 := by omega
  have hl2 : w.heap.size + 2 < w.heap.size + 3 := by omega
  go_enter Try.func4, Try.ntmps4
  go_wp2_with fail
  go_region_held3 (fun w' => Held (((w.alloc (.cells #[.int .u64 a0, .int .u64 a1] 30)).alloc (.cells #[.int .u64 a0, .int .u64 a1] 30)).alloc (.cells #[.int .u64 c0, .int .u64 c1] 30)) w') (first | exact Held.of (New.refl _).drew | exact Held.step (by assumption) (by assumption))
    (first | (go_at_call 17; refine (less_any _ _ _ _ _).mono ?_; rintro e wb ⟨rfl, hnb⟩))
  have h1 := (show Held _ wb by assumption)
  go_wp2_with fail
  refine (refLess_any _ _ _ _ _).mono ?_
  rintro e w2 ⟨rfl, hn2⟩
  have h2 := Held.step h1 hn2
  clear hn2
  go_wp2_with fail
  refine (less_any _ _ _ _ _).mono ?_
  rintro e w3 ⟨rfl, hn3⟩
  have h3 := Held.step h2 hn3
  clear hn3
  go_wp2_with fail
  refine (awake20 _).mono ?_
  rintro e w4 ⟨rfl, hn4⟩
  have h4 := Held.step h3 hn4
  clear hn4
  go_wp2_with fail
  go_ret
  exact ⟨rfl, ((((New.refl w).alloc _).alloc _).alloc _).trans h4.1⟩

set_option maxHeartbeats 1000000 in
theorem acceptLess_yes (a0 a1 b0 b1 c0 c1 : Int) (w : World) (hirr : lessB a0 a1 a0 a1 = false) (hx : lessB a0 a1 b0 b1 = true) (hy : lessB b0 b1 a0 a1 = false) (hz : lessB b0 b1 c0 c1 = false) :
    Calls Try.prog 4 #[.agg #[.int .u64 a0, .int .u64 a1], .agg #[.int .u64 b0, .int .u64 b1], .agg #[.int .u64 c0, .int .u64 c1]] w fun e w' => e = .returned (.bool true) ∧ New w w' := by
  have hl0 : w.heap.size < w.heap.size + 3 := by omega
  have hl1 : w.heap.size + 1 < w.heap.size + 3 := by omega
  have hl2 : w.heap.size + 2 < w.heap.size + 3 := by omega
  go_enter Try.func4, Try.ntmps4
  go_wp2_with fail
  go_region_held3 (fun w' => Held (((w.alloc (.cells #[.int .u64 a0, .int .u64 a1] 30)).alloc (.cells #[.int .u64 b0, .int .u64 b1] 30)).alloc (.cells #[.int .u64 c0, .int .u64 c1] 30)) w') (first | exact Held.of (New.refl _).drew | exact Held.step (by assumption) (by assumption))
    (first | (go_at_call 17; refine (less_any _ _ _ _ _).mono ?_; rintro e wb ⟨rfl, hnb⟩))
  have h1 := (show Held _ wb by assumption)
  go_wp2_with fail
  refine (refLess_any _ _ _ _ _).mono ?_
  rintro e w2 ⟨rfl, hn2⟩
  have h2 := Held.step h1 hn2
  clear hn2
  go_wp2_with fail
  refine (less_any _ _ _ _ _).mono ?_
  rintro e w3 ⟨rfl, hn3⟩
  have h3 := Held.step h2 hn3
  clear hn3
  go_wp2_with fail
  refine (awake20 _).mono ?_
  rintro e w4 ⟨rfl, hn4⟩
  have h4 := Held.step h3 hn4
  clear hn4
  go_wp2_with fail
  refine (less_any _ _ _ _ _).mono ?_
  rintro e w5 ⟨rfl, hn5⟩
  have h5 := Held.step h4 hn5
  clear hn5
  go_wp2_with fail
  go_ret
  exact ⟨rfl, ((((New.refl w).alloc _).alloc _).alloc _).trans h5.1⟩

set_option maxHeartbeats 1000000 in
theorem acceptLess_yes2 (a0 a1 b0 b1 c0 c1 : Int) (w : World) (hirr : lessB a0 a1 a0 a1 = false) (hx : lessB a0 a1 b0 b1 = true) (hy : lessB b0 b1 a0 a1 = false) (hz : lessB b0 b1 c0 c1 = true) (ht : lessB a0 a1 c0 c1 = true) :
    Calls Try.prog 4 #[.agg #[.int .u64 a0, .int .u64 a1], .agg #[.int .u64 b0, .int .u64 b1], .agg #[.int .u64 c0, .int .u64 c1]] w fun e w' => e = .returned (.bool true) ∧ New w w' := by
  have hl0 : w.heap.size < w.heap.size + 3 := by omega
  have hl1 : w.heap.size + 1 < w.heap.size + 3 := by omega
  have hl2 : w.heap.size + 2 < w.heap.size + 3 := by omega
  go_enter Try.func4, Try.ntmps4
  go_wp2_with fail
  go_region_held3 (fun w' => Held (((w.alloc (.cells #[.int .u64 a0, .int .u64 a1] 30)).alloc (.cells #[.int .u64 b0, .int .u64 b1] 30)).alloc (.cells #[.int .u64 c0, .int .u64 c1] 30)) w') (first | exact Held.of (New.refl _).drew | exact Held.step (by assumption) (by assumption))
    (first | (go_at_call 17; refine (less_any _ _ _ _ _).mono ?_; rintro e wb ⟨rfl, hnb⟩))
  have h1 := (show Held _ wb by assumption)
  go_wp2_with fail
  refine (refLess_any _ _ _ _ _).mono ?_
  rintro e w2 ⟨rfl, hn2⟩
  have h2 := Held.step h1 hn2
  clear hn2
  go_wp2_with fail
  refine (less_any _ _ _ _ _).mono ?_
  rintro e w3 ⟨rfl, hn3⟩
  have h3 := Held.step h2 hn3
  clear hn3
  go_wp2_with fail
  refine (awake20 _).mono ?_
  rintro e w4 ⟨rfl, hn4⟩
  have h4 := Held.step h3 hn4
  clear hn4
  go_wp2_with fail
  refine (less_any _ _ _ _ _).mono ?_
  rintro e w5 ⟨rfl, hn5⟩
  have h5 := Held.step h4 hn5
  clear hn5
  go_wp2_with fail
  refine (less_any _ _ _ _ _).mono ?_
  rintro e w6 ⟨rfl, hn6⟩
  have h6 := Held.step h5 hn6
  clear hn6
  go_wp2_with fail
  go_ret
  exact ⟨rfl, ((((New.refl w).alloc _).alloc _).alloc _).trans h6.1⟩

theorem acceptLess_walk (a0 a1 b0 b1 c0 c1 : Int) (w : World) :
    Calls Try.prog 4 #[.agg #[.int .u64 a0, .int .u64 a1], .agg #[.int .u64 b0, .int .u64 b1], .agg #[.int .u64 c0, .int .u64 c1]] w fun e w' => e = .returned (.bool true) ∧ New w w' := by
  have hirr := lessB_irrefl a0 a1
  cases hx : lessB a0 a1 b0 b1 with
  | true =>
    have hy := lessB_anti hx
    cases hz : lessB b0 b1 c0 c1 with
    | true => exact acceptLess_yes2 _ _ _ _ _ _ w hirr hx hy hz (lessB_trans hx hz)
    | false => exact acceptLess_yes _ _ _ _ _ _ w hirr hx hy hz
  | false =>
    cases hy : lessB b0 b1 a0 a1 with
    | true => exact acceptLess_no _ _ _ _ _ _ w hirr hx hy
    | false =>
      obtain ⟨rfl, rfl⟩ := lessB_eq hx hy
      exact acceptLess_eq _ _ _ _ w hirr
end Go.Proofs.Ytnjifcgomkdhdaa
