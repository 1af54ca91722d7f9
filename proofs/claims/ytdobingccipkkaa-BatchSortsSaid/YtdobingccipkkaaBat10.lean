/- Chapter 5 (batch): comparing writes by their keys; the stable order, as a list. -/
import Derived.Test.YtdobingccipkkaaBat4
import Derived.LoopN
namespace Go.Proofs.Ytdobingccipkkaa
open Go.RowKit Go.Lap
set_option linter.unusedVariables false

def ltW (x y : Wri) : Bool := Op.bytesLess x.key.toList y.key.toList
def cmpS (a b : ByteArray) : Int := if Op.bytesLess a.toList b.toList = true then -1 else if Op.bytesLess b.toList a.toList = true then 1 else 0
def cmpW (x y : Wri) : Int := cmpS x.key y.key
theorem cmpW_lt (x y : Wri) : decide (cmpW x y < 0) = ltW x y := by
  unfold cmpW cmpS ltW
  cases Op.bytesLess x.key.toList y.key.toList <;> cases Op.bytesLess y.key.toList x.key.toList <;> simp

set_option maxHeartbeats 1000000 in
theorem isNaN_any (a : ByteArray) (w : World) : Calls Try.prog 48 #[.string a] w fun e w' => e = .returned (.bool false) ∧ w' = w := by
  go_enter Try.func48, Try.ntmps48
  go_wp2_with fail
  go_ret
  exact ⟨rfl, rfl⟩

set_option maxHeartbeats 1000000 in
theorem compare_any (a b : ByteArray) (w : World) : Calls Try.prog 29 #[.string a, .string b] w fun e w' => e = .returned (.int .i64 (cmpS a b)) ∧ w' = w := by
  have ha := isNaN_any a
  have hb := isNaN_any b
  cases h1 : Op.bytesLess a.toList b.toList with
  | true =>
    have HF := Lib.hid (show cmpS a b = -1 by simp [cmpS, h1])
    go_enter Try.func29, Try.ntmps29
    go_wp2_with fail
    refine (ha _).mono ?_
    rintro e w1 ⟨rfl, rfl⟩
    go_wp2_with fail
    refine (hb _).mono ?_
    rintro e w2 ⟨rfl, rfl⟩
    go_wp2_with fail
    go_ret
    exact ⟨ret_int (a := -1) HF.out.symm, rfl⟩
  | false =>
    cases h2 : Op.bytesLess b.toList a.toList with
    | true =>
      have HF := Lib.hid (show cmpS a b = 1 by simp [cmpS, h1, h2])
      have he : (a.toList == b.toList) = false := by have h := le_or a b; rw [h1, h2] at h; simpa using h
      go_enter Try.func29, Try.ntmps29
      go_wp2_with fail
      refine (ha _).mono ?_
      rintro e w1 ⟨rfl, rfl⟩
      go_wp2_with fail
      refine (hb _).mono ?_
      rintro e w2 ⟨rfl, rfl⟩
      go_wp2_with fail
      go_ret
      exact ⟨ret_int (a := 1) HF.out.symm, rfl⟩
    | false =>
      have HF := Lib.hid (show cmpS a b = 0 by simp [cmpS, h1, h2])
      have he : (a.toList == b.toList) = true := by have h := le_or a b; rw [h1, h2] at h; simpa using h
      go_enter Try.func29, Try.ntmps29
      go_wp2_with fail
      refine (ha _).mono ?_
      rintro e w1 ⟨rfl, rfl⟩
      go_wp2_with fail
      refine (hb _).mono ?_
      rintro e w2 ⟨rfl, rfl⟩
      go_wp2_with fail
      go_ret
      exact ⟨ret_int (a := 0) HF.out.symm, rfl⟩

set_option maxHeartbeats 1000000 in
theorem sortCmp_any (x y : Wri) (w : World) : Calls Try.prog 28 #[.agg #[.string x.key, .string x.val, .bool x.gone], .agg #[.string y.key, .string y.val, .bool y.gone]] w fun e w' => e = .returned (.int .i64 (cmpW x y)) ∧ New w w' := by
  have hc := compare_any x.key y.key
  have HF := Lib.hid (show cmpW x y = cmpS x.key y.key from rfl)
  go_enter Try.func28, Try.ntmps28
  go_wp2_with fail
  refine (hc _).mono ?_
  rintro e w1 ⟨rfl, rfl⟩
  go_wp2_with fail
  go_ret
  exact ⟨ret_int HF.out.symm, ((New.refl w).alloc _).alloc _⟩

/-- A write put in, ahead of a row that falls: behind all that are no greater. -/
def insW (x : Wri) : List Wri → List Wri
  | [] => [x]
  | y :: ys => if ltW x y = true then y :: insW x ys else x :: y :: ys
/-- The stable order, falling; and rising. -/
def fallW (l : List Wri) : List Wri := l.foldl (fun a x => insW x a) []
def sortW (l : List Wri) : List Wri := (fallW l).reverse
theorem insW_length (x : Wri) : ∀ l, (insW x l).length = l.length + 1
  | [] => rfl
  | y :: ys => by unfold insW; split <;> simp [insW_length x ys]
theorem fallW_snoc (l : List Wri) (x : Wri) : fallW (l ++ [x]) = insW x (fallW l) := by simp [fallW]
theorem fallW_length (l : List Wri) : (fallW l).length = l.length := by
  have h : ∀ (l a : List Wri), (l.foldl (fun a x => insW x a) a).length = a.length + l.length := by
    intro l
    induction l with
    | nil => intro a; rfl
    | cons x l ih => intro a; simp only [List.foldl_cons, ih, insW_length, List.length_cons]; omega
  simpa [fallW] using h l []
theorem sortW_length (l : List Wri) : (sortW l).length = l.length := by simp [sortW, fallW_length]
end Go.Proofs.Ytdobingccipkkaa
