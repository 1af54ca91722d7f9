/- The document's answer for a field taken (chapter 3), whole. -/
import Derived.Test.YtinpbjknakncdaaDoorRef03c
namespace Go.Proofs.YtinpbjknakncdaaDoor
open Go.RowKit Go.Lap
set_option linter.unusedVariables false

theorem takeV_ok {bs : List UInt8} (h : (getV 0 0 bs).1 = 0) : takeV bs = (0, (getV 0 0 bs).2.1, (getV 0 0 bs).2.2) := by
  show (if (getV 0 0 bs).1 = 10 then 30 else (getV 0 0 bs).1, (getV 0 0 bs).2.1, (getV 0 0 bs).2.2) = _
  rw [h]
  rfl
theorem getV_rest {bs : List UInt8} (h : (getV 0 0 bs).1 = 0) : bs.drop (bs.length - (getV 0 0 bs).2.2.length) = (getV 0 0 bs).2.2 ∧ bs.length - (getV 0 0 bs).2.2.length ≤ bs.length := by
  have h1 := takeV_ok h
  have h2 := takeV_back (bs := bs) (by rw [h1])
  rw [h1] at h2
  simp only at h2
  refine ⟨?_, by omega⟩
  generalize (getV 0 0 bs).2.2 = rest at *
  generalize varB (getV 0 0 bs).2.1 = p at *
  rw [h2, List.length_append, Nat.add_sub_cancel, List.drop_left]

set_option maxRecDepth 100000 in
set_option maxHeartbeats 2000000 in
theorem refNum_any (bs : List UInt8) (w : World) (hbs : bs.length ≤ 1000000000) :
    Calls Tryd.prog 46 #[.string (str bs)] w fun e w' => e = .returned (.tuple #[.int .u64 ((numR bs 0).1 : Int), .string (str (numR bs 0).2.1), .int .i64 (numR bs 0).2.2]) ∧ New w w' := by
  have hR : numR bs 0 = if (takeV bs).1 = 0 then ((takeV bs).2.1, (takeV bs).2.2, 0) else (0, bs, (takeV bs).1) := rfl
  have hT : takeV bs = (if (getV 0 0 bs).1 = 10 then 30 else (getV 0 0 bs).1, (getV 0 0 bs).2.1, (getV 0 0 bs).2.2) := rfl
  have hcode := getV_code bs 0 0
  have hrest := getV_rest (bs := bs)
  have hg := refGetVar_any bs w hbs
  generalize getV 0 0 bs = r at *
  obtain ⟨rc, rn, rest⟩ := r
  simp only at hcode hrest
  rcases hcode with rfl | rfl | rfl
  · have hR' : numR bs 0 = (rn, rest, 0) := by rw [hR, hT]; rfl
    rw [hR']
    obtain ⟨h1, h2⟩ := hrest rfl
    have hcl := run_cutl .i64 h2
    rw [h1] at hcl
    have hg' : Calls Tryd.prog 59 #[.string (str bs)] w fun e w' => e = .returned (.tuple #[.int .u64 (rn : Int), .int .i64 ((bs.length - rest.length : Nat) : Int), .int .i64 0]) ∧ New w w' := hg
    have HG := Lib.hid hg'
    generalize bs.length - rest.length = n at *
    clear hR hT hR' hrest h1 hg hg'
    go_enter Tryd.func46, Tryd.ntmps46
    go_wp2_with fail
    refine HG.out.mono ?_
    rintro e w1 ⟨rfl, hn1⟩
    go_wp2_with fail
    go_quiet (fail)
    go_wp2_with fail
    go_ret3
    exact ⟨rfl, hn1.drewN _⟩
  · have hR' : numR bs 0 = (0, bs, 30) := by rw [hR, hT]; rfl
    rw [hR']
    have hg' : Calls Tryd.prog 59 #[.string (str bs)] w fun e w' => e = .returned (.tuple #[.int .u64 (rn : Int), .int .i64 0, .int .i64 10]) ∧ New w w' := hg
    have HG := Lib.hid hg'
    clear hR hT hR' hrest hg hg'
    go_enter Tryd.func46, Tryd.ntmps46
    go_wp2_with fail
    refine HG.out.mono ?_
    rintro e w1 ⟨rfl, hn1⟩
    go_wp2_with fail
    go_ret3
    exact ⟨rfl, hn1⟩
  · have hR' : numR bs 0 = (0, bs, 12) := by rw [hR, hT]; rfl
    rw [hR']
    have hg' : Calls Tryd.prog 59 #[.string (str bs)] w fun e w' => e = .returned (.tuple #[.int .u64 (rn : Int), .int .i64 0, .int .i64 12]) ∧ New w w' := hg
    have HG := Lib.hid hg'
    clear hR hT hR' hrest hg hg'
    go_enter Tryd.func46, Tryd.ntmps46
    go_wp2_with fail
    refine HG.out.mono ?_
    rintro e w1 ⟨rfl, hn1⟩
    go_wp2_with fail
    go_ret3
    exact ⟨rfl, hn1⟩

/-- What the document's Take answers. -/
def TakenPost (w : World) (f : Fld) (bs : List UInt8) (err : Int) (e : Ending) (w' : World) : Prop :=
  e = .returned (.tuple #[.agg #[.int .i64 f.kind, .int .u64 (f.v : Int), .string f.s, .bool f.yes, .int .i64 f.most], .string (str bs), .int .i64 err]) ∧ New w w'

theorem numR_bad (bs : List UInt8) (h : (numR bs 0).2.2 ≠ 0) : (numR bs 0).1 = 0 ∧ (numR bs 0).2.1 = bs := by
  unfold numR at h ⊢
  rw [if_pos rfl] at h ⊢
  by_cases h0 : (takeV bs).1 = 0
  · rw [if_pos h0] at h; exact absurd rfl h
  · rw [if_neg h0]; exact ⟨rfl, rfl⟩
theorem numR_len (bs : List UInt8) : (numR bs 0).2.1.length ≤ bs.length := by
  have := takeV_lenP bs
  unfold numR
  repeat' split
  all_goals first | exact this | exact Nat.le_refl _
theorem countR_num (bs : List UInt8) (most : Int) : countR bs 0 most = if (numR bs 0).2.2 = 0 then if ((numR bs 0).1 : Int) ≤ most then ((numR bs 0).1, (numR bs 0).2.1, 0) else (0, bs, 32) else (0, bs, (numR bs 0).2.2) := by
  unfold countR numR belowErr
  by_cases h0 : (takeV bs).1 = 0
  · by_cases h1 : ((takeV bs).2.1 : Int) ≤ most <;> simp [h0, h1]
  · simp [h0]
theorem textR_num (bs : List UInt8) : textR bs 0 = if (numR bs 0).2.2 = 0 then if ((numR bs 0).1 : Int) ≤ 65536 then if (numR bs 0).2.1.length < (numR bs 0).1 then ([], bs, 30) else ((numR bs 0).2.1.take (numR bs 0).1, (numR bs 0).2.1.drop (numR bs 0).1, 0) else ([], bs, 32) else ([], bs, (numR bs 0).2.2) := by
  unfold textR numR belowErr
  by_cases h0 : (takeV bs).1 = 0
  · by_cases h1 : ((takeV bs).2.1 : Int) ≤ 65536
    · simp only [h0, h1, if_true, and_self]
    · simp only [h0, h1, if_true, if_false, and_false]
  · simp only [h0, if_true, if_false, false_and, and_false]

end Go.Proofs.YtinpbjknakncdaaDoor
