/- The document's answer for a field taken (chapter 3), whole. -/
import Derived.Test.YtcganajbfplmpaaRef03c
namespace Go.Proofs.Ytcganajbfplmpaa
open Go.RowKit Go.Lap
set_option linter.unusedVariables false

theorem takeV_ok {bs : List UInt8} (h : (getV 0 0 bs).1 = 0) : takeV bs = (0, (getV 0 0 bs).2.1, (getV 0 0 bs).2.2) := by
  show (if (getV 0 0 bs).1 = 10 then 30 else (getV 0 0 bs).1, (getV 0 0 bs).2.1, (getV 0 0 bs).2.2) = _
  rw [h]
  rfl
theorem getV_rest {bs : List UInt8} (h : (getV 0 0 bs).1 = 0) : bs.drop (bs.length - (getV 0 0 bs).2.2.length) = (getV 0 0 bs).2.2 ∧ bs.length - (getV 0 0 bs).2.2.length ≤ bs.length := by
  have h1 := takeV_ok h
  have h2 := takeV_back (bs := bs) (by rw [h1])
  rw [h1] at h2
  simp only at h2
  refine ⟨?_, by omega⟩
  generalize (getV 0 0 bs).2.2 = rest at *
  generalize varB (getV 0 0 bs).2.1 = p at *
  rw [h2, List.length_append, Nat.add_sub_cancel, List.drop_left]

set_option maxRecDepth 100000 in
set_option maxHeartbeats 2000000 in
theorem refNum_any (bs : List UInt8) (w : World) (hbs : bs.length ≤ 1000000000) :
    Calls Try.prog 65 #[.string (str bs)] w fun e w' => e = .returned (.tuple #[.int .u64 ((numR bs 0).1 : Int), .string (str (numR bs 0).2.1), .int .i64 (numR bs 0).2.2]) ∧ New w w' := by
  have hR : numR bs 0 = if (takeV bs).1 = 0 then ((takeV bs).2.1, (takeV bs).2.2, 0) else (0, bs, (takeV bs).1) := rfl
  have hT : takeV bs = (if (getV 0 0 bs).1 = 10 then 30 else (getV 0 0 bs).1, (getV 0 0 bs).2.1, (getV 0 0 bs).2.2) := rfl
  have hcode := getV_code bs 0 0
  have hrest := getV_rest (bs := bs)
  have hg := refGetVar_any bs w hbs
  generalize getV 0 0 bs = r at *
  obtain ⟨rc, rn, rest⟩ := r
  simp only at hcode hrest
  rcases hcode with rfl | rfl | rfl
  · have hR' : numR bs 0 = (rn, rest, 0) := by rw [hR, hT]; rfl
    rw [hR']
    obtain ⟨h1, h2⟩ := hrest rfl
    have hcl := run_cutl .i64 h2
    rw [h1] at hcl
    have hg' : Calls Try.prog 76 #[.string (str bs)] w fun e w' => e = .returned (.tuple #[.int .u64 (rn : Int), .int .i64 ((bs.length - rest.length : Nat) : Int), .int .i64 0]) ∧ New w w' := hg
    have HG := Lib.hid hg'
    generalize bs.length - rest.length = n at *
    clear hR hT hR' hrest h1 hg hg'
    go_enter Try.func65, Try.ntmps65
    go_wp2_with fail
    refine HG.out.mono ?_
    rintro e w1 ⟨rfl, hn1⟩
    go_wp2_with fail
    go_quiet (fail)
    go_wp2_with fail
    go_ret3
    exact ⟨rfl, hn1.drewN _⟩
  · have hR' : numR bs 0 = (0, bs, 30) := by rw [hR, hT]; rfl
    rw [hR']
    have hg' : Calls Try.prog 76 #[.string (str bs)] w fun e w' => e = .returned (.tuple #[.int .u64 (rn : Int), .int .i64 0, .int .i64 10]) ∧ New w w' := hg
    have HG := Lib.hid hg'
    clear hR hT hR' hrest hg hg'
    go_enter Try.func65, Try.ntmps65
    go_wp2_with fail
    refine HG.out.mono ?_
    rintro e w1 ⟨rfl, hn1⟩
    go_wp2_with fail
    go_ret3
    exact ⟨rfl, hn1⟩
  · have hR' : numR bs 0 = (0, bs, 12) := by rw [hR, hT]; rfl
    rw [hR']
    have hg' : Calls Try.prog 76 #[.string (str bs)] w fun e w' => e = .returned (.tuple #[.int .u64 (rn : Int), .int .i64 0, .int .i64 12]) ∧ New w w' := hg
    have HG := Lib.hid hg'
    clear hR hT hR' hrest hg hg'
    go_enter Try.func65, Try.ntmps65
    go_wp2_with fail
    refine HG.out.mono ?_
    rintro e w1 ⟨rfl, hn1⟩
    go_wp2_with fail
    go_ret3
    exact ⟨rfl, hn1⟩

/-- What the document's Take answers. -/
def TakenPost (w : World) (f : Fld) (bs : List UInt8) (err : Int) (e : Ending) (w' : World) : Prop :=
  e = .returned (.tuple #[.agg #[.int .i64 f.kind, .int .u64 (f.v : Int), .string f.s, .bool f.yes, .int .i64 f.most], .string (str bs), .int .i64 err]) ∧ New w w'

set_option maxRecDepth 100000 in
set_option maxHeartbeats 2000000 in
theorem refTake_flag (most : Int) (bs : List UInt8) (w : World) :
    Calls Try.prog 66 #[.int .i64 2, .int .i64 most, .string (str bs)] w (TakenPost w ⟨2, 0, str [], (flagR bs 0).1, 0⟩ (flagR bs 0).2.1 (flagR bs 0).2.2) := by
  have hTL := str_toList bs
  cases bs with
  | nil =>
    go_enter Try.func66, Try.ntmps66
    go_wp2_with fail
    exact bodyPost_ret (v := .tuple #[.agg #[.int .i64 2, .int .u64 0, .string (str []), .bool false, .int .i64 0], .string (str []), .int .i64 30]) (by simp [results, Try.results66, go_sem, str]) rfl ⟨rfl, ((New.refl w).alloc _).alloc _⟩
  | cons x xs =>
    have hix : ∀ wx, (Instr.index 9 (.string (str (x :: xs))) (.int .i64 0)).run Try.prog wx = .ok (.int .u8 (x.toNat : Int)) wx := run_ix (bs := x :: xs) (i := 0) (x := x) rfl
    have hcl : ∀ wx, (Instr.slice 9 (.string (str (x :: xs))) (some (.int .i64 1)) none none).run Try.prog wx = .ok (.string (str xs)) wx := run_cutl .i64 (bs := x :: xs) (n := 1) (by simp)
    by_cases hx : 1 < x.toNat
    · have hx' : (1 : Int) < (x.toNat : Int) := by omega
      have hR : flagR (x :: xs) 0 = (false, x :: xs, 33) := by simp [flagR, hx]
      rw [hR]
      clear hR
      go_enter Try.func66, Try.ntmps66
      go_wp2_with fail
      exact bodyPost_ret (v := .tuple #[.agg #[.int .i64 2, .int .u64 0, .string (str []), .bool false, .int .i64 0], .string (str (x :: xs)), .int .i64 33]) (by simp [results, Try.results66, go_sem, str]) rfl ⟨rfl, ((New.refl w).alloc _).alloc _⟩
    · have hx' : ¬ (1 : Int) < (x.toNat : Int) := by omega
      have hR : flagR (x :: xs) 0 = (decide (x.toNat = 1), xs, 0) := by simp [flagR, hx]
      have hxb : ((x.toNat : Int) == 1) = decide (x.toNat = 1) := by rw [Bool.eq_iff_iff]; simp; omega
      rw [hR]
      clear hR
      generalize decide (x.toNat = 1) = yes at *
      go_enter Try.func66, Try.ntmps66
      go_wp2_with fail
      go_region
      all_goals go_wp2_with fail
      all_goals exact bodyPost_ret (v := .tuple #[.agg #[.int .i64 2, .int .u64 0, .string (str []), .bool yes, .int .i64 0], .string (str xs), .int .i64 0]) (by simp [results, Try.results66, go_sem, str]) rfl ⟨rfl, by first | exact (((New.refl w).alloc _).alloc _).drew | exact (((New.refl w).alloc _).drew).alloc _ | exact (((New.refl w).drew).alloc _).alloc _⟩

theorem numR_bad (bs : List UInt8) (h : (numR bs 0).2.2 ≠ 0) : (numR bs 0).1 = 0 ∧ (numR bs 0).2.1 = bs := by
  unfold numR at h ⊢
  rw [if_pos rfl] at h ⊢
  by_cases h0 : (takeV bs).1 = 0
  · rw [if_pos h0] at h; exact absurd rfl h
  · rw [if_neg h0]; exact ⟨rfl, rfl⟩
theorem numR_len (bs : List UInt8) : (numR bs 0).2.1.length ≤ bs.length := by
  have := takeV_lenP bs
  unfold numR
  repeat' split
  all_goals first | exact this | exact Nat.le_refl _
theorem countR_num (bs : List UInt8) (most : Int) : countR bs 0 most = if (numR bs 0).2.2 = 0 then if ((numR bs 0).1 : Int) ≤ most then ((numR bs 0).1, (numR bs 0).2.1, 0) else (0, bs, 32) else (0, bs, (numR bs 0).2.2) := by
  unfold countR numR belowErr
  by_cases h0 : (takeV bs).1 = 0
  · by_cases h1 : ((takeV bs).2.1 : Int) ≤ most <;> simp [h0, h1]
  · simp [h0]
theorem textR_num (bs : List UInt8) : textR bs 0 = if (numR bs 0).2.2 = 0 then if ((numR bs 0).1 : Int) ≤ 65536 then if (numR bs 0).2.1.length < (numR bs 0).1 then ([], bs, 30) else ((numR bs 0).2.1.take (numR bs 0).1, (numR bs 0).2.1.drop (numR bs 0).1, 0) else ([], bs, 32) else ([], bs, (numR bs 0).2.2) := by
  unfold textR numR belowErr
  by_cases h0 : (takeV bs).1 = 0
  · by_cases h1 : ((takeV bs).2.1 : Int) ≤ 65536
    · simp only [h0, h1, if_true, and_self]
    · simp only [h0, h1, if_true, if_false, and_false]
  · simp only [h0, if_true, if_false, false_and, and_false]

set_option maxRecDepth 100000 in
set_option maxHeartbeats 4000000 in
theorem refTake_num (most : Int) (bs : List UInt8) (w : World) (hb : bs.length ≤ 1000000000) :
    Calls Try.prog 66 #[.int .i64 0, .int .i64 most, .string (str bs)] w (TakenPost w ⟨0, (numR bs 0).1, str [], false, 0⟩ (numR bs 0).2.1 (numR bs 0).2.2) := by
  have hg := fun w => refNum_any bs w hb
  have hz := numR_bad bs
  generalize numR bs 0 = r at *
  obtain ⟨n, rest, err⟩ := r
  simp only at hg hz ⊢
  have HG := Lib.hid hg
  clear hg
  by_cases he : err = 0
  · subst he
    clear hz
    go_enter Try.func66, Try.ntmps66
    go_wp2_with fail
    refine (HG.out _).mono ?_
    rintro e w1 ⟨rfl, hn1⟩
    have hB1 := ((Blk.mk_new w 133 #[.int .i64 0, .int .u64 0, .string ⟨#[]⟩, .bool false, .int .i64 0]).alloc (Obj.cells #[.int .i64 0, .int .u64 0, .string ⟨#[]⟩, .bool false, .int .i64 0] 133)).new hn1
    have hB2 := Blk.mk_new (w.alloc (Obj.cells #[.int .i64 0, .int .u64 0, .string ⟨#[]⟩, .bool false, .int .i64 0] 133)) 133 #[.int .i64 0, .int .u64 0, .string ⟨#[]⟩, .bool false, .int .i64 0]
    rw [World.size_alloc] at hB2
    have hB2' := hB2.new hn1
    obtain ⟨q0, q1, q2, q3, q4, q5, qz⟩ := Blk5F hB1
    obtain ⟨p0, p1, p2, p3, p4, p5, pz⟩ := Blk5F hB2'
    clear hB1 hB2 hB2'
    go_wp2_with fail
    exact bodyPost_ret (v := .tuple #[.agg #[.int .i64 0, .int .u64 (n : Int), .string (str []), .bool false, .int .i64 0], .string (str rest), .int .i64 0]) (by simp [results, Try.results66, go_sem, q1, q2, q3, q4, q5, str]) rfl ⟨rfl, (((((((((New.refl w).alloc _).alloc _).trans hn1).setCell (p := ⟨_, _, none⟩) (Nat.le_succ _) _).setCell (p := ⟨_, _, none⟩) (Nat.le_refl _) _).setCell (p := ⟨_, _, none⟩) (Nat.le_refl _) _).setCell (p := ⟨_, _, none⟩) (Nat.le_refl _) _).setCell (p := ⟨_, _, none⟩) (Nat.le_refl _) _).setCell (p := ⟨_, _, none⟩) (Nat.le_refl _) _⟩
  · obtain ⟨rfl, rfl⟩ := hz he
    have hne : ((err : Int) != 0) = true := by simpa using he
    clear hz he
    go_enter Try.func66, Try.ntmps66
    go_wp2_with fail
    refine (HG.out _).mono ?_
    rintro e w1 ⟨rfl, hn1⟩
    have hB1 := ((Blk.mk_new w 133 #[.int .i64 0, .int .u64 0, .string ⟨#[]⟩, .bool false, .int .i64 0]).alloc (Obj.cells #[.int .i64 0, .int .u64 0, .string ⟨#[]⟩, .bool false, .int .i64 0] 133)).new hn1
    have hB2 := Blk.mk_new (w.alloc (Obj.cells #[.int .i64 0, .int .u64 0, .string ⟨#[]⟩, .bool false, .int .i64 0] 133)) 133 #[.int .i64 0, .int .u64 0, .string ⟨#[]⟩, .bool false, .int .i64 0]
    rw [World.size_alloc] at hB2
    have hB2' := hB2.new hn1
    obtain ⟨q0, q1, q2, q3, q4, q5, qz⟩ := Blk5F hB1
    obtain ⟨p0, p1, p2, p3, p4, p5, pz⟩ := Blk5F hB2'
    clear hB1 hB2 hB2'
    go_wp2_with fail
    exact bodyPost_ret (v := .tuple #[.agg #[.int .i64 0, .int .u64 0, .string (str []), .bool false, .int .i64 0], .string (str rest), .int .i64 err]) (by simp [results, Try.results66, go_sem, q1, q2, q3, q4, q5, str]) rfl ⟨rfl, ((((((((New.refl w).alloc _).alloc _).trans hn1).setCell (p := ⟨_, _, none⟩) (Nat.le_refl _) _).setCell (p := ⟨_, _, none⟩) (Nat.le_refl _) _).setCell (p := ⟨_, _, none⟩) (Nat.le_refl _) _).setCell (p := ⟨_, _, none⟩) (Nat.le_refl _) _).setCell (p := ⟨_, _, none⟩) (Nat.le_refl _) _⟩

set_option maxRecDepth 100000 in
set_option maxHeartbeats 4000000 in
theorem refTake_count (most : Int) (bs : List UInt8) (w : World) (hb : bs.length ≤ 1000000000) (hm1 : most ≤ 9223372036854775807) :
    Calls Try.prog 66 #[.int .i64 3, .int .i64 most, .string (str bs)] w (TakenPost w ⟨3, (countR bs 0 most).1, str [], false, 0⟩ (countR bs 0 most).2.1 (countR bs 0 most).2.2) := by
  have hg := fun w => refNum_any bs w hb
  have hz := numR_bad bs
  have hC := countR_num bs most
  rw [hC]
  clear hC
  generalize numR bs 0 = r at *
  obtain ⟨n, rest, err⟩ := r
  simp only at hg hz ⊢
  have HG := Lib.hid hg
  clear hg
  by_cases he : err = 0
  · subst he
    clear hz
    rw [if_pos rfl]
    by_cases hneg : most < 0
    · rw [if_neg (by omega)]
      go_enter Try.func66, Try.ntmps66
      go_wp2_with fail
      refine (HG.out _).mono ?_
      rintro e w1 ⟨rfl, hn1⟩
      have hB1 := ((Blk.mk_new w 133 #[.int .i64 0, .int .u64 0, .string ⟨#[]⟩, .bool false, .int .i64 0]).alloc (Obj.cells #[.int .i64 3, .int .u64 0, .string ⟨#[]⟩, .bool false, .int .i64 0] 133)).new hn1
      have hB2 := Blk.mk_new (w.alloc (Obj.cells #[.int .i64 0, .int .u64 0, .string ⟨#[]⟩, .bool false, .int .i64 0] 133)) 133 #[.int .i64 3, .int .u64 0, .string ⟨#[]⟩, .bool false, .int .i64 0]
      rw [World.size_alloc] at hB2
      have hB2' := hB2.new hn1
      obtain ⟨q0, q1, q2, q3, q4, q5, qz⟩ := Blk5F hB1
      obtain ⟨p0, p1, p2, p3, p4, p5, pz⟩ := Blk5F hB2'
      clear hB1 hB2 hB2'
      go_wp2_with fail
      exact bodyPost_ret (v := .tuple #[.agg #[.int .i64 3, .int .u64 0, .string (str []), .bool false, .int .i64 0], .string (str bs), .int .i64 32]) (by simp [results, Try.results66, go_sem, q1, q2, q3, q4, q5, str]) rfl ⟨rfl, ((((((((New.refl w).alloc _).alloc _).trans hn1).setCell (p := ⟨_, _, none⟩) (Nat.le_refl _) _).setCell (p := ⟨_, _, none⟩) (Nat.le_refl _) _).setCell (p := ⟨_, _, none⟩) (Nat.le_refl _) _).setCell (p := ⟨_, _, none⟩) (Nat.le_refl _) _).setCell (p := ⟨_, _, none⟩) (Nat.le_refl _) _⟩
    · have hw : IntKind.u64.wrap most = most := by rw [IntKind.wrap_u64]; omega
      by_cases hgt : (n : Int) ≤ most
      · rw [if_pos hgt]
        have hgt' : ¬ most < (n : Int) := by omega
        go_enter Try.func66, Try.ntmps66
        go_wp2_with fail
        refine (HG.out _).mono ?_
        rintro e w1 ⟨rfl, hn1⟩
        have hB1 := ((Blk.mk_new w 133 #[.int .i64 0, .int .u64 0, .string ⟨#[]⟩, .bool false, .int .i64 0]).alloc (Obj.cells #[.int .i64 3, .int .u64 0, .string ⟨#[]⟩, .bool false, .int .i64 0] 133)).new hn1
        have hB2 := Blk.mk_new (w.alloc (Obj.cells #[.int .i64 0, .int .u64 0, .string ⟨#[]⟩, .bool false, .int .i64 0] 133)) 133 #[.int .i64 3, .int .u64 0, .string ⟨#[]⟩, .bool false, .int .i64 0]
        rw [World.size_alloc] at hB2
        have hB2' := hB2.new hn1
        obtain ⟨q0, q1, q2, q3, q4, q5, qz⟩ := Blk5F hB1
        obtain ⟨p0, p1, p2, p3, p4, p5, pz⟩ := Blk5F hB2'
        clear hB1 hB2 hB2'
        go_wp2_with fail
        exact bodyPost_ret (v := .tuple #[.agg #[.int .i64 3, .int .u64 (n : Int), .string (str []), .bool false, .int .i64 0], .string (str rest), .int .i64 0]) (by simp [results, Try.results66, go_sem, q1, q2, q3, q4, q5, str]) rfl ⟨rfl, (((((((((New.refl w).alloc _).alloc _).trans hn1).setCell (p := ⟨_, _, none⟩) (Nat.le_succ _) _).setCell (p := ⟨_, _, none⟩) (Nat.le_refl _) _).setCell (p := ⟨_, _, none⟩) (Nat.le_refl _) _).setCell (p := ⟨_, _, none⟩) (Nat.le_refl _) _).setCell (p := ⟨_, _, none⟩) (Nat.le_refl _) _).setCell (p := ⟨_, _, none⟩) (Nat.le_refl _) _⟩
      · rw [if_neg hgt]
        have hgt' : most < (n : Int) := by omega
        go_enter Try.func66, Try.ntmps66
        go_wp2_with fail
        refine (HG.out _).mono ?_
        rintro e w1 ⟨rfl, hn1⟩
        have hB1 := ((Blk.mk_new w 133 #[.int .i64 0, .int .u64 0, .string ⟨#[]⟩, .bool false, .int .i64 0]).alloc (Obj.cells #[.int .i64 3, .int .u64 0, .string ⟨#[]⟩, .bool false, .int .i64 0] 133)).new hn1
        have hB2 := Blk.mk_new (w.alloc (Obj.cells #[.int .i64 0, .int .u64 0, .string ⟨#[]⟩, .bool false, .int .i64 0] 133)) 133 #[.int .i64 3, .int .u64 0, .string ⟨#[]⟩, .bool false, .int .i64 0]
        rw [World.size_alloc] at hB2
        have hB2' := hB2.new hn1
        obtain ⟨q0, q1, q2, q3, q4, q5, qz⟩ := Blk5F hB1
        obtain ⟨p0, p1, p2, p3, p4, p5, pz⟩ := Blk5F hB2'
        clear hB1 hB2 hB2'
        go_wp2_with fail
        exact bodyPost_ret (v := .tuple #[.agg #[.int .i64 3, .int .u64 0, .string (str []), .bool false, .int .i64 0], .string (str bs), .int .i64 32]) (by simp [results, Try.results66, go_sem, q1, q2, q3, q4, q5, str]) rfl ⟨rfl, ((((((((New.refl w).alloc _).alloc _).trans hn1).setCell (p := ⟨_, _, none⟩) (Nat.le_refl _) _).setCell (p := ⟨_, _, none⟩) (Nat.le_refl _) _).setCell (p := ⟨_, _, none⟩) (Nat.le_refl _) _).setCell (p := ⟨_, _, none⟩) (Nat.le_refl _) _).setCell (p := ⟨_, _, none⟩) (Nat.le_refl _) _⟩
  · obtain ⟨rfl, rfl⟩ := hz he
    have hne : ((err : Int) != 0) = true := by simpa using he
    rw [if_neg he]
    clear hz he
    go_enter Try.func66, Try.ntmps66
    go_wp2_with fail
    refine (HG.out _).mono ?_
    rintro e w1 ⟨rfl, hn1⟩
    have hB1 := ((Blk.mk_new w 133 #[.int .i64 0, .int .u64 0, .string ⟨#[]⟩, .bool false, .int .i64 0]).alloc (Obj.cells #[.int .i64 3, .int .u64 0, .string ⟨#[]⟩, .bool false, .int .i64 0] 133)).new hn1
    have hB2 := Blk.mk_new (w.alloc (Obj.cells #[.int .i64 0, .int .u64 0, .string ⟨#[]⟩, .bool false, .int .i64 0] 133)) 133 #[.int .i64 3, .int .u64 0, .string ⟨#[]⟩, .bool false, .int .i64 0]
    rw [World.size_alloc] at hB2
    have hB2' := hB2.new hn1
    obtain ⟨q0, q1, q2, q3, q4, q5, qz⟩ := Blk5F hB1
    obtain ⟨p0, p1, p2, p3, p4, p5, pz⟩ := Blk5F hB2'
    clear hB1 hB2 hB2'
    go_wp2_with fail
    exact bodyPost_ret (v := .tuple #[.agg #[.int .i64 3, .int .u64 0, .string (str []), .bool false, .int .i64 0], .string (str rest), .int .i64 err]) (by simp [results, Try.results66, go_sem, q1, q2, q3, q4, q5, str]) rfl ⟨rfl, ((((((((New.refl w).alloc _).alloc _).trans hn1).setCell (p := ⟨_, _, none⟩) (Nat.le_refl _) _).setCell (p := ⟨_, _, none⟩) (Nat.le_refl _) _).setCell (p := ⟨_, _, none⟩) (Nat.le_refl _) _).setCell (p := ⟨_, _, none⟩) (Nat.le_refl _) _).setCell (p := ⟨_, _, none⟩) (Nat.le_refl _) _⟩

end Go.Proofs.Ytcganajbfplmpaa
