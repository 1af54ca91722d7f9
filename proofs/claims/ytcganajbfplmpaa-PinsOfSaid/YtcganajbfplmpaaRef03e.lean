/- The document's answer for a text taken (chapter 3), and for any field. -/
import Derived.Test.YtcganajbfplmpaaRef03d
namespace Go.Proofs.Ytcganajbfplmpaa
open Go.RowKit Go.Lap
set_option linter.unusedVariables false

set_option maxRecDepth 100000 in
set_option maxHeartbeats 4000000 in
theorem refTake_text (most : Int) (bs : List UInt8) (w : World) (hb : bs.length ≤ 1000000000) :
    Calls Try.prog 66 #[.int .i64 1, .int .i64 most, .string (str bs)] w (TakenPost w ⟨1, 0, str (textR bs 0).1, false, 0⟩ (textR bs 0).2.1 (textR bs 0).2.2) := by
  have hg := fun w => refNum_any bs w hb
  have hz := numR_bad bs
  have hl := numR_len bs
  have hC := textR_num bs
  rw [hC]
  clear hC
  generalize numR bs 0 = r at *
  obtain ⟨n, rest, err⟩ := r
  simp only at hg hz hl ⊢
  have HG := Lib.hid hg
  clear hg
  by_cases he : err = 0
  · subst he
    clear hz
    rw [if_pos rfl]
    by_cases hgt : (n : Int) ≤ 65536
    · rw [if_pos hgt]
      have hgt' : ¬ (65536 : Int) < (n : Int) := by omega
      have hsz := str_size rest
      have hw : IntKind.u64.wrap (rest.length : Int) = (rest.length : Int) := by rw [IntKind.wrap_u64]; omega
      by_cases hlt : rest.length < n
      · rw [if_pos hlt]
        have hlt' : (rest.length : Int) < (n : Int) := by omega
        go_enter Try.func66, Try.ntmps66
        go_wp2_with fail
        refine (HG.out _).mono ?_
        rintro e w1 ⟨rfl, hn1⟩
        have hB1 := ((Blk.mk_new w 133 #[.int .i64 0, .int .u64 0, .string ⟨#[]⟩, .bool false, .int .i64 0]).alloc (Obj.cells #[.int .i64 1, .int .u64 0, .string ⟨#[]⟩, .bool false, .int .i64 0] 133)).new hn1
        have hB2 := Blk.mk_new (w.alloc (Obj.cells #[.int .i64 0, .int .u64 0, .string ⟨#[]⟩, .bool false, .int .i64 0] 133)) 133 #[.int .i64 1, .int .u64 0, .string ⟨#[]⟩, .bool false, .int .i64 0]
        rw [World.size_alloc] at hB2
        have hB2' := hB2.new hn1
        obtain ⟨q0, q1, q2, q3, q4, q5, qz⟩ := Blk5F hB1
        obtain ⟨p0, p1, p2, p3, p4, p5, pz⟩ := Blk5F hB2'
        clear hB1 hB2 hB2'
        go_wp2_with fail
        exact bodyPost_ret (v := .tuple #[.agg #[.int .i64 1, .int .u64 0, .string (str []), .bool false, .int .i64 0], .string (str bs), .int .i64 30]) (by simp [results, Try.results66, go_sem, q1, q2, q3, q4, q5, str]) rfl ⟨rfl, ((((((((New.refl w).alloc _).alloc _).trans hn1).setCell (p := ⟨_, _, none⟩) (Nat.le_refl _) _).setCell (p := ⟨_, _, none⟩) (Nat.le_refl _) _).setCell (p := ⟨_, _, none⟩) (Nat.le_refl _) _).setCell (p := ⟨_, _, none⟩) (Nat.le_refl _) _).setCell (p := ⟨_, _, none⟩) (Nat.le_refl _) _⟩
      · rw [if_neg hlt]
        have hlt' : ¬ (rest.length : Int) < (n : Int) := by omega
        have hcl := run_cutl .u64 (bs := rest) (n := n) (by omega)
        have hch := run_cuth .u64 (bs := rest) (n := n) (by omega)
        have hch' : ∀ wx, (Instr.slice 9 (.string (str rest)) none (some (.int .u64 (n : Int))) none).run Try.prog wx = .ok (.string (str (rest.take n))) wx := hch
        generalize rest.take n = tk at *
        generalize rest.drop n = dr at *
        go_enter Try.func66, Try.ntmps66
        go_wp2_with fail
        refine (HG.out _).mono ?_
        rintro e w1 ⟨rfl, hn1⟩
        have hB1 := ((Blk.mk_new w 133 #[.int .i64 0, .int .u64 0, .string ⟨#[]⟩, .bool false, .int .i64 0]).alloc (Obj.cells #[.int .i64 1, .int .u64 0, .string ⟨#[]⟩, .bool false, .int .i64 0] 133)).new hn1
        have hB2 := Blk.mk_new (w.alloc (Obj.cells #[.int .i64 0, .int .u64 0, .string ⟨#[]⟩, .bool false, .int .i64 0] 133)) 133 #[.int .i64 1, .int .u64 0, .string ⟨#[]⟩, .bool false, .int .i64 0]
        rw [World.size_alloc] at hB2
        have hB2' := hB2.new hn1
        obtain ⟨q0, q1, q2, q3, q4, q5, qz⟩ := Blk5F hB1
        obtain ⟨p0, p1, p2, p3, p4, p5, pz⟩ := Blk5F hB2'
        clear hB1 hB2 hB2'
        go_wp2_with fail
        go_region
        all_goals go_wp2_with fail
        all_goals refine bodyPost_ret (v := .tuple #[.agg #[.int .i64 1, .int .u64 0, .string (str tk), .bool false, .int .i64 0], .string (str dr), .int .i64 0]) (by simp [results, Try.results66, go_sem, q1, q2, q3, q4, q5, str]) rfl ⟨rfl, ((((((((((New.refl w).alloc _).alloc _).trans hn1).setCell (p := ⟨_, _, none⟩) (Nat.le_succ _) _).setCell (p := ⟨_, _, none⟩) (Nat.le_refl _) _).setCell (p := ⟨_, _, none⟩) (Nat.le_refl _) _).setCell (p := ⟨_, _, none⟩) (Nat.le_refl _) _).setCell (p := ⟨_, _, none⟩) (Nat.le_refl _) _).setCell (p := ⟨_, _, none⟩) (Nat.le_refl _) _).drew⟩
    · rw [if_neg hgt]
      have hgt' : (65536 : Int) < (n : Int) := by omega
      go_enter Try.func66, Try.ntmps66
      go_wp2_with fail
      refine (HG.out _).mono ?_
      rintro e w1 ⟨rfl, hn1⟩
      have hB1 := ((Blk.mk_new w 133 #[.int .i64 0, .int .u64 0, .string ⟨#[]⟩, .bool false, .int .i64 0]).alloc (Obj.cells #[.int .i64 1, .int .u64 0, .string ⟨#[]⟩, .bool false, .int .i64 0] 133)).new hn1
      have hB2 := Blk.mk_new (w.alloc (Obj.cells #[.int .i64 0, .int .u64 0, .string ⟨#[]⟩, .bool false, .int .i64 0] 133)) 133 #[.int .i64 1, .int .u64 0, .string ⟨#[]⟩, .bool false, .int .i64 0]
      rw [World.size_alloc] at hB2
      have hB2' := hB2.new hn1
      obtain ⟨q0, q1, q2, q3, q4, q5, qz⟩ := Blk5F hB1
      obtain ⟨p0, p1, p2, p3, p4, p5, pz⟩ := Blk5F hB2'
      clear hB1 hB2 hB2'
      go_wp2_with fail
      exact bodyPost_ret (v := .tuple #[.agg #[.int .i64 1, .int .u64 0, .string (str []), .bool false, .int .i64 0], .string (str bs), .int .i64 32]) (by simp [results, Try.results66, go_sem, q1, q2, q3, q4, q5, str]) rfl ⟨rfl, ((((((((New.refl w).alloc _).alloc _).trans hn1).setCell (p := ⟨_, _, none⟩) (Nat.le_refl _) _).setCell (p := ⟨_, _, none⟩) (Nat.le_refl _) _).setCell (p := ⟨_, _, none⟩) (Nat.le_refl _) _).setCell (p := ⟨_, _, none⟩) (Nat.le_refl _) _).setCell (p := ⟨_, _, none⟩) (Nat.le_refl _) _⟩
  · obtain ⟨rfl, rfl⟩ := hz he
    have hne : ((err : Int) != 0) = true := by simpa using he
    rw [if_neg he]
    clear hz he
    go_enter Try.func66, Try.ntmps66
    go_wp2_with fail
    refine (HG.out _).mono ?_
    rintro e w1 ⟨rfl, hn1⟩
    have hB1 := ((Blk.mk_new w 133 #[.int .i64 0, .int .u64 0, .string ⟨#[]⟩, .bool false, .int .i64 0]).alloc (Obj.cells #[.int .i64 1, .int .u64 0, .string ⟨#[]⟩, .bool false, .int .i64 0] 133)).new hn1
    have hB2 := Blk.mk_new (w.alloc (Obj.cells #[.int .i64 0, .int .u64 0, .string ⟨#[]⟩, .bool false, .int .i64 0] 133)) 133 #[.int .i64 1, .int .u64 0, .string ⟨#[]⟩, .bool false, .int .i64 0]
    rw [World.size_alloc] at hB2
    have hB2' := hB2.new hn1
    obtain ⟨q0, q1, q2, q3, q4, q5, qz⟩ := Blk5F hB1
    obtain ⟨p0, p1, p2, p3, p4, p5, pz⟩ := Blk5F hB2'
    clear hB1 hB2 hB2'
    go_wp2_with fail
    exact bodyPost_ret (v := .tuple #[.agg #[.int .i64 1, .int .u64 0, .string (str []), .bool false, .int .i64 0], .string (str rest), .int .i64 err]) (by simp [results, Try.results66, go_sem, q1, q2, q3, q4, q5, str]) rfl ⟨rfl, ((((((((New.refl w).alloc _).alloc _).trans hn1).setCell (p := ⟨_, _, none⟩) (Nat.le_refl _) _).setCell (p := ⟨_, _, none⟩) (Nat.le_refl _) _).setCell (p := ⟨_, _, none⟩) (Nat.le_refl _) _).setCell (p := ⟨_, _, none⟩) (Nat.le_refl _) _).setCell (p := ⟨_, _, none⟩) (Nat.le_refl _) _⟩

theorem refTake_any (kind most : Int) (bs : List UInt8) (w : World) (hk : kind = 0 ∨ kind = 1 ∨ kind = 2 ∨ kind = 3) (hb : bs.length ≤ 1000000000) (hm1 : most ≤ 9223372036854775807) :
    Calls Try.prog 66 #[.int .i64 kind, .int .i64 most, .string (str bs)] w (TakenPost w (takeF kind most bs 0).1 (takeF kind most bs 0).2.1 (takeF kind most bs 0).2.2) := by
  rcases hk with rfl | rfl | rfl | rfl
  · exact refTake_num most bs w hb
  · exact refTake_text most bs w hb
  · exact refTake_flag most bs w
  · exact refTake_count most bs w hb hm1
end Go.Proofs.Ytcganajbfplmpaa
