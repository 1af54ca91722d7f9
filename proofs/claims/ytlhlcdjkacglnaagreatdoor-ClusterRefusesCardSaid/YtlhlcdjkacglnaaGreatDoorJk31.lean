/- ClusterRefuses, the walk where the node is none. Printed by genLaw26r.py and halves. -/
import Derived.Test.YtlhlcdjkacglnaaGreatDoorJk1
import Derived.Test.YtlhlcdjkacglnaaGreatDoorJk29
import Derived.Deep.Cut
namespace Go.Proofs.YtlhlcdjkacglnaaGreatDoor
open Go.RowKit Go.Lap C
set_option linter.unusedVariables false
set_option linter.unusedSimpArgs false
section
set_option maxRecDepth 100000 in
set_option maxHeartbeats 16000000 in
theorem refuses_walk_f (w : World) (henv : C.Env w) (n m : Int) (kd cl nd ms at_ to_ : Int) (st : Nat) (wv : Value) (h1 : inI cl) (h2 : inI nd) (h3 : inI ms) (h4 : inI at_) (hnd : decide (0 ≤ nd ∧ nd < n) = false) : Calls Tryz.prog 3 #[.int .i64 n, .int .i64 m, .agg #[.int .i64 kd, .int .i64 cl, .int .i64 nd, .int .i64 ms, .int .i64 at_, .int .i64 to_, .int .u64 (st : Int), wv]] w
    fun e w' => e = .returned (.bool true) ∧ New w w' := by
  have hN0 := (New.refl w).alloc (.cells #[.int .i64 kd, .int .i64 cl, .int .i64 nd, .int .i64 ms, .int .i64 at_, .int .i64 to_, .int .u64 (st : Int), wv] 25)
  have HN := Lib.hid hN0
  have HP0 := Lib.hid (Blk.mk_new w 25 #[.int .i64 kd, .int .i64 cl, .int .i64 nd, .int .i64 ms, .int .i64 at_, .int .i64 to_, .int .u64 (st : Int), wv])
  have HENV := Lib.hid (henv.new hN0)
  have HND := Lib.hid hnd
  clear hnd
  have HI := Lib.hid (show inI cl ∧ inI nd ∧ inI ms ∧ inI at_ from ⟨h1, h2, h3, h4⟩)
  clear hN0 henv h1 h2 h3 h4
  go_enter Tryz.func3, Tryz.ntmps3
  go_upto_region 1 with fail
  generalize w.alloc _ = w0 at *
  obtain ⟨pb, hpb⟩ : ∃ pb, w.heap.size = pb := ⟨_, rfl⟩
  rw [hpb] at HP0 ⊢
  clear hpb
  by_cases hb : 1 ≤ n ∧ n ≤ 5 ∧ 1 ≤ m ∧ m ≤ 4
  case neg =>
    go_wp2_with fail
    refine (made_no w0 n m hb).mono ?_
    rintro e w1 ⟨rfl, rfl⟩
    clear hb
    go_wp2_with fail
    refine (awake26 w1).mono ?_
    rintro e w2 ⟨rfl, hn2⟩
    have HN2 := Lib.hid (HN.out.trans hn2)
    clear hn2
    go_wp2_with fail
    refine (awake26 w2).mono ?_
    rintro e w3 ⟨rfl, hn3⟩
    have HN3 := Lib.hid (HN2.out.trans hn3)
    clear hn3
    go_wp2_with fail
    go_ret
    exact ⟨rfl, HN3.out⟩
  case pos =>
    obtain ⟨n, rfl⟩ : ∃ k : Nat, n = (k : Int) := ⟨n.toNat, by omega⟩
    obtain ⟨m, rfl⟩ : ∃ k : Nat, m = (k : Int) := ⟨m.toNat, by omega⟩
    have HNM : Hid (1 ≤ n ∧ n ≤ 5 ∧ 1 ≤ m ∧ m ≤ 4) := Lib.hid (by omega)
    clear hb
    go_wp2_with fail
    refine (made_yes w0 HNM.out).mono ?_
    rintro e w1 ⟨up, L, rfl, hc⟩
    have HC1 := Lib.hid hc
    clear hc
    go_wp2_with fail
    refine (awake26 w1).mono ?_
    rintro e w2 ⟨rfl, hn2⟩
    have HC2 := Lib.hid (HC1.out.newer hn2)
    clear hn2 HC1
    go_upto_region 4 with fail
    obtain ⟨c1, c2, c3, c4⟩ := refP HP0.out HC2.out
    clear c4
    obtain ⟨bN, hbN⟩ : ∃ b : Bool, decide (0 ≤ nd ∧ nd < (n : Int)) = b := ⟨_, rfl⟩
    have HBT : Hid (bN = false) := Lib.hid (hbN.symm.trans HND.out)
    obtain ⟨bC, hbC⟩ : ∃ b : Bool, decide (0 ≤ cl ∧ cl < (m : Int)) = b := ⟨_, rfl⟩
    obtain ⟨bM, hbM⟩ : ∃ b : Bool, decide (0 ≤ ms ∧ ms < 3) = b := ⟨_, rfl⟩
    have HBN := Lib.hid hbN
    have HBC := Lib.hid hbC
    have HBM := Lib.hid hbM
    clear hbN hbC hbM
    go_cut [9, 10, 11] from 36 to 61 (fun s9 s10 s11 wx => s9 = .bool bN ∧ s10 = .bool bC ∧ s11 = .bool bM ∧ wx = w2.drew)
    case first =>
      by_cases a1 : 0 ≤ nd <;> by_cases a3 : 0 ≤ cl <;> by_cases a5 : 0 ≤ ms
      · refine wp_region_held_drew (S := fun w' => w'.cell? ⟨pb, 1, none⟩ = some (.int .i64 cl) ∧ w'.cell? ⟨pb, 2, none⟩ = some (.int .i64 nd) ∧ w'.cell? ⟨pb, 3, none⟩ = some (.int .i64 ms)) (by kernel_rfl) (⟨c1, c2, c3⟩) (fun hHeld => ?_)
        refine tkN (i := 0) rfl ?_
        try simp only [Act.put, sA, sZ, sS]
        refine tkN (i := 1) rfl ?_
        try simp only [Act.put, sA, sZ, sS]
        refine tkN (i := 2) rfl ?_
        try simp only [Act.put, sA, sZ, sS]
        refine tkN (i := 3) rfl ?_
        try simp only [Act.put, sA, sZ, sS]
        refine tkN (i := 4) rfl ?_
        try simp only [Act.put, sA, sZ, sS]
        refine tkN (i := 5) rfl ?_
        try simp only [Act.put, sA, sZ, sS]
        refine tkN (i := 6) rfl ?_
        try simp only [Act.put, sA, sZ, sS]
        refine tkN (i := 7) rfl ?_
        try simp only [Act.put, sA, sZ, sS]
        refine tkN (i := 8) rfl ?_
        try simp only [Act.put, sA, sZ, sS]
        refine tkN (i := 9) rfl ?_
        try simp only [Act.put, sA, sZ, sS]
        refine tkN (i := 10) rfl ?_
        try simp only [Act.put, sA, sZ, sS]
        refine tkN (i := 11) rfl ?_
        try simp only [Act.put, sA, sZ, sS]
        refine tkN (i := 12) rfl ?_
        try simp only [Act.put, sA, sZ, sS]
        refine tkN (i := 13) rfl ?_
        try simp only [Act.put, sA, sZ, sS]
        refine tkN (i := 14) rfl ?_
        try simp only [Act.put, sA, sZ, sS]
        refine tkN (i := 15) rfl ?_
        try simp only [Act.put, sA, sZ, sS]
        refine tkN (i := 16) rfl ?_
        try simp only [Act.put, sA, sZ, sS]
        refine tkN (i := 17) rfl ?_
        try simp only [Act.put, sA, sZ, sS]
        refine tkN (i := 18) rfl ?_
        try simp only [Act.put, sA, sZ, sS]
        refine tkN (i := 19) rfl ?_
        try simp only [Act.put, sA, sZ, sS]
        refine tkN (i := 20) rfl ?_
        try simp only [Act.put, sA, sZ, sS]
        refine tkN (i := 21) rfl ?_
        try simp only [Act.put, sA, sZ, sS]
        refine tkN (i := 22) rfl ?_
        try simp only [Act.put, sA, sZ, sS]
        refine tkN (i := 23) rfl ?_
        try simp only [Act.put, sA, sZ, sS]
        refine tkN (i := 24) rfl ?_
        try simp only [Act.put, sA, sZ, sS]
        refine tkN (i := 25) rfl ?_
        try simp only [Act.put, sA, sZ, sS]
        refine tkN (i := 26) rfl ?_
        try simp only [Act.put, sA, sZ, sS]
        refine tkN (i := 27) rfl ?_
        try simp only [Act.put, sA, sZ, sS]
        refine tkN (i := 28) rfl ?_
        try simp only [Act.put, sA, sZ, sS]
        refine wpAnyH_done (by kernel_rfl) ?_ _
        clear hHeld
        go_wp2_with fail
        go_meet
        refine ⟨?_, ?_, ?_, rfl⟩
        · exact congrArg Value.bool ((refY a1).trans HBN.out)
        · exact congrArg Value.bool ((refY a3).trans HBC.out)
        · exact congrArg Value.bool ((refY a5).trans HBM.out)
      · refine wp_region_held_drew (S := fun w' => w'.cell? ⟨pb, 1, none⟩ = some (.int .i64 cl) ∧ w'.cell? ⟨pb, 2, none⟩ = some (.int .i64 nd) ∧ w'.cell? ⟨pb, 3, none⟩ = some (.int .i64 ms)) (by kernel_rfl) (⟨c1, c2, c3⟩) (fun hHeld => ?_)
        refine tkN (i := 0) rfl ?_
        try simp only [Act.put, sA, sZ, sS]
        refine tkN (i := 1) rfl ?_
        try simp only [Act.put, sA, sZ, sS]
        refine tkN (i := 2) rfl ?_
        try simp only [Act.put, sA, sZ, sS]
        refine tkN (i := 3) rfl ?_
        try simp only [Act.put, sA, sZ, sS]
        refine tkN (i := 4) rfl ?_
        try simp only [Act.put, sA, sZ, sS]
        refine tkN (i := 5) rfl ?_
        try simp only [Act.put, sA, sZ, sS]
        refine tkN (i := 6) rfl ?_
        try simp only [Act.put, sA, sZ, sS]
        refine tkN (i := 7) rfl ?_
        try simp only [Act.put, sA, sZ, sS]
        refine tkN (i := 8) rfl ?_
        try simp only [Act.put, sA, sZ, sS]
        refine tkN (i := 9) rfl ?_
        try simp only [Act.put, sA, sZ, sS]
        refine tkN (i := 10) rfl ?_
        try simp only [Act.put, sA, sZ, sS]
        refine tkN (i := 11) rfl ?_
        try simp only [Act.put, sA, sZ, sS]
        refine tkN (i := 12) rfl ?_
        try simp only [Act.put, sA, sZ, sS]
        refine tkN (i := 13) rfl ?_
        try simp only [Act.put, sA, sZ, sS]
        refine tkN (i := 14) rfl ?_
        try simp only [Act.put, sA, sZ, sS]
        refine tkN (i := 15) rfl ?_
        try simp only [Act.put, sA, sZ, sS]
        refine tkN (i := 16) rfl ?_
        try simp only [Act.put, sA, sZ, sS]
        refine tkN (i := 17) rfl ?_
        try simp only [Act.put, sA, sZ, sS]
        refine tkN (i := 18) rfl ?_
        try simp only [Act.put, sA, sZ, sS]
        refine tkN (i := 19) rfl ?_
        try simp only [Act.put, sA, sZ, sS]
        refine tkN (i := 20) rfl ?_
        try simp only [Act.put, sA, sZ, sS]
        refine tkN (i := 21) rfl ?_
        try simp only [Act.put, sA, sZ, sS]
        refine tkU (i := 22) rfl ?_
        try simp only [Act.put, sA, sZ, sS]
        refine tkU (i := 23) rfl ?_
        try simp only [Act.put, sA, sZ, sS]
        refine tkU (i := 24) rfl ?_
        try simp only [Act.put, sA, sZ, sS]
        refine tkN (i := 25) rfl ?_
        try simp only [Act.put, sA, sZ, sS]
        refine tkN (i := 26) rfl ?_
        try simp only [Act.put, sA, sZ, sS]
        refine tkN (i := 27) rfl ?_
        try simp only [Act.put, sA, sZ, sS]
        refine tkN (i := 28) rfl ?_
        try simp only [Act.put, sA, sZ, sS]
        refine wpAnyH_done (by kernel_rfl) ?_ _
        clear hHeld
        go_wp2_with fail
        go_meet
        refine ⟨?_, ?_, ?_, rfl⟩
        · exact congrArg Value.bool ((refY a1).trans HBN.out)
        · exact congrArg Value.bool ((refY a3).trans HBC.out)
        · exact congrArg Value.bool ((refN a5).trans HBM.out)
      · refine wp_region_held_drew (S := fun w' => w'.cell? ⟨pb, 1, none⟩ = some (.int .i64 cl) ∧ w'.cell? ⟨pb, 2, none⟩ = some (.int .i64 nd) ∧ w'.cell? ⟨pb, 3, none⟩ = some (.int .i64 ms)) (by kernel_rfl) (⟨c1, c2, c3⟩) (fun hHeld => ?_)
        refine tkN (i := 0) rfl ?_
        try simp only [Act.put, sA, sZ, sS]
        refine tkN (i := 1) rfl ?_
        try simp only [Act.put, sA, sZ, sS]
        refine tkN (i := 2) rfl ?_
        try simp only [Act.put, sA, sZ, sS]
        refine tkN (i := 3) rfl ?_
        try simp only [Act.put, sA, sZ, sS]
        refine tkN (i := 4) rfl ?_
        try simp only [Act.put, sA, sZ, sS]
        refine tkN (i := 5) rfl ?_
        try simp only [Act.put, sA, sZ, sS]
        refine tkN (i := 6) rfl ?_
        try simp only [Act.put, sA, sZ, sS]
        refine tkN (i := 7) rfl ?_
        try simp only [Act.put, sA, sZ, sS]
        refine tkN (i := 8) rfl ?_
        try simp only [Act.put, sA, sZ, sS]
        refine tkN (i := 9) rfl ?_
        try simp only [Act.put, sA, sZ, sS]
        refine tkN (i := 10) rfl ?_
        try simp only [Act.put, sA, sZ, sS]
        refine tkN (i := 11) rfl ?_
        try simp only [Act.put, sA, sZ, sS]
        refine tkN (i := 12) rfl ?_
        try simp only [Act.put, sA, sZ, sS]
        refine tkU (i := 13) rfl ?_
        try simp only [Act.put, sA, sZ, sS]
        refine tkU (i := 14) rfl ?_
        try simp only [Act.put, sA, sZ, sS]
        refine tkU (i := 15) rfl ?_
        try simp only [Act.put, sA, sZ, sS]
        refine tkU (i := 16) rfl ?_
        try simp only [Act.put, sA, sZ, sS]
        refine tkN (i := 17) rfl ?_
        try simp only [Act.put, sA, sZ, sS]
        refine tkN (i := 18) rfl ?_
        try simp only [Act.put, sA, sZ, sS]
        refine tkN (i := 19) rfl ?_
        try simp only [Act.put, sA, sZ, sS]
        refine tkN (i := 20) rfl ?_
        try simp only [Act.put, sA, sZ, sS]
        refine tkN (i := 21) rfl ?_
        try simp only [Act.put, sA, sZ, sS]
        refine tkN (i := 22) rfl ?_
        try simp only [Act.put, sA, sZ, sS]
        refine tkN (i := 23) rfl ?_
        try simp only [Act.put, sA, sZ, sS]
        refine tkN (i := 24) rfl ?_
        try simp only [Act.put, sA, sZ, sS]
        refine tkN (i := 25) rfl ?_
        try simp only [Act.put, sA, sZ, sS]
        refine tkN (i := 26) rfl ?_
        try simp only [Act.put, sA, sZ, sS]
        refine tkN (i := 27) rfl ?_
        try simp only [Act.put, sA, sZ, sS]
        refine tkN (i := 28) rfl ?_
        try simp only [Act.put, sA, sZ, sS]
        refine wpAnyH_done (by kernel_rfl) ?_ _
        clear hHeld
        go_wp2_with fail
        go_meet
        refine ⟨?_, ?_, ?_, rfl⟩
        · exact congrArg Value.bool ((refY a1).trans HBN.out)
        · exact congrArg Value.bool ((refN a3).trans HBC.out)
        · exact congrArg Value.bool ((refY a5).trans HBM.out)
      · refine wp_region_held_drew (S := fun w' => w'.cell? ⟨pb, 1, none⟩ = some (.int .i64 cl) ∧ w'.cell? ⟨pb, 2, none⟩ = some (.int .i64 nd) ∧ w'.cell? ⟨pb, 3, none⟩ = some (.int .i64 ms)) (by kernel_rfl) (⟨c1, c2, c3⟩) (fun hHeld => ?_)
        refine tkN (i := 0) rfl ?_
        try simp only [Act.put, sA, sZ, sS]
        refine tkN (i := 1) rfl ?_
        try simp only [Act.put, sA, sZ, sS]
        refine tkN (i := 2) rfl ?_
        try simp only [Act.put, sA, sZ, sS]
        refine tkN (i := 3) rfl ?_
        try simp only [Act.put, sA, sZ, sS]
        refine tkN (i := 4) rfl ?_
        try simp only [Act.put, sA, sZ, sS]
        refine tkN (i := 5) rfl ?_
        try simp only [Act.put, sA, sZ, sS]
        refine tkN (i := 6) rfl ?_
        try simp only [Act.put, sA, sZ, sS]
        refine tkN (i := 7) rfl ?_
        try simp only [Act.put, sA, sZ, sS]
        refine tkN (i := 8) rfl ?_
        try simp only [Act.put, sA, sZ, sS]
        refine tkN (i := 9) rfl ?_
        try simp only [Act.put, sA, sZ, sS]
        refine tkN (i := 10) rfl ?_
        try simp only [Act.put, sA, sZ, sS]
        refine tkN (i := 11) rfl ?_
        try simp only [Act.put, sA, sZ, sS]
        refine tkN (i := 12) rfl ?_
        try simp only [Act.put, sA, sZ, sS]
        refine tkU (i := 13) rfl ?_
        try simp only [Act.put, sA, sZ, sS]
        refine tkU (i := 14) rfl ?_
        try simp only [Act.put, sA, sZ, sS]
        refine tkU (i := 15) rfl ?_
        try simp only [Act.put, sA, sZ, sS]
        refine tkU (i := 16) rfl ?_
        try simp only [Act.put, sA, sZ, sS]
        refine tkN (i := 17) rfl ?_
        try simp only [Act.put, sA, sZ, sS]
        refine tkN (i := 18) rfl ?_
        try simp only [Act.put, sA, sZ, sS]
        refine tkN (i := 19) rfl ?_
        try simp only [Act.put, sA, sZ, sS]
        refine tkN (i := 20) rfl ?_
        try simp only [Act.put, sA, sZ, sS]
        refine tkN (i := 21) rfl ?_
        try simp only [Act.put, sA, sZ, sS]
        refine tkU (i := 22) rfl ?_
        try simp only [Act.put, sA, sZ, sS]
        refine tkU (i := 23) rfl ?_
        try simp only [Act.put, sA, sZ, sS]
        refine tkU (i := 24) rfl ?_
        try simp only [Act.put, sA, sZ, sS]
        refine tkN (i := 25) rfl ?_
        try simp only [Act.put, sA, sZ, sS]
        refine tkN (i := 26) rfl ?_
        try simp only [Act.put, sA, sZ, sS]
        refine tkN (i := 27) rfl ?_
        try simp only [Act.put, sA, sZ, sS]
        refine tkN (i := 28) rfl ?_
        try simp only [Act.put, sA, sZ, sS]
        refine wpAnyH_done (by kernel_rfl) ?_ _
        clear hHeld
        go_wp2_with fail
        go_meet
        refine ⟨?_, ?_, ?_, rfl⟩
        · exact congrArg Value.bool ((refY a1).trans HBN.out)
        · exact congrArg Value.bool ((refN a3).trans HBC.out)
        · exact congrArg Value.bool ((refN a5).trans HBM.out)
      · refine wp_region_held_drew (S := fun w' => w'.cell? ⟨pb, 1, none⟩ = some (.int .i64 cl) ∧ w'.cell? ⟨pb, 2, none⟩ = some (.int .i64 nd) ∧ w'.cell? ⟨pb, 3, none⟩ = some (.int .i64 ms)) (by kernel_rfl) (⟨c1, c2, c3⟩) (fun hHeld => ?_)
        refine tkN (i := 0) rfl ?_
        try simp only [Act.put, sA, sZ, sS]
        refine tkN (i := 1) rfl ?_
        try simp only [Act.put, sA, sZ, sS]
        refine tkN (i := 2) rfl ?_
        try simp only [Act.put, sA, sZ, sS]
        refine tkN (i := 3) rfl ?_
        try simp only [Act.put, sA, sZ, sS]
        refine tkU (i := 4) rfl ?_
        try simp only [Act.put, sA, sZ, sS]
        refine tkU (i := 5) rfl ?_
        try simp only [Act.put, sA, sZ, sS]
        refine tkU (i := 6) rfl ?_
        try simp only [Act.put, sA, sZ, sS]
        refine tkU (i := 7) rfl ?_
        try simp only [Act.put, sA, sZ, sS]
        refine tkN (i := 8) rfl ?_
        try simp only [Act.put, sA, sZ, sS]
        refine tkN (i := 9) rfl ?_
        try simp only [Act.put, sA, sZ, sS]
        refine tkN (i := 10) rfl ?_
        try simp only [Act.put, sA, sZ, sS]
        refine tkN (i := 11) rfl ?_
        try simp only [Act.put, sA, sZ, sS]
        refine tkN (i := 12) rfl ?_
        try simp only [Act.put, sA, sZ, sS]
        refine tkN (i := 13) rfl ?_
        try simp only [Act.put, sA, sZ, sS]
        refine tkN (i := 14) rfl ?_
        try simp only [Act.put, sA, sZ, sS]
        refine tkN (i := 15) rfl ?_
        try simp only [Act.put, sA, sZ, sS]
        refine tkN (i := 16) rfl ?_
        try simp only [Act.put, sA, sZ, sS]
        refine tkN (i := 17) rfl ?_
        try simp only [Act.put, sA, sZ, sS]
        refine tkN (i := 18) rfl ?_
        try simp only [Act.put, sA, sZ, sS]
        refine tkN (i := 19) rfl ?_
        try simp only [Act.put, sA, sZ, sS]
        refine tkN (i := 20) rfl ?_
        try simp only [Act.put, sA, sZ, sS]
        refine tkN (i := 21) rfl ?_
        try simp only [Act.put, sA, sZ, sS]
        refine tkN (i := 22) rfl ?_
        try simp only [Act.put, sA, sZ, sS]
        refine tkN (i := 23) rfl ?_
        try simp only [Act.put, sA, sZ, sS]
        refine tkN (i := 24) rfl ?_
        try simp only [Act.put, sA, sZ, sS]
        refine tkN (i := 25) rfl ?_
        try simp only [Act.put, sA, sZ, sS]
        refine tkN (i := 26) rfl ?_
        try simp only [Act.put, sA, sZ, sS]
        refine tkN (i := 27) rfl ?_
        try simp only [Act.put, sA, sZ, sS]
        refine tkN (i := 28) rfl ?_
        try simp only [Act.put, sA, sZ, sS]
        refine wpAnyH_done (by kernel_rfl) ?_ _
        clear hHeld
        go_wp2_with fail
        go_meet
        refine ⟨?_, ?_, ?_, rfl⟩
        · exact congrArg Value.bool ((refN a1).trans HBN.out)
        · exact congrArg Value.bool ((refY a3).trans HBC.out)
        · exact congrArg Value.bool ((refY a5).trans HBM.out)
      · refine wp_region_held_drew (S := fun w' => w'.cell? ⟨pb, 1, none⟩ = some (.int .i64 cl) ∧ w'.cell? ⟨pb, 2, none⟩ = some (.int .i64 nd) ∧ w'.cell? ⟨pb, 3, none⟩ = some (.int .i64 ms)) (by kernel_rfl) (⟨c1, c2, c3⟩) (fun hHeld => ?_)
        refine tkN (i := 0) rfl ?_
        try simp only [Act.put, sA, sZ, sS]
        refine tkN (i := 1) rfl ?_
        try simp only [Act.put, sA, sZ, sS]
        refine tkN (i := 2) rfl ?_
        try simp only [Act.put, sA, sZ, sS]
        refine tkN (i := 3) rfl ?_
        try simp only [Act.put, sA, sZ, sS]
        refine tkU (i := 4) rfl ?_
        try simp only [Act.put, sA, sZ, sS]
        refine tkU (i := 5) rfl ?_
        try simp only [Act.put, sA, sZ, sS]
        refine tkU (i := 6) rfl ?_
        try simp only [Act.put, sA, sZ, sS]
        refine tkU (i := 7) rfl ?_
        try simp only [Act.put, sA, sZ, sS]
        refine tkN (i := 8) rfl ?_
        try simp only [Act.put, sA, sZ, sS]
        refine tkN (i := 9) rfl ?_
        try simp only [Act.put, sA, sZ, sS]
        refine tkN (i := 10) rfl ?_
        try simp only [Act.put, sA, sZ, sS]
        refine tkN (i := 11) rfl ?_
        try simp only [Act.put, sA, sZ, sS]
        refine tkN (i := 12) rfl ?_
        try simp only [Act.put, sA, sZ, sS]
        refine tkN (i := 13) rfl ?_
        try simp only [Act.put, sA, sZ, sS]
        refine tkN (i := 14) rfl ?_
        try simp only [Act.put, sA, sZ, sS]
        refine tkN (i := 15) rfl ?_
        try simp only [Act.put, sA, sZ, sS]
        refine tkN (i := 16) rfl ?_
        try simp only [Act.put, sA, sZ, sS]
        refine tkN (i := 17) rfl ?_
        try simp only [Act.put, sA, sZ, sS]
        refine tkN (i := 18) rfl ?_
        try simp only [Act.put, sA, sZ, sS]
        refine tkN (i := 19) rfl ?_
        try simp only [Act.put, sA, sZ, sS]
        refine tkN (i := 20) rfl ?_
        try simp only [Act.put, sA, sZ, sS]
        refine tkN (i := 21) rfl ?_
        try simp only [Act.put, sA, sZ, sS]
        refine tkU (i := 22) rfl ?_
        try simp only [Act.put, sA, sZ, sS]
        refine tkU (i := 23) rfl ?_
        try simp only [Act.put, sA, sZ, sS]
        refine tkU (i := 24) rfl ?_
        try simp only [Act.put, sA, sZ, sS]
        refine tkN (i := 25) rfl ?_
        try simp only [Act.put, sA, sZ, sS]
        refine tkN (i := 26) rfl ?_
        try simp only [Act.put, sA, sZ, sS]
        refine tkN (i := 27) rfl ?_
        try simp only [Act.put, sA, sZ, sS]
        refine tkN (i := 28) rfl ?_
        try simp only [Act.put, sA, sZ, sS]
        refine wpAnyH_done (by kernel_rfl) ?_ _
        clear hHeld
        go_wp2_with fail
        go_meet
        refine ⟨?_, ?_, ?_, rfl⟩
        · exact congrArg Value.bool ((refN a1).trans HBN.out)
        · exact congrArg Value.bool ((refY a3).trans HBC.out)
        · exact congrArg Value.bool ((refN a5).trans HBM.out)
      · refine wp_region_held_drew (S := fun w' => w'.cell? ⟨pb, 1, none⟩ = some (.int .i64 cl) ∧ w'.cell? ⟨pb, 2, none⟩ = some (.int .i64 nd) ∧ w'.cell? ⟨pb, 3, none⟩ = some (.int .i64 ms)) (by kernel_rfl) (⟨c1, c2, c3⟩) (fun hHeld => ?_)
        refine tkN (i := 0) rfl ?_
        try simp only [Act.put, sA, sZ, sS]
        refine tkN (i := 1) rfl ?_
        try simp only [Act.put, sA, sZ, sS]
        refine tkN (i := 2) rfl ?_
        try simp only [Act.put, sA, sZ, sS]
        refine tkN (i := 3) rfl ?_
        try simp only [Act.put, sA, sZ, sS]
        refine tkU (i := 4) rfl ?_
        try simp only [Act.put, sA, sZ, sS]
        refine tkU (i := 5) rfl ?_
        try simp only [Act.put, sA, sZ, sS]
        refine tkU (i := 6) rfl ?_
        try simp only [Act.put, sA, sZ, sS]
        refine tkU (i := 7) rfl ?_
        try simp only [Act.put, sA, sZ, sS]
        refine tkN (i := 8) rfl ?_
        try simp only [Act.put, sA, sZ, sS]
        refine tkN (i := 9) rfl ?_
        try simp only [Act.put, sA, sZ, sS]
        refine tkN (i := 10) rfl ?_
        try simp only [Act.put, sA, sZ, sS]
        refine tkN (i := 11) rfl ?_
        try simp only [Act.put, sA, sZ, sS]
        refine tkN (i := 12) rfl ?_
        try simp only [Act.put, sA, sZ, sS]
        refine tkU (i := 13) rfl ?_
        try simp only [Act.put, sA, sZ, sS]
        refine tkU (i := 14) rfl ?_
        try simp only [Act.put, sA, sZ, sS]
        refine tkU (i := 15) rfl ?_
        try simp only [Act.put, sA, sZ, sS]
        refine tkU (i := 16) rfl ?_
        try simp only [Act.put, sA, sZ, sS]
        refine tkN (i := 17) rfl ?_
        try simp only [Act.put, sA, sZ, sS]
        refine tkN (i := 18) rfl ?_
        try simp only [Act.put, sA, sZ, sS]
        refine tkN (i := 19) rfl ?_
        try simp only [Act.put, sA, sZ, sS]
        refine tkN (i := 20) rfl ?_
        try simp only [Act.put, sA, sZ, sS]
        refine tkN (i := 21) rfl ?_
        try simp only [Act.put, sA, sZ, sS]
        refine tkN (i := 22) rfl ?_
        try simp only [Act.put, sA, sZ, sS]
        refine tkN (i := 23) rfl ?_
        try simp only [Act.put, sA, sZ, sS]
        refine tkN (i := 24) rfl ?_
        try simp only [Act.put, sA, sZ, sS]
        refine tkN (i := 25) rfl ?_
        try simp only [Act.put, sA, sZ, sS]
        refine tkN (i := 26) rfl ?_
        try simp only [Act.put, sA, sZ, sS]
        refine tkN (i := 27) rfl ?_
        try simp only [Act.put, sA, sZ, sS]
        refine tkN (i := 28) rfl ?_
        try simp only [Act.put, sA, sZ, sS]
        refine wpAnyH_done (by kernel_rfl) ?_ _
        clear hHeld
        go_wp2_with fail
        go_meet
        refine ⟨?_, ?_, ?_, rfl⟩
        · exact congrArg Value.bool ((refN a1).trans HBN.out)
        · exact congrArg Value.bool ((refN a3).trans HBC.out)
        · exact congrArg Value.bool ((refY a5).trans HBM.out)
      · refine wp_region_held_drew (S := fun w' => w'.cell? ⟨pb, 1, none⟩ = some (.int .i64 cl) ∧ w'.cell? ⟨pb, 2, none⟩ = some (.int .i64 nd) ∧ w'.cell? ⟨pb, 3, none⟩ = some (.int .i64 ms)) (by kernel_rfl) (⟨c1, c2, c3⟩) (fun hHeld => ?_)
        refine tkN (i := 0) rfl ?_
        try simp only [Act.put, sA, sZ, sS]
        refine tkN (i := 1) rfl ?_
        try simp only [Act.put, sA, sZ, sS]
        refine tkN (i := 2) rfl ?_
        try simp only [Act.put, sA, sZ, sS]
        refine tkN (i := 3) rfl ?_
        try simp only [Act.put, sA, sZ, sS]
        refine tkU (i := 4) rfl ?_
        try simp only [Act.put, sA, sZ, sS]
        refine tkU (i := 5) rfl ?_
        try simp only [Act.put, sA, sZ, sS]
        refine tkU (i := 6) rfl ?_
        try simp only [Act.put, sA, sZ, sS]
        refine tkU (i := 7) rfl ?_
        try simp only [Act.put, sA, sZ, sS]
        refine tkN (i := 8) rfl ?_
        try simp only [Act.put, sA, sZ, sS]
        refine tkN (i := 9) rfl ?_
        try simp only [Act.put, sA, sZ, sS]
        refine tkN (i := 10) rfl ?_
        try simp only [Act.put, sA, sZ, sS]
        refine tkN (i := 11) rfl ?_
        try simp only [Act.put, sA, sZ, sS]
        refine tkN (i := 12) rfl ?_
        try simp only [Act.put, sA, sZ, sS]
        refine tkU (i := 13) rfl ?_
        try simp only [Act.put, sA, sZ, sS]
        refine tkU (i := 14) rfl ?_
        try simp only [Act.put, sA, sZ, sS]
        refine tkU (i := 15) rfl ?_
        try simp only [Act.put, sA, sZ, sS]
        refine tkU (i := 16) rfl ?_
        try simp only [Act.put, sA, sZ, sS]
        refine tkN (i := 17) rfl ?_
        try simp only [Act.put, sA, sZ, sS]
        refine tkN (i := 18) rfl ?_
        try simp only [Act.put, sA, sZ, sS]
        refine tkN (i := 19) rfl ?_
        try simp only [Act.put, sA, sZ, sS]
        refine tkN (i := 20) rfl ?_
        try simp only [Act.put, sA, sZ, sS]
        refine tkN (i := 21) rfl ?_
        try simp only [Act.put, sA, sZ, sS]
        refine tkU (i := 22) rfl ?_
        try simp only [Act.put, sA, sZ, sS]
        refine tkU (i := 23) rfl ?_
        try simp only [Act.put, sA, sZ, sS]
        refine tkU (i := 24) rfl ?_
        try simp only [Act.put, sA, sZ, sS]
        refine tkN (i := 25) rfl ?_
        try simp only [Act.put, sA, sZ, sS]
        refine tkN (i := 26) rfl ?_
        try simp only [Act.put, sA, sZ, sS]
        refine tkN (i := 27) rfl ?_
        try simp only [Act.put, sA, sZ, sS]
        refine tkN (i := 28) rfl ?_
        try simp only [Act.put, sA, sZ, sS]
        refine wpAnyH_done (by kernel_rfl) ?_ _
        clear hHeld
        go_wp2_with fail
        go_meet
        refine ⟨?_, ?_, ?_, rfl⟩
        · exact congrArg Value.bool ((refN a1).trans HBN.out)
        · exact congrArg Value.bool ((refN a3).trans HBC.out)
        · exact congrArg Value.bool ((refN a5).trans HBM.out)
    case rest =>
      obtain ⟨rfl, rfl, rfl, rfl⟩ := hcut
      have HC3 := Lib.hid (HC2.out.newer (New.refl w2).drew)
      generalize w2.drew = w3 at *
      clear HC2 c1 c2 c3
      obtain ⟨q, X1, e1, R1, F1, K1⟩ := rf_start n m cl
      obtain ⟨X2, e2, R2, F2⟩ := rf_ask R1 F1 cl nd K1
      obtain ⟨X3, e3, R3⟩ := rf_tick (by have := HNM.out; omega) R2 F2 nd
      obtain ⟨X4, e4, R4⟩ := rf_suspect R3 ms nd
      have e5 := rf_learn R4 nd ms
      have e5c := rf_config R4 ms
      have e5l := rf_list R4 nd
      obtain ⟨X6, e6, e6r, e6c, e6b⟩ := rf_kill R4 nd
      have e9 := rf_told R4 e6c cl
      rw [refc HBC.out] at e1
      rw [refc2 HBN.out HBC.out] at e2
      rw [refc HBN.out] at e3 e6
      rw [refc2 HBN.out HBM.out] at e4 e5
      have E1 := Lib.hid e1
      have E2 := Lib.hid e2
      have E3 := Lib.hid e3
      have E4 := Lib.hid e4
      have E5 := Lib.hid e5
      have E5C : Hid (((X4.config ms).e : Int) = if bM = true then 1 else 0) := Lib.hid (by rw [e5c, ← HBM.out]; by_cases h : 0 ≤ ms ∧ ms < 3 <;> simp [h, firstC])
      have E5L := Lib.hid e5l
      have ER4 := Lib.hid R4
      have E6 := Lib.hid e6
      have E6R := Lib.hid e6r
      have E9 := Lib.hid e9
      have EBG : Hid (X6.bg.length ≤ 3) := Lib.hid (by rw [e6b]; exact R4.bg)
      have EC1 : Hid ((Clu.new_ n m).cs.length = m) := Lib.hid (Rf.new_ n m).cl
      have EC2 : Hid (X1.cs.length = m ∧ X1.rs.length ≤ 5) := Lib.hid ⟨R1.cl, by rw [R1.rl]; exact HNM.out.2.1⟩
      have HM4 : Hid (m ≤ 4) := Lib.hid HNM.out.2.2.2
      clear e1 e2 e3 e4 e5 e5c e5l e6 e6r e6c e6b e9 R1 F1 K1 R2 F2 R3 R4
      go_upto_region 5 with fail
      obtain rfl : bN = false := HBT.out
      cases bC <;> cases bM
      all_goals as_aux_lemma =>
        obtain ⟨c1, c2, c3, c4⟩ := refP HP0.out HC3.out
        clear c2 c3 c4
        have hn4 := (New.refl w3).alloc (.cells #[.string ⟨#[107]⟩, .string ⟨#[]⟩, .bool false] 34)
        have HT4 := Lib.hid (TSl.oneW (y := kW) (Blk.mk_new w3 34 #[.string ⟨#[107]⟩, .string ⟨#[]⟩, .bool false]))
        have HC4 := Lib.hid (HC3.out.newer hn4)
        clear hn4 HC3
        go_wp2_with fail
        have hcs := cStart HC4.out.at_ HC4.out.okL (by decide) cl (s := 0) (l := [kW]) (A := some ⟨w3.heap.size, 0, none⟩) (cap := 1) (by decide) HT4.out (by decide)
        refine (hcs).mono ?_
        rintro e w5 ⟨rfl, ht⟩
        rw [E1.out] at ht ⊢
        obtain ⟨L5, hc5⟩ := HC4.out.turn (ht.mono (show 1 ≤ 2 by decide)) (by have h0 := CluOk.start (s := 0) HM4.out EC1.out HC4.out.ok (by decide) cl (by decide) [kW]; rw [E1.out] at h0; exact h0.mono (by decide))
        have HC5 := Lib.hid hc5
        clear ht hc5
        clear hcs c1
        obtain ⟨c1, c2, c3, c4⟩ := refP HP0.out HC5.out
        clear c3 c4
        dsimp only
        try simp only [cde, Bool.true_and, Bool.false_and, Bool.and_true, Bool.and_false, Bool.and_self, if_true, if_false, Bool.false_eq_true, ↓reduceIte]
        go_wp2_with fail
        refine (cAsk HC5.out.at_ HC5.out.okL (by decide) cl nd).mono ?_
        rintro e w6 ⟨rfl, ht⟩
        rw [E2.out] at ht ⊢
        obtain ⟨L6, hc6⟩ := HC5.out.turn (ht.mono (show 2 ≤ 3 by decide)) (by have h0 := CluOk.ask HM4.out EC2.out.1 EC2.out.2 HC5.out.ok (by decide) cl nd; rw [E2.out] at h0; exact h0.mono (by decide))
        have HC6 := Lib.hid hc6
        clear ht hc6
        clear c1 c2
        dsimp only
        try simp only [cde, Bool.true_and, Bool.false_and, Bool.and_true, Bool.and_false, Bool.and_self, if_true, if_false, Bool.false_eq_true, ↓reduceIte]
        go_upto_region 9 with fail
        have HCD := Lib.hid (HC6.out.newer (New.refl w6).drew)
        obtain ⟨c1, c2, c3, c4⟩ := refP HP0.out HC6.out
        clear c1 c4
        refine wp_region_held_drew (S := fun w' => w'.cell? ⟨pb, 2, none⟩ = some (.int .i64 nd) ∧ w'.cell? ⟨pb, 3, none⟩ = some (.int .i64 ms)) (by kernel_rfl) (⟨c2, c3⟩) (fun hHeld => ?_)
        refine tkN (i := 0) rfl ?_
        try simp only [Act.put, sA, sZ, sS]
        refine tkN (i := 1) rfl ?_
        try simp only [Act.put, sA, sZ, sS]
        refine tkN (i := 2) rfl ?_
        try simp only [Act.put, sA, sZ, sS]
        refine tkN (i := 4) rfl ?_
        try simp only [Act.put, sA, sZ, sS]
        refine tkN (i := 5) rfl ?_
        try simp only [Act.put, sA, sZ, sS]
        refine tkN (i := 6) rfl ?_
        try simp only [Act.put, sA, sZ, sS]
        refine tkN (i := 7) rfl ?_
        try simp only [Act.put, sA, sZ, sS]
        refine tkN (i := 8) rfl ?_
        try simp only [Act.put, sA, sZ, sS]
        refine stN (i := 3) rfl (fun K hK => ?_)
        go_simp
        refine (cTick HCD.out.at_ HCD.out.okL (by decide) nd HI.out.2.1).mono ?_
        rintro e w7 ⟨rfl, ht⟩
        rw [E3.out] at ht ⊢
        obtain ⟨L7, hc7⟩ := HCD.out.turn ht (by have h0 := HCD.out.ok.tick (HCD.out.good (by decide)) (by decide) nd; rw [E3.out] at h0; exact h0.mono (by decide))
        have HC7 := Lib.hid hc7
        clear ht hc7 c2 c3
        obtain ⟨c1, c2, c3, c4⟩ := refP HP0.out HC7.out
        clear c1 c4
        dsimp only
        try simp only [cde, Bool.true_and, Bool.false_and, Bool.and_true, Bool.and_false, Bool.and_self, if_true, if_false, Bool.false_eq_true, ↓reduceIte]
        refine hK.out _ _ ?_ (fun hHeld => ?_)
        · exact ⟨c2, c3⟩
        clear hK K
        try simp only [Act.put, sA, sZ, sS]
        refine stN (i := 9) rfl (fun K hK => ?_)
        go_simp
        refine (cSuspect HC7.out.at_ (by decide) (HENV.out.new HC7.out.new) ms nd).mono ?_
        rintro e w8 ⟨rfl, ht⟩
        rw [E4.out] at ht ⊢
        obtain ⟨L8, hc8⟩ := HC7.out.turn ht (by have h0 := HC7.out.ok.suspect ms nd; rw [E4.out] at h0; exact h0.mono (by decide))
        have HC8 := Lib.hid hc8
        clear ht hc8 c2 c3
        obtain ⟨c1, c2, c3, c4⟩ := refP HP0.out HC8.out
        clear c1 c4
        dsimp only
        try simp only [cde, Bool.true_and, Bool.false_and, Bool.and_true, Bool.and_false, Bool.and_self, if_true, if_false, Bool.false_eq_true, ↓reduceIte]
        refine hK.out _ _ ?_ (fun hHeld => ?_)
        · exact ⟨c2, c3⟩
        clear hK K
        try simp only [Act.put, sA, sZ, sS]
        refine tkN (i := 10) rfl ?_
        try simp only [Act.put, sA, sZ, sS]
        refine tkN (i := 11) rfl ?_
        try simp only [Act.put, sA, sZ, sS]
        refine wpAnyH_done (by kernel_rfl) ?_ _
        clear hHeld
        go_wp2_with fail
        refine (cLearn HC8.out.at_ HC8.out.okL (by decide) (HENV.out.new HC8.out.new) nd ms HI.out.2.1).mono ?_
        rintro e w9 ⟨rfl, ht⟩
        rw [E5.out] at ht ⊢
        obtain ⟨L9, hc9⟩ := HC8.out.turn ht (HC8.out.ok.mono (by decide))
        have HC9 := Lib.hid hc9
        clear ht hc9 c2 c3
        obtain ⟨c1, c2, c3, c4⟩ := refP HP0.out HC9.out
        clear c1 c4
        dsimp only
        try simp only [cde, Bool.true_and, Bool.false_and, Bool.and_true, Bool.and_false, Bool.and_self, if_true, if_false, Bool.false_eq_true, ↓reduceIte]
        go_wp2_with fail
        obtain ⟨ra, hrep⟩ := cRep HC9.out.at_ HI.out.2.1 ER4.out HBN.out
        refine hrep.mono ?_
        rintro e w10 ⟨rfl, rfl⟩
        clear hrep
        try simp only [cde, Bool.true_and, Bool.false_and, Bool.and_true, Bool.and_false, Bool.and_self, if_true, if_false, Bool.false_eq_true, ↓reduceIte]
        go_wp2_with fail
        refine (cConf HC9.out.at_ (by decide) (HENV.out.new HC9.out.new) ms).mono ?_
        rintro e w11 ⟨CA, cn, rfl, hcs, hn11⟩
        have HC11 := Lib.hid (HC9.out.newer hn11)
        clear hcs hn11 c2 c3
        obtain ⟨c1, c2, c3, c4⟩ := refP HP0.out HC11.out
        clear c1 c3 c4
        rw [E5C.out]
        try simp only [cde, Bool.true_and, Bool.false_and, Bool.and_true, Bool.and_false, Bool.and_self, if_true, if_false, Bool.false_eq_true, ↓reduceIte]
        have hfl := fldC
        go_wp2_with fail
        clear hfl
        refine (cList HC11.out.at_ (by decide) nd).mono ?_
        rintro e w12 ⟨v12, rfl, hr12, hn12⟩
        obtain ⟨LA, lc, rfl⟩ := hr12.shape
        rw [E5L.out]
        have HC12 := Lib.hid (HC11.out.newer hn12)
        clear hr12 hn12 c2
        obtain ⟨c1, c2, c3, c4⟩ := refP HP0.out HC12.out
        clear c1 c3 c4
        try dsimp only [List.length_nil]
        go_wp2_with fail
        refine (cKill HC12.out.at_ (by decide) nd).mono ?_
        rintro e w13 ⟨rfl, ht⟩
        rw [E6.out] at ht ⊢
        obtain ⟨L13, hc13⟩ := HC12.out.turn ht (by have h0 := HC12.out.ok.kill nd; rw [E6.out] at h0; exact h0.mono (by decide))
        have HC13 := Lib.hid hc13
        clear ht hc13 c2
        obtain ⟨c1, c2, c3, c4⟩ := refP HP0.out HC13.out
        clear c3
        dsimp only
        try simp only [cde, Bool.true_and, Bool.false_and, Bool.and_true, Bool.and_false, Bool.and_self, if_true, if_false, Bool.false_eq_true, ↓reduceIte]
        go_wp2_with fail
        refine (Replica_no HC13.out.at_ nd HI.out.2.1 E6R.out).mono ?_
        rintro e w14 ⟨rfl, rfl⟩
        go_wp2_with fail
        refine (cTick HC13.out.at_ HC13.out.okL (by decide) nd HI.out.2.1).mono ?_
        rw [gone_tick E6R.out]
        rintro e w15 ⟨rfl, ht⟩
        obtain ⟨L15, hc15⟩ := HC13.out.turn ht (HC13.out.ok.mono (by decide))
        have HC15 := Lib.hid hc15
        clear ht hc15 c1 c2 c4
        obtain ⟨c1, c2, c3, c4⟩ := refP HP0.out HC15.out
        clear c3
        dsimp only
        go_wp2_with fail
        refine (cLearn HC15.out.at_ HC15.out.okL (by decide) (HENV.out.new HC15.out.new) nd 0 HI.out.2.1).mono ?_
        rw [gone_learn E6R.out]
        rintro e w16 ⟨rfl, ht⟩
        obtain ⟨L16, hc16⟩ := HC15.out.turn ht (HC15.out.ok.mono (by decide))
        have HC16 := Lib.hid hc16
        clear ht hc16 c1 c2 c4
        obtain ⟨c1, c2, c3, c4⟩ := refP HP0.out HC16.out
        clear c2 c3
        dsimp only
        go_wp2_with fail
        refine (cTold HC16.out.at_ cl).mono ?_
        rw [E9.out]
        rintro e w17 ⟨rfl, hn17⟩
        have HV := Lib.hid (Blk.mk_new w17 46 #[.int .u64 0, .int .i64 0])
        have HC18 := Lib.hid (HC16.out.newer (hn17.alloc (.cells #[.int .u64 0, .int .i64 0] 46)))
        clear hn17 c1 c4
        obtain ⟨c1, c2, c3, c4⟩ := refP HP0.out HC18.out
        clear c1 c2 c3
        obtain ⟨z0, z1, z2, zz⟩ := Blk2F HV.out
        dsimp only
        rw [show ((0 : Nat) : Int) = 0 from rfl]
        go_upto_region 21 with fail
        generalize w17.alloc _ = w18 at *
        clear z0 z1 z2 zz
        have HC20 := Lib.hid (HC18.out.newer (New.refl w18).drew)
        have HV2 := Lib.hid (HV.out.new (New.refl w18).drew)
        obtain ⟨X7, e7, e7l, e7s⟩ := copyV (x6 := X6) (by have := EBG.out; omega) at_
        have e8 := deliverV X7 at_
        rcases (show at_ < 0 ∨ (0 ≤ at_ ∧ at_ < (X6.bg.length : Int)) ∨ (0 ≤ at_ ∧ (X6.bg.length : Int) ≤ at_) by omega) with hh0 | ⟨hh0, hh1⟩ | ⟨hh0, hh1⟩
        · rw [if_neg (by omega)] at e7
          rw [e7s (by omega), if_neg (by omega)] at e8
          have E7 := Lib.hid e7
          have E8 := Lib.hid (show (X7.deliver at_).2 = 212 from (by rw [e7s (by omega)]; exact e8))
          clear e7 e7l e7s e8
          have hh2 : ¬ (0 ≤ at_) := by omega
          refine wp_region_held_drew (S := fun w' => w'.cell? ⟨pb, 4, none⟩ = some (.int .i64 at_)) (by kernel_rfl) (c4) (fun hHeld => ?_)
          refine tkN (i := 0) rfl ?_
          try simp only [Act.put, sA, sZ, sS]
          refine tkN (i := 1) rfl ?_
          try simp only [Act.put, sA, sZ, sS]
          refine tkN (i := 2) rfl ?_
          try simp only [Act.put, sA, sZ, sS]
          refine tkN (i := 3) rfl ?_
          try simp only [Act.put, sA, sZ, sS]
          refine tkU (i := 4) rfl ?_
          try simp only [Act.put, sA, sZ, sS]
          refine tkU (i := 5) rfl ?_
          try simp only [Act.put, sA, sZ, sS]
          refine tkU (i := 6) rfl ?_
          try simp only [Act.put, sA, sZ, sS]
          refine tkU (i := 7) rfl ?_
          try simp only [Act.put, sA, sZ, sS]
          refine tkU (i := 8) rfl ?_
          try simp only [Act.put, sA, sZ, sS]
          refine tkN (i := 9) rfl ?_
          try simp only [Act.put, sA, sZ, sS]
          refine tkN (i := 10) rfl ?_
          try simp only [Act.put, sA, sZ, sS]
          refine wpAnyH_done (by kernel_rfl) ?_ _
          clear hHeld c4
          obtain ⟨c1, c2, c3, c4⟩ := refP HP0.out HC20.out
          clear c1 c2 c3
          obtain ⟨z0, z1, z2, zz⟩ := Blk2F HV2.out
          generalize w18.drew = w20 at *
          go_wp2_with fail
          refine (cCopy HC20.out.at_ at_).mono ?_
          rintro e w21 ⟨rfl, ht⟩
          rw [E7.out] at ht ⊢
          obtain ⟨L21, hc21⟩ := HC20.out.turn ht (by have h0 := HC20.out.ok.copy at_; rw [E7.out] at h0; exact h0.mono (by decide))
          have HC21 := Lib.hid hc21
          clear ht hc21 c4 z0 z1 z2 zz
          obtain ⟨c1, c2, c3, c4⟩ := refP HP0.out HC21.out
          clear c1 c2 c3
          dsimp only
          go_wp2_with fail
          refine (cDeliver HC21.out.at_ HC21.out.okL (by decide) at_).mono ?_
          rintro e w22 ⟨rfl, ht⟩
          obtain ⟨L22, hc22⟩ := HC21.out.turn ht ((HC21.out.ok.deliver (HC21.out.good (by decide)) (by decide) at_).mono (by decide))
          have HN22 := Lib.hid (HN.out.trans hc22.new)
          clear ht hc22 c4
          rw [E8.out]
          go_wp2_with fail
          go_ret
          exact ⟨rfl, HN22.out⟩
        · rw [if_pos ⟨hh0, hh1⟩] at e7
          rw [if_pos ⟨hh0, by omega⟩] at e8
          have E7 := Lib.hid e7
          have E8 := Lib.hid (show (X7.deliver at_).2 = 0 from e8)
          clear e7 e7l e7s e8
          refine wp_region_held_drew (S := fun w' => w'.cell? ⟨pb, 4, none⟩ = some (.int .i64 at_)) (by kernel_rfl) (c4) (fun hHeld => ?_)
          refine tkN (i := 0) rfl ?_
          try simp only [Act.put, sA, sZ, sS]
          refine tkN (i := 1) rfl ?_
          try simp only [Act.put, sA, sZ, sS]
          refine tkN (i := 2) rfl ?_
          try simp only [Act.put, sA, sZ, sS]
          refine tkN (i := 3) rfl ?_
          try simp only [Act.put, sA, sZ, sS]
          refine tkN (i := 4) rfl ?_
          try simp only [Act.put, sA, sZ, sS]
          refine tkN (i := 5) rfl ?_
          try simp only [Act.put, sA, sZ, sS]
          refine tkN (i := 6) rfl ?_
          try simp only [Act.put, sA, sZ, sS]
          refine stN (i := 7) rfl (fun K hK => ?_)
          go_simp
          refine (cUnder HC20.out.at_).mono ?_
          rintro e w21 ⟨rfl, rfl⟩
          refine hK.out _ _ ?_ (fun hHeld => ?_)
          · exact c4
          clear hK K
          try simp only [Act.put, sA, sZ, sS]
          refine tkN (i := 8) rfl ?_
          try simp only [Act.put, sA, sZ, sS]
          refine tkN (i := 9) rfl ?_
          try simp only [Act.put, sA, sZ, sS]
          refine tkN (i := 10) rfl ?_
          try simp only [Act.put, sA, sZ, sS]
          refine wpAnyH_done (by kernel_rfl) ?_ _
          clear hHeld c4
          obtain ⟨c1, c2, c3, c4⟩ := refP HP0.out HC20.out
          clear c1 c2 c3
          obtain ⟨z0, z1, z2, zz⟩ := Blk2F HV2.out
          generalize w18.drew = w20 at *
          go_wp2_with fail
          refine (cCopy HC20.out.at_ at_).mono ?_
          rintro e w21 ⟨rfl, ht⟩
          rw [E7.out] at ht ⊢
          obtain ⟨L21, hc21⟩ := HC20.out.turn ht (by have h0 := HC20.out.ok.copy at_; rw [E7.out] at h0; exact h0.mono (by decide))
          have HC21 := Lib.hid hc21
          clear ht hc21 c4 z0 z1 z2 zz
          obtain ⟨c1, c2, c3, c4⟩ := refP HP0.out HC21.out
          clear c1 c2 c3
          dsimp only
          go_wp2_with fail
          refine (cDeliver HC21.out.at_ HC21.out.okL (by decide) at_).mono ?_
          rintro e w22 ⟨rfl, ht⟩
          obtain ⟨L22, hc22⟩ := HC21.out.turn ht ((HC21.out.ok.deliver (HC21.out.good (by decide)) (by decide) at_).mono (by decide))
          have HN22 := Lib.hid (HN.out.trans hc22.new)
          clear ht hc22 c4
          rw [E8.out]
          go_wp2_with fail
          go_ret
          exact ⟨rfl, HN22.out⟩
        · rw [if_neg (by omega)] at e7
          rw [e7s (by omega), if_neg (by omega)] at e8
          have E7 := Lib.hid e7
          have E8 := Lib.hid (show (X7.deliver at_).2 = 212 from (by rw [e7s (by omega)]; exact e8))
          clear e7 e7l e7s e8
          have hh2 : ¬ (at_ < (X6.bg.length : Int)) := by omega
          refine wp_region_held_drew (S := fun w' => w'.cell? ⟨pb, 4, none⟩ = some (.int .i64 at_)) (by kernel_rfl) (c4) (fun hHeld => ?_)
          refine tkN (i := 0) rfl ?_
          try simp only [Act.put, sA, sZ, sS]
          refine tkN (i := 1) rfl ?_
          try simp only [Act.put, sA, sZ, sS]
          refine tkN (i := 2) rfl ?_
          try simp only [Act.put, sA, sZ, sS]
          refine tkN (i := 3) rfl ?_
          try simp only [Act.put, sA, sZ, sS]
          refine tkN (i := 4) rfl ?_
          try simp only [Act.put, sA, sZ, sS]
          refine tkN (i := 5) rfl ?_
          try simp only [Act.put, sA, sZ, sS]
          refine tkN (i := 6) rfl ?_
          try simp only [Act.put, sA, sZ, sS]
          refine stN (i := 7) rfl (fun K hK => ?_)
          go_simp
          refine (cUnder HC20.out.at_).mono ?_
          rintro e w21 ⟨rfl, rfl⟩
          refine hK.out _ _ ?_ (fun hHeld => ?_)
          · exact c4
          clear hK K
          try simp only [Act.put, sA, sZ, sS]
          refine tkN (i := 8) rfl ?_
          try simp only [Act.put, sA, sZ, sS]
          refine tkN (i := 9) rfl ?_
          try simp only [Act.put, sA, sZ, sS]
          refine tkN (i := 10) rfl ?_
          try simp only [Act.put, sA, sZ, sS]
          refine wpAnyH_done (by kernel_rfl) ?_ _
          clear hHeld c4
          obtain ⟨c1, c2, c3, c4⟩ := refP HP0.out HC20.out
          clear c1 c2 c3
          obtain ⟨z0, z1, z2, zz⟩ := Blk2F HV2.out
          generalize w18.drew = w20 at *
          go_wp2_with fail
          refine (cCopy HC20.out.at_ at_).mono ?_
          rintro e w21 ⟨rfl, ht⟩
          rw [E7.out] at ht ⊢
          obtain ⟨L21, hc21⟩ := HC20.out.turn ht (by have h0 := HC20.out.ok.copy at_; rw [E7.out] at h0; exact h0.mono (by decide))
          have HC21 := Lib.hid hc21
          clear ht hc21 c4 z0 z1 z2 zz
          obtain ⟨c1, c2, c3, c4⟩ := refP HP0.out HC21.out
          clear c1 c2 c3
          dsimp only
          go_wp2_with fail
          refine (cDeliver HC21.out.at_ HC21.out.okL (by decide) at_).mono ?_
          rintro e w22 ⟨rfl, ht⟩
          obtain ⟨L22, hc22⟩ := HC21.out.turn ht ((HC21.out.ok.deliver (HC21.out.good (by decide)) (by decide) at_).mono (by decide))
          have HN22 := Lib.hid (HN.out.trans hc22.new)
          clear ht hc22 c4
          rw [E8.out]
          go_wp2_with fail
          go_ret
          exact ⟨rfl, HN22.out⟩

end
end Go.Proofs.YtlhlcdjkacglnaaGreatDoor
