/- The walk of the law BatchBack (chapter 5): for every input it answers true. Printed by genLaw05.py. -/
import Derived.Test.YtdobingccipkkaaLaw05
namespace Go.Proofs.Ytdobingccipkkaa
open Go.RowKit Go.Lap
set_option linter.unusedVariables false

set_option maxRecDepth 100000 in
set_option maxHeartbeats 8000000 in
theorem batchBack_walk (c r s : Nat) (v : Value) (l : List Wri) (s0 : ByteArray) (w : World) (hc : c < 18446744073709551616) (hr : r < 18446744073709551616) (hst : s < 18446744073709551616) (hs : SlIn w 3 Wri.enc v l) :
    Calls Try.prog 6 #[.agg #[.int .u64 (c : Int), .int .u64 (r : Int), .int .u64 (s : Int), v], .string s0] w fun e w' => e = .returned (.bool true) ∧ New w w' := by
  obtain ⟨bs, hb0⟩ : ∃ bs, s0 = str bs := ⟨s0.data.toList, (str_data s0).symm⟩
  subst hb0
  have hlen : (str bs).size = bs.length := str_size bs
  obtain ⟨A, n, cap, rfl⟩ := hs.shape
  have hB := Blk.mk_new w 25 #[.int .u64 (c : Int), .int .u64 (r : Int), .int .u64 (s : Int), .slice A n cap]
  have hN := (New.refl w).alloc (.cells #[.int .u64 (c : Int), .int .u64 (r : Int), .int .u64 (s : Int), .slice A n cap] 25)
  have hs1 := hs.new hN
  clear hs
  go_enter Try.func6, Try.ntmps6
  go_wp2_with fail
  refine (few_all c r s _ l _ hs1).mono ?_
  rintro e w1 ⟨rfl, hn1⟩
  have hB1 := hB.new hn1
  have hN1 := hN.trans hn1
  have hs2 := hs1.new hn1
  clear hB hN hs1 hn1
  obtain ⟨p0, p1, p2, p3, p4, pz⟩ := Blk4F hB1
  cases hf : fewB l with
  | false =>
    clear hf
    go_wp2_with fail
    refine (awake05 _).mono ?_
    rintro e wz ⟨rfl, hnz⟩
    go_wp2_with fail
    go_ret
    exact ⟨rfl, hN1.trans hnz⟩
  | true =>
    have hl80 := fewB_len hf
    clear hf
    by_cases h5 : 5000 < bs.length
    · have h5a : (5000 : Int) < ((str bs).size : Int) := by omega
      go_wp2_with fail
      refine (awake05 _).mono ?_
      rintro e wz ⟨rfl, hnz⟩
      go_wp2_with fail
      go_ret
      exact ⟨rfl, hN1.trans hnz⟩
    have h5a : ¬ (5000 : Int) < ((str bs).size : Int) := by omega
    go_wp2_with fail
    refine (putB_any c r s _ l _ (by omega) hc hr hst hs2).mono ?_
    rintro e w2 ⟨hn2, hp⟩
    have hB2 := hB1.new hn2
    have hN2 := hN1.trans hn2
    have HS := Lib.hid (hs2.new hn2)
    clear hB1 hN1 hs2 hn2 p0 p1 p2 p3 p4 pz
    rcases hp with ⟨hch, u, rfl, ho2⟩ | ⟨hch, rfl⟩
    rotate_left
    · have hne : ((chk l : Int) == 0) = false := by simpa using hch
      have hne2 : ((chk l : Int) != 0) = true := by simpa using hch
      clear hch HS hB2
      generalize chk l = cx at *
      go_upto_region 8 with fail
      obtain ⟨vb, wb, hrun, hslb, hnb⟩ := run_bytesP (str bs) w2
      rw [show (str bs).data.toList = bs from by simp [str]] at hslb
      go_wp2_with fail
      refine (getB_any bs vb wb (by omega) hslb).mono ?_
      rintro e w6 ⟨hn6, hg6⟩
      have hN6 := hN2.trans (hnb.trans hn6)
      clear hslb hnb hn6 hrun
      rw [getC_getR] at hg6
      rcases hg6 with ⟨ha6, rfl⟩ | ⟨a6, v6, ha6, rfl, ho6⟩
      · clear ha6
        go_wp2_with fail
        refine (awake05 _).mono ?_
        rintro e wz ⟨rfl, hnz⟩
        go_wp2_with fail
        go_ret
        exact ⟨rfl, (hN6.alloc _).trans hnz⟩
      · have hs6 := Owns.slIn Wri.encOk ho6
        obtain ⟨u6, m6, k6, rfl⟩ := hs6.shape
        clear ho6
        obtain ⟨hca, hra, hsa, hcha, henc⟩ := getR_back ha6
        have hl8 := (chk_ok hcha).2.1
        clear ha6
        have hA6 := (New.refl w6).alloc (.cells #[.int .u64 (a6.c : Int), .int .u64 (a6.r : Int), .int .u64 (a6.s : Int), .slice u6 m6 k6] 25)
        have hs7 := hs6.new hA6
        have hN7 := hN6.trans hA6
        clear hs6 hA6 hN6
        go_wp2_with fail
        refine (putB_any a6.c a6.r a6.s _ a6.l _ (by omega) hca hra hsa hs7).mono ?_
        rintro e w8 ⟨hn8, hp8⟩
        rcases hp8 with ⟨_, u8, rfl, ho8⟩ | ⟨hb, _⟩
        rotate_left
        · exact absurd hcha hb
        rw [henc] at ho8
        have hs8 := Owns.slIn bEncOk ho8
        obtain ⟨ua8, un8, uc8, rfl⟩ := hs8.shape
        have hcv := run_str w8 hs8
        have hN8 := hN7.trans hn8
        clear ho8 hs8 hn8 hN7 hs7 hca hra hsa hcha henc hl8
        go_wp2_with fail
        refine (awake05 _).mono ?_
        rintro e wz ⟨rfl, hnz⟩
        go_wp2_with fail
        go_ret
        exact ⟨rfl, hN8.trans hnz⟩
    have hu := Owns.slIn bEncOk ho2
    obtain ⟨ua, un, uc, rfl⟩ := hu.shape
    clear ho2
    obtain ⟨_, hl8c, hall⟩ := chk_ok hch
    have hlen2 : (encB c r s l).length ≤ 100000000 := by
      have h1 := varB_len10 hc
      have h2 := varB_len10 hr
      have h3 := varB_len10 hst
      have h4 := varB_len10 (n := l.length) (by omega)
      have h5 : ∀ m : List Wri, (∀ x ∈ m, chk1 x = 0) → (m.flatMap encW).length ≤ 400 * m.length := by
        intro m
        induction m with
        | nil => intro _; simp
        | cons x m ih => intro hm; have a := encW_len (hm x (by simp)); have b := ih (fun y hy => hm y (by simp [hy])); simp only [List.flatMap_cons, List.length_append, List.length_cons]; omega
      have h6 := h5 l hall
      simp only [encB, encH, List.length_append]
      omega
    go_wp2_with fail
    refine (getB_any (encB c r s l) _ w2 hlen2 hu).mono ?_
    rintro e w3 ⟨hn3, hg3⟩
    rw [getC_getR, getR_enc hc hr hst hch] at hg3
    rcases hg3 with ⟨hb, _⟩ | ⟨a3, v3, hb, rfl, ho3⟩
    · cases hb
    obtain rfl := Option.some.inj hb
    dsimp only at ho3 ⊢
    have hs3 := Owns.slIn Wri.encOk ho3
    obtain ⟨u3, m3, k3, rfl⟩ := hs3.shape
    clear ho3 hb hlen2 hu hall
    have hG3 := Blk.mk_new w3 25 #[.int .u64 (c : Int), .int .u64 (r : Int), .int .u64 (s : Int), .slice u3 m3 k3]
    have hA3 := (New.refl w3).alloc (.cells #[.int .u64 (c : Int), .int .u64 (r : Int), .int .u64 (s : Int), .slice u3 m3 k3] 25)
    have hB4 := (hB2.new hn3).new hA3
    have hN4 := (hN2.trans hn3).trans hA3
    have HS4 := Lib.hid ((HS.out.new hn3).new hA3)
    have HT4 := Lib.hid (hs3.new hA3)
    clear hA3 hs3 hn3 HS hB2 hN2
    obtain ⟨p0, p1, p2, p3, p4, pz⟩ := Blk4F hB4
    obtain ⟨q0, q1, q2, q3, q4, qz⟩ := Blk4F hG3
    clear hB4 hG3
    go_upto_region 6 with fail
    generalize w3.heap.size = g3 at *
    generalize w3.alloc _ = w4 at *
    go_wp2_with fail
    refine (refSame_any c r s _ l c r s _ l _ (by omega) (by omega) HS4.out HT4.out).mono ?_
    rintro e w5 ⟨rfl, hn5⟩
    rw [show sameB c r s l c r s l = true by simp [sameB]]
    have hN5 := hN4.trans hn5
    clear hN4 hn5 p0 p1 p2 p3 p4 pz q0 q1 q2 q3 q4 qz
    go_upto_region 8 with fail
    obtain ⟨vb, wb, hrun, hslb, hnb⟩ := run_bytesP (str bs) w5
    rw [show (str bs).data.toList = bs from by simp [str]] at hslb
    go_wp2_with fail
    refine (getB_any bs vb wb (by omega) hslb).mono ?_
    rintro e w6 ⟨hn6, hg6⟩
    have hN6 := hN5.trans (hnb.trans hn6)
    clear hslb hnb hn6 hrun
    rw [getC_getR] at hg6
    rcases hg6 with ⟨ha6, rfl⟩ | ⟨a6, v6, ha6, rfl, ho6⟩
    · clear ha6
      go_wp2_with fail
      refine (awake05 _).mono ?_
      rintro e wz ⟨rfl, hnz⟩
      go_wp2_with fail
      go_ret
      exact ⟨rfl, (hN6.alloc _).trans hnz⟩
    · have hs6 := Owns.slIn Wri.encOk ho6
      obtain ⟨u6, m6, k6, rfl⟩ := hs6.shape
      clear ho6
      obtain ⟨hca, hra, hsa, hcha, henc⟩ := getR_back ha6
      have hl8 := (chk_ok hcha).2.1
      clear ha6
      have hA6 := (New.refl w6).alloc (.cells #[.int .u64 (a6.c : Int), .int .u64 (a6.r : Int), .int .u64 (a6.s : Int), .slice u6 m6 k6] 25)
      have hs7 := hs6.new hA6
      have hN7 := hN6.trans hA6
      clear hs6 hA6 hN6
      go_wp2_with fail
      refine (putB_any a6.c a6.r a6.s _ a6.l _ (by omega) hca hra hsa hs7).mono ?_
      rintro e w8 ⟨hn8, hp8⟩
      rcases hp8 with ⟨_, u8, rfl, ho8⟩ | ⟨hb, _⟩
      rotate_left
      · exact absurd hcha hb
      rw [henc] at ho8
      have hs8 := Owns.slIn bEncOk ho8
      obtain ⟨ua8, un8, uc8, rfl⟩ := hs8.shape
      have hcv := run_str w8 hs8
      have hN8 := hN7.trans hn8
      clear ho8 hs8 hn8 hN7 hs7 hca hra hsa hcha henc hl8
      go_wp2_with fail
      refine (awake05 _).mono ?_
      rintro e wz ⟨rfl, hnz⟩
      go_wp2_with fail
      go_ret
      exact ⟨rfl, hN8.trans hnz⟩
end Go.Proofs.Ytdobingccipkkaa
