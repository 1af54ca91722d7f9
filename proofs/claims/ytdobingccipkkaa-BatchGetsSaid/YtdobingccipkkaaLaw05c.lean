/- The walk of the law BatchGets (chapter 5): for every input it answers true. Printed by genLaw05.py. -/
import Derived.Test.YtdobingccipkkaaLaw05
namespace Go.Proofs.Ytdobingccipkkaa
open Go.RowKit Go.Lap
set_option linter.unusedVariables false

set_option maxRecDepth 100000 in
set_option maxHeartbeats 8000000 in
theorem batchGets_walk (s0 : ByteArray) (w : World) :
    Calls Try.prog 5 #[.string s0] w fun e w' => e = .returned (.bool true) ∧ New w w' := by
  obtain ⟨bs, hb0⟩ : ∃ bs, s0 = str bs := ⟨s0.data.toList, (str_data s0).symm⟩
  subst hb0
  have hlen : (str bs).size = bs.length := str_size bs
  by_cases h5 : 5000 < bs.length
  · have h5a : (5000 : Int) < ((str bs).size : Int) := by omega
    go_enter Try.func5, Try.ntmps5
    go_wp2_with fail
    refine (awake05 _).mono ?_
    rintro e w2 ⟨rfl, hn2⟩
    go_wp2_with fail
    go_ret
    exact ⟨rfl, hn2⟩
  have h5a : ¬ (5000 : Int) < ((str bs).size : Int) := by omega
  go_enter Try.func5, Try.ntmps5
  obtain ⟨vb, wb, hrun, hslb, hnb⟩ := run_bytesP (str bs) w
  rw [show (str bs).data.toList = bs from by simp [str]] at hslb
  go_wp2_with fail
  refine (getB_any bs vb wb (by omega) hslb).mono ?_
  rintro e w1 ⟨hn1, hg⟩
  have hN1 := hnb.trans hn1
  clear hslb hnb hn1 hrun
  rw [getC_getR] at hg

  rcases hg with ⟨ha, rfl⟩ | ⟨a, v1, ha, rfl, ho1⟩
  · skip
    have hG1 := Blk.mk_new w1 25 #[.int .u64 0, .int .u64 0, .int .u64 0, .slice none 0 0]
    have hA1 := (New.refl w1).alloc (.cells #[.int .u64 0, .int .u64 0, .int .u64 0, .slice none 0 0] 25)
    go_wp2_with fail
    refine (refGet_any bs _ (by omega)).mono ?_
    rintro e w2 ⟨hn2, hg2⟩
    rcases hg2 with ⟨_, rfl⟩ | ⟨a2, v2, hb, _⟩
    rotate_left
    · rw [ha] at hb
      cases hb
    have hG2 := Blk.mk_new w2 25 #[.int .u64 0, .int .u64 0, .int .u64 0, .slice none 0 0]
    have hA2 := (New.refl w2).alloc (.cells #[.int .u64 0, .int .u64 0, .int .u64 0, .slice none 0 0] 25)
    have hG1b := hG1.new (hn2.trans hA2)
    have hN2 := hN1.trans (hA1.trans (hn2.trans hA2))
    clear hG1 hA1 hn2 hA2 hN1 ha
    go_wp2_with fail
    refine (awake05 _).mono ?_
    rintro e w3 ⟨rfl, hn3⟩
    obtain ⟨p0, p1, p2, p3, p4, pz⟩ := Blk4F (hG1b.new hn3)
    obtain ⟨q0, q1, q2, q3, q4, qz⟩ := Blk4F (hG2.new hn3)
    have hN3 := hN2.trans hn3
    clear hG1b hG2 hN2
    generalize w1.heap.size = g1 at *
    generalize w2.heap.size = g2 at *
    go_wp2_with fail
    refine (refSame_any 0 0 0 _ [] 0 0 0 _ [] _ (by decide) (by decide) (SlIn.empty _ _ _ none 0) (SlIn.empty _ _ _ none 0)).mono ?_
    rintro e w4 ⟨rfl, hn4⟩
    rw [show sameB 0 0 0 [] 0 0 0 [] = true by simp [sameB]]
    go_wp2_with fail
    go_ret
    exact ⟨rfl, hN3.trans hn4⟩
  · skip
    have hs1 := Owns.slIn Wri.encOk ho1
    obtain ⟨u1, m1, k1, rfl⟩ := hs1.shape
    clear ho1
    have hG1 := Blk.mk_new w1 25 #[.int .u64 (a.c : Int), .int .u64 (a.r : Int), .int .u64 (a.s : Int), .slice u1 m1 k1]
    have hA1 := (New.refl w1).alloc (.cells #[.int .u64 (a.c : Int), .int .u64 (a.r : Int), .int .u64 (a.s : Int), .slice u1 m1 k1] 25)
    go_wp2_with fail
    refine (refGet_any bs _ (by omega)).mono ?_
    rintro e w2 ⟨hn2, hg2⟩
    rcases hg2 with ⟨hb, _⟩ | ⟨a2, v2, hb, rfl, ho2⟩
    · rw [ha] at hb
      cases hb
    rw [ha] at hb
    obtain rfl := Option.some.inj hb
    have hs2 := Owns.slIn Wri.encOk ho2
    obtain ⟨u2, m2, k2, rfl⟩ := hs2.shape
    clear ho2 hb
    have hG2 := Blk.mk_new w2 25 #[.int .u64 (a.c : Int), .int .u64 (a.r : Int), .int .u64 (a.s : Int), .slice u2 m2 k2]
    have hA2 := (New.refl w2).alloc (.cells #[.int .u64 (a.c : Int), .int .u64 (a.r : Int), .int .u64 (a.s : Int), .slice u2 m2 k2] 25)
    have hG1b := hG1.new (hn2.trans hA2)
    have hN2 := hN1.trans (hA1.trans (hn2.trans hA2))
    have HS1 := Lib.hid (hs1.new (hA1.trans (hn2.trans hA2)))
    have HS2 := Lib.hid (hs2.new hA2)
    obtain ⟨hca, hra, hsa, hcha, _⟩ := getR_back ha
    have hl8 := (chk_ok hcha).2.1
    clear hs1 hs2 hca hra hsa hcha
    clear hG1 hA1 hn2 hA2 hN1 ha
    go_wp2_with fail
    refine (awake05 _).mono ?_
    rintro e w3 ⟨rfl, hn3⟩
    obtain ⟨p0, p1, p2, p3, p4, pz⟩ := Blk4F (hG1b.new hn3)
    obtain ⟨q0, q1, q2, q3, q4, qz⟩ := Blk4F (hG2.new hn3)
    have hN3 := hN2.trans hn3
    clear hG1b hG2 hN2
    generalize w1.heap.size = g1 at *
    generalize w2.heap.size = g2 at *
    go_wp2_with fail
    refine (refSame_any a.c a.r a.s _ a.l a.c a.r a.s _ a.l _ (by omega) (by omega) (HS1.out.new hn3) (HS2.out.new hn3)).mono ?_
    rintro e w4 ⟨rfl, hn4⟩
    rw [show sameB a.c a.r a.s a.l a.c a.r a.s a.l = true by simp [sameB]]
    go_wp2_with fail
    go_ret
    exact ⟨rfl, hN3.trans hn4⟩
end Go.Proofs.Ytdobingccipkkaa
