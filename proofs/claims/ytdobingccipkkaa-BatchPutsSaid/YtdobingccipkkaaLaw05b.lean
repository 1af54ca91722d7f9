/- The walk of the law BatchPuts (chapter 5): for every input it answers true. Printed by genLaw05.py. -/
import Derived.Test.YtdobingccipkkaaLaw05
import Derived.Test.YtdobingccipkkaaBat6
namespace Go.Proofs.Ytdobingccipkkaa
open Go.RowKit Go.Lap
set_option linter.unusedVariables false

set_option maxRecDepth 100000 in
set_option maxHeartbeats 8000000 in
theorem batchPuts_walk (c r s : Nat) (v : Value) (l : List Wri) (w : World) (hc : c < 18446744073709551616) (hr : r < 18446744073709551616) (hst : s < 18446744073709551616) (hs : SlIn w 3 Wri.enc v l) :
    Calls Try.prog 4 #[.agg #[.int .u64 (c : Int), .int .u64 (r : Int), .int .u64 (s : Int), v]] w fun e w' => e = .returned (.bool true) ∧ New w w' := by
  obtain ⟨A, n, cap, rfl⟩ := hs.shape
  have hB := Blk.mk_new w 25 #[.int .u64 (c : Int), .int .u64 (r : Int), .int .u64 (s : Int), .slice A n cap]
  have hN := (New.refl w).alloc (.cells #[.int .u64 (c : Int), .int .u64 (r : Int), .int .u64 (s : Int), .slice A n cap] 25)
  have hs1 := hs.new hN
  clear hs
  go_enter Try.func4, Try.ntmps4
  go_wp2_with fail
  refine (few_all c r s _ l _ hs1).mono ?_
  rintro e w1 ⟨rfl, hn1⟩
  have hB1 := hB.new hn1
  have hN1 := hN.trans hn1
  have hs2 := hs1.new hn1
  clear hB hN hs1 hn1
  obtain ⟨p0, p1, p2, p3, p4, pz⟩ := Blk4F hB1
  cases hf : fewB l with
  | false =>
    clear hf
    go_wp2_with fail
    refine (awake05 _).mono ?_
    rintro e w2 ⟨rfl, hn2⟩
    go_wp2_with fail
    go_ret
    exact ⟨rfl, hN1.trans hn2⟩
  | true =>
    have hl80 := fewB_len hf
    clear hf
    go_wp2_with fail
    refine (putB_any c r s _ l _ (by omega) hc hr hst hs2).mono ?_
    rintro e w2 ⟨hn2, hp⟩
    have hB2 := hB1.new hn2
    have hN2 := hN1.trans hn2
    have hs3 := hs2.new hn2
    clear hB1 hN1 hs2 hn2 p0 p1 p2 p3 p4 pz
    obtain ⟨p0, p1, p2, p3, p4, pz⟩ := Blk4F hB2
    rcases hp with ⟨hch, u, rfl, ho2⟩ | ⟨hch, rfl⟩
    · have hu := Owns.slIn bEncOk ho2
      obtain ⟨ua, un, uc, rfl⟩ := hu.shape
      clear ho2
      go_wp2_with fail
      refine (refPutB_any c r s _ l _ (by omega) hc hr hst hs3).mono ?_
      rintro e w3 ⟨hn3, hp3⟩
      rcases hp3 with ⟨_, rfl⟩ | ⟨hb, _⟩
      rotate_left
      · exact absurd hch hb
      have hN3 := hN2.trans hn3
      have HU := Lib.hid (hu.new hn3)
      clear hu hn3 hN2 hs3 hB2 p0 p1 p2 p3 p4 pz
      go_wp2_with fail
      refine (awake05 _).mono ?_
      rintro e w4 ⟨rfl, hn4⟩
      have hcv := run_str w4 (HU.out.new hn4)
      have hN4 := hN3.trans hn4
      clear hN3 hn4
      generalize encB c r s l = bs at *
      go_wp2_with fail
      go_ret
      exact ⟨rfl, hN4⟩
    · go_wp2_with fail
      refine (refPutB_any c r s _ l _ (by omega) hc hr hst hs3).mono ?_
      rintro e w3 ⟨hn3, hp3⟩
      rcases hp3 with ⟨hb, _⟩ | ⟨_, rfl⟩
      · exact absurd hb hch
      have hN3 := hN2.trans hn3
      clear hn3 hN2 hs3 hB2 p0 p1 p2 p3 p4 pz
      generalize chk l = cx at *
      go_wp2_with fail
      refine (awake05 _).mono ?_
      rintro e w4 ⟨rfl, hn4⟩
      have hcv := run_str w4 (bs := []) (SlIn.empty w4 1 bEnc none 0)
      rw [show str [] = (⟨#[]⟩ : ByteArray) from rfl] at hcv
      have hN4 := hN3.trans hn4
      clear hN3 hn4
      go_wp2_with fail
      go_ret
      exact ⟨rfl, hN4⟩
end Go.Proofs.Ytdobingccipkkaa
