/- Chapter 23 (config): places, members, which configurations may be: the program's and the document's. -/
import Derived.Test.YtinpbjknakncdaaDoorCfgB
import Derived.Test.YtinpbjknakncdaaDoorShelf
import Derived.Test.YtinpbjknakncdaaDoorCodeW
import Derived.Deep.DeepCutAuto
import Derived.IntWalk
import Derived.LoopN
namespace Go.Proofs.YtinpbjknakncdaaDoor
open Go.RowKit Go.Lap
set_option linter.unusedVariables false

def iEnc (n : Int) : List Value := [.int .i64 n]
theorem iEncOk : Enc iEnc 1 := fun _ => ⟨rfl, by simp [iEnc, Value.oneCell']⟩
theorem iTy : SlTy Tryd.prog 23 3 (.int .i64 0) 1 8 := ⟨Tryd.underlying23, by kernel_rfl, rfl, by decide⟩
theorem Blk2F {w : World} {g t : Nat} {a b : Value} (h : Blk w g t #[a, b]) : g < w.heap.size ∧ w.cell? ⟨g, 0, none⟩ = some a ∧ w.cell? ⟨g, 1, none⟩ = some b ∧ (∀ i, w.frozen? ⟨g, i, none⟩ = false) := ⟨h.lt, h.cell 0, h.cell 1, h.frozen⟩
theorem SlIn.ints {w : World} {b off : Nat} {l : List Int} (hc : ∀ k x, l[k]? = some x → ∀ j u, (iEnc x)[j]? = some u → w.cell? ⟨b, off + k * 1 + j, none⟩ = some u) : ∀ j, j < l.length → w.cell? ⟨b, off + j, none⟩ = some (.int .i64 (l.getD j 0)) := fun j hj => by
  have h := hc j (l[j]) (List.getElem?_eq_getElem hj) 0 _ rfl
  rw [List.getD_eq_getElem?_getD, List.getElem?_eq_getElem hj]
  simpa using h
theorem SlIn.int_at {w : World} {b off : Nat} {l : List Int} {k : Nat} {x : Int} (hc : ∀ k x, l[k]? = some x → ∀ j u, (iEnc x)[j]? = some u → w.cell? ⟨b, off + k * 1 + j, none⟩ = some u) (h : l[k]? = some x) : w.cell? ⟨b, off + k, none⟩ = some (.int .i64 x) := by
  simpa using hc k x h 0 _ rfl

theorem index_any (v : Value) (ms : List Int) (n : Int) (w : World) (hl : ms.length ≤ 1000000000) (hs : SlIn w 1 iEnc v ms) :
    Calls Tryd.prog 40 #[v, .int .i64 n] w fun e w' => e = .returned (.int .i64 (placeC ms n)) ∧ w' = w := by
  obtain ⟨A, c, rfl, hlc, hh⟩ := hs
  rcases hh with rfl | ⟨b, off, rfl, hb, hc⟩
  · exact Tryd.slices_Index_int_empty A c n w
  · have h := Tryd.slices_Index_int b off ms.length c ms n w (Nat.le_refl _) (by omega) (SlIn.ints hc)
    rw [List.take_length] at h
    exact h
theorem contains_any (v : Value) (ms : List Int) (n : Int) (w : World) (hl : ms.length ≤ 1000000000) (hs : SlIn w 1 iEnc v ms) :
    Calls Tryd.prog 35 #[v, .int .i64 n] w fun e w' => e = .returned (.bool (ms.contains n)) ∧ w' = w := by
  obtain ⟨A, c, rfl, hlc, hh⟩ := hs
  rcases hh with rfl | ⟨b, off, rfl, hb, hc⟩
  · exact Tryd.slices_Contains_int_empty A c n w
  · have h := Tryd.slices_Contains_int b off ms.length c ms n w (Nat.le_refl _) (by omega) (SlIn.ints hc)
    rw [List.take_length] at h
    exact h

set_option maxHeartbeats 1000000 in
theorem member_any (n : Int) (w : World) : Calls Tryd.prog 34 #[.int .i64 n] w fun e w' => e = .returned (.bool (memB n)) ∧ w' = w := by
  by_cases h0 : 0 ≤ n
  · by_cases h1 : n ≤ 63
    · have HF := Lib.hid (show memB n = true by simp [memB, h0, h1])
      go_enter Tryd.func34, Tryd.ntmps34
      go_wp2_with fail
      go_ret
      exact ⟨ret_bool HF.out.symm, rfl⟩
    · have HF := Lib.hid (show memB n = false by simp [memB]; omega)
      go_enter Tryd.func34, Tryd.ntmps34
      go_wp2_with fail
      go_ret
      exact ⟨ret_bool HF.out.symm, rfl⟩
  · have HF := Lib.hid (show memB n = false by simp [memB]; omega)
    go_enter Tryd.func34, Tryd.ntmps34
    go_wp2_with fail
    go_ret
    exact ⟨ret_bool HF.out.symm, rfl⟩

set_option maxHeartbeats 1000000 in
theorem place_any (e : Nat) (v : Value) (ms : List Int) (n : Int) (w : World) (hl : ms.length ≤ 1000000000) (hs : SlIn w 1 iEnc v ms) :
    Calls Tryd.prog 23 #[.agg #[.int .u64 (e : Int), v], .int .i64 n] w fun e w' => e = .returned (.int .i64 (placeC ms n)) ∧ New w w' := by
  obtain ⟨A, m, cap, rfl⟩ := hs.shape
  have hN := (New.refl w).alloc (.cells #[.int .u64 (e : Int), .slice A m cap] 25)
  have HS := Lib.hid (hs.new hN)
  clear hs
  go_enter Tryd.func23, Tryd.ntmps23
  go_wp2_with fail
  refine (index_any _ ms n _ hl HS.out).mono ?_
  rintro e1 w1 ⟨rfl, rfl⟩
  go_wp2_with fail
  go_ret
  exact ⟨rfl, hN⟩

/-- How far the looks at the members have come. -/
def ChkRel (ms : List Int) (k : Nat) (w wr : World) : Prop := goodL (ms.take k) = true ∧ New w wr

set_option maxRecDepth 100000 in
set_option maxHeartbeats 4000000 in
theorem check_any (e : Nat) (v : Value) (ms : List Int) (w : World) (hl : ms.length ≤ 1000000000) (hs : SlIn w 1 iEnc v ms) :
    Calls Tryd.prog 17 #[.agg #[.int .u64 (e : Int), v]] w fun e' w' => e' = .returned (.bool (chkC ⟨e, ms⟩)) ∧ New w w' := by
  obtain ⟨A, m, cap, rfl⟩ := hs.shape
  obtain ⟨A', c', hv, hlc, hh⟩ := id hs
  cases hv
  have hN := (New.refl w).alloc (.cells #[.int .u64 (e : Int), .slice A ms.length cap] 25)
  by_cases h1 : e < 1
  · have h1' : (e : Int) < 1 := by omega
    have HF := Lib.hid (show chkC ⟨e, ms⟩ = false from chk_bad (by rintro ⟨a, b, d, f⟩; dsimp only [lastE] at *; omega))
    clear hs hh
    go_enter Tryd.func17, Tryd.ntmps17
    go_wp2_with fail
    go_ret
    exact ⟨ret_bool HF.out.symm, hN⟩
  by_cases h2 : 4611686018427387904 < e
  · have h1' : ¬ (e : Int) < 1 := by omega
    have h2' : (4611686018427387904 : Int) < (e : Int) := by omega
    have HF := Lib.hid (show chkC ⟨e, ms⟩ = false from chk_bad (by rintro ⟨a, b, d, f⟩; dsimp only [lastE] at *; omega))
    clear hs hh
    go_enter Tryd.func17, Tryd.ntmps17
    go_wp2_with fail
    go_ret
    exact ⟨ret_bool HF.out.symm, hN⟩
  by_cases h3 : ms.length < 1
  · have h1' : ¬ (e : Int) < 1 := by omega
    have h2' : ¬ (4611686018427387904 : Int) < (e : Int) := by omega
    have h3' : (ms.length : Int) < 1 := by omega
    have HF := Lib.hid (show chkC ⟨e, ms⟩ = false from chk_bad (by rintro ⟨a, b, d, f⟩; dsimp only [lastE] at *; omega))
    clear hs hh
    go_enter Tryd.func17, Tryd.ntmps17
    go_wp2_with fail
    go_ret
    exact ⟨ret_bool HF.out.symm, hN⟩
  by_cases h4 : 7 < ms.length
  · have h1' : ¬ (e : Int) < 1 := by omega
    have h2' : ¬ (4611686018427387904 : Int) < (e : Int) := by omega
    have h3' : ¬ (ms.length : Int) < 1 := by omega
    have h4' : (7 : Int) < (ms.length : Int) := by omega
    have HF := Lib.hid (show chkC ⟨e, ms⟩ = false from chk_bad (by rintro ⟨a, b, d, f⟩; dsimp only [lastE] at *; omega))
    clear hs hh
    go_enter Tryd.func17, Tryd.ntmps17
    go_wp2_with fail
    go_ret
    exact ⟨ret_bool HF.out.symm, hN⟩
  have h1' : ¬ (e : Int) < 1 := by omega
  have h2' : ¬ (4611686018427387904 : Int) < (e : Int) := by omega
  have h3' : ¬ (ms.length : Int) < 1 := by omega
  have h4' : ¬ (7 : Int) < (ms.length : Int) := by omega
  have HF := Lib.hid (show chkC ⟨e, ms⟩ = goodL ms from chk_good (by dsimp only; omega) (by dsimp only [lastE]; omega) (by dsimp only; omega) (by dsimp only; omega))
  have hB := Lib.hid (Blk.mk_new w 25 #[.int .u64 (e : Int), .slice A ms.length cap])
  have HS := Lib.hid (hs.new hN)
  clear hs hh
  go_enter Tryd.func17, Tryd.ntmps17
  go_wp2_with fail
  generalize w.alloc _ = w1 at *
  go_loopw [28] (fun i wr => ∃ k : Nat, k ≤ ms.length ∧ i = .int .i64 (k : Int) ∧ ChkRel ms k w1 wr) (fun i _ => ms.length - (intOf i).toNat)
  case atStart => exact ⟨0, by omega, rfl, rfl, New.refl _⟩
  case round =>
    obtain ⟨k, hk, rfl, hg, hn⟩ := hrel
    obtain ⟨p0, p1, p2, pz⟩ := Blk2F (hB.out.new hn)
    have HSr := Lib.hid (HS.out.new hn)
    have HG := Lib.hid hg
    clear hg
    by_cases hlt : k < ms.length
    · have hlt2 : (k : Int) < (ms.length : Int) := by omega
      obtain ⟨A', c', hv, _, hh⟩ := HSr.out
      cases hv
      rcases hh with rfl | ⟨b, off, rfl, hbb, hc⟩
      · simp at hlt
      obtain ⟨x, hx⟩ : ∃ x, ms[k]? = some x := ⟨_, List.getElem?_eq_getElem hlt⟩
      have e0 := SlIn.int_at hc hx
      have HT := Lib.hid (SlIn.take HSr.out hk (show k ≤ cap by omega))
      have HX := Lib.hid hx
      have hkc : (k : Int) ≤ (cap : Int) := by omega
      have hk0 : (0 : Int) ≤ (k : Int) := by omega
      have hmem := member_any x
      clear hc hx
      cases hm : memB x with
      | false =>
        rw [hm] at hmem
        have HFX := Lib.hid (HF.out.trans (good_fail HX.out (.inl hm)))
        clear hm
        go_wp2_with fail
        refine (hmem _).mono ?_
        rintro e1 w2 ⟨rfl, rfl⟩
        go_wp2_with fail
        go_ret
        exact ⟨ret_bool HFX.out.symm, hN.trans hn⟩
      | true =>
        rw [hm] at hmem
        have HM := Lib.hid hm
        clear hm
        go_wp2_with fail
        refine (hmem _).mono ?_
        rintro e1 w2 ⟨rfl, rfl⟩
        go_wp2_with fail
        refine (contains_any _ (ms.take k) x _ (by rw [List.length_take]; omega) HT.out).mono ?_
        rintro e1 w2 ⟨rfl, rfl⟩
        cases hct : (ms.take k).contains x with
        | true =>
          have HFX := Lib.hid (HF.out.trans (good_fail HX.out (.inr hct)))
          clear hct
          go_wp2_with fail
          go_ret
          exact ⟨ret_bool HFX.out.symm, hN.trans hn⟩
        | false =>
          have HNX := Lib.hid (show goodL (ms.take (k + 1)) = true by rw [good_next HX.out, HG.out, HM.out, hct]; rfl)
          clear hct
          go_wp2_with fail
          go_roundw
          case rel => exact ⟨k + 1, by omega, by go_num, HNX.out, hn⟩
          case measure => simp [intOf]; omega
    · have hlt2 : ¬ (k : Int) < (ms.length : Int) := by omega
      have HFX := Lib.hid (show chkC ⟨e, ms⟩ = true by rw [HF.out, ← HG.out, List.take_of_length_le (by omega)])
      go_wp2_with fail
      go_ret
      exact ⟨ret_bool HFX.out.symm, hN.trans hn⟩
end Go.Proofs.YtinpbjknakncdaaDoor
