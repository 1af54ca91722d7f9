/- The parts CfgC, CfgD, CfgE, CfgM, joined. -/
import Derived.Test.YtecniafnihpjmaaGreatDoorMg3
import Derived.Test.YtecniafnihpjmaaGreatDoorShelf
import Derived.Test.YtecniafnihpjmaaGreatDoorMg1
import Derived.Deep.DeepCutAuto
import Derived.IntWalk
import Derived.LoopN
import Derived.Test.YtecniafnihpjmaaGreatDoorTk
/- Chapter 23 (config): places, members, which configurations may be: the program's and the document's. -/
namespace Go.Proofs.YtecniafnihpjmaaGreatDoor.C
open Go.RowKit Go.Lap
set_option linter.unusedVariables false

def iEnc (n : Int) : List Value := [.int .i64 n]
theorem iEncOk : Enc iEnc 1 := fun _ => ⟨rfl, by simp [iEnc, Value.oneCell']⟩
theorem Blk2F {w : World} {g t : Nat} {a b : Value} (h : Blk w g t #[a, b]) : g < w.heap.size ∧ w.cell? ⟨g, 0, none⟩ = some a ∧ w.cell? ⟨g, 1, none⟩ = some b ∧ (∀ i, w.frozen? ⟨g, i, none⟩ = false) := ⟨h.lt, h.cell 0, h.cell 1, h.frozen⟩
theorem SlIn.ints {w : World} {b off : Nat} {l : List Int} (hc : ∀ k x, l[k]? = some x → ∀ j u, (iEnc x)[j]? = some u → w.cell? ⟨b, off + k * 1 + j, none⟩ = some u) : ∀ j, j < l.length → w.cell? ⟨b, off + j, none⟩ = some (.int .i64 (l.getD j 0)) := fun j hj => by
  have h := hc j (l[j]) (List.getElem?_eq_getElem hj) 0 _ rfl
  rw [List.getD_eq_getElem?_getD, List.getElem?_eq_getElem hj]
  simpa using h
theorem SlIn.int_at {w : World} {b off : Nat} {l : List Int} {k : Nat} {x : Int} (hc : ∀ k x, l[k]? = some x → ∀ j u, (iEnc x)[j]? = some u → w.cell? ⟨b, off + k * 1 + j, none⟩ = some u) (h : l[k]? = some x) : w.cell? ⟨b, off + k, none⟩ = some (.int .i64 x) := by
  simpa using hc k x h 0 _ rfl

theorem index_any (v : Value) (ms : List Int) (n : Int) (w : World) (hl : ms.length ≤ 1000000000) (hs : SlIn w 1 iEnc v ms) :
    Calls Tryz.prog 77 #[v, .int .i64 n] w fun e w' => e = .returned (.int .i64 (placeC ms n)) ∧ w' = w := by
  obtain ⟨A, c, rfl, hlc, hh⟩ := hs
  rcases hh with rfl | ⟨b, off, rfl, hb, hc⟩
  · exact Tryz.slices_Index_int_empty A c n w
  · have h := Tryz.slices_Index_int b off ms.length c ms n w (Nat.le_refl _) (by omega) (SlIn.ints hc)
    rw [List.take_length] at h
    exact h
theorem contains_any (v : Value) (ms : List Int) (n : Int) (w : World) (hl : ms.length ≤ 1000000000) (hs : SlIn w 1 iEnc v ms) :
    Calls Tryz.prog 89 #[v, .int .i64 n] w fun e w' => e = .returned (.bool (ms.contains n)) ∧ w' = w := by
  obtain ⟨A, c, rfl, hlc, hh⟩ := hs
  rcases hh with rfl | ⟨b, off, rfl, hb, hc⟩
  · exact Tryz.slices_Contains_int_empty A c n w
  · have h := Tryz.slices_Contains_int b off ms.length c ms n w (Nat.le_refl _) (by omega) (SlIn.ints hc)
    rw [List.take_length] at h
    exact h

set_option maxHeartbeats 1000000 in
theorem member_any (n : Int) (w : World) : Calls Tryz.prog 88 #[.int .i64 n] w fun e w' => e = .returned (.bool (memB n)) ∧ w' = w := by
  by_cases h0 : 0 ≤ n
  · by_cases h1 : n ≤ 63
    · have HF := Lib.hid (show memB n = true by simp [memB, h0, h1])
      go_enter Tryz.func88, Tryz.ntmps88
      go_wp2_with fail
      go_ret
      exact ⟨ret_bool HF.out.symm, rfl⟩
    · have HF := Lib.hid (show memB n = false by simp [memB]; omega)
      go_enter Tryz.func88, Tryz.ntmps88
      go_wp2_with fail
      go_ret
      exact ⟨ret_bool HF.out.symm, rfl⟩
  · have HF := Lib.hid (show memB n = false by simp [memB]; omega)
    go_enter Tryz.func88, Tryz.ntmps88
    go_wp2_with fail
    go_ret
    exact ⟨ret_bool HF.out.symm, rfl⟩

set_option maxHeartbeats 1000000 in
theorem place_any (e : Nat) (v : Value) (ms : List Int) (n : Int) (w : World) (hl : ms.length ≤ 1000000000) (hs : SlIn w 1 iEnc v ms) :
    Calls Tryz.prog 43 #[.agg #[.int .u64 (e : Int), v], .int .i64 n] w fun e w' => e = .returned (.int .i64 (placeC ms n)) ∧ New w w' := by
  obtain ⟨A, m, cap, rfl⟩ := hs.shape
  have hN := (New.refl w).alloc (.cells #[.int .u64 (e : Int), .slice A m cap] 25)
  have HS := Lib.hid (hs.new hN)
  clear hs
  go_enter Tryz.func43, Tryz.ntmps43
  go_wp2_with fail
  refine (index_any _ ms n _ hl HS.out).mono ?_
  rintro e1 w1 ⟨rfl, rfl⟩
  go_wp2_with fail
  go_ret
  exact ⟨rfl, hN⟩

/-- How far the looks at the members have come. -/
def ChkRel (ms : List Int) (k : Nat) (w wr : World) : Prop := goodL (ms.take k) = true ∧ New w wr

set_option maxRecDepth 100000 in
set_option maxHeartbeats 4000000 in
theorem check_any (e : Nat) (v : Value) (ms : List Int) (w : World) (hl : ms.length ≤ 1000000000) (hs : SlIn w 1 iEnc v ms) :
    Calls Tryz.prog 52 #[.agg #[.int .u64 (e : Int), v]] w fun e' w' => e' = .returned (.bool (chkC ⟨e, ms⟩)) ∧ New w w' := by
  obtain ⟨A, m, cap, rfl⟩ := hs.shape
  obtain ⟨A', c', hv, hlc, hh⟩ := id hs
  cases hv
  have hN := (New.refl w).alloc (.cells #[.int .u64 (e : Int), .slice A ms.length cap] 25)
  by_cases h1 : e < 1
  · have h1' : (e : Int) < 1 := by omega
    have HF := Lib.hid (show chkC ⟨e, ms⟩ = false from chk_bad (by rintro ⟨a, b, d, f⟩; dsimp only [lastE] at *; omega))
    clear hs hh
    go_enter Tryz.func52, Tryz.ntmps52
    go_wp2_with fail
    go_ret
    exact ⟨ret_bool HF.out.symm, hN⟩
  by_cases h2 : 4611686018427387904 < e
  · have h1' : ¬ (e : Int) < 1 := by omega
    have h2' : (4611686018427387904 : Int) < (e : Int) := by omega
    have HF := Lib.hid (show chkC ⟨e, ms⟩ = false from chk_bad (by rintro ⟨a, b, d, f⟩; dsimp only [lastE] at *; omega))
    clear hs hh
    go_enter Tryz.func52, Tryz.ntmps52
    go_wp2_with fail
    go_ret
    exact ⟨ret_bool HF.out.symm, hN⟩
  by_cases h3 : ms.length < 1
  · have h1' : ¬ (e : Int) < 1 := by omega
    have h2' : ¬ (4611686018427387904 : Int) < (e : Int) := by omega
    have h3' : (ms.length : Int) < 1 := by omega
    have HF := Lib.hid (show chkC ⟨e, ms⟩ = false from chk_bad (by rintro ⟨a, b, d, f⟩; dsimp only [lastE] at *; omega))
    clear hs hh
    go_enter Tryz.func52, Tryz.ntmps52
    go_wp2_with fail
    go_ret
    exact ⟨ret_bool HF.out.symm, hN⟩
  by_cases h4 : 7 < ms.length
  · have h1' : ¬ (e : Int) < 1 := by omega
    have h2' : ¬ (4611686018427387904 : Int) < (e : Int) := by omega
    have h3' : ¬ (ms.length : Int) < 1 := by omega
    have h4' : (7 : Int) < (ms.length : Int) := by omega
    have HF := Lib.hid (show chkC ⟨e, ms⟩ = false from chk_bad (by rintro ⟨a, b, d, f⟩; dsimp only [lastE] at *; omega))
    clear hs hh
    go_enter Tryz.func52, Tryz.ntmps52
    go_wp2_with fail
    go_ret
    exact ⟨ret_bool HF.out.symm, hN⟩
  have h1' : ¬ (e : Int) < 1 := by omega
  have h2' : ¬ (4611686018427387904 : Int) < (e : Int) := by omega
  have h3' : ¬ (ms.length : Int) < 1 := by omega
  have h4' : ¬ (7 : Int) < (ms.length : Int) := by omega
  have HF := Lib.hid (show chkC ⟨e, ms⟩ = goodL ms from chk_good (by dsimp only; omega) (by dsimp only [lastE]; omega) (by dsimp only; omega) (by dsimp only; omega))
  have hB := Lib.hid (Blk.mk_new w 25 #[.int .u64 (e : Int), .slice A ms.length cap])
  have HS := Lib.hid (hs.new hN)
  clear hs hh
  go_enter Tryz.func52, Tryz.ntmps52
  go_wp2_with fail
  generalize w.alloc _ = w1 at *
  go_loopw [28] (fun i wr => ∃ k : Nat, k ≤ ms.length ∧ i = .int .i64 (k : Int) ∧ ChkRel ms k w1 wr) (fun i _ => ms.length - (intOf i).toNat)
  case atStart => exact ⟨0, by omega, rfl, rfl, New.refl _⟩
  case round =>
    obtain ⟨k, hk, rfl, hg, hn⟩ := hrel
    obtain ⟨p0, p1, p2, pz⟩ := Blk2F (hB.out.new hn)
    have HSr := Lib.hid (HS.out.new hn)
    have HG := Lib.hid hg
    clear hg
    by_cases hlt : k < ms.length
    · have hlt2 : (k : Int) < (ms.length : Int) := by omega
      obtain ⟨A', c', hv, _, hh⟩ := HSr.out
      cases hv
      rcases hh with rfl | ⟨b, off, rfl, hbb, hc⟩
      · simp at hlt
      obtain ⟨x, hx⟩ : ∃ x, ms[k]? = some x := ⟨_, List.getElem?_eq_getElem hlt⟩
      have e0 := SlIn.int_at hc hx
      have HT := Lib.hid (SlIn.take HSr.out hk (show k ≤ cap by omega))
      have HX := Lib.hid hx
      have hkc : (k : Int) ≤ (cap : Int) := by omega
      have hk0 : (0 : Int) ≤ (k : Int) := by omega
      have hmem := member_any x
      clear hc hx
      cases hm : memB x with
      | false =>
        rw [hm] at hmem
        have HFX := Lib.hid (HF.out.trans (good_fail HX.out (.inl hm)))
        clear hm
        go_wp2_with fail
        refine (hmem _).mono ?_
        rintro e1 w2 ⟨rfl, rfl⟩
        go_wp2_with fail
        go_ret
        exact ⟨ret_bool HFX.out.symm, hN.trans hn⟩
      | true =>
        rw [hm] at hmem
        have HM := Lib.hid hm
        clear hm
        go_wp2_with fail
        refine (hmem _).mono ?_
        rintro e1 w2 ⟨rfl, rfl⟩
        go_wp2_with fail
        refine (contains_any _ (ms.take k) x _ (by rw [List.length_take]; omega) HT.out).mono ?_
        rintro e1 w2 ⟨rfl, rfl⟩
        cases hct : (ms.take k).contains x with
        | true =>
          have HFX := Lib.hid (HF.out.trans (good_fail HX.out (.inr hct)))
          clear hct
          go_wp2_with fail
          go_ret
          exact ⟨ret_bool HFX.out.symm, hN.trans hn⟩
        | false =>
          have HNX := Lib.hid (show goodL (ms.take (k + 1)) = true by rw [good_next HX.out, HG.out, HM.out, hct]; rfl)
          clear hct
          go_wp2_with fail
          go_roundw
          case rel => exact ⟨k + 1, by omega, by go_num, HNX.out, hn⟩
          case measure => simp [intOf]; omega
    · have hlt2 : ¬ (k : Int) < (ms.length : Int) := by omega
      have HFX := Lib.hid (show chkC ⟨e, ms⟩ = true by rw [HF.out, ← HG.out, List.take_of_length_le (by omega)])
      go_wp2_with fail
      go_ret
      exact ⟨ret_bool HFX.out.symm, hN.trans hn⟩
end Go.Proofs.YtecniafnihpjmaaGreatDoor.C

/- Chapter 23 (config): the document's Place, Check, Same; the law's few and of. Printed by genCfg.py. -/
namespace Go.Proofs.YtecniafnihpjmaaGreatDoor.C
open Go.RowKit Go.Lap
set_option linter.unusedVariables false

theorem place_at {ms : List Int} {k : Nat} {x : Int} (h : ms[k]? = some x) (hn : x ∉ ms.take k) : placeC ms x = (k : Int) := by
  rcases place_cases ms x with ⟨h1, _⟩ | ⟨j, _, h2, h3, h4⟩
  · exact absurd (List.mem_of_getElem? h) h1
  · have h5 : ¬ j < k := fun hj => hn (List.mem_iff_getElem?.2 ⟨j, by rw [List.getElem?_take_of_lt hj]; exact h2⟩)
    have h6 : ¬ k < j := fun hj => h3 (List.mem_iff_getElem?.2 ⟨k, by rw [List.getElem?_take_of_lt hj]; exact h⟩)
    rw [h4]
    congr 1
    omega
theorem place_before {ms : List Int} {k : Nat} {x : Int} (hk : k ≤ ms.length) (hn : x ∈ ms.take k) : ∃ j : Nat, placeC ms x = (j : Int) ∧ j < k := by
  rcases place_cases ms x with ⟨h1, _⟩ | ⟨j, _, h2, h3, h4⟩
  · exact absurd (List.mem_of_mem_take hn) h1
  · refine ⟨j, h4, Nat.lt_of_not_le fun hj => h3 ?_⟩
    rw [← List.take_append_drop k (ms.take j), List.take_take, Nat.min_eq_left hj]
    exact List.mem_append_left _ hn
/-- No place so far. -/
def PlRel (ms : List Int) (n : Int) (k : Nat) (w wr : World) : Prop := n ∉ ms.take k ∧ New w wr

set_option maxRecDepth 100000 in
set_option maxHeartbeats 4000000 in
theorem refPlace_any (e : Nat) (v : Value) (ms : List Int) (n : Int) (w : World) (hl : ms.length ≤ 1000000000) (hs : SlIn w 1 iEnc v ms) :
    Calls Tryz.prog 15 #[.agg #[.int .u64 (e : Int), v], .int .i64 n] w fun e' w' => e' = .returned (.int .i64 (placeC ms n)) ∧ New w w' := by
  obtain ⟨A, m, cap, rfl⟩ := hs.shape
  obtain ⟨A', c', hv, hlc, -⟩ := id hs
  cases hv
  have hN := (New.refl w).alloc (.cells #[.int .u64 (e : Int), .slice A ms.length cap] 25)
  have hB := Lib.hid (Blk.mk_new w 25 #[.int .u64 (e : Int), .slice A ms.length cap])
  have HS := Lib.hid (hs.new hN)
  clear hs
  go_enter Tryz.func15, Tryz.ntmps15
  go_wp2_with fail
  generalize w.alloc _ = w1 at *
  go_loopw [5] (fun i wr => ∃ k : Nat, k ≤ ms.length ∧ i = .int .i64 (k : Int) ∧ PlRel ms n k w1 wr) (fun i _ => ms.length - (intOf i).toNat)
  case atStart => exact ⟨0, by omega, rfl, by simp, New.refl _⟩
  case round =>
    obtain ⟨k, hk, rfl, hg, hn⟩ := hrel
    obtain ⟨p0, p1, p2, pz⟩ := Blk2F (hB.out.new hn)
    have HG := Lib.hid hg
    clear hg
    by_cases hlt : k < ms.length
    · have hlt2 : (k : Int) < (ms.length : Int) := by omega
      have hk0 : (0 : Int) ≤ (k : Int) := by omega
      obtain ⟨A', c', hv, _, hh⟩ := HS.out.new hn
      cases hv
      rcases hh with rfl | ⟨b, off, rfl, hbb, hc⟩
      · simp at hlt
      obtain ⟨x, hx⟩ : ∃ x, ms[k]? = some x := ⟨_, List.getElem?_eq_getElem hlt⟩
      have e0 := SlIn.int_at hc hx
      have HX := Lib.hid hx
      clear hc hx
      by_cases hxn : x = n
      · subst hxn
        have HF := Lib.hid (place_at HX.out HG.out)
        go_wp2_with fail
        go_ret
        exact ⟨ret_int (a := (k : Int)) HF.out.symm, hN.trans hn⟩
      · have hxb : (x == n) = false := beq_eq_false_iff_ne.2 hxn
        have HF := Lib.hid (show n ∉ ms.take (k + 1) by rw [take_snocI HX.out]; simp only [List.mem_append, List.mem_singleton, not_or]; exact ⟨HG.out, fun h => hxn h.symm⟩)
        clear hxn
        go_wp2_with fail
        go_roundw
        case rel => exact ⟨k + 1, by omega, by go_num, HF.out, hn⟩
        case measure => simp [intOf]; omega
    · have hlt2 : ¬ (k : Int) < (ms.length : Int) := by omega
      have HF : Hid (placeC ms n = -1) := Lib.hid (by
        have h := HG.out
        rw [List.take_of_length_le (by omega)] at h
        rcases place_cases ms n with ⟨_, h2⟩ | ⟨j, _, h2, _⟩
        · exact h2
        · exact absurd (List.mem_of_getElem? h2) h)
      go_wp2_with fail
      go_ret
      exact ⟨ret_int (a := -1) HF.out.symm, hN.trans hn⟩

set_option maxRecDepth 100000 in
set_option maxHeartbeats 4000000 in
theorem refCheck_any (e : Nat) (v : Value) (ms : List Int) (w : World) (hl : ms.length ≤ 1000000000) (hs : SlIn w 1 iEnc v ms) :
    Calls Tryz.prog 9 #[.agg #[.int .u64 (e : Int), v]] w fun e' w' => e' = .returned (.bool (chkC ⟨e, ms⟩)) ∧ New w w' := by
  obtain ⟨A, m, cap, rfl⟩ := hs.shape
  obtain ⟨A', c', hv, hlc, hh⟩ := id hs
  cases hv
  have hN := (New.refl w).alloc (.cells #[.int .u64 (e : Int), .slice A ms.length cap] 25)
  by_cases h1 : e < 1
  · have h1' : (e : Int) < 1 := by omega
    have HF := Lib.hid (show chkC ⟨e, ms⟩ = false from chk_bad (by rintro ⟨a, b, d, f⟩; dsimp only [lastE] at *; omega))
    clear hs hh
    go_enter Tryz.func9, Tryz.ntmps9
    go_wp2_with fail
    go_ret
    exact ⟨ret_bool HF.out.symm, hN⟩
  by_cases h2 : 4611686018427387904 < e
  · have h1' : ¬ (e : Int) < 1 := by omega
    have h2' : (4611686018427387904 : Int) < (e : Int) := by omega
    have HF := Lib.hid (show chkC ⟨e, ms⟩ = false from chk_bad (by rintro ⟨a, b, d, f⟩; dsimp only [lastE] at *; omega))
    clear hs hh
    go_enter Tryz.func9, Tryz.ntmps9
    go_wp2_with fail
    go_ret
    exact ⟨ret_bool HF.out.symm, hN⟩
  by_cases h3 : ms.length < 1
  · have h1' : ¬ (e : Int) < 1 := by omega
    have h2' : ¬ (4611686018427387904 : Int) < (e : Int) := by omega
    have h3' : (ms.length : Int) < 1 := by omega
    have HF := Lib.hid (show chkC ⟨e, ms⟩ = false from chk_bad (by rintro ⟨a, b, d, f⟩; dsimp only [lastE] at *; omega))
    clear hs hh
    go_enter Tryz.func9, Tryz.ntmps9
    go_wp2_with fail
    go_ret
    exact ⟨ret_bool HF.out.symm, hN⟩
  by_cases h4 : 7 < ms.length
  · have h1' : ¬ (e : Int) < 1 := by omega
    have h2' : ¬ (4611686018427387904 : Int) < (e : Int) := by omega
    have h3' : ¬ (ms.length : Int) < 1 := by omega
    have h4' : (7 : Int) < (ms.length : Int) := by omega
    have HF := Lib.hid (show chkC ⟨e, ms⟩ = false from chk_bad (by rintro ⟨a, b, d, f⟩; dsimp only [lastE] at *; omega))
    clear hs hh
    go_enter Tryz.func9, Tryz.ntmps9
    go_wp2_with fail
    go_ret
    exact ⟨ret_bool HF.out.symm, hN⟩
  have h1' : ¬ (e : Int) < 1 := by omega
  have h2' : ¬ (4611686018427387904 : Int) < (e : Int) := by omega
  have h3' : ¬ (ms.length : Int) < 1 := by omega
  have h4' : ¬ (7 : Int) < (ms.length : Int) := by omega
  have HF := Lib.hid (show chkC ⟨e, ms⟩ = goodL ms from chk_good (by dsimp only; omega) (by dsimp only [lastE]; omega) (by dsimp only; omega) (by dsimp only; omega))
  have hB := Lib.hid (Blk.mk_new w 25 #[.int .u64 (e : Int), .slice A ms.length cap])
  have HS := Lib.hid (hs.new hN)
  clear hs hh
  go_enter Tryz.func9, Tryz.ntmps9
  go_wp2_with fail
  generalize w.alloc _ = w1 at *
  go_loopw [3] (fun i wr => ∃ k : Nat, k ≤ ms.length ∧ i = .int .i64 (k : Int) ∧ ChkRel ms k w1 wr) (fun i _ => ms.length - (intOf i).toNat)
  case atStart => exact ⟨0, by omega, rfl, rfl, New.refl _⟩
  case round =>
    obtain ⟨k, hk, rfl, hg, hn⟩ := hrel
    obtain ⟨p0, p1, p2, pz⟩ := Blk2F (hB.out.new hn)
    have HSr := Lib.hid (HS.out.new hn)
    have HG := Lib.hid hg
    clear hg
    by_cases hlt : k < ms.length
    · have hlt2 : (k : Int) < (ms.length : Int) := by omega
      have hk0 : (0 : Int) ≤ (k : Int) := by omega
      obtain ⟨A', c', hv, _, hh⟩ := HSr.out
      cases hv
      rcases hh with rfl | ⟨b, off, rfl, hbb, hc⟩
      · simp at hlt
      obtain ⟨x, hx⟩ : ∃ x, ms[k]? = some x := ⟨_, List.getElem?_eq_getElem hlt⟩
      have e0 := SlIn.int_at hc hx
      have HX := Lib.hid hx
      clear hc hx
      by_cases hx0 : x < 0
      · have hd : decide (x < 0) = true := by simpa using hx0
        have HFX := Lib.hid (HF.out.trans (good_fail HX.out (.inl (by simp only [memB, Bool.and_eq_false_iff, decide_eq_false_iff_not]; omega))))
        go_upto_region 6 with fail
        go_quiet (fail)
        go_wp2_with fail
        go_ret
        exact ⟨ret_bool HFX.out.symm, hN.trans (hn.drewN _)⟩
      by_cases hx1 : 63 < x
      · have hd : decide (x < 0) = false := by simpa using hx0
        have hd2 : decide (63 < x) = true := by simpa using hx1
        have HFX := Lib.hid (HF.out.trans (good_fail HX.out (.inl (by simp only [memB, Bool.and_eq_false_iff, decide_eq_false_iff_not]; omega))))
        go_upto_region 6 with fail
        go_quiet (fail)
        go_wp2_with fail
        go_ret
        exact ⟨ret_bool HFX.out.symm, hN.trans (hn.drewN _)⟩
      have hm : memB x = true := by simp only [memB, Bool.and_eq_true, decide_eq_true_eq]; omega
      have HM := Lib.hid hm
      clear hm
      have hd : decide (x < 0) = false := by simpa using hx0
      have hd2 : decide (63 < x) = false := by simpa using hx1
      by_cases hin : x ∈ ms.take k
      · obtain ⟨j, hj, hjk⟩ := place_before hk hin
        have hjk2 : ((j : Int) != (k : Int)) = true := by rw [bne_iff_ne]; omega
        have HFX := Lib.hid (HF.out.trans (good_fail HX.out (.inr (by simpa using hin))))
        have hpl := fun wx hx => refPlace_any e (.slice (some ⟨b, off, none⟩) ms.length cap) ms x wx hl hx
        rw [hj] at hpl
        clear hin hj hjk
        go_upto_region 6 with fail
        refine wp_region_held_drew (S := fun w' => Held wr w') (by kernel_rfl) (Held.of (New.refl _).drew) (fun hHeld => ?_)
        refine tkH (i := 0) (oi := ⟨some 31, .fieldAddr 25 (.tmp 1) 1, 0, "ref.go:26", #[], none⟩) (v := ?_) (.inl ⟨by rfl, ?_⟩) ?_
        rotate_left
        · (intro wq hSw; (try dsimp only at hSw); go_simp; first | done | with_reducible rfl)
        try simp only [Act.put, sA, sZ, sS]
        refine tkH (i := 1) (oi := ⟨some 32, .load 23 (.tmp 31), 23, "ref.go:26", #[⟨0, .data⟩], none⟩) (v := ?_) (.inl ⟨by rfl, ?_⟩) ?_
        rotate_left
        · (intro wq hSw; (try dsimp only at hSw); go_simp; first | done | with_reducible rfl)
        try simp only [Act.put, sA, sZ, sS]
        refine tkH (i := 2) (oi := ⟨some 33, .move (.tmp 3), 3, "ref.go:26", #[], none⟩) (v := ?_) (.inl ⟨by rfl, ?_⟩) ?_
        rotate_left
        · (intro wq hSw; (try dsimp only at hSw); go_simp; first | done | with_reducible rfl)
        try simp only [Act.put, sA, sZ, sS]
        refine tkH (i := 3) (oi := ⟨some 34, .indexAddr 23 (.tmp 32) (.tmp 33), 0, "ref.go:26", #[⟨1, .data⟩, ⟨2, .data⟩], none⟩) (v := ?_) (.inl ⟨by rfl, ?_⟩) ?_
        rotate_left
        · (intro wq hSw; (try dsimp only at hSw); go_simp; first | done | with_reducible rfl)
        try simp only [Act.put, sA, sZ, sS]
        refine tkH (i := 4) (oi := ⟨some 35, .load 3 (.tmp 34), 3, "ref.go:26", #[⟨3, .data⟩], none⟩) (v := ?_) (.inl ⟨by rfl, ?_⟩) ?_
        rotate_left
        · (intro wq hSw; (try dsimp only at hSw); go_simp; first | done | with_reducible rfl)
        try simp only [Act.put, sA, sZ, sS]
        refine tkH (i := 5) (oi := ⟨some 36, .binOp .lss 3 (.tmp 35) (.const (.int .i64 0)) 3, 4, "ref.go:26", #[⟨4, .data⟩], none⟩) (v := .bool false) (.inl ⟨by rfl, ?_⟩) ?_
        · (intro wq hSw; (try dsimp only at hSw); go_simp; first | done | with_reducible rfl | simp)
        try simp only [Act.put, sA, sZ, sS]
        refine tkH (i := 6) (oi := ⟨some 37, .move (.tmp 36), 4, "ref.go:26", #[⟨5, .data⟩], none⟩) (v := ?_) (.inl ⟨by rfl, ?_⟩) ?_
        rotate_left
        · (intro wq hSw; (try dsimp only at hSw); go_simp; first | done | with_reducible rfl)
        try simp only [Act.put, sA, sZ, sS]
        refine tkH (i := 7) (oi := ⟨some 38, .fieldAddr 25 (.tmp 1) 1, 0, "ref.go:26", #[⟨6, .guard⟩], some (6, false)⟩) (v := ?_) (.inl ⟨by rfl, ?_⟩) ?_
        rotate_left
        · (intro wq hSw; (try dsimp only at hSw); go_simp; first | done | with_reducible rfl)
        try simp only [Act.put, sA, sZ, sS]
        refine tkH (i := 8) (oi := ⟨some 39, .load 23 (.tmp 38), 23, "ref.go:26", #[⟨7, .data⟩, ⟨6, .guard⟩], some (6, false)⟩) (v := ?_) (.inl ⟨by rfl, ?_⟩) ?_
        rotate_left
        · (intro wq hSw; (try dsimp only at hSw); go_simp; first | done | with_reducible rfl)
        try simp only [Act.put, sA, sZ, sS]
        refine tkH (i := 9) (oi := ⟨some 40, .move (.tmp 3), 3, "ref.go:26", #[⟨6, .guard⟩], some (6, false)⟩) (v := ?_) (.inl ⟨by rfl, ?_⟩) ?_
        rotate_left
        · (intro wq hSw; (try dsimp only at hSw); go_simp; first | done | with_reducible rfl)
        try simp only [Act.put, sA, sZ, sS]
        refine tkH (i := 10) (oi := ⟨some 41, .indexAddr 23 (.tmp 39) (.tmp 40), 0, "ref.go:26", #[⟨8, .data⟩, ⟨9, .data⟩, ⟨6, .guard⟩], some (6, false)⟩) (v := ?_) (.inl ⟨by rfl, ?_⟩) ?_
        rotate_left
        · (intro wq hSw; (try dsimp only at hSw); go_simp; first | done | with_reducible rfl)
        try simp only [Act.put, sA, sZ, sS]
        refine tkH (i := 11) (oi := ⟨some 42, .load 3 (.tmp 41), 3, "ref.go:26", #[⟨10, .data⟩, ⟨6, .guard⟩], some (6, false)⟩) (v := ?_) (.inl ⟨by rfl, ?_⟩) ?_
        rotate_left
        · (intro wq hSw; (try dsimp only at hSw); go_simp; first | done | with_reducible rfl)
        try simp only [Act.put, sA, sZ, sS]
        refine tkH (i := 12) (oi := ⟨some 43, .binOp .gtr 3 (.tmp 42) (.const (.int .i64 63)) 3, 4, "ref.go:26", #[⟨11, .data⟩, ⟨6, .guard⟩], some (6, false)⟩) (v := .bool false) (.inl ⟨by rfl, ?_⟩) ?_
        · (intro wq hSw; (try dsimp only at hSw); go_simp; first | done | with_reducible rfl | simp)
        try simp only [Act.put, sA, sZ, sS]
        refine tkH (i := 13) (oi := ⟨some 44, .pick (.tmp 37) (.const (.bool true)) (.tmp 43), 4, "ref.go:26", #[⟨6, .data⟩, ⟨12, .data⟩], none⟩) (v := ?_) (.inl ⟨by rfl, ?_⟩) ?_
        rotate_left
        · (intro wq hSw; (try dsimp only at hSw); go_simp; first | done | with_reducible rfl)
        try simp only [Act.put, sA, sZ, sS]
        refine tkH (i := 14) (oi := ⟨some 45, .move (.tmp 44), 4, "ref.go:26", #[⟨13, .data⟩, ⟨6, .chain⟩], none⟩) (v := ?_) (.inl ⟨by rfl, ?_⟩) ?_
        rotate_left
        · (intro wq hSw; (try dsimp only at hSw); go_simp; first | done | with_reducible rfl)
        try simp only [Act.put, sA, sZ, sS]
        refine tkH (i := 15) (oi := ⟨some 46, .load 25 (.tmp 1), 25, "ref.go:26", #[⟨14, .guard⟩], some (14, false)⟩) (v := ?_) (.inl ⟨by rfl, ?_⟩) ?_
        rotate_left
        · (intro wq hSw; (try dsimp only at hSw); go_simp; first | done | with_reducible rfl)
        try simp only [Act.put, sA, sZ, sS]
        refine tkH (i := 16) (oi := ⟨some 47, .fieldAddr 25 (.tmp 1) 1, 0, "ref.go:26", #[⟨14, .guard⟩], some (14, false)⟩) (v := ?_) (.inl ⟨by rfl, ?_⟩) ?_
        rotate_left
        · (intro wq hSw; (try dsimp only at hSw); go_simp; first | done | with_reducible rfl)
        try simp only [Act.put, sA, sZ, sS]
        refine tkH (i := 17) (oi := ⟨some 48, .load 23 (.tmp 47), 23, "ref.go:26", #[⟨16, .data⟩, ⟨14, .guard⟩], some (14, false)⟩) (v := ?_) (.inl ⟨by rfl, ?_⟩) ?_
        rotate_left
        · (intro wq hSw; (try dsimp only at hSw); go_simp; first | done | with_reducible rfl)
        try simp only [Act.put, sA, sZ, sS]
        refine tkH (i := 18) (oi := ⟨some 49, .move (.tmp 3), 3, "ref.go:26", #[⟨14, .guard⟩], some (14, false)⟩) (v := ?_) (.inl ⟨by rfl, ?_⟩) ?_
        rotate_left
        · (intro wq hSw; (try dsimp only at hSw); go_simp; first | done | with_reducible rfl)
        try simp only [Act.put, sA, sZ, sS]
        refine tkH (i := 19) (oi := ⟨some 50, .indexAddr 23 (.tmp 48) (.tmp 49), 0, "ref.go:26", #[⟨17, .data⟩, ⟨18, .data⟩, ⟨14, .guard⟩], some (14, false)⟩) (v := ?_) (.inl ⟨by rfl, ?_⟩) ?_
        rotate_left
        · (intro wq hSw; (try dsimp only at hSw); go_simp; first | done | with_reducible rfl)
        try simp only [Act.put, sA, sZ, sS]
        refine tkH (i := 20) (oi := ⟨some 51, .load 3 (.tmp 50), 3, "ref.go:26", #[⟨19, .data⟩, ⟨14, .guard⟩], some (14, false)⟩) (v := ?_) (.inl ⟨by rfl, ?_⟩) ?_
        rotate_left
        · (intro wq hSw; (try dsimp only at hSw); go_simp; first | done | with_reducible rfl)
        try simp only [Act.put, sA, sZ, sS]
        refine tkH (i := 22) (oi := ⟨some 53, .move (.tmp 3), 3, "ref.go:26", #[⟨14, .guard⟩], some (14, false)⟩) (v := ?_) (.inl ⟨by rfl, ?_⟩) ?_
        rotate_left
        · (intro wq hSw; (try dsimp only at hSw); go_simp; first | done | with_reducible rfl)
        try simp only [Act.put, sA, sZ, sS]
        refine wpAnyH_ready (rs := [21]) (by kernel_rfl) (by simp) ?_
        refine AllReadyH.cons (o := ⟨some 52, .call { callee := .value (.func 15), args := #[.tmp 46, .tmp 51], argTypes := #[25, 3] }, 3, "ref.go:26", #[⟨15, .data⟩, ⟨20, .data⟩, ⟨14, .chain⟩, ⟨14, .guard⟩], some (14, false)⟩) rfl (fun K hK => ?_) AllReadyH.nil
        go_simp
        refine (hpl _ (HSr.out.new ((New.refl wr).drew))).mono ?_
        rintro e1 w2 ⟨rfl, hn2⟩
        have hn3 := (New.refl wr).drew.trans hn2
        refine hK.out _ _ ?_ (fun hHeld => ?_)
        · exact Held.of hn3
        clear hK K
        try simp only [Act.put, sA, sZ, sS]
        refine tkH (i := 23) (oi := ⟨some 54, .binOp .neq 3 (.tmp 52) (.tmp 53) 3, 4, "ref.go:26", #[⟨21, .data⟩, ⟨22, .data⟩, ⟨14, .guard⟩], some (14, false)⟩) (v := .bool true) (.inl ⟨by rfl, ?_⟩) ?_
        · (intro wq hSw; (try dsimp only at hSw); go_simp; first | done | with_reducible rfl | simp)
        try simp only [Act.put, sA, sZ, sS]
        refine tkH (i := 24) (oi := ⟨some 55, .pick (.tmp 45) (.const (.bool true)) (.tmp 54), 4, "ref.go:26", #[⟨14, .data⟩, ⟨23, .data⟩], none⟩) (v := ?_) (.inl ⟨by rfl, ?_⟩) ?_
        rotate_left
        · (intro wq hSw; (try dsimp only at hSw); go_simp; first | done | with_reducible rfl)
        try simp only [Act.put, sA, sZ, sS]
        refine wpAnyH_done (by kernel_rfl) ?_ _
        clear hHeld
        go_wp2_with fail
        go_ret
        exact ⟨ret_bool HFX.out.symm, hN.trans (hn.trans hn3)⟩
      · have hj := place_at HX.out hin
        have HNX := Lib.hid (show goodL (ms.take (k + 1)) = true by rw [good_next HX.out, HG.out, HM.out, show (ms.take k).contains x = false by simpa using hin]; rfl)
        have hpl := fun wx hx => refPlace_any e (.slice (some ⟨b, off, none⟩) ms.length cap) ms x wx hl hx
        rw [hj] at hpl
        clear hin hj
        go_upto_region 6 with fail
        refine wp_region_held_drew (S := fun w' => Held wr w') (by kernel_rfl) (Held.of (New.refl _).drew) (fun hHeld => ?_)
        refine tkH (i := 0) (oi := ⟨some 31, .fieldAddr 25 (.tmp 1) 1, 0, "ref.go:26", #[], none⟩) (v := ?_) (.inl ⟨by rfl, ?_⟩) ?_
        rotate_left
        · (intro wq hSw; (try dsimp only at hSw); go_simp; first | done | with_reducible rfl)
        try simp only [Act.put, sA, sZ, sS]
        refine tkH (i := 1) (oi := ⟨some 32, .load 23 (.tmp 31), 23, "ref.go:26", #[⟨0, .data⟩], none⟩) (v := ?_) (.inl ⟨by rfl, ?_⟩) ?_
        rotate_left
        · (intro wq hSw; (try dsimp only at hSw); go_simp; first | done | with_reducible rfl)
        try simp only [Act.put, sA, sZ, sS]
        refine tkH (i := 2) (oi := ⟨some 33, .move (.tmp 3), 3, "ref.go:26", #[], none⟩) (v := ?_) (.inl ⟨by rfl, ?_⟩) ?_
        rotate_left
        · (intro wq hSw; (try dsimp only at hSw); go_simp; first | done | with_reducible rfl)
        try simp only [Act.put, sA, sZ, sS]
        refine tkH (i := 3) (oi := ⟨some 34, .indexAddr 23 (.tmp 32) (.tmp 33), 0, "ref.go:26", #[⟨1, .data⟩, ⟨2, .data⟩], none⟩) (v := ?_) (.inl ⟨by rfl, ?_⟩) ?_
        rotate_left
        · (intro wq hSw; (try dsimp only at hSw); go_simp; first | done | with_reducible rfl)
        try simp only [Act.put, sA, sZ, sS]
        refine tkH (i := 4) (oi := ⟨some 35, .load 3 (.tmp 34), 3, "ref.go:26", #[⟨3, .data⟩], none⟩) (v := ?_) (.inl ⟨by rfl, ?_⟩) ?_
        rotate_left
        · (intro wq hSw; (try dsimp only at hSw); go_simp; first | done | with_reducible rfl)
        try simp only [Act.put, sA, sZ, sS]
        refine tkH (i := 5) (oi := ⟨some 36, .binOp .lss 3 (.tmp 35) (.const (.int .i64 0)) 3, 4, "ref.go:26", #[⟨4, .data⟩], none⟩) (v := .bool false) (.inl ⟨by rfl, ?_⟩) ?_
        · (intro wq hSw; (try dsimp only at hSw); go_simp; first | done | with_reducible rfl | simp)
        try simp only [Act.put, sA, sZ, sS]
        refine tkH (i := 6) (oi := ⟨some 37, .move (.tmp 36), 4, "ref.go:26", #[⟨5, .data⟩], none⟩) (v := ?_) (.inl ⟨by rfl, ?_⟩) ?_
        rotate_left
        · (intro wq hSw; (try dsimp only at hSw); go_simp; first | done | with_reducible rfl)
        try simp only [Act.put, sA, sZ, sS]
        refine tkH (i := 7) (oi := ⟨some 38, .fieldAddr 25 (.tmp 1) 1, 0, "ref.go:26", #[⟨6, .guard⟩], some (6, false)⟩) (v := ?_) (.inl ⟨by rfl, ?_⟩) ?_
        rotate_left
        · (intro wq hSw; (try dsimp only at hSw); go_simp; first | done | with_reducible rfl)
        try simp only [Act.put, sA, sZ, sS]
        refine tkH (i := 8) (oi := ⟨some 39, .load 23 (.tmp 38), 23, "ref.go:26", #[⟨7, .data⟩, ⟨6, .guard⟩], some (6, false)⟩) (v := ?_) (.inl ⟨by rfl, ?_⟩) ?_
        rotate_left
        · (intro wq hSw; (try dsimp only at hSw); go_simp; first | done | with_reducible rfl)
        try simp only [Act.put, sA, sZ, sS]
        refine tkH (i := 9) (oi := ⟨some 40, .move (.tmp 3), 3, "ref.go:26", #[⟨6, .guard⟩], some (6, false)⟩) (v := ?_) (.inl ⟨by rfl, ?_⟩) ?_
        rotate_left
        · (intro wq hSw; (try dsimp only at hSw); go_simp; first | done | with_reducible rfl)
        try simp only [Act.put, sA, sZ, sS]
        refine tkH (i := 10) (oi := ⟨some 41, .indexAddr 23 (.tmp 39) (.tmp 40), 0, "ref.go:26", #[⟨8, .data⟩, ⟨9, .data⟩, ⟨6, .guard⟩], some (6, false)⟩) (v := ?_) (.inl ⟨by rfl, ?_⟩) ?_
        rotate_left
        · (intro wq hSw; (try dsimp only at hSw); go_simp; first | done | with_reducible rfl)
        try simp only [Act.put, sA, sZ, sS]
        refine tkH (i := 11) (oi := ⟨some 42, .load 3 (.tmp 41), 3, "ref.go:26", #[⟨10, .data⟩, ⟨6, .guard⟩], some (6, false)⟩) (v := ?_) (.inl ⟨by rfl, ?_⟩) ?_
        rotate_left
        · (intro wq hSw; (try dsimp only at hSw); go_simp; first | done | with_reducible rfl)
        try simp only [Act.put, sA, sZ, sS]
        refine tkH (i := 12) (oi := ⟨some 43, .binOp .gtr 3 (.tmp 42) (.const (.int .i64 63)) 3, 4, "ref.go:26", #[⟨11, .data⟩, ⟨6, .guard⟩], some (6, false)⟩) (v := .bool false) (.inl ⟨by rfl, ?_⟩) ?_
        · (intro wq hSw; (try dsimp only at hSw); go_simp; first | done | with_reducible rfl | simp)
        try simp only [Act.put, sA, sZ, sS]
        refine tkH (i := 13) (oi := ⟨some 44, .pick (.tmp 37) (.const (.bool true)) (.tmp 43), 4, "ref.go:26", #[⟨6, .data⟩, ⟨12, .data⟩], none⟩) (v := ?_) (.inl ⟨by rfl, ?_⟩) ?_
        rotate_left
        · (intro wq hSw; (try dsimp only at hSw); go_simp; first | done | with_reducible rfl)
        try simp only [Act.put, sA, sZ, sS]
        refine tkH (i := 14) (oi := ⟨some 45, .move (.tmp 44), 4, "ref.go:26", #[⟨13, .data⟩, ⟨6, .chain⟩], none⟩) (v := ?_) (.inl ⟨by rfl, ?_⟩) ?_
        rotate_left
        · (intro wq hSw; (try dsimp only at hSw); go_simp; first | done | with_reducible rfl)
        try simp only [Act.put, sA, sZ, sS]
        refine tkH (i := 15) (oi := ⟨some 46, .load 25 (.tmp 1), 25, "ref.go:26", #[⟨14, .guard⟩], some (14, false)⟩) (v := ?_) (.inl ⟨by rfl, ?_⟩) ?_
        rotate_left
        · (intro wq hSw; (try dsimp only at hSw); go_simp; first | done | with_reducible rfl)
        try simp only [Act.put, sA, sZ, sS]
        refine tkH (i := 16) (oi := ⟨some 47, .fieldAddr 25 (.tmp 1) 1, 0, "ref.go:26", #[⟨14, .guard⟩], some (14, false)⟩) (v := ?_) (.inl ⟨by rfl, ?_⟩) ?_
        rotate_left
        · (intro wq hSw; (try dsimp only at hSw); go_simp; first | done | with_reducible rfl)
        try simp only [Act.put, sA, sZ, sS]
        refine tkH (i := 17) (oi := ⟨some 48, .load 23 (.tmp 47), 23, "ref.go:26", #[⟨16, .data⟩, ⟨14, .guard⟩], some (14, false)⟩) (v := ?_) (.inl ⟨by rfl, ?_⟩) ?_
        rotate_left
        · (intro wq hSw; (try dsimp only at hSw); go_simp; first | done | with_reducible rfl)
        try simp only [Act.put, sA, sZ, sS]
        refine tkH (i := 18) (oi := ⟨some 49, .move (.tmp 3), 3, "ref.go:26", #[⟨14, .guard⟩], some (14, false)⟩) (v := ?_) (.inl ⟨by rfl, ?_⟩) ?_
        rotate_left
        · (intro wq hSw; (try dsimp only at hSw); go_simp; first | done | with_reducible rfl)
        try simp only [Act.put, sA, sZ, sS]
        refine tkH (i := 19) (oi := ⟨some 50, .indexAddr 23 (.tmp 48) (.tmp 49), 0, "ref.go:26", #[⟨17, .data⟩, ⟨18, .data⟩, ⟨14, .guard⟩], some (14, false)⟩) (v := ?_) (.inl ⟨by rfl, ?_⟩) ?_
        rotate_left
        · (intro wq hSw; (try dsimp only at hSw); go_simp; first | done | with_reducible rfl)
        try simp only [Act.put, sA, sZ, sS]
        refine tkH (i := 20) (oi := ⟨some 51, .load 3 (.tmp 50), 3, "ref.go:26", #[⟨19, .data⟩, ⟨14, .guard⟩], some (14, false)⟩) (v := ?_) (.inl ⟨by rfl, ?_⟩) ?_
        rotate_left
        · (intro wq hSw; (try dsimp only at hSw); go_simp; first | done | with_reducible rfl)
        try simp only [Act.put, sA, sZ, sS]
        refine tkH (i := 22) (oi := ⟨some 53, .move (.tmp 3), 3, "ref.go:26", #[⟨14, .guard⟩], some (14, false)⟩) (v := ?_) (.inl ⟨by rfl, ?_⟩) ?_
        rotate_left
        · (intro wq hSw; (try dsimp only at hSw); go_simp; first | done | with_reducible rfl)
        try simp only [Act.put, sA, sZ, sS]
        refine wpAnyH_ready (rs := [21]) (by kernel_rfl) (by simp) ?_
        refine AllReadyH.cons (o := ⟨some 52, .call { callee := .value (.func 15), args := #[.tmp 46, .tmp 51], argTypes := #[25, 3] }, 3, "ref.go:26", #[⟨15, .data⟩, ⟨20, .data⟩, ⟨14, .chain⟩, ⟨14, .guard⟩], some (14, false)⟩) rfl (fun K hK => ?_) AllReadyH.nil
        go_simp
        refine (hpl _ (HSr.out.new ((New.refl wr).drew))).mono ?_
        rintro e1 w2 ⟨rfl, hn2⟩
        have hn3 := (New.refl wr).drew.trans hn2
        refine hK.out _ _ ?_ (fun hHeld => ?_)
        · exact Held.of hn3
        clear hK K
        try simp only [Act.put, sA, sZ, sS]
        refine tkH (i := 23) (oi := ⟨some 54, .binOp .neq 3 (.tmp 52) (.tmp 53) 3, 4, "ref.go:26", #[⟨21, .data⟩, ⟨22, .data⟩, ⟨14, .guard⟩], some (14, false)⟩) (v := .bool false) (.inl ⟨by rfl, ?_⟩) ?_
        · (intro wq hSw; (try dsimp only at hSw); go_simp; first | done | with_reducible rfl | simp)
        try simp only [Act.put, sA, sZ, sS]
        refine tkH (i := 24) (oi := ⟨some 55, .pick (.tmp 45) (.const (.bool true)) (.tmp 54), 4, "ref.go:26", #[⟨14, .data⟩, ⟨23, .data⟩], none⟩) (v := ?_) (.inl ⟨by rfl, ?_⟩) ?_
        rotate_left
        · (intro wq hSw; (try dsimp only at hSw); go_simp; first | done | with_reducible rfl)
        try simp only [Act.put, sA, sZ, sS]
        refine wpAnyH_done (by kernel_rfl) ?_ _
        clear hHeld
        go_wp2_with fail
        go_roundw
        case rel => exact ⟨k + 1, by omega, by go_num, HNX.out, hn.trans hn3⟩
        case measure => simp [intOf]; omega
    · have hlt2 : ¬ (k : Int) < (ms.length : Int) := by omega
      have HFX := Lib.hid (show chkC ⟨e, ms⟩ = true by rw [HF.out, ← HG.out, List.take_of_length_le (by omega)])
      go_wp2_with fail
      go_ret
      exact ⟨ret_bool HFX.out.symm, hN.trans hn⟩

end Go.Proofs.YtecniafnihpjmaaGreatDoor.C


/- Chapter 23 (config): a row of ints cloned, an int deleted in place; removing and joining a node: the program's. Printed by genCfg.py. -/
namespace Go.Proofs.YtecniafnihpjmaaGreatDoor.C
open Go.RowKit Go.Lap
set_option linter.unusedVariables false

def ClonePost (w : World) (ms : List Int) (e : Ending) (w' : World) : Prop := ∃ u, e = .returned u ∧ Owns w' w.heap.size 3 1 iEnc u ms ∧ New w w'
theorem flat_i : ∀ l : List Int, l.flatMap iEnc = l.map (Value.int .i64)
  | [] => rfl
  | x :: l => by rw [List.flatMap_cons, flat_i l]; rfl
theorem clone_any (v : Value) (ms : List Int) (w : World) (hl : ms.length ≤ 1000000000) (hs : SlIn w 1 iEnc v ms) : Calls Tryz.prog 87 #[v] w (ClonePost w ms) := by
  obtain ⟨A, c, rfl, hlc, hh⟩ := hs
  rcases hh with rfl | ⟨b, off, rfl, hb, hc⟩
  · cases A with
    | none => exact (Tryz.slices_Clone_int_nil _ c w).mono fun e w' ⟨he, hw⟩ => ⟨_, he, Owns.nil _ _ _ _ _, hw ▸ New.refl _⟩
    | some a => exact (Tryz.slices_Clone_int_zero a c w).mono fun e w' ⟨u, he, ho, _, hn⟩ => ⟨u, he, ho, hn⟩
  · refine (Tryz.slices_Clone_int b off ms.length c ms w (Nat.le_refl _) (by omega) (SlIn.ints hc)).mono fun e w' ⟨u, he, ho, _, hn⟩ => ⟨u, he, ?_, hn⟩
    rw [List.take_length] at ho
    show w'.ownsRow _ _ _ _ _ _
    rw [flat_i]
    exact ho
end Go.Proofs.YtecniafnihpjmaaGreatDoor.C

/- Chapter 23 (config): who is beside a node; the law's of. -/
namespace Go.Proofs.YtecniafnihpjmaaGreatDoor.C
open Go.RowKit Go.Lap
set_option linter.unusedVariables false

/-- Who stands at place k, where the node is there (i). -/
def atC (ms : List Int) (i k : Int) : Int × Bool := if 0 ≤ i ∧ 0 ≤ k then (match ms[k.toNat]? with | some x => (x, true) | none => (0, false)) else (0, false)
theorem at_no {ms : List Int} {i k : Int} (h : i < 0 ∨ k < 0 ∨ (ms.length : Int) ≤ k) : atC ms i k = (0, false) := by
  unfold atC
  split
  · rename_i h2
    have : ms[k.toNat]? = none := List.getElem?_eq_none (by omega)
    rw [this]
  · rfl
theorem at_yes {ms : List Int} {i : Int} {k : Nat} {x : Int} (hi : 0 ≤ i) (hx : ms[k]? = some x) : atC ms i (k : Int) = (x, true) := by
  unfold atC
  rw [if_pos ⟨hi, by omega⟩, Int.toNat_natCast, hx]
def AtPost (w : World) (r : Int × Bool) (e : Ending) (w' : World) : Prop := e = .returned (.tuple #[.int .i64 r.1, .bool r.2]) ∧ New w w'
theorem AtPost.no {w w' : World} {r : Int × Bool} (hr : r = (0, false)) (hn : New w w') : AtPost w r (.returned (.tuple #[.int .i64 0, .bool false])) w' := by subst hr; exact ⟨rfl, hn⟩
theorem AtPost.yes {w w' : World} {r : Int × Bool} {x : Int} (hr : r = (x, true)) (hn : New w w') : AtPost w r (.returned (.tuple #[.int .i64 x, .bool true])) w' := by subst hr; exact ⟨rfl, hn⟩

set_option maxRecDepth 100000 in
set_option maxHeartbeats 4000000 in
theorem atFn_any (k i : Int) (gi gb : Nat) (e : Nat) (A : Option Addr) (cap : Nat) (ms : List Int) (w : World) (hi : w.cell? ⟨gi, 0, none⟩ = some (.int .i64 i)) (hb : Blk w gb 25 #[.int .u64 (e : Int), .slice A ms.length cap]) (hs : SlIn w 1 iEnc (.slice A ms.length cap) ms) :
    Calls Tryz.prog 96 #[.int .i64 k, .pointer (some ⟨gi, 0, none⟩), .pointer (some ⟨gb, 0, none⟩)] w (AtPost w (atC ms i k)) := by
  obtain ⟨p0, p1, p2, pz⟩ := Blk2F hb
  by_cases h1 : i < 0
  · have HF := Lib.hid (at_no (ms := ms) (k := k) (.inl h1))
    clear hs
    go_enter Tryz.func96, Tryz.ntmps96
    go_wp2_with fail
    go_ret2
    exact AtPost.no HF.out (New.refl _)
  by_cases h2 : k < 0
  · have HF := Lib.hid (at_no (ms := ms) (i := i) (.inr (.inl h2)))
    clear hs
    go_enter Tryz.func96, Tryz.ntmps96
    go_wp2_with fail
    go_ret2
    exact AtPost.no HF.out (New.refl _)
  by_cases h3 : (ms.length : Int) ≤ k
  · have HF := Lib.hid (at_no (ms := ms) (i := i) (.inr (.inr h3)))
    clear hs
    go_enter Tryz.func96, Tryz.ntmps96
    go_wp2_with fail
    go_ret2
    exact AtPost.no HF.out (New.refl _)
  obtain ⟨m, rfl⟩ : ∃ m : Nat, k = (m : Int) := ⟨k.toNat, by omega⟩
  have hlt : m < ms.length := by omega
  have hlt2 : (m : Int) < (ms.length : Int) := by omega
  have hk0 : (0 : Int) ≤ (m : Int) := by omega
  obtain ⟨A', c', hv, _, hh⟩ := hs
  cases hv
  rcases hh with rfl | ⟨b, off, rfl, hbb, hc⟩
  · simp at hlt
  obtain ⟨x, hx⟩ : ∃ x, ms[m]? = some x := ⟨_, List.getElem?_eq_getElem hlt⟩
  have e0 := SlIn.int_at hc hx
  have HF := Lib.hid (at_yes (i := i) (by omega) hx)
  clear hc hx
  go_enter Tryz.func96, Tryz.ntmps96
  go_wp2_with fail
  go_ret2
  exact AtPost.yes HF.out (New.refl _)

set_option maxRecDepth 100000 in
set_option maxHeartbeats 4000000 in
theorem beside_any (e : Nat) (v : Value) (ms : List Int) (n d : Int) (w : World) (hl : ms.length ≤ 1000000000) (hd : d = 1 ∨ d = -1) (hs : SlIn w 1 iEnc v ms) :
    Calls Tryz.prog 76 #[.agg #[.int .u64 (e : Int), v], .int .i64 n, .int .i64 d] w (AtPost w (atC ms (placeC ms n) (placeC ms n + d))) := by
  obtain ⟨A, m, cap, rfl⟩ := hs.shape
  obtain ⟨A', c', hv, hlc, -⟩ := id hs
  cases hv
  have hN := (New.refl w).alloc (.cells #[.int .u64 (e : Int), .slice A ms.length cap] 25)
  have hB := Blk.mk_new w 25 #[.int .u64 (e : Int), .slice A ms.length cap]
  have HS := Lib.hid (hs.new hN)
  clear hs
  have hpb : -1 ≤ placeC ms n ∧ placeC ms n < 1000000000 := by rcases place_cases ms n with ⟨_, h⟩ | ⟨k, hk, _, _, h⟩ <;> rw [h] <;> omega
  go_enter Tryz.func76, Tryz.ntmps76
  obtain ⟨p0, p1, p2, pz⟩ := Blk2F hB
  go_upto_region 1 with fail
  generalize w.alloc _ = w1 at *
  go_wp2_with fail
  refine (place_any e _ ms n w1 hl HS.out).mono ?_
  rintro e1 w2 ⟨rfl, hn2⟩
  have hB2 := hB.new hn2
  have hN2 := hN.trans hn2
  have hP := Blk.mk_new w2 3 #[.int .i64 (placeC ms n)]
  have hAx := (New.refl w2).alloc (.cells #[.int .i64 (placeC ms n)] 3)
  have HS3 := Lib.hid ((HS.out.new hn2).new hAx)
  have HB3 := Lib.hid (hB2.new hAx)
  have HN3 := Lib.hid (hN2.trans hAx)
  have c1 := hP.cell 0
  have HP := Lib.hid hP
  clear hB hN HS hn2 hB2 hN2 hP hAx p0 p1 p2 pz
  generalize placeC ms n = i at *
  have hw : IntKind.i64.wrap (i + d) = i + d := by rw [IntWalk.i64_in _ (by omega)]
  go_upto_region 2 with fail
  generalize w2.heap.size = gi at *
  generalize w2.alloc _ = w3 at *
  have hgi := HP.out.lt
  have c2 : w3.cell? ⟨gi, 0, none⟩ = some (.int .i64 i) := c1
  clear c1
  go_wp2_with fail
  refine (atFn_any (i + d) i gi w.heap.size e A cap ms w3 c2 HB3.out HS3.out).mono ?_
  rintro e1 w4 ⟨rfl, hn4⟩
  go_wp2_with fail
  go_ret2
  exact ⟨rfl, HN3.out.trans hn4⟩

set_option maxHeartbeats 1000000 in
theorem next_any (e : Nat) (v : Value) (ms : List Int) (n : Int) (w : World) (hl : ms.length ≤ 1000000000) (hs : SlIn w 1 iEnc v ms) :
    Calls Tryz.prog 42 #[.agg #[.int .u64 (e : Int), v], .int .i64 n] w (AtPost w (atC ms (placeC ms n) (placeC ms n + 1))) := by
  obtain ⟨A, m, cap, rfl⟩ := hs.shape
  have hN := (New.refl w).alloc (.cells #[.int .u64 (e : Int), .slice A m cap] 25)
  have HS := Lib.hid (hs.new hN)
  clear hs
  go_enter Tryz.func42, Tryz.ntmps42
  go_wp2_with fail
  refine (beside_any e _ ms n 1 _ hl (.inl rfl) HS.out).mono ?_
  rintro e1 w2 ⟨rfl, hn2⟩
  generalize atC ms (placeC ms n) (placeC ms n + 1) = r at *
  obtain ⟨r1, r2⟩ := r
  go_wp2_with fail
  go_ret2
  exact ⟨rfl, hN.trans hn2⟩
set_option maxHeartbeats 1000000 in
theorem before_any (e : Nat) (v : Value) (ms : List Int) (n : Int) (w : World) (hl : ms.length ≤ 1000000000) (hs : SlIn w 1 iEnc v ms) :
    Calls Tryz.prog 60 #[.agg #[.int .u64 (e : Int), v], .int .i64 n] w (AtPost w (atC ms (placeC ms n) (placeC ms n + -1))) := by
  obtain ⟨A, m, cap, rfl⟩ := hs.shape
  have hN := (New.refl w).alloc (.cells #[.int .u64 (e : Int), .slice A m cap] 25)
  have HS := Lib.hid (hs.new hN)
  clear hs
  go_enter Tryz.func60, Tryz.ntmps60
  go_wp2_with fail
  refine (beside_any e _ ms n (-1) _ hl (.inr rfl) HS.out).mono ?_
  rintro e1 w2 ⟨rfl, hn2⟩
  generalize atC ms (placeC ms n) (placeC ms n + -1) = r at *
  obtain ⟨r1, r2⟩ := r
  go_wp2_with fail
  go_ret2
  exact ⟨rfl, hN.trans hn2⟩

end Go.Proofs.YtecniafnihpjmaaGreatDoor.C
