/- Chapter 23 (config): places, members, which configurations may be: the program's and the document's. -/
import Derived.Test.YtlhlcdjkacglnaaGreatDoorJk3
import Derived.Test.YtlhlcdjkacglnaaGreatDoorJk4
import Derived.Test.YtlhlcdjkacglnaaGreatDoorJk2
import Derived.Deep.DeepCutAuto
import Derived.IntWalk
import Derived.LoopN
import Derived.Test.YtlhlcdjkacglnaaGreatDoorJk1
namespace Go.Proofs.YtlhlcdjkacglnaaGreatDoor.C
open Go.RowKit Go.Lap
set_option linter.unusedVariables false

def iEnc (n : Int) : List Value := [.int .i64 n]
theorem iEncOk : Enc iEnc 1 := fun _ => ⟨rfl, by simp [iEnc, Value.oneCell']⟩
theorem iTy : SlTy Tryz.prog 39 3 (.int .i64 0) 1 8 := ⟨Tryz.underlying39, by kernel_rfl, rfl, by decide⟩
theorem Blk2F {w : World} {g t : Nat} {a b : Value} (h : Blk w g t #[a, b]) : g < w.heap.size ∧ w.cell? ⟨g, 0, none⟩ = some a ∧ w.cell? ⟨g, 1, none⟩ = some b ∧ (∀ i, w.frozen? ⟨g, i, none⟩ = false) := ⟨h.lt, h.cell 0, h.cell 1, h.frozen⟩
theorem SlIn.ints {w : World} {b off : Nat} {l : List Int} (hc : ∀ k x, l[k]? = some x → ∀ j u, (iEnc x)[j]? = some u → w.cell? ⟨b, off + k * 1 + j, none⟩ = some u) : ∀ j, j < l.length → w.cell? ⟨b, off + j, none⟩ = some (.int .i64 (l.getD j 0)) := fun j hj => by
  have h := hc j (l[j]) (List.getElem?_eq_getElem hj) 0 _ rfl
  rw [List.getD_eq_getElem?_getD, List.getElem?_eq_getElem hj]
  simpa using h
theorem SlIn.int_at {w : World} {b off : Nat} {l : List Int} {k : Nat} {x : Int} (hc : ∀ k x, l[k]? = some x → ∀ j u, (iEnc x)[j]? = some u → w.cell? ⟨b, off + k * 1 + j, none⟩ = some u) (h : l[k]? = some x) : w.cell? ⟨b, off + k, none⟩ = some (.int .i64 x) := by
  simpa using hc k x h 0 _ rfl

theorem index_any (v : Value) (ms : List Int) (n : Int) (w : World) (hl : ms.length ≤ 1000000000) (hs : SlIn w 1 iEnc v ms) :
    Calls Tryz.prog 151 #[v, .int .i64 n] w fun e w' => e = .returned (.int .i64 (placeC ms n)) ∧ w' = w := by
  obtain ⟨A, c, rfl, hlc, hh⟩ := hs
  rcases hh with rfl | ⟨b, off, rfl, hb, hc⟩
  · exact Tryz.slices_Index_int_empty A c n w
  · have h := Tryz.slices_Index_int b off ms.length c ms n w (Nat.le_refl _) (by omega) (SlIn.ints hc)
    rw [List.take_length] at h
    exact h
theorem contains_any (v : Value) (ms : List Int) (n : Int) (w : World) (hl : ms.length ≤ 1000000000) (hs : SlIn w 1 iEnc v ms) :
    Calls Tryz.prog 150 #[v, .int .i64 n] w fun e w' => e = .returned (.bool (ms.contains n)) ∧ w' = w := by
  obtain ⟨A, c, rfl, hlc, hh⟩ := hs
  rcases hh with rfl | ⟨b, off, rfl, hb, hc⟩
  · exact Tryz.slices_Contains_int_empty A c n w
  · have h := Tryz.slices_Contains_int b off ms.length c ms n w (Nat.le_refl _) (by omega) (SlIn.ints hc)
    rw [List.take_length] at h
    exact h

set_option maxHeartbeats 1000000 in
theorem member_any (n : Int) (w : World) : Calls Tryz.prog 149 #[.int .i64 n] w fun e w' => e = .returned (.bool (memB n)) ∧ w' = w := by
  by_cases h0 : 0 ≤ n
  · by_cases h1 : n ≤ 63
    · have HF := Lib.hid (show memB n = true by simp [memB, h0, h1])
      go_enter Tryz.func149, Tryz.ntmps149
      go_wp2_with fail
      go_ret
      exact ⟨ret_bool HF.out.symm, rfl⟩
    · have HF := Lib.hid (show memB n = false by simp [memB]; omega)
      go_enter Tryz.func149, Tryz.ntmps149
      go_wp2_with fail
      go_ret
      exact ⟨ret_bool HF.out.symm, rfl⟩
  · have HF := Lib.hid (show memB n = false by simp [memB]; omega)
    go_enter Tryz.func149, Tryz.ntmps149
    go_wp2_with fail
    go_ret
    exact ⟨ret_bool HF.out.symm, rfl⟩

set_option maxHeartbeats 1000000 in
theorem place_any (e : Nat) (v : Value) (ms : List Int) (n : Int) (w : World) (hl : ms.length ≤ 1000000000) (hs : SlIn w 1 iEnc v ms) :
    Calls Tryz.prog 104 #[.agg #[.int .u64 (e : Int), v], .int .i64 n] w fun e w' => e = .returned (.int .i64 (placeC ms n)) ∧ New w w' := by
  obtain ⟨A, m, cap, rfl⟩ := hs.shape
  have hN := (New.refl w).alloc (.cells #[.int .u64 (e : Int), .slice A m cap] 41)
  have HS := Lib.hid (hs.new hN)
  clear hs
  go_enter Tryz.func104, Tryz.ntmps104
  go_wp2_with fail
  refine (index_any _ ms n _ hl HS.out).mono ?_
  rintro e1 w1 ⟨rfl, rfl⟩
  go_wp2_with fail
  go_ret
  exact ⟨rfl, hN⟩

/-- How far the looks at the members have come. -/
def ChkRel (ms : List Int) (k : Nat) (w wr : World) : Prop := goodL (ms.take k) = true ∧ New w wr

set_option maxRecDepth 100000 in
set_option maxHeartbeats 4000000 in
theorem check_any (e : Nat) (v : Value) (ms : List Int) (w : World) (hl : ms.length ≤ 1000000000) (hs : SlIn w 1 iEnc v ms) :
    Calls Tryz.prog 103 #[.agg #[.int .u64 (e : Int), v]] w fun e' w' => e' = .returned (.bool (chkC ⟨e, ms⟩)) ∧ New w w' := by
  obtain ⟨A, m, cap, rfl⟩ := hs.shape
  obtain ⟨A', c', hv, hlc, hh⟩ := id hs
  cases hv
  have hN := (New.refl w).alloc (.cells #[.int .u64 (e : Int), .slice A ms.length cap] 41)
  by_cases h1 : e < 1
  · have h1' : (e : Int) < 1 := by omega
    have HF := Lib.hid (show chkC ⟨e, ms⟩ = false from chk_bad (by rintro ⟨a, b, d, f⟩; dsimp only [lastE] at *; omega))
    clear hs hh
    go_enter Tryz.func103, Tryz.ntmps103
    go_wp2_with fail
    go_ret
    exact ⟨ret_bool HF.out.symm, hN⟩
  by_cases h2 : 4611686018427387904 < e
  · have h1' : ¬ (e : Int) < 1 := by omega
    have h2' : (4611686018427387904 : Int) < (e : Int) := by omega
    have HF := Lib.hid (show chkC ⟨e, ms⟩ = false from chk_bad (by rintro ⟨a, b, d, f⟩; dsimp only [lastE] at *; omega))
    clear hs hh
    go_enter Tryz.func103, Tryz.ntmps103
    go_wp2_with fail
    go_ret
    exact ⟨ret_bool HF.out.symm, hN⟩
  by_cases h3 : ms.length < 1
  · have h1' : ¬ (e : Int) < 1 := by omega
    have h2' : ¬ (4611686018427387904 : Int) < (e : Int) := by omega
    have h3' : (ms.length : Int) < 1 := by omega
    have HF := Lib.hid (show chkC ⟨e, ms⟩ = false from chk_bad (by rintro ⟨a, b, d, f⟩; dsimp only [lastE] at *; omega))
    clear hs hh
    go_enter Tryz.func103, Tryz.ntmps103
    go_wp2_with fail
    go_ret
    exact ⟨ret_bool HF.out.symm, hN⟩
  by_cases h4 : 7 < ms.length
  · have h1' : ¬ (e : Int) < 1 := by omega
    have h2' : ¬ (4611686018427387904 : Int) < (e : Int) := by omega
    have h3' : ¬ (ms.length : Int) < 1 := by omega
    have h4' : (7 : Int) < (ms.length : Int) := by omega
    have HF := Lib.hid (show chkC ⟨e, ms⟩ = false from chk_bad (by rintro ⟨a, b, d, f⟩; dsimp only [lastE] at *; omega))
    clear hs hh
    go_enter Tryz.func103, Tryz.ntmps103
    go_wp2_with fail
    go_ret
    exact ⟨ret_bool HF.out.symm, hN⟩
  have h1' : ¬ (e : Int) < 1 := by omega
  have h2' : ¬ (4611686018427387904 : Int) < (e : Int) := by omega
  have h3' : ¬ (ms.length : Int) < 1 := by omega
  have h4' : ¬ (7 : Int) < (ms.length : Int) := by omega
  have HF := Lib.hid (show chkC ⟨e, ms⟩ = goodL ms from chk_good (by dsimp only; omega) (by dsimp only [lastE]; omega) (by dsimp only; omega) (by dsimp only; omega))
  have hB := Lib.hid (Blk.mk_new w 41 #[.int .u64 (e : Int), .slice A ms.length cap])
  have HS := Lib.hid (hs.new hN)
  clear hs hh
  go_enter Tryz.func103, Tryz.ntmps103
  go_wp2_with fail
  generalize w.alloc _ = w1 at *
  go_loopw [28] (fun i wr => ∃ k : Nat, k ≤ ms.length ∧ i = .int .i64 (k : Int) ∧ ChkRel ms k w1 wr) (fun i _ => ms.length - (intOf i).toNat)
  case atStart => exact ⟨0, by omega, rfl, rfl, New.refl _⟩
  case round =>
    obtain ⟨k, hk, rfl, hg, hn⟩ := hrel
    obtain ⟨p0, p1, p2, pz⟩ := Blk2F (hB.out.new hn)
    have HSr := Lib.hid (HS.out.new hn)
    have HG := Lib.hid hg
    clear hg
    by_cases hlt : k < ms.length
    · have hlt2 : (k : Int) < (ms.length : Int) := by omega
      obtain ⟨A', c', hv, _, hh⟩ := HSr.out
      cases hv
      rcases hh with rfl | ⟨b, off, rfl, hbb, hc⟩
      · simp at hlt
      obtain ⟨x, hx⟩ : ∃ x, ms[k]? = some x := ⟨_, List.getElem?_eq_getElem hlt⟩
      have e0 := SlIn.int_at hc hx
      have HT := Lib.hid (SlIn.take HSr.out hk (show k ≤ cap by omega))
      have HX := Lib.hid hx
      have hkc : (k : Int) ≤ (cap : Int) := by omega
      have hk0 : (0 : Int) ≤ (k : Int) := by omega
      have hmem := member_any x
      clear hc hx
      cases hm : memB x with
      | false =>
        rw [hm] at hmem
        have HFX := Lib.hid (HF.out.trans (good_fail HX.out (.inl hm)))
        clear hm
        go_wp2_with fail
        refine (hmem _).mono ?_
        rintro e1 w2 ⟨rfl, rfl⟩
        go_wp2_with fail
        go_ret
        exact ⟨ret_bool HFX.out.symm, hN.trans hn⟩
      | true =>
        rw [hm] at hmem
        have HM := Lib.hid hm
        clear hm
        go_wp2_with fail
        refine (hmem _).mono ?_
        rintro e1 w2 ⟨rfl, rfl⟩
        go_wp2_with fail
        refine (contains_any _ (ms.take k) x _ (by rw [List.length_take]; omega) HT.out).mono ?_
        rintro e1 w2 ⟨rfl, rfl⟩
        cases hct : (ms.take k).contains x with
        | true =>
          have HFX := Lib.hid (HF.out.trans (good_fail HX.out (.inr hct)))
          clear hct
          go_wp2_with fail
          go_ret
          exact ⟨ret_bool HFX.out.symm, hN.trans hn⟩
        | false =>
          have HNX := Lib.hid (show goodL (ms.take (k + 1)) = true by rw [good_next HX.out, HG.out, HM.out, hct]; rfl)
          clear hct
          go_wp2_with fail
          go_roundw
          case rel => exact ⟨k + 1, by omega, by go_num, HNX.out, hn⟩
          case measure => simp [intOf]; omega
    · have hlt2 : ¬ (k : Int) < (ms.length : Int) := by omega
      have HFX := Lib.hid (show chkC ⟨e, ms⟩ = true by rw [HF.out, ← HG.out, List.take_of_length_le (by omega)])
      go_wp2_with fail
      go_ret
      exact ⟨ret_bool HFX.out.symm, hN.trans hn⟩
end Go.Proofs.YtlhlcdjkacglnaaGreatDoor.C
/- Chapter 23 (config): a row of ints cloned, an int deleted in place; removing and joining a node: the program's. Printed by genCfg.py. -/
namespace Go.Proofs.YtlhlcdjkacglnaaGreatDoor.C
open Go.RowKit Go.Lap
set_option linter.unusedVariables false

def ClonePost (w : World) (ms : List Int) (e : Ending) (w' : World) : Prop := ∃ u, e = .returned u ∧ Owns w' w.heap.size 3 1 iEnc u ms ∧ New w w'
theorem flat_i : ∀ l : List Int, l.flatMap iEnc = l.map (Value.int .i64)
  | [] => rfl
  | x :: l => by rw [List.flatMap_cons, flat_i l]; rfl
theorem clone_any (v : Value) (ms : List Int) (w : World) (hl : ms.length ≤ 1000000000) (hs : SlIn w 1 iEnc v ms) : Calls Tryz.prog 107 #[v] w (ClonePost w ms) := by
  obtain ⟨A, c, rfl, hlc, hh⟩ := hs
  rcases hh with rfl | ⟨b, off, rfl, hb, hc⟩
  · cases A with
    | none => exact (Tryz.slices_Clone_int_nil _ c w).mono fun e w' ⟨he, hw⟩ => ⟨_, he, Owns.nil _ _ _ _ _, hw ▸ New.refl _⟩
    | some a => exact (Tryz.slices_Clone_int_zero a c w).mono fun e w' ⟨u, he, ho, _, hn⟩ => ⟨u, he, ho, hn⟩
  · refine (Tryz.slices_Clone_int b off ms.length c ms w (Nat.le_refl _) (by omega) (SlIn.ints hc)).mono fun e w' ⟨u, he, ho, _, hn⟩ => ⟨u, he, ?_, hn⟩
    rw [List.take_length] at ho
    show w'.ownsRow _ _ _ _ _ _
    rw [flat_i]
    exact ho
theorem owns_at {w : World} {base : Nat} {v : Value} {ms : List Int} (h : Owns w base 3 1 iEnc v ms) (hne : ms ≠ []) : ∃ g cap cur, v = .slice (some ⟨g, 0, none⟩) ms.length cap ∧ base ≤ g ∧ Blk w g 3 cur ∧ ms.length ≤ cap ∧ cap ≤ maxLen := by
  rcases h.2 with ⟨_, h0⟩ | ⟨g, cap, cur, rfl, hg, hh, hn, hm, _⟩
  · exact absurd (List.eq_nil_of_length_eq_zero h0) hne
  · exact ⟨g, cap, cur, rfl, hg, hh, hn, hm⟩
def DelPost (w : World) (g cap : Nat) (ms : List Int) (i : Nat) (e : Ending) (w' : World) : Prop :=
  e = .returned (.slice (some ⟨g, 0, none⟩) (ms.length - 1) cap) ∧ SlIn w' 1 iEnc (.slice (some ⟨g, 0, none⟩) (ms.length - 1) cap) (ms.eraseIdx i) ∧ Upd (· = g) w w'
theorem delete_any (base g cap : Nat) (ms : List Int) (i : Nat) (w : World) (ho : Owns w base 3 1 iEnc (.slice (some ⟨g, 0, none⟩) ms.length cap) ms) (hi : i < ms.length) :
    Calls Tryz.prog 197 #[.slice (some ⟨g, 0, none⟩) ms.length cap, .int .i64 (i : Int), .int .i64 ((i + 1 : Nat) : Int)] w (DelPost w g cap ms i) := by
  obtain ⟨g', cap', cur, hv, _, hB, hlc, hm⟩ := owns_at ho (by intro h; rw [h] at hi; simp at hi)
  cases hv
  obtain ⟨A', c', hv, _, hh⟩ := Owns.slIn iEncOk ho
  cases hv
  rcases hh with rfl | ⟨b, off, hA, hb, hc⟩
  · simp at hi
  cases hA
  have hc0 := SlIn.ints hc
  have hH : Sort.Holds (Value.int .i64) w g 0 ms.toArray := fun j hj => by
    have hj' : j < ms.length := by simpa using hj
    refine ⟨?_, hB.frozen _⟩
    rw [hc0 j hj', List.getD_eq_getElem?_getD, List.getElem?_eq_getElem hj']
    simp [hj']
  refine (Tryz.slices_Delete_int g 0 cap i (i + 1) ms w hH hlc (by unfold maxLen at hm; omega) (by omega) (by omega)).mono ?_
  rintro e w' ⟨rfl, q, rfl⟩
  have hlen : (ms.take i ++ ms.drop (i + 1) ++ List.replicate (i + 1 - i) (0 : Int)).toArray.size = ms.toArray.size := by simp; omega
  have hU : Upd (· = g) w (Sort.putRow (Value.int .i64) (Sort.ahead w q) g 0 (ms.take i ++ ms.drop (i + 1) ++ List.replicate (i + 1 - i) (0 : Int)).toArray) := by
    refine ⟨rfl, rfl, rfl, by rw [Sort.size_putRow]; exact Nat.le_refl _, fun k hk hne => ?_⟩
    show (w.heap.modify g _)[k]? = _
    rw [Array.getElem?_modify, if_neg (fun h => hne h.symm)]
  refine ⟨by rw [show i + 1 - i = 1 by omega], ⟨some ⟨g, 0, none⟩, cap, by rw [List.length_eraseIdx_of_lt hi], by rw [List.length_eraseIdx_of_lt hi]; omega, .inr ⟨g, 0, rfl, Nat.lt_of_lt_of_le hb hU.size, ?_⟩⟩, hU⟩
  intro k x hx j u hu
  obtain ⟨hk, hx2⟩ := List.getElem?_eq_some_iff.1 hx
  rw [List.length_eraseIdx_of_lt hi] at hk
  have hj0 : j = 0 := by
    have := (List.getElem?_eq_some_iff.1 hu).1
    simp [iEnc] at this
    exact this
  subst hj0
  have hu' : u = .int .i64 x := (Option.some.inj hu).symm
  subst hu'
  have h1 := Sort.cell?_putRow (Value.int .i64) (Sort.ahead w q) g 0 ms.toArray _ (Sort.holds_ahead _ w q g 0 _ hH) hlen k (by rw [hlen]; simp; omega)
  rw [show (0 : Nat) + k * 1 + 0 = 0 + k by omega, h1]
  congr 2
  rw [List.eraseIdx_eq_take_drop_succ] at hx
  have h2 : (ms.take i ++ ms.drop (i + 1) ++ List.replicate (i + 1 - i) (0 : Int))[k]? = some x := by
    rw [List.getElem?_append_left (by simp; omega)]
    exact hx
  obtain ⟨h3, h4⟩ := List.getElem?_eq_some_iff.1 h2
  rw [getElem!_pos _ k (by simpa using h3)]
  simpa using h4

/-- A configuration and why not. -/
def CfgPost (w : World) (r : Cfg × Int) (e : Ending) (w' : World) : Prop := ∃ u, e = .returned (.tuple #[.agg #[.int .u64 (r.1.e : Int), u], .int .i64 r.2]) ∧ SlIn w' 1 iEnc u r.1.ms ∧ New w w'
theorem CfgPost.bad {w w' : World} {r : Cfg × Int} {c : Int} (hr : r = (⟨0, []⟩, c)) (hn : New w w') : CfgPost w r (.returned (.tuple #[.agg #[.int .u64 0, .slice none 0 0], .int .i64 c])) w' := by
  subst hr
  exact ⟨.slice none 0 0, rfl, SlIn.empty _ _ _ none 0, hn⟩

set_option maxRecDepth 100000 in
set_option maxHeartbeats 8000000 in
theorem remove_any (e : Nat) (v : Value) (ms : List Int) (n : Int) (w : World) (he : e < 18446744073709551616) (hl : ms.length ≤ 1000000000) (hs : SlIn w 1 iEnc v ms) :
    Calls Tryz.prog 155 #[.agg #[.int .u64 (e : Int), v], .int .i64 n] w (CfgPost w (remC ⟨e, ms⟩ n)) := by
  obtain ⟨A, m, cap, rfl⟩ := hs.shape
  obtain ⟨A', c', hv, hlc, -⟩ := id hs
  cases hv
  have hN := ((New.refl w).alloc (.cells #[.int .u64 (e : Int), .slice A ms.length cap] 41)).alloc (.cells #[.int .u64 0, .slice none 0 0] 41)
  have hB := (Blk.mk_new w 41 #[.int .u64 (e : Int), .slice A ms.length cap]).alloc (.cells #[.int .u64 0, .slice none 0 0] 41)
  have hR := Blk.mk_new (w.alloc (.cells #[.int .u64 (e : Int), .slice A ms.length cap] 41)) 41 #[.int .u64 0, .slice none 0 0]
  rw [World.size_alloc] at hR
  have HS := Lib.hid (hs.new hN)
  clear hs
  go_enter Tryz.func155, Tryz.ntmps155
  go_upto_region 1 with fail
  generalize (w.alloc _).alloc _ = w1 at *
  obtain ⟨p0, p1, p2, pz⟩ := Blk2F hB
  obtain ⟨q0, q1, q2, qz⟩ := Blk2F hR
  go_wp2_with fail
  refine (place_any e _ ms n w1 hl HS.out).mono ?_
  rintro e1 w2 ⟨rfl, hn2⟩
  have hB2 := hB.new hn2
  have hR2 := hR.new hn2
  have hN2 := hN.trans hn2
  have HS2 := Lib.hid (HS.out.new hn2)
  clear hB hR hN HS hn2
  clear p0 p1 p2 pz q0 q1 q2 qz
  obtain ⟨p0, p1, p2, pz⟩ := Blk2F hB2
  obtain ⟨q0, q1, q2, qz⟩ := Blk2F hR2
  have hchk := check_any e _ ms w2 hl HS2.out
  cases hck : chkC ⟨e, ms⟩ with
  | false =>
    have HF := Lib.hid (show remC ⟨e, ms⟩ n = (⟨0, []⟩, 230) by unfold remC; rw [if_pos (.inl hck)]; rfl)
    rw [hck] at hchk
    clear hck
    go_wp2_with fail
    refine hchk.mono ?_
    rintro e1 w3 ⟨rfl, hn3⟩
    have hB3 := hB2.new hn3
    have hR3 := hR2.new hn3
    have hN3 := hN2.trans hn3
    have HS3 := Lib.hid (HS2.out.new hn3)
    clear hB2 hR2 hN2 HS2 hn3
    clear p0 p1 p2 pz q0 q1 q2 qz
    obtain ⟨p0, p1, p2, pz⟩ := Blk2F hB3
    obtain ⟨q0, q1, q2, qz⟩ := Blk2F hR3
    go_wp2_with fail
    exact bodyPost_ret (v := .tuple #[.agg #[.int .u64 0, .slice none 0 0], .int .i64 230]) (by simp [results, Tryz.results155, go_sem, q1, q2]) rfl (CfgPost.bad HF.out (by first | exact hN3 | exact (hN3.setCell (p := ⟨w.heap.size + 1, 0, none⟩) (by simp) _).setCell (p := ⟨w.heap.size + 1, 1, none⟩) (by simp) _))
  | true =>
    have HK := Lib.hid hck
    rw [hck] at hchk
    clear hck
    go_wp2_with fail
    refine hchk.mono ?_
    rintro e1 w3 ⟨rfl, hn3⟩
    have hB3 := hB2.new hn3
    have hR3 := hR2.new hn3
    have hN3 := hN2.trans hn3
    have HS3 := Lib.hid (HS2.out.new hn3)
    clear hB2 hR2 hN2 HS2 hn3
    clear p0 p1 p2 pz q0 q1 q2 qz
    obtain ⟨p0, p1, p2, pz⟩ := Blk2F hB3
    obtain ⟨q0, q1, q2, qz⟩ := Blk2F hR3
    by_cases hla : e = 4611686018427387904
    · have HF := Lib.hid (show remC ⟨e, ms⟩ n = (⟨0, []⟩, 230) by unfold remC; rw [if_pos (.inr hla)]; rfl)
      have hle : ((e : Int) == 4611686018427387904) = true := by rw [beq_iff_eq]; omega
      clear hla
      go_wp2_with fail
      exact bodyPost_ret (v := .tuple #[.agg #[.int .u64 0, .slice none 0 0], .int .i64 230]) (by simp [results, Tryz.results155, go_sem, q1, q2]) rfl (CfgPost.bad HF.out (by first | exact hN3 | exact (hN3.setCell (p := ⟨w.heap.size + 1, 0, none⟩) (by simp) _).setCell (p := ⟨w.heap.size + 1, 1, none⟩) (by simp) _))
    have hle : ((e : Int) == 4611686018427387904) = false := by rw [beq_eq_false_iff_ne]; omega
    have hnf : ¬ (chkC ⟨e, ms⟩ = false ∨ e = lastE) := by rw [HK.out]; rintro (h | h); cases h; exact hla h
    have HNF := Lib.hid hnf
    clear hnf
    rcases place_cases ms n with ⟨hni, hp⟩ | ⟨i, hi, hx, hnt, hp⟩
    · have HF := Lib.hid (show remC ⟨e, ms⟩ n = (⟨0, []⟩, 231) by unfold remC; rw [if_neg HNF.out, if_pos (place_neg.2 hni)]; rfl)
      rw [hp]
      clear hni hp
      go_wp2_with fail
      exact bodyPost_ret (v := .tuple #[.agg #[.int .u64 0, .slice none 0 0], .int .i64 231]) (by simp [results, Tryz.results155, go_sem, q1, q2]) rfl (CfgPost.bad HF.out (by first | exact hN3 | exact (hN3.setCell (p := ⟨w.heap.size + 1, 0, none⟩) (by simp) _).setCell (p := ⟨w.heap.size + 1, 1, none⟩) (by simp) _))
    have hnn : ¬ placeC ms n < 0 := by omega
    have HNN := Lib.hid hnn
    have HP := Lib.hid hp
    rw [hp]
    clear hnn hp hnt hx
    by_cases h1 : ms.length = 1
    · have HF := Lib.hid (show remC ⟨e, ms⟩ n = (⟨0, []⟩, 232) by unfold remC; rw [if_neg HNF.out, if_neg HNN.out, if_pos h1]; rfl)
      have h1b : ((ms.length : Int) == 1) = true := by rw [beq_iff_eq]; omega
      have hi0 : ¬ (i : Int) < 0 := by omega
      clear h1
      go_wp2_with fail
      exact bodyPost_ret (v := .tuple #[.agg #[.int .u64 0, .slice none 0 0], .int .i64 232]) (by simp [results, Tryz.results155, go_sem, q1, q2]) rfl (CfgPost.bad HF.out (by first | exact hN3 | exact (hN3.setCell (p := ⟨w.heap.size + 1, 0, none⟩) (by simp) _).setCell (p := ⟨w.heap.size + 1, 1, none⟩) (by simp) _))
    have h1b : ((ms.length : Int) == 1) = false := by rw [beq_eq_false_iff_ne]; omega
    have hi0 : ¬ (i : Int) < 0 := by omega
    have HF := Lib.hid (show remC ⟨e, ms⟩ n = (⟨e + 1, ms.eraseIdx i⟩, 0) by unfold remC; rw [if_neg HNF.out, if_neg HNN.out, if_neg h1, HP.out]; rfl)
    have hw1 : IntKind.u64.wrap ((e : Int) + 1) = ((e + 1 : Nat) : Int) := by have := (chk_parts HK.out).2.1; simp only [lastE] at this; rw [IntKind.wrap_u64]; omega
    have hw2 : IntKind.i64.wrap ((i : Int) + 1) = ((i + 1 : Nat) : Int) := by rw [IntWalk.i64_in _ (by omega)]; omega
    have hne : ms ≠ [] := by intro h; rw [h] at hi; simp at hi
    have HNE := Lib.hid hne
    clear hne h1
    have HI := Lib.hid hi
    have HB3 := Lib.hid hB3
    have HR3 := Lib.hid hR3
    clear hi hB3 hR3
    go_upto_region 8 with fail
    refine wp_region_held_drew (S := fun w' => New w w' ∧ w'.cell? ⟨w.heap.size, 0, none⟩ = some (.int .u64 (e : Int)) ∧ w'.cell? ⟨w.heap.size, 1, none⟩ = some (.slice A ms.length cap)) (by kernel_rfl) (by first | exact ⟨hN3.drew, p1, p2⟩) (fun hHeld => ?_)
    refine tkN (i := 0) rfl ?_
    try simp only [Act.put, sA, sZ, sS]
    refine tkN (i := 1) rfl ?_
    try simp only [Act.put, sA, sZ, sS]
    refine tkN (i := 2) rfl ?_
    try simp only [Act.put, sA, sZ, sS]
    refine tkN (i := 3) rfl ?_
    try simp only [Act.put, sA, sZ, sS]
    refine tkN (i := 4) rfl ?_
    try simp only [Act.put, sA, sZ, sS]
    refine tkN (i := 6) rfl ?_
    try simp only [Act.put, sA, sZ, sS]
    refine tkN (i := 7) rfl ?_
    try simp only [Act.put, sA, sZ, sS]
    refine tkN (i := 8) rfl ?_
    try simp only [Act.put, sA, sZ, sS]
    refine stN (i := 5) rfl (fun K hK => ?_)
    go_simp
    refine (clone_any _ ms _ hl (HS3.out.new (New.refl w3).drew)).mono ?_
    rintro e1 w4 ⟨u4, rfl, ho4, hn4⟩
    obtain ⟨g4, cap4, cur4, rfl, hg4, hb4, -, -⟩ := owns_at ho4 HNE.out
    have hn4b := (New.refl w3).drew.trans hn4
    have hN4 := hN3.trans hn4b
    have hBb := HB3.out.new hn4b
    have hRb := HR3.out.new hn4b
    refine hK.out _ _ ?_ (fun hHeld => ?_)
    · exact by obtain ⟨t0, t1, t2, tz⟩ := Blk2F hBb; exact ⟨hN4, t1, t2⟩
    clear hK K
    try simp only [Act.put, sA, sZ, sS]
    refine stN (i := 9) rfl (fun K hK => ?_)
    go_simp
    refine (delete_any _ g4 cap4 ms i _ ho4 HI.out).mono ?_
    rintro e1 w5 ⟨rfl, hsl5, hu5⟩
    have hg4w : w.heap.size + 2 ≤ g4 := by have h1 := hRb.lt; have h2 : w3.drew.heap.size = w3.heap.size := rfl; have h3 := HR3.out.lt; omega
    have hN5 := hN4.upd hu5 (fun k hk => by omega)
    have hBc := hBb.upd hu5 (by omega)
    have hRc := hRb.upd hu5 (by omega)
    obtain ⟨q0, q1, q2, qz⟩ := Blk2F hRc
    refine hK.out _ _ ?_ (fun hHeld => ?_)
    · exact by obtain ⟨t0, t1, t2, tz⟩ := Blk2F hBc; exact ⟨hN5, t1, t2⟩
    clear hK K
    try simp only [Act.put, sA, sZ, sS]
    refine tkN (i := 10) rfl ?_
    try simp only [Act.put, sA, sZ, sS]
    refine stN (i := 11) rfl (fun K hK => ?_)
    go_simp
    have hN6 := (hN5.setCell (p := ⟨w.heap.size + 1, 0, none⟩) (by simp) (.int .u64 ((e : Int) + 1))).setCell (p := ⟨w.heap.size + 1, 1, none⟩) (by simp) (.slice (some ⟨g4, 0, none⟩) (ms.length - 1) cap4)
    have hB6 := (hBc.far (p := ⟨w.heap.size + 1, 0, none⟩) (by simp) (.int .u64 ((e : Int) + 1))).far (p := ⟨w.heap.size + 1, 1, none⟩) (by simp) (.slice (some ⟨g4, 0, none⟩) (ms.length - 1) cap4)
    have hS6 := SlIn.upd (S := (· = w.heap.size + 1)) hsl5 (((Upd.refl _ w5).setIn 0 (.int .u64 ((e : Int) + 1))).setIn 1 (.slice (some ⟨g4, 0, none⟩) (ms.length - 1) cap4)) (fun k hk e => by simp [Value.ownBlock] at hk; omega)
    refine hK.out _ _ ?_ (fun hHeld => ?_)
    · exact by obtain ⟨t0, t1, t2, tz⟩ := Blk2F hB6; exact ⟨hN6, t1, t2⟩
    clear hK K
    try simp only [Act.put, sA, sZ, sS]
    refine tkN (i := 12) rfl ?_
    try simp only [Act.put, sA, sZ, sS]
    refine wpAnyH_done (by kernel_rfl) ?_ _
    clear hHeld
    go_wp2_with fail
    exact bodyPost_ret (v := .tuple #[.agg #[.int .u64 ((e : Int) + 1), .slice (some ⟨g4, 0, none⟩) (ms.length - 1) cap4], .int .i64 0]) (by simp [results, Tryz.results155, go_sem, q1, q2]) rfl (by unfold CfgPost; rw [HF.out]; exact ⟨_, rfl, hS6, hN6⟩)

set_option maxRecDepth 100000 in
set_option maxHeartbeats 8000000 in
theorem join_any (e : Nat) (v : Value) (ms : List Int) (n : Int) (w : World) (he : e < 18446744073709551616) (hl : ms.length ≤ 1000000000) (hs : SlIn w 1 iEnc v ms) :
    Calls Tryz.prog 156 #[.agg #[.int .u64 (e : Int), v], .int .i64 n] w (CfgPost w (joinC ⟨e, ms⟩ n)) := by
  obtain ⟨A, m, cap, rfl⟩ := hs.shape
  obtain ⟨A', c', hv, hlc, -⟩ := id hs
  cases hv
  have hN := ((New.refl w).alloc (.cells #[.int .u64 (e : Int), .slice A ms.length cap] 41)).alloc (.cells #[.int .u64 0, .slice none 0 0] 41)
  have hB := (Blk.mk_new w 41 #[.int .u64 (e : Int), .slice A ms.length cap]).alloc (.cells #[.int .u64 0, .slice none 0 0] 41)
  have hR := Blk.mk_new (w.alloc (.cells #[.int .u64 (e : Int), .slice A ms.length cap] 41)) 41 #[.int .u64 0, .slice none 0 0]
  rw [World.size_alloc] at hR
  have HS := Lib.hid (hs.new hN)
  clear hs
  go_enter Tryz.func156, Tryz.ntmps156
  go_upto_region 1 with fail
  generalize (w.alloc _).alloc _ = w1 at *
  obtain ⟨p0, p1, p2, pz⟩ := Blk2F hB
  obtain ⟨q0, q1, q2, qz⟩ := Blk2F hR
  have hchk := check_any e _ ms w1 hl HS.out
  have hmem := member_any n
  cases hck : chkC ⟨e, ms⟩ with
  | false =>
    have HF := Lib.hid (show joinC ⟨e, ms⟩ n = (⟨0, []⟩, 230) by unfold joinC; rw [if_pos (.inl hck)]; rfl)
    rw [hck] at hchk
    clear hck
    go_wp2_with fail
    refine hchk.mono ?_
    rintro e1 w2 ⟨rfl, hn2⟩
    have hB2 := hB.new hn2
    have hR2 := hR.new hn2
    have hN2 := hN.trans hn2
    have HS2 := Lib.hid (HS.out.new hn2)
    clear hB hR hN HS hn2
    clear p0 p1 p2 pz q0 q1 q2 qz
    obtain ⟨p0, p1, p2, pz⟩ := Blk2F hB2
    obtain ⟨q0, q1, q2, qz⟩ := Blk2F hR2
    go_wp2_with fail
    exact bodyPost_ret (v := .tuple #[.agg #[.int .u64 0, .slice none 0 0], .int .i64 230]) (by simp [results, Tryz.results156, go_sem, q1, q2]) rfl (CfgPost.bad HF.out (by first | exact hN2 | exact (hN2.setCell (p := ⟨w.heap.size + 1, 0, none⟩) (by simp) _).setCell (p := ⟨w.heap.size + 1, 1, none⟩) (by simp) _))
  | true =>
    have HK := Lib.hid hck
    rw [hck] at hchk
    clear hck
    go_wp2_with fail
    refine hchk.mono ?_
    rintro e1 w2 ⟨rfl, hn2⟩
    have hB2 := hB.new hn2
    have hR2 := hR.new hn2
    have hN2 := hN.trans hn2
    have HS2 := Lib.hid (HS.out.new hn2)
    clear hB hR hN HS hn2
    clear p0 p1 p2 pz q0 q1 q2 qz
    obtain ⟨p0, p1, p2, pz⟩ := Blk2F hB2
    obtain ⟨q0, q1, q2, qz⟩ := Blk2F hR2
    by_cases hla : e = 4611686018427387904
    · have HF := Lib.hid (show joinC ⟨e, ms⟩ n = (⟨0, []⟩, 230) by unfold joinC; rw [if_pos (.inr (.inl hla))]; rfl)
      have hle : ((e : Int) == 4611686018427387904) = true := by rw [beq_iff_eq]; omega
      clear hla
      go_wp2_with fail
      exact bodyPost_ret (v := .tuple #[.agg #[.int .u64 0, .slice none 0 0], .int .i64 230]) (by simp [results, Tryz.results156, go_sem, q1, q2]) rfl (CfgPost.bad HF.out (by first | exact hN2 | exact (hN2.setCell (p := ⟨w.heap.size + 1, 0, none⟩) (by simp) _).setCell (p := ⟨w.heap.size + 1, 1, none⟩) (by simp) _))
    have hle : ((e : Int) == 4611686018427387904) = false := by rw [beq_eq_false_iff_ne]; omega
    cases hmb : memB n with
    | false =>
      have HF := Lib.hid (show joinC ⟨e, ms⟩ n = (⟨0, []⟩, 230) by unfold joinC; rw [if_pos (.inr (.inr hmb))]; rfl)
      rw [hmb] at hmem
      clear hmb hla
      go_wp2_with fail
      refine (hmem _).mono ?_
      rintro e1 wm ⟨rfl, rfl⟩
      go_wp2_with fail
      exact bodyPost_ret (v := .tuple #[.agg #[.int .u64 0, .slice none 0 0], .int .i64 230]) (by simp [results, Tryz.results156, go_sem, q1, q2]) rfl (CfgPost.bad HF.out (by first | exact hN2 | exact (hN2.setCell (p := ⟨w.heap.size + 1, 0, none⟩) (by simp) _).setCell (p := ⟨w.heap.size + 1, 1, none⟩) (by simp) _))
    | true =>
      have hnf : ¬ (chkC ⟨e, ms⟩ = false ∨ e = lastE ∨ memB n = false) := by rw [HK.out, hmb]; rintro (h | h | h); cases h; exact hla h; cases h
      have HNF := Lib.hid hnf
      rw [hmb] at hmem
      clear hnf hmb hla
      go_wp2_with fail
      refine (hmem _).mono ?_
      rintro e1 wm ⟨rfl, rfl⟩
      go_wp2_with fail
      refine (place_any e _ ms n _ hl HS2.out).mono ?_
      rintro e1 w3 ⟨rfl, hn3⟩
      have hB3 := hB2.new hn3
      have hR3 := hR2.new hn3
      have hN3 := hN2.trans hn3
      have HS3 := Lib.hid (HS2.out.new hn3)
      clear hB2 hR2 hN2 HS2 hn3
      clear p0 p1 p2 pz q0 q1 q2 qz
      obtain ⟨p0, p1, p2, pz⟩ := Blk2F hB3
      obtain ⟨q0, q1, q2, qz⟩ := Blk2F hR3
      rcases place_cases ms n with ⟨hni, hp⟩ | ⟨i, hi, hx, hnt, hp⟩
      rotate_left
      · have hnn : (0 : Int) ≤ placeC ms n := by omega
        have HF := Lib.hid (show joinC ⟨e, ms⟩ n = (⟨0, []⟩, 231) by unfold joinC; rw [if_neg HNF.out, if_pos hnn]; rfl)
        rw [hp]
        have hi0 : (0 : Int) ≤ (i : Int) := by omega
        clear hp hnt hx hnn
        go_wp2_with fail
        exact bodyPost_ret (v := .tuple #[.agg #[.int .u64 0, .slice none 0 0], .int .i64 231]) (by simp [results, Tryz.results156, go_sem, q1, q2]) rfl (CfgPost.bad HF.out (by first | exact hN3 | exact (hN3.setCell (p := ⟨w.heap.size + 1, 0, none⟩) (by simp) _).setCell (p := ⟨w.heap.size + 1, 1, none⟩) (by simp) _))
      have hnn : ¬ (0 : Int) ≤ placeC ms n := by omega
      have HNN := Lib.hid hnn
      rw [hp]
      clear hnn hp hni
      by_cases h7 : ms.length = 7
      · have HF := Lib.hid (show joinC ⟨e, ms⟩ n = (⟨0, []⟩, 233) by unfold joinC; rw [if_neg HNF.out, if_neg HNN.out, if_pos h7]; rfl)
        have h7b : ((ms.length : Int) == 7) = true := by rw [beq_iff_eq]; omega
        clear h7
        go_wp2_with fail
        exact bodyPost_ret (v := .tuple #[.agg #[.int .u64 0, .slice none 0 0], .int .i64 233]) (by simp [results, Tryz.results156, go_sem, q1, q2]) rfl (CfgPost.bad HF.out (by first | exact hN3 | exact (hN3.setCell (p := ⟨w.heap.size + 1, 0, none⟩) (by simp) _).setCell (p := ⟨w.heap.size + 1, 1, none⟩) (by simp) _))
      have h7b : ((ms.length : Int) == 7) = false := by rw [beq_eq_false_iff_ne]; omega
      have HF := Lib.hid (show joinC ⟨e, ms⟩ n = (⟨e + 1, ms ++ [n]⟩, 0) by unfold joinC; rw [if_neg HNF.out, if_neg HNN.out, if_neg h7])
      have hw1 : IntKind.u64.wrap ((e : Int) + 1) = ((e + 1 : Nat) : Int) := by have := (chk_parts HK.out).2.1; simp only [lastE] at this; rw [IntKind.wrap_u64]; omega
      have HNE := Lib.hid (show ms ≠ [] by have := (chk_parts HK.out).2.2.1; intro h; rw [h] at this; simp at this)
      have HM1 := Lib.hid (show ms.length + [n].length ≤ maxLen by unfold maxLen; simp only [List.length_singleton]; omega)
      have HM2 := Lib.hid (show (ms.length + [n].length) * 8 ≤ 140737488355328 by simp only [List.length_singleton]; omega)
      have HR2 := Lib.hid (show w.heap.size + 2 ≤ w3.heap.size by have := hR3.lt; omega)
      have HB3 := Lib.hid hB3
      have HR3 := Lib.hid hR3
      clear hB3 hR3 h7
      go_upto_region 7 with fail
      refine wp_region_held_drew (S := fun w' => New w w' ∧ w'.cell? ⟨w.heap.size, 0, none⟩ = some (.int .u64 (e : Int)) ∧ w'.cell? ⟨w.heap.size, 1, none⟩ = some (.slice A ms.length cap)) (by kernel_rfl) (by first | exact ⟨hN3.drew, p1, p2⟩) (fun hHeld => ?_)
      refine tkN (i := 0) rfl ?_
      try simp only [Act.put, sA, sZ, sS]
      refine tkN (i := 1) rfl ?_
      try simp only [Act.put, sA, sZ, sS]
      refine tkN (i := 2) rfl ?_
      try simp only [Act.put, sA, sZ, sS]
      refine tkN (i := 3) rfl ?_
      try simp only [Act.put, sA, sZ, sS]
      refine tkN (i := 4) rfl ?_
      try simp only [Act.put, sA, sZ, sS]
      refine tkN (i := 6) rfl ?_
      try simp only [Act.put, sA, sZ, sS]
      refine wpAnyH_ready (rs := [5, 7]) (by kernel_rfl) (by simp) ?_
      refine rdN rfl (fun K hK => ?_) (rdN rfl (fun K hK => ?_) AllReadyH.nil)
      · go_simp
        refine (clone_any _ ms _ hl (HS3.out.new ((New.refl w3).drew))).mono ?_
        rintro e1 wc ⟨uc, rfl, hoc0, hnc⟩
        have hoc := hoc0.lower (show w.heap.size + 2 ≤ _ from by have h1 := HR2.out; have h2 := ((New.refl w3).drew).size; have h3 : (w3.drew : World).heap.size = w3.heap.size := rfl; omega)
        obtain ⟨gc, capc, curc, rfl, hgc, hbc, -, -⟩ := owns_at hoc HNE.out
        have hn0 := ((New.refl w3).drew).trans hnc
        refine hK.out _ _ ?_ (fun hHeld => ?_)
        · exact by obtain ⟨t0, t1, t2, tz⟩ := Blk2F (HB3.out.new hn0); exact ⟨(hN3.trans hn0), t1, t2⟩
        clear hK K
        try simp only [Act.put, sA, sZ, sS]
        refine stN (i := 7) rfl (fun K hK => ?_)
        go_simp
        have hn1 := (hn0).alloc (.cells #[.int .i64 n] 3)
        have hx1 := Blk.mk_new wc 3 #[.int .i64 n]
        try rw [World.size_alloc] at hx1
        have ho1 := hoc.alloc (.cells #[.int .i64 n] 3)
        refine hK.out _ _ ?_ (fun hHeld => ?_)
        · exact by obtain ⟨t0, t1, t2, tz⟩ := Blk2F (HB3.out.new hn1); exact ⟨(hN3.trans hn1), t1, t2⟩
        clear hK K
        try simp only [Act.put, sA, sZ, sS]
        refine stN (i := 8) rfl (fun K hK => ?_)
        refine step_app iTy iEncOk rfl (.tmp 38) (.tmp 40) rfl rfl rfl ho1 (SlIn.one (x := n) hx1 iEncOk rfl) HM1.out HM2.out (by have h1 := HR2.out; have h2 := (hn1).size; have h3 : (w3.drew : World).heap.size = w3.heap.size := rfl; omega) ?_
        intro va wa hoa hga hba
        obtain ⟨ga, capa, cura, hva, hgea, hbba, -, -⟩ := owns_at hoa (by simp)
        obtain ⟨la, hla⟩ : ∃ la, la = (ms ++ [n]).length := ⟨_, rfl⟩
        rw [← hla] at hva
        subst hva
        clear hla
        have hN5 := (hN3.trans hn1).grown hga (fun k hk => by have := ho1.blockGe k hk; omega)
        have hBa := (HB3.out.new hn1).grown hga (by intro e0; have := ho1.blockGe _ e0.symm; omega)
        have hRa := (HR3.out.new hn1).grown hga (by intro e0; have := ho1.blockGe _ e0.symm; omega)
        obtain ⟨q0, q1, q2, qz⟩ := Blk2F hRa
        have hsla := Owns.slIn iEncOk hoa
        refine hK.out _ _ ?_ (fun hHeld => ?_)
        · exact by obtain ⟨t0, t1, t2, tz⟩ := Blk2F hBa; exact ⟨hN5, t1, t2⟩
        clear hK K
        try simp only [Act.put, sA, sZ, sS]
        refine tkN (i := 9) rfl ?_
        try simp only [Act.put, sA, sZ, sS]
        refine stN (i := 10) rfl (fun K hK => ?_)
        go_simp
        have hN6 := (hN5.setCell (p := ⟨w.heap.size + 1, 0, none⟩) (by simp) (.int .u64 ((e : Int) + 1))).setCell (p := ⟨w.heap.size + 1, 1, none⟩) (by simp) (.slice (some ⟨ga, 0, none⟩) (la) capa)
        have hB6 := (hBa.far (p := ⟨w.heap.size + 1, 0, none⟩) (by simp) (.int .u64 ((e : Int) + 1))).far (p := ⟨w.heap.size + 1, 1, none⟩) (by simp) (.slice (some ⟨ga, 0, none⟩) (la) capa)
        have hS6 := SlIn.upd (S := (· = w.heap.size + 1)) hsla (((Upd.refl _ wa).setIn 0 (.int .u64 ((e : Int) + 1))).setIn 1 (.slice (some ⟨ga, 0, none⟩) (la) capa)) (fun k hk e => by simp [Value.ownBlock] at hk; omega)
        refine hK.out _ _ ?_ (fun hHeld => ?_)
        · exact by obtain ⟨t0, t1, t2, tz⟩ := Blk2F hB6; exact ⟨hN6, t1, t2⟩
        clear hK K
        try simp only [Act.put, sA, sZ, sS]
        refine tkN (i := 11) rfl ?_
        try simp only [Act.put, sA, sZ, sS]
        refine wpAnyH_done (by kernel_rfl) ?_ _
        clear hHeld
        go_wp2_with fail
        exact bodyPost_ret (v := .tuple #[.agg #[.int .u64 ((e : Int) + 1), .slice (some ⟨ga, 0, none⟩) la capa], .int .i64 0]) (by simp [results, Tryz.results156, go_sem, q1, q2]) rfl (by unfold CfgPost; rw [HF.out]; exact ⟨_, rfl, hS6, hN6⟩)
      · go_simp
        have hn0 := ((New.refl w3).drew).alloc (.cells #[.int .i64 n] 3)
        have hx0 := Blk.mk_new w3.drew 3 #[.int .i64 n]
        try rw [World.size_alloc] at hx0
        refine hK.out _ _ ?_ (fun hHeld => ?_)
        · exact by obtain ⟨t0, t1, t2, tz⟩ := Blk2F (HB3.out.new hn0); exact ⟨(hN3.trans hn0), t1, t2⟩
        clear hK K
        try simp only [Act.put, sA, sZ, sS]
        refine stN (i := 5) rfl (fun K hK => ?_)
        go_simp
        refine (clone_any _ ms _ hl (HS3.out.new (hn0))).mono ?_
        rintro e1 wc ⟨uc, rfl, hoc0, hnc⟩
        have hoc := hoc0.lower (show w.heap.size + 2 ≤ _ from by have h1 := HR2.out; have h2 := (hn0).size; have h3 : (w3.drew : World).heap.size = w3.heap.size := rfl; omega)
        obtain ⟨gc, capc, curc, rfl, hgc, hbc, -, -⟩ := owns_at hoc HNE.out
        have hn1 := (hn0).trans hnc
        have hx1 := hx0.new hnc
        refine hK.out _ _ ?_ (fun hHeld => ?_)
        · exact by obtain ⟨t0, t1, t2, tz⟩ := Blk2F (HB3.out.new hn1); exact ⟨(hN3.trans hn1), t1, t2⟩
        clear hK K
        try simp only [Act.put, sA, sZ, sS]
        refine stN (i := 8) rfl (fun K hK => ?_)
        refine step_app iTy iEncOk rfl (.tmp 38) (.tmp 40) rfl rfl rfl hoc (SlIn.one (x := n) hx1 iEncOk rfl) HM1.out HM2.out (by have h1 := HR2.out; have h2 := (hn1).size; have h3 : (w3.drew : World).heap.size = w3.heap.size := rfl; omega) ?_
        intro va wa hoa hga hba
        obtain ⟨ga, capa, cura, hva, hgea, hbba, -, -⟩ := owns_at hoa (by simp)
        obtain ⟨la, hla⟩ : ∃ la, la = (ms ++ [n]).length := ⟨_, rfl⟩
        rw [← hla] at hva
        subst hva
        clear hla
        have hN5 := (hN3.trans hn1).grown hga (fun k hk => by have := hoc.blockGe k hk; omega)
        have hBa := (HB3.out.new hn1).grown hga (by intro e0; have := hoc.blockGe _ e0.symm; omega)
        have hRa := (HR3.out.new hn1).grown hga (by intro e0; have := hoc.blockGe _ e0.symm; omega)
        obtain ⟨q0, q1, q2, qz⟩ := Blk2F hRa
        have hsla := Owns.slIn iEncOk hoa
        refine hK.out _ _ ?_ (fun hHeld => ?_)
        · exact by obtain ⟨t0, t1, t2, tz⟩ := Blk2F hBa; exact ⟨hN5, t1, t2⟩
        clear hK K
        try simp only [Act.put, sA, sZ, sS]
        refine tkN (i := 9) rfl ?_
        try simp only [Act.put, sA, sZ, sS]
        refine stN (i := 10) rfl (fun K hK => ?_)
        go_simp
        have hN6 := (hN5.setCell (p := ⟨w.heap.size + 1, 0, none⟩) (by simp) (.int .u64 ((e : Int) + 1))).setCell (p := ⟨w.heap.size + 1, 1, none⟩) (by simp) (.slice (some ⟨ga, 0, none⟩) (la) capa)
        have hB6 := (hBa.far (p := ⟨w.heap.size + 1, 0, none⟩) (by simp) (.int .u64 ((e : Int) + 1))).far (p := ⟨w.heap.size + 1, 1, none⟩) (by simp) (.slice (some ⟨ga, 0, none⟩) (la) capa)
        have hS6 := SlIn.upd (S := (· = w.heap.size + 1)) hsla (((Upd.refl _ wa).setIn 0 (.int .u64 ((e : Int) + 1))).setIn 1 (.slice (some ⟨ga, 0, none⟩) (la) capa)) (fun k hk e => by simp [Value.ownBlock] at hk; omega)
        refine hK.out _ _ ?_ (fun hHeld => ?_)
        · exact by obtain ⟨t0, t1, t2, tz⟩ := Blk2F hB6; exact ⟨hN6, t1, t2⟩
        clear hK K
        try simp only [Act.put, sA, sZ, sS]
        refine tkN (i := 11) rfl ?_
        try simp only [Act.put, sA, sZ, sS]
        refine wpAnyH_done (by kernel_rfl) ?_ _
        clear hHeld
        go_wp2_with fail
        exact bodyPost_ret (v := .tuple #[.agg #[.int .u64 ((e : Int) + 1), .slice (some ⟨ga, 0, none⟩) la capa], .int .i64 0]) (by simp [results, Tryz.results156, go_sem, q1, q2]) rfl (by unfold CfgPost; rw [HF.out]; exact ⟨_, rfl, hS6, hN6⟩)
end Go.Proofs.YtlhlcdjkacglnaaGreatDoor.C
/- Chapter 23 (config): who is beside a node; the law's of. -/
namespace Go.Proofs.YtlhlcdjkacglnaaGreatDoor.C
open Go.RowKit Go.Lap
set_option linter.unusedVariables false

/-- Who stands at place k, where the node is there (i). -/
def atC (ms : List Int) (i k : Int) : Int × Bool := if 0 ≤ i ∧ 0 ≤ k then (match ms[k.toNat]? with | some x => (x, true) | none => (0, false)) else (0, false)
theorem at_no {ms : List Int} {i k : Int} (h : i < 0 ∨ k < 0 ∨ (ms.length : Int) ≤ k) : atC ms i k = (0, false) := by
  unfold atC
  split
  · rename_i h2
    have : ms[k.toNat]? = none := List.getElem?_eq_none (by omega)
    rw [this]
  · rfl
theorem at_yes {ms : List Int} {i : Int} {k : Nat} {x : Int} (hi : 0 ≤ i) (hx : ms[k]? = some x) : atC ms i (k : Int) = (x, true) := by
  unfold atC
  rw [if_pos ⟨hi, by omega⟩, Int.toNat_natCast, hx]
def AtPost (w : World) (r : Int × Bool) (e : Ending) (w' : World) : Prop := e = .returned (.tuple #[.int .i64 r.1, .bool r.2]) ∧ New w w'
theorem AtPost.no {w w' : World} {r : Int × Bool} (hr : r = (0, false)) (hn : New w w') : AtPost w r (.returned (.tuple #[.int .i64 0, .bool false])) w' := by subst hr; exact ⟨rfl, hn⟩
theorem AtPost.yes {w w' : World} {r : Int × Bool} {x : Int} (hr : r = (x, true)) (hn : New w w') : AtPost w r (.returned (.tuple #[.int .i64 x, .bool true])) w' := by subst hr; exact ⟨rfl, hn⟩

set_option maxRecDepth 100000 in
set_option maxHeartbeats 4000000 in
theorem atFn_any (k i : Int) (gi gb : Nat) (e : Nat) (A : Option Addr) (cap : Nat) (ms : List Int) (w : World) (hi : w.cell? ⟨gi, 0, none⟩ = some (.int .i64 i)) (hb : Blk w gb 41 #[.int .u64 (e : Int), .slice A ms.length cap]) (hs : SlIn w 1 iEnc (.slice A ms.length cap) ms) :
    Calls Tryz.prog 187 #[.int .i64 k, .pointer (some ⟨gi, 0, none⟩), .pointer (some ⟨gb, 0, none⟩)] w (AtPost w (atC ms i k)) := by
  obtain ⟨p0, p1, p2, pz⟩ := Blk2F hb
  by_cases h1 : i < 0
  · have HF := Lib.hid (at_no (ms := ms) (k := k) (.inl h1))
    clear hs
    go_enter Tryz.func187, Tryz.ntmps187
    go_wp2_with fail
    go_ret2
    exact AtPost.no HF.out (New.refl _)
  by_cases h2 : k < 0
  · have HF := Lib.hid (at_no (ms := ms) (i := i) (.inr (.inl h2)))
    clear hs
    go_enter Tryz.func187, Tryz.ntmps187
    go_wp2_with fail
    go_ret2
    exact AtPost.no HF.out (New.refl _)
  by_cases h3 : (ms.length : Int) ≤ k
  · have HF := Lib.hid (at_no (ms := ms) (i := i) (.inr (.inr h3)))
    clear hs
    go_enter Tryz.func187, Tryz.ntmps187
    go_wp2_with fail
    go_ret2
    exact AtPost.no HF.out (New.refl _)
  obtain ⟨m, rfl⟩ : ∃ m : Nat, k = (m : Int) := ⟨k.toNat, by omega⟩
  have hlt : m < ms.length := by omega
  have hlt2 : (m : Int) < (ms.length : Int) := by omega
  have hk0 : (0 : Int) ≤ (m : Int) := by omega
  obtain ⟨A', c', hv, _, hh⟩ := hs
  cases hv
  rcases hh with rfl | ⟨b, off, rfl, hbb, hc⟩
  · simp at hlt
  obtain ⟨x, hx⟩ : ∃ x, ms[m]? = some x := ⟨_, List.getElem?_eq_getElem hlt⟩
  have e0 := SlIn.int_at hc hx
  have HF := Lib.hid (at_yes (i := i) (by omega) hx)
  clear hc hx
  go_enter Tryz.func187, Tryz.ntmps187
  go_wp2_with fail
  go_ret2
  exact AtPost.yes HF.out (New.refl _)

set_option maxRecDepth 100000 in
set_option maxHeartbeats 4000000 in
theorem beside_any (e : Nat) (v : Value) (ms : List Int) (n d : Int) (w : World) (hl : ms.length ≤ 1000000000) (hd : d = 1 ∨ d = -1) (hs : SlIn w 1 iEnc v ms) :
    Calls Tryz.prog 145 #[.agg #[.int .u64 (e : Int), v], .int .i64 n, .int .i64 d] w (AtPost w (atC ms (placeC ms n) (placeC ms n + d))) := by
  obtain ⟨A, m, cap, rfl⟩ := hs.shape
  obtain ⟨A', c', hv, hlc, -⟩ := id hs
  cases hv
  have hN := (New.refl w).alloc (.cells #[.int .u64 (e : Int), .slice A ms.length cap] 41)
  have hB := Blk.mk_new w 41 #[.int .u64 (e : Int), .slice A ms.length cap]
  have HS := Lib.hid (hs.new hN)
  clear hs
  have hpb : -1 ≤ placeC ms n ∧ placeC ms n < 1000000000 := by rcases place_cases ms n with ⟨_, h⟩ | ⟨k, hk, _, _, h⟩ <;> rw [h] <;> omega
  go_enter Tryz.func145, Tryz.ntmps145
  obtain ⟨p0, p1, p2, pz⟩ := Blk2F hB
  go_upto_region 1 with fail
  generalize w.alloc _ = w1 at *
  go_wp2_with fail
  refine (place_any e _ ms n w1 hl HS.out).mono ?_
  rintro e1 w2 ⟨rfl, hn2⟩
  have hB2 := hB.new hn2
  have hN2 := hN.trans hn2
  have hP := Blk.mk_new w2 3 #[.int .i64 (placeC ms n)]
  have hAx := (New.refl w2).alloc (.cells #[.int .i64 (placeC ms n)] 3)
  have HS3 := Lib.hid ((HS.out.new hn2).new hAx)
  have HB3 := Lib.hid (hB2.new hAx)
  have HN3 := Lib.hid (hN2.trans hAx)
  have c1 := hP.cell 0
  have HP := Lib.hid hP
  clear hB hN HS hn2 hB2 hN2 hP hAx p0 p1 p2 pz
  generalize placeC ms n = i at *
  have hw : IntKind.i64.wrap (i + d) = i + d := by rw [IntWalk.i64_in _ (by omega)]
  go_upto_region 2 with fail
  generalize w2.heap.size = gi at *
  generalize w2.alloc _ = w3 at *
  have hgi := HP.out.lt
  have c2 : w3.cell? ⟨gi, 0, none⟩ = some (.int .i64 i) := c1
  clear c1
  go_wp2_with fail
  refine (atFn_any (i + d) i gi w.heap.size e A cap ms w3 c2 HB3.out HS3.out).mono ?_
  rintro e1 w4 ⟨rfl, hn4⟩
  go_wp2_with fail
  go_ret2
  exact ⟨rfl, HN3.out.trans hn4⟩

set_option maxHeartbeats 1000000 in
theorem next_any (e : Nat) (v : Value) (ms : List Int) (n : Int) (w : World) (hl : ms.length ≤ 1000000000) (hs : SlIn w 1 iEnc v ms) :
    Calls Tryz.prog 93 #[.agg #[.int .u64 (e : Int), v], .int .i64 n] w (AtPost w (atC ms (placeC ms n) (placeC ms n + 1))) := by
  obtain ⟨A, m, cap, rfl⟩ := hs.shape
  have hN := (New.refl w).alloc (.cells #[.int .u64 (e : Int), .slice A m cap] 41)
  have HS := Lib.hid (hs.new hN)
  clear hs
  go_enter Tryz.func93, Tryz.ntmps93
  go_wp2_with fail
  refine (beside_any e _ ms n 1 _ hl (.inl rfl) HS.out).mono ?_
  rintro e1 w2 ⟨rfl, hn2⟩
  generalize atC ms (placeC ms n) (placeC ms n + 1) = r at *
  obtain ⟨r1, r2⟩ := r
  go_wp2_with fail
  go_ret2
  exact ⟨rfl, hN.trans hn2⟩
set_option maxHeartbeats 1000000 in
theorem before_any (e : Nat) (v : Value) (ms : List Int) (n : Int) (w : World) (hl : ms.length ≤ 1000000000) (hs : SlIn w 1 iEnc v ms) :
    Calls Tryz.prog 134 #[.agg #[.int .u64 (e : Int), v], .int .i64 n] w (AtPost w (atC ms (placeC ms n) (placeC ms n + -1))) := by
  obtain ⟨A, m, cap, rfl⟩ := hs.shape
  have hN := (New.refl w).alloc (.cells #[.int .u64 (e : Int), .slice A m cap] 41)
  have HS := Lib.hid (hs.new hN)
  clear hs
  go_enter Tryz.func134, Tryz.ntmps134
  go_wp2_with fail
  refine (beside_any e _ ms n (-1) _ hl (.inr rfl) HS.out).mono ?_
  rintro e1 w2 ⟨rfl, hn2⟩
  generalize atC ms (placeC ms n) (placeC ms n + -1) = r at *
  obtain ⟨r1, r2⟩ := r
  go_wp2_with fail
  go_ret2
  exact ⟨rfl, hN.trans hn2⟩

end Go.Proofs.YtlhlcdjkacglnaaGreatDoor.C
