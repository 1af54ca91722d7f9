/- Chapter 5 (batch): Meets, and the document's. Printed by genBat4.py. -/
import Derived.Test.YtdobingccipkkaaBat3
namespace Go.Proofs.Ytdobingccipkkaa
open Go.RowKit Go.Lap
set_option linter.unusedVariables false

def hasK (key : ByteArray) (l : List Wri) : Bool := l.any fun y => keyEq y key
/-- Do two batches write one key? -/
def meetsB (l l' : List Wri) : Bool := l.any fun x => hasK x.key l'
theorem find_has (key : ByteArray) (l : List Wri) : (findB key l).isSome = hasK key l := by unfold findB hasK; rw [Bool.eq_iff_iff, List.find?_isSome, List.any_eq_true]
theorem meets_at {l l' : List Wri} {k : Nat} {x : Wri} (h : l[k]? = some x) : meetsB (l.drop k) l' = (hasK x.key l' || meetsB (l.drop (k + 1)) l') := by
  obtain ⟨hk, hx⟩ := List.getElem?_eq_some_iff.1 h
  rw [List.drop_eq_getElem_cons hk, hx]
  rfl
theorem has_at {key : ByteArray} {l : List Wri} {k : Nat} {x : Wri} (h : l[k]? = some x) : hasK key (l.drop k) = (keyEq x key || hasK key (l.drop (k + 1))) := by
  obtain ⟨hk, hx⟩ := List.getElem?_eq_some_iff.1 h
  rw [List.drop_eq_getElem_cons hk, hx]
  rfl
theorem meets_comm (l l' : List Wri) : meetsB l l' = meetsB l' l := by
  rw [Bool.eq_iff_iff]
  simp only [meetsB, hasK, List.any_eq_true]
  constructor
  · rintro ⟨x, hx, y, hy, h⟩
    exact ⟨y, hy, x, hx, by rw [keyEq_symm]; exact h⟩
  · rintro ⟨x, hx, y, hy, h⟩
    exact ⟨y, hy, x, hx, by rw [keyEq_symm]; exact h⟩
def MeetRel (l l' : List Wri) (k : Nat) (w0 wr : World) : Prop := meetsB l l' = meetsB (l.drop k) l' ∧ New w0 wr
def HasRel (key : ByteArray) (l : List Wri) (k : Nat) (w0 wr : World) : Prop := hasK key l = hasK key (l.drop k) ∧ New w0 wr

set_option maxRecDepth 100000 in
set_option maxHeartbeats 4000000 in
theorem meets_any (c r s : Nat) (v : Value) (l : List Wri) (c' r' s' : Nat) (v' : Value) (l' : List Wri) (w : World) (hl : l.length ≤ 1000000000) (hl' : l'.length ≤ 1000000000) (hs : SlIn w 3 Wri.enc v l) (hs' : SlIn w 3 Wri.enc v' l') :
    Calls Try.prog 21 #[.agg #[.int .u64 (c : Int), .int .u64 (r : Int), .int .u64 (s : Int), v], .agg #[.int .u64 (c' : Int), .int .u64 (r' : Int), .int .u64 (s' : Int), v']] w fun e w' => e = .returned (.bool (meetsB l l')) ∧ New w w' := by
  have HS' := Lib.hid hs'
  obtain ⟨A, cap, rfl, hlc, hh⟩ := hs
  obtain ⟨A', cap', rfl, hlc', hh'⟩ := hs'
  have hB1 := (Blk.mk_new w 25 #[.int .u64 (c : Int), .int .u64 (r : Int), .int .u64 (s : Int), .slice A l.length cap]).alloc (.cells #[.int .u64 (c' : Int), .int .u64 (r' : Int), .int .u64 (s' : Int), .slice A' l'.length cap'] 25)
  have hB2 := Blk.mk_new (w.alloc (.cells #[.int .u64 (c : Int), .int .u64 (r : Int), .int .u64 (s : Int), .slice A l.length cap] 25)) 25 #[.int .u64 (c' : Int), .int .u64 (r' : Int), .int .u64 (s' : Int), .slice A' l'.length cap']
  rw [World.size_alloc] at hB2
  have HB1 := Lib.hid hB1
  have HB2 := Lib.hid hB2
  clear hB1 hB2
  have HN0 := Lib.hid (((New.refl w).alloc (.cells #[.int .u64 (c : Int), .int .u64 (r : Int), .int .u64 (s : Int), .slice A l.length cap] 25)).alloc (.cells #[.int .u64 (c' : Int), .int .u64 (r' : Int), .int .u64 (s' : Int), .slice A' l'.length cap'] 25))
  go_enter Try.func21, Try.ntmps21
  go_wp2_with fail
  go_loopw [6, 7, 8, 12] (fun _ _ _ i wr => ∃ k : Nat, k ≤ l.length ∧ i = .int .i64 k ∧ MeetRel l l' k ((w.alloc (.cells #[.int .u64 (c : Int), .int .u64 (r : Int), .int .u64 (s : Int), .slice A l.length cap] 25)).alloc (.cells #[.int .u64 (c' : Int), .int .u64 (r' : Int), .int .u64 (s' : Int), .slice A' l'.length cap'] 25)) wr) (fun _ _ _ i _ => l.length - (intOf i).toNat)
  case atStart => exact ⟨0, by omega, rfl, rfl, New.refl _⟩
  case round =>
    obtain ⟨k, hk, rfl, hfr, hn⟩ := hrel
    have HFR := Lib.hid hfr
    clear hfr
    have hCo := HN0.out.trans hn
    by_cases hlt : k < l.length
    · obtain ⟨q0, q1, q2, q3, q4, qz⟩ := Blk4F (HB2.out.new hn)
      have hlt2 : (k : Int) < (l.length : Int) := by omega
      have hk0 : (0 : Int) ≤ (k : Int) := by omega
      rcases hh with rfl | ⟨b, off, rfl, hbb, hc⟩
      · simp at hlt
      obtain ⟨x, hx⟩ : ∃ x, l[k]? = some x := ⟨_, List.getElem?_eq_getElem hlt⟩
      obtain ⟨e0, e1, e2⟩ := SlIn.three (fun k x h j u hu => (hCo.cells.1 _ _ hbb).trans (hc k x h j u hu)) hx
      have HFX := Lib.hid (HFR.out.trans (meets_at hx))
      clear hx hc
      have hnx := hCo.alloc (.cells #[.string x.key, .string x.val, .bool x.gone] 43)
      have hnr := hn.alloc (.cells #[.string x.key, .string x.val, .bool x.gone] 43)
      go_wp2_with fail
      refine (find_any c' r' s' _ l' x.key _ hl' (HS'.out.new hnx)).mono ?_
      rintro e w2 ⟨hn2, he⟩
      have hfh := find_has x.key l'
      cases hfb : findB x.key l' with
      | none =>
        rw [hfb] at he hfh
        subst he
        have HF2 := Lib.hid (show meetsB l l' = meetsB (l.drop (k + 1)) l' by rw [HFX.out, ← hfh]; rfl)
        clear hfh hfb
        go_wp2_with fail
        go_roundw
        case rel => exact ⟨k + 1, by omega, by go_num, HF2.out, (hnr.trans hn2).alloc _⟩
        case measure => simp [intOf]; omega
      | some y =>
        rw [hfb] at he hfh
        simp only at he
        subst he
        have HF2 := Lib.hid (show meetsB l l' = true by rw [HFX.out, ← hfh]; rfl)
        clear hfh hfb
        go_wp2_with fail
        go_ret
        exact ⟨ret_bool (a := true) HF2.out.symm, (hnx.trans hn2).alloc _⟩
    · have hlt2 : ¬ (k : Int) < (l.length : Int) := by omega
      have HF2 := Lib.hid (show meetsB l l' = false by rw [HFR.out, List.drop_eq_nil_of_le (by omega)]; rfl)
      go_wp2_with fail
      go_ret
      exact ⟨ret_bool (a := false) HF2.out.symm, hCo⟩

set_option maxRecDepth 100000 in
set_option maxHeartbeats 4000000 in
theorem refMeets_any (c r s : Nat) (v : Value) (l : List Wri) (c' r' s' : Nat) (v' : Value) (l' : List Wri) (w : World) (hl : l.length ≤ 1000000000) (hl' : l'.length ≤ 1000000000) (hs : SlIn w 3 Wri.enc v l) (hs' : SlIn w 3 Wri.enc v' l') :
    Calls Try.prog 22 #[.agg #[.int .u64 (c : Int), .int .u64 (r : Int), .int .u64 (s : Int), v], .agg #[.int .u64 (c' : Int), .int .u64 (r' : Int), .int .u64 (s' : Int), v']] w fun e w' => e = .returned (.bool (meetsB l l')) ∧ New w w' := by
  have HS' := Lib.hid hs'
  obtain ⟨A, cap, rfl, hlc, hh⟩ := hs
  obtain ⟨A', cap', rfl, hlc', hh'⟩ := hs'
  have hB1 := (Blk.mk_new w 25 #[.int .u64 (c : Int), .int .u64 (r : Int), .int .u64 (s : Int), .slice A l.length cap]).alloc (.cells #[.int .u64 (c' : Int), .int .u64 (r' : Int), .int .u64 (s' : Int), .slice A' l'.length cap'] 25)
  have hB2 := Blk.mk_new (w.alloc (.cells #[.int .u64 (c : Int), .int .u64 (r : Int), .int .u64 (s : Int), .slice A l.length cap] 25)) 25 #[.int .u64 (c' : Int), .int .u64 (r' : Int), .int .u64 (s' : Int), .slice A' l'.length cap']
  rw [World.size_alloc] at hB2
  have HB1 := Lib.hid hB1
  have HB2 := Lib.hid hB2
  clear hB1 hB2
  have HN0 := Lib.hid (((New.refl w).alloc (.cells #[.int .u64 (c : Int), .int .u64 (r : Int), .int .u64 (s : Int), .slice A l.length cap] 25)).alloc (.cells #[.int .u64 (c' : Int), .int .u64 (r' : Int), .int .u64 (s' : Int), .slice A' l'.length cap'] 25))
  go_enter Try.func22, Try.ntmps22
  go_wp2_with fail
  go_loopw [5, 6] (fun i _ wr => ∃ k : Nat, k ≤ l.length ∧ i = .int .i64 k ∧ MeetRel l l' k ((w.alloc (.cells #[.int .u64 (c : Int), .int .u64 (r : Int), .int .u64 (s : Int), .slice A l.length cap] 25)).alloc (.cells #[.int .u64 (c' : Int), .int .u64 (r' : Int), .int .u64 (s' : Int), .slice A' l'.length cap'] 25)) wr) (fun i _ _ => l.length - (intOf i).toNat)
  case atStart => exact ⟨0, by omega, rfl, rfl, New.refl _⟩
  case round =>
    obtain ⟨k, hk, rfl, hfr, hn⟩ := hrel
    have HFR := Lib.hid hfr
    clear hfr
    have hCo := HN0.out.trans hn
    obtain ⟨p0, p1, p2, p3, p4, pz⟩ := Blk4F (HB1.out.new hn)
    by_cases hlt : k < l.length
    · have hlt2 : (k : Int) < (l.length : Int) := by omega
      have hk0 : (0 : Int) ≤ (k : Int) := by omega
      rcases hh with rfl | ⟨b, off, rfl, hbb, hc⟩
      · simp at hlt
      obtain ⟨x, hx⟩ : ∃ x, l[k]? = some x := ⟨_, List.getElem?_eq_getElem hlt⟩
      have HFX := Lib.hid (HFR.out.trans (meets_at (l' := l') hx))
      have HX := Lib.hid hx
      have HC := Lib.hid hc
      clear hx hc
      obtain ⟨wo, rfl⟩ : ∃ wo : World, wo = wr := ⟨_, rfl⟩
      go_wp2_with fail
      go_loopw [6] (fun i wr => ∃ m : Nat, m ≤ l'.length ∧ i = .int .i64 m ∧ HasRel x.key l' m wo wr) (fun i _ => l'.length - (intOf i).toNat)
      case atStart => exact ⟨0, by omega, rfl, rfl, New.refl _⟩
      case round =>
        obtain ⟨m, hm, rfl, hfr, hn2⟩ := hrel
        have HFQ := Lib.hid hfr
        clear hfr p0 p1 p2 p3 p4 pz
        have hn3 := hn.trans hn2
        have hCi := HN0.out.trans hn3
        obtain ⟨p0, p1, p2, p3, p4, pz⟩ := Blk4F (HB1.out.new hn3)
        obtain ⟨q0, q1, q2, q3, q4, qz⟩ := Blk4F (HB2.out.new hn3)
        by_cases hlm : m < l'.length
        · have hlm2 : (m : Int) < (l'.length : Int) := by omega
          have hm0 : (0 : Int) ≤ (m : Int) := by omega
          rcases hh' with rfl | ⟨b', off', rfl, hbb', hc'⟩
          · simp at hlm
          obtain ⟨y, hy⟩ : ∃ y, l'[m]? = some y := ⟨_, List.getElem?_eq_getElem hlm⟩
          obtain ⟨e0, e1, e2⟩ := SlIn.three (fun k x h j u hu => (hCi.cells.1 _ _ hbb).trans (HC.out k x h j u hu)) HX.out
          obtain ⟨f0, f1, f2⟩ := SlIn.three (fun k x h j u hu => (hCi.cells.1 _ _ hbb').trans (hc' k x h j u hu)) hy
          have HFY := Lib.hid (HFQ.out.trans (has_at (key := x.key) hy))
          clear hy hc'
          by_cases hxy : x.key.toList = y.key.toList
          · have HF2 := Lib.hid (show meetsB l l' = true by rw [HFX.out, HFY.out]; simp [keyEq, hxy])
            go_wp2_with fail
            go_quiet (fail)
            go_wp2_with fail
            go_ret
            exact ⟨ret_bool (a := true) HF2.out.symm, hCi.drewN _⟩
          · have HF2 := Lib.hid (show hasK x.key l' = hasK x.key (l'.drop (m + 1)) by rw [HFY.out]; simp [keyEq, Ne.symm hxy])
            have hb : (x.key.toList == y.key.toList) = false := by simpa using hxy
            go_wp2_with fail
            go_quiet (fail)
            go_wp2_with fail
            go_roundw
            case rel => exact ⟨m + 1, by omega, by go_num, HF2.out, hn2.drewN _⟩
            case measure => simp [intOf]; omega
        · have hlm2 : ¬ (m : Int) < (l'.length : Int) := by omega
          have HF2 := Lib.hid (show meetsB l l' = meetsB (l.drop (k + 1)) l' by rw [HFX.out, HFQ.out, List.drop_eq_nil_of_le (by omega)]; rfl)
          go_wp2_with fail
          go_roundw
          case rel => exact ⟨k + 1, by omega, by go_num, HF2.out, hn3⟩
          case measure => simp [intOf]; omega
    · have hlt2 : ¬ (k : Int) < (l.length : Int) := by omega
      have HF2 := Lib.hid (show meetsB l l' = false by rw [HFR.out, List.drop_eq_nil_of_le (by omega)]; rfl)
      go_wp2_with fail
      go_ret
      exact ⟨ret_bool (a := false) HF2.out.symm, hCo⟩
end Go.Proofs.Ytdobingccipkkaa
