/- Chapter 24's reference: Value; lapstoneref16.At; lapstoneref14.Same. -/
import Derived.Test.YtecniafnihpjmaaGreatDoorRdP
namespace Go.Proofs.YtecniafnihpjmaaGreatDoor
open Go.RowKit Go.Lap C
set_option linter.unusedVariables false
set_option linter.unusedSimpArgs false
theorem celTy : SlTy Tryz.prog 83 124 (.agg #[.string ⟨#[]⟩, .string ⟨#[]⟩]) 2 32 := ⟨Tryz.underlying83, by kernel_rfl, rfl, by decide⟩
/-- The last version. -/
def lastV (l : List Ver) : ByteArray × Int := match l.getLast? with
  | some x => if x.gone then (⟨#[]⟩, 161) else (x.val, 0)
  | none => (⟨#[]⟩, 161)
theorem getLast_at {α : Type} {l : List α} {n : Nat} {x : α} (h : l[n]? = some x) (hn : n + 1 = l.length) : l.getLast? = some x := by
  rw [List.getLast?_eq_getElem?, ← h]; congr 1; omega
set_option maxRecDepth 100000 in
set_option maxHeartbeats 4000000 in
theorem refAt_last {v : Value} {l : List Ver} {w : World} (t : Nat) (hs : SlIn w 3 Ver.enc v l) (ht : ∀ x ∈ l, x.at_ ≤ (t : Int)) (hl : l.length ≤ 1000000) :
    Calls Tryz.prog 70 #[v, .int .u64 (t : Int)] w fun e w' => e = .returned (.tuple #[.string (lastV l).1, .int .i64 (lastV l).2]) ∧ w' = w := by
  obtain ⟨A, c, rfl, hlc, hor⟩ := hs
  have HOR := Lib.hid hor
  have HT := Lib.hid ht
  clear hor ht hlc
  go_enter Tryz.func70, Tryz.ntmps70
  go_wp2_with fail
  go_loopw [6, 7] (fun a i wr => ∃ k : Nat, k ≤ l.length ∧ a = .int .i64 ((k : Int) - 1) ∧ i = .int .i64 (k : Int) ∧ wr = w) (fun _ i _ => l.length - (intOf i).toNat)
  case atStart => exact ⟨0, by omega, rfl, rfl, rfl⟩
  case round =>
    obtain ⟨k, hk, rfl, rfl, hw⟩ := hrel
    subst hw
    by_cases hlt : k < l.length
    · obtain ⟨x, hx⟩ : ∃ x, l[k]? = some x := ⟨_, List.getElem?_eq_getElem hlt⟩
      rcases HOR.out with h0 | ⟨g, off, rfl, hg, hc⟩
      · rw [h0] at hlt; simp at hlt
      have c0 : wr.cell? ⟨g, off + k * 3, none⟩ = some (.int .u64 x.at_) := by have := hc k x hx 0 _ rfl; simpa using this
      have hle := HT.out x (List.mem_of_getElem? hx)
      have i1 : (k : Int) < (l.length : Int) := by omega
      have i2 : (0 : Int) ≤ (k : Int) := by omega
      have e1 : ((k + 1 : Nat) : Int) - 1 = (k : Int) := by omega
      have E1 := Lib.hid e1
      clear hc hx e1
      go_wp2_with fail
      go_roundw
      case rel => exact ⟨k + 1, by omega, by rw [E1.out], by go_num, by first | trivial | rfl⟩
      case measure => simp [intOf]; omega
    · obtain rfl : k = l.length := by omega
      by_cases h0 : l.length = 0
      · have HF := Lib.hid (show lastV l = (⟨#[]⟩, 161) by rw [List.length_eq_zero_iff.1 h0]; rfl)
        have i1 : ¬ (l.length : Int) < (l.length : Int) := by omega
        have i2 : (l.length : Int) - 1 < 0 := by omega
        clear hlt h0
        go_wp2_with fail
        go_ret2
        rw [HF.out]
        exact ⟨rfl, rfl⟩
      · obtain ⟨n, hn⟩ : ∃ n, n + 1 = l.length := ⟨l.length - 1, by omega⟩
        obtain ⟨x, hx⟩ : ∃ x, l[n]? = some x := ⟨_, List.getElem?_eq_getElem (by omega)⟩
        rcases HOR.out with h1 | ⟨g, off, rfl, hg, hc⟩
        · rw [h1] at h0; simp at h0
        have c1 : wr.cell? ⟨g, off + n * 3 + 1, none⟩ = some (.string x.val) := by have := hc n x hx 1 _ rfl; simpa using this
        have c2 : wr.cell? ⟨g, off + n * 3 + 2, none⟩ = some (.bool x.gone) := by have := hc n x hx 2 _ rfl; simpa using this
        have hla := getLast_at hx hn
        obtain ⟨xa, xv, xg⟩ := x
        have HF := Lib.hid (show lastV l = if xg then (⟨#[]⟩, 161) else (xv, 0) by unfold lastV; rw [hla])
        dsimp only at c1 c2
        have en : (l.length : Int) - 1 = (n : Int) := by omega
        rw [en]
        have i1 : ¬ (l.length : Int) < (l.length : Int) := by omega
        have i2 : ¬ (n : Int) < 0 := by omega
        have i3 : (n : Int) < (l.length : Int) := by omega
        have i4 : (0 : Int) ≤ (n : Int) := by omega
        clear hlt h0 hc hx hn hla en
        cases xg with
        | true =>
          go_wp2_with fail
          go_ret2
          rw [HF.out]
          exact ⟨rfl, rfl⟩
        | false =>
          go_wp2_with fail
          go_ret2
          rw [HF.out]
          exact ⟨rfl, rfl⟩
theorem valP_last (P : List (Nat × Wri)) (k : ByteArray) : ((lastV (vsOf P k)).1, decide ((lastV (vsOf P k)).2 = 0)) = match valP P k with | some s => (s, true) | none => (⟨#[]⟩, false) := by
  unfold lastV valP
  cases (vsOf P k).getLast? with
  | none => rfl
  | some x => cases hg : x.gone <;> simp [hg]
theorem vsOf_at {P : List (Nat × Wri)} {k : ByteArray} {x : Ver} (h : x ∈ vsOf P k) : ∃ p ∈ P, x.at_ = (p.1 : Int) := by
  unfold vsOf at h
  obtain ⟨p, hp, rfl⟩ := List.mem_map.1 h
  exact ⟨p, (List.mem_filter.1 hp).1, rfl⟩
theorem wsUp_at (l : List Btc) : ∀ (i : Nat) (p : Nat × Wri), p ∈ wsUp l i → p.1 ≤ i
  | i, p, h => by
    unfold wsUp at h
    obtain ⟨j, hj, h2⟩ := List.mem_flatMap.1 h
    obtain ⟨y, _, rfl⟩ := List.mem_map.1 h2
    have := List.mem_range.1 hj
    show j + 1 ≤ i
    omega
theorem Row.empty {α : Type} (w : World) (e size : Nat) (enc : α → List Value) : Row (w.alloc (.cells #[] e)) w.heap.size e size enc (.slice (some ⟨w.heap.size, 0, none⟩) 0 0) ([] : List α) :=
  .inr ⟨w.heap.size, 0, 0, #[], rfl, Nat.le_refl _, Blk.mk_new _ _ _, by simp, by simp, by simp, by simp⟩
def ValPost (w : World) (P : List (Nat × Wri)) (key : ByteArray) (e : Ending) (w' : World) : Prop := e = .returned (.tuple #[.string ((valP P key).getD ⟨#[]⟩), .bool (valP P key).isSome]) ∧ New w w'
section
variable {w w' W : World}
theorem verApp {wx : World} {base : Nat} {v : Value} {l : List Ver} (h : Row wx base 131 3 Ver.enc v l) : ∃ A n c, v = .slice A n c := h.shp
set_option maxRecDepth 100000 in
set_option maxHeartbeats 8000000 in
theorem refValue {v : Value} {l : List Btc} (h : BtRow w 0 v l) (key : ByteArray) (hl : l.length ≤ 1000) (hok : ∀ b ∈ l, b.l.length ≤ 1000) :
    Calls Tryz.prog 33 #[v, .string key] w (ValPost w (wsUp l l.length) key) := by
  obtain ⟨A0, n0, hv0⟩ := h.shape
  have H := Lib.hid h
  have HV := Lib.hid hv0
  have HOK := Lib.hid hok
  rw [hv0]
  clear h hv0 hok
  go_enter Tryz.func33, Tryz.ntmps33
  go_wp2_with fail
  go_loopw [6, 7, 8, 9] (fun v i _ _ wr => ∃ k : Nat, k ≤ l.length ∧ i = .int .i64 (k : Int) ∧ Row wr w.heap.size 131 3 Ver.enc v (vsOf (wsUp l k) key) ∧ New w wr) (fun _ i _ _ _ => l.length - (intOf i).toNat)
  case atStart => exact ⟨0, by omega, rfl, Row.empty _ _ _ _, (New.refl _).alloc _⟩
  case round =>
    obtain ⟨k, hk, rfl, hr, hn⟩ := hrel
    obtain ⟨vA, vn, vc, rfl⟩ := hr.shp
    have HR := Lib.hid hr
    have HN := Lib.hid hn
    by_cases hlt : k < l.length
    · obtain ⟨b, hb⟩ : ∃ b, l[k]? = some b := ⟨_, List.getElem?_eq_getElem hlt⟩
      obtain ⟨g, off, cap, A, cp, hvv, hcap, hba, e0, e1, e2, e3', hg⟩ := H.out.at_ hb
      rw [HV.out] at hvv
      cases hvv
      have HBL := Lib.hid (HOK.out b (List.mem_of_getElem? hb))
      have HUP := Lib.hid (wsUp_next hb)
      have HKL : Hid (k < l.length ∧ l.length ≤ 1000 ∧ (wsUp l k).length ≤ k * 1000) := Lib.hid ⟨hlt, hl, wsUp_len (fun b hb => HOK.out b hb) k⟩
      obtain ⟨bc, br, bs, bl⟩ := b
      dsimp only at e0 e1 e2 e3' hba
      have HBA := Lib.hid hba
      have HE3 := Lib.hid (And.intro e3' hg)
      have i1 : (k : Int) < (l.length : Int) := by omega
      have i2 : (0 : Int) ≤ (k : Int) := by omega
      clear hb hba e0 e1 e2 hr hn e3'
      go_wp2_with fail
      obtain ⟨wo, rfl⟩ : ∃ wo, wo = wr := ⟨_, rfl⟩
      go_loopw [6, 8, 9] (fun v i _ wr => ∃ j : Nat, j ≤ bl.length ∧ i = .int .i64 (j : Int) ∧ Row wr w.heap.size 131 3 Ver.enc v (vsOf (wsUp l k ++ (bl.take j).map fun x => (k + 1, x)) key) ∧ New w wr) (fun _ i _ _ => bl.length - (intOf i).toNat)
      case atStart => exact ⟨0, by omega, rfl, by rw [List.take_zero, List.map_nil, List.append_nil]; exact HR.out, HN.out⟩
      case round =>
        obtain ⟨j, hj, rfl, hr, hn⟩ := hrel
        obtain ⟨vA, vn, vc, rfl⟩ := hr.shp
        have c3 : wr.cell? ⟨g, off + k * 4 + 3, none⟩ = some (.slice A bl.length cp) := (hn.cells.1 g _ HE3.out.2).trans HE3.out.1
        by_cases hjl : j < bl.length
        · obtain ⟨y, hy⟩ : ∃ y, bl[j]? = some y := ⟨_, List.getElem?_eq_getElem hjl⟩
          obtain ⟨A', cp', hv', _, hh⟩ := (HBA.out.new hn).sl
          cases hv'
          rcases hh with h0 | ⟨gb, ob, cs, rfl, hbb, hc⟩
          · dsimp only at h0; rw [h0] at hjl; simp at hjl
          have hbl1 : bl.length ≤ 1000 := HBL.out
          have hj2 : (j : Int) < (bl.length : Int) := by omega
          have hj0 : (0 : Int) ≤ (j : Int) := by omega
          obtain ⟨d0, d1, d2⟩ := SlIn.three (fun k x h j u hu => (hbb.cell _).trans (hc k x h j u hu)) hy
          have hgb := hbb.lt
          have hnw := (New.refl wr).alloc (.cells #[.string y.key, .string y.val, .bool y.gone] 97)
          have hby := Blk.mk_new wr 97 #[.string y.key, .string y.val, .bool y.gone]
          have HBY := Lib.hid hby
          have HNW := Lib.hid (hn.trans hnw)
          have HRY := Lib.hid (hr.new hnw)
          have HPL : Hid ((wsUp l k ++ (bl.take j).map fun x => (k + 1, x)).length ≤ 1001000) := Lib.hid (by
            have h1 := HKL.out
            have h2 := HBL.out
            (try dsimp only at h2)
            rw [List.length_append, List.length_map, List.length_take]
            omega)
          have HTK : Hid ((wsUp l k ++ (bl.take j).map fun x => (k + 1, x)) ++ [(k + 1, y)] = wsUp l k ++ (bl.take (j + 1)).map fun x => (k + 1, x)) := Lib.hid (by rw [take_snocW hy, List.map_append, List.append_assoc]; rfl)
          have hlbase : Hid (w.heap.size ≤ wr.heap.size) := Lib.hid hn.size
          have hw1 : IntKind.i64.wrap ((k : Int) + 1) = (k : Int) + 1 := IntWalk.i64_in _ (by have := HKL.out; omega)
          have hw2 : IntKind.u64.wrap ((k : Int) + 1) = (k : Int) + 1 := IntWalk.u64_in _ (by have := HKL.out; omega)
          clear hy hbb hc hnw hby hr
          go_upto_region 9 with fail
          generalize wr.alloc (.cells #[.string y.key, .string y.val, .bool y.gone] 97) = wy at *
          clear d0 d1 d2 hgb c3
          obtain ⟨f0, f1, f2, f3, fz⟩ := Blk3J HBY.out
          have HWS := Lib.hid (show w.heap.size ≤ wy.heap.size from HNW.out.size)
          generalize hP : (wsUp l k ++ (bl.take j).map fun x => (k + 1, x)) = P at HRY HPL HTK
          clear hP
          by_cases hxy : y.key.toList = key.toList
          · have q1 : (y.key.toList == key.toList) = true := by simp [hxy]
            have q2 : decide (y.key.toList = key.toList) = true := by simp [hxy]
            have HS := Lib.hid (show vsOf P key ++ [⟨(k + 1 : Nat), y.val, y.gone⟩] = vsOf (P ++ [(k + 1, y)]) key by rw [vsOf_snoc, if_pos (bytes_inj hxy)])
            have HVL := Lib.hid (vsOf_len P key)
            have hnz := (New.refl wy).alloc (.cells #[.int .u64 ((k : Int) + 1), .string y.val, .bool y.gone] 131)
            have HNZ := Lib.hid hnz
            have hsl : SlIn (wy.alloc (.cells #[.int .u64 ((k : Int) + 1), .string y.val, .bool y.gone] 131)) 3 Ver.enc (.slice (some ⟨wy.heap.size, 0, none⟩) 1 1) [(⟨(k : Int) + 1, y.val, y.gone⟩ : Ver)] := SlIn.one (Blk.mk_new wy _ _) Ver.encOk rfl
            have HM1 := Lib.hid (show (vsOf P key).length + [(⟨(k : Int) + 1, y.val, y.gone⟩ : Ver)].length ≤ maxLen by have := HVL.out; have := HPL.out; unfold maxLen; simp only [List.length_singleton]; omega)
            have HM2 := Lib.hid (show ((vsOf P key).length + [(⟨(k : Int) + 1, y.val, y.gone⟩ : Ver)].length) * 32 ≤ 140737488355328 by have := HVL.out; have := HPL.out; simp only [List.length_singleton]; omega)
            have HM3 := Lib.hid (Nat.le_trans HWS.out hnz.size)
            clear hxy hnz
            go_wp2_with (at_builtin; refine wpList_appR verTy Ver.encOk rfl _ _ rfl rfl rfl (HRY.out.new HNZ.out) hsl HM1.out HM2.out HM3.out ?_; intro v9 w9 ho9 hg9 hb9; obtain ⟨A9, n9, c9, hv9⟩ := ho9.shp; subst hv9; have HO9 := Lib.hid ho9; have HG9 := Lib.hid hg9; clear ho9 hg9 hb9)
            go_roundw
            case rel =>
              refine ⟨j + 1, by omega, by go_num, ?_, ?_⟩
              · have := HO9.out
                rw [show ((k : Int) + 1) = ((k + 1 : Nat) : Int) by omega, HS.out, HTK.out] at this
                exact this
              · exact (HNW.out.trans HNZ.out).grown HG9.out (fun q hq => (HRY.out.lt q hq).1)
            case measure => simp [intOf]; omega
          · have q1 : (y.key.toList == key.toList) = false := by simp [hxy]
            have q2 : decide (y.key.toList = key.toList) = false := by simp [hxy]
            have HS := Lib.hid (show vsOf P key = vsOf (P ++ [(k + 1, y)]) key by rw [vsOf_snoc, if_neg (fun e => hxy (by rw [e]))])
            clear hxy
            go_wp2_with fail
            go_roundw
            case rel =>
              refine ⟨j + 1, by omega, by go_num, ?_, HNW.out⟩
              have := HRY.out
              rw [HS.out, HTK.out] at this
              exact this
            case measure => simp [intOf]; omega
        · obtain rfl : j = bl.length := by omega
          have hj2 : ¬ (bl.length : Int) < (bl.length : Int) := by omega
          have HD : Hid (Row wr w.heap.size 131 3 Ver.enc (.slice vA vn vc) (vsOf (wsUp l (k + 1)) key)) := Lib.hid (by rw [HUP.out]; rw [List.take_length] at hr; exact hr)
          have HN2 := Lib.hid hn
          clear hr hn
          go_wp2_with fail
          go_roundw
          case rel => exact ⟨k + 1, by have := HKL.out; omega, by go_num, HD.out, HN2.out⟩
          case measure => have := HKL.out; simp [intOf]; omega
    · obtain rfl : k = l.length := by omega
      have i1 : ¬ (l.length : Int) < (l.length : Int) := by omega
      have HL : Hid ((vsOf (wsUp l l.length) key).length ≤ 1000000) := Lib.hid (by
        have h1 := vsOf_len (wsUp l l.length) key
        have h2 := wsUp_len (fun b hb => HOK.out b hb) l.length
        have h3 : l.length * 1000 ≤ 1000 * 1000 := Nat.mul_le_mul_right _ hl
        omega)
      have HAT : Hid (∀ x ∈ vsOf (wsUp l l.length) key, x.at_ ≤ (l.length : Int)) := Lib.hid (fun x hx => by
        obtain ⟨p, hp, e⟩ := vsOf_at hx
        have := wsUp_at l _ p hp
        rw [e]; omega)
      have w1 : IntKind.u64.wrap (l.length : Int) = (l.length : Int) := IntWalk.u64_in _ (by omega)
      have HVP := Lib.hid (valP_last (wsUp l l.length) key)
      clear hr hn hlt hk
      go_wp2_with fail
      refine (refAt_last l.length (HR.out.slIn Ver.encOk) HAT.out HL.out).mono ?_
      rintro e w5 ⟨rfl, rfl⟩
      have hvp := HVP.out
      generalize lastV (vsOf (wsUp l l.length) key) = r at hvp ⊢
      obtain ⟨rs, rn⟩ := r
      dsimp only at hvp
      by_cases h0 : rn = 0
      · subst h0
        go_wp2_with fail
        go_ret2
        refine ⟨?_, HN.out⟩
        cases hc : valP (wsUp l l.length) key with
        | none => rw [hc] at hvp; simp at hvp
        | some s => rw [hc] at hvp; simp at hvp; subst hvp; rfl
      · have h1 : (rn == 0) = false := by simp [h0]
        have h2 : decide (rn = 0) = false := by simp [h0]
        go_wp2_with fail
        go_ret2
        refine ⟨?_, HN.out⟩
        cases hc : valP (wsUp l l.length) key with
        | none => rw [hc] at hvp; simp [h0] at hvp; subst hvp; rfl
        | some s => rw [hc] at hvp; simp [h0] at hvp
set_option maxRecDepth 100000 in
set_option maxHeartbeats 4000000 in
theorem same14 {v v' : Value} {l : List Cel} (h1 : SlIn w 2 celC v l) (h2 : SlIn w 2 celC v' l) (hl : l.length ≤ 1000000) :
    Calls Tryz.prog 34 #[v, v'] w fun e w' => e = .returned (.bool true) ∧ New w w' := by
  obtain ⟨A, cap, rfl, hlc, hh⟩ := h1
  obtain ⟨A', cap', rfl, hlc', hh'⟩ := h2
  have HH := Lib.hid hh
  have HH' := Lib.hid hh'
  have t3 : (((l.length : Nat) : Int) != ((l.length : Nat) : Int)) = false := by simp
  clear hh hh' hlc hlc'
  go_enter Tryz.func34, Tryz.ntmps34
  go_wp2_with fail
  go_loopw [5] (fun i wr => ∃ k : Nat, k ≤ l.length ∧ i = .int .i64 k ∧ New w wr) (fun i _ => l.length - (intOf i).toNat)
  case atStart => exact ⟨0, by omega, rfl, New.refl _⟩
  case round =>
    obtain ⟨k, hk, rfl, hn⟩ := hrel
    by_cases hlt : k < l.length
    · have hlt2 : (k : Int) < (l.length : Int) := by omega
      have hk0 : (0 : Int) ≤ (k : Int) := by omega
      rcases HH.out with h0 | ⟨b, off, rfl, hbb, hc⟩
      · rw [h0] at hlt; simp at hlt
      rcases HH'.out with h0 | ⟨b', off', rfl, hbb', hc'⟩
      · rw [h0] at hlt; simp at hlt
      obtain ⟨x, hx⟩ : ∃ x, l[k]? = some x := ⟨_, List.getElem?_eq_getElem hlt⟩
      have e0 : wr.cell? ⟨b, off + k * 2, none⟩ = some (.string x.key) := (hn.cells.1 _ _ hbb).trans (hc k x hx 0 _ rfl)
      have e1 : wr.cell? ⟨b, off + k * 2 + 1, none⟩ = some (.string x.val) := (hn.cells.1 _ _ hbb).trans (hc k x hx 1 _ rfl)
      have f0 : wr.cell? ⟨b', off' + k * 2, none⟩ = some (.string x.key) := (hn.cells.1 _ _ hbb').trans (hc' k x hx 0 _ rfl)
      have f1 : wr.cell? ⟨b', off' + k * 2 + 1, none⟩ = some (.string x.val) := (hn.cells.1 _ _ hbb').trans (hc' k x hx 1 _ rfl)
      clear hx hc hc'
      go_wp2_with fail
      go_quiet (fail)
      go_wp2_with fail
      go_roundw
      case rel => exact ⟨k + 1, by omega, by go_num, hn.drewN _⟩
      case measure => simp [intOf]; omega
    · have hlt2 : ¬ (k : Int) < (l.length : Int) := by omega
      go_wp2_with fail
      go_ret
      exact ⟨rfl, hn⟩
end
end Go.Proofs.YtecniafnihpjmaaGreatDoor
