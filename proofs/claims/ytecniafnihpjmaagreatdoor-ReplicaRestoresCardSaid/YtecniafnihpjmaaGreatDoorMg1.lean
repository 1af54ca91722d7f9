/- The parts Str, Bat, Bat2, Num, Bytes, CodeW, Bat3, Bat4, joined. -/
import Derived.Test.YtecniafnihpjmaaGreatDoorRows
import Derived.Test.YtecniafnihpjmaaGreatDoorSl
import Derived.Deep.QuietTactic
import Derived.BigQuiet
import Derived.Deep.DeepCutAuto
import Derived.IntWalk
import Derived.Deep.RegionHeld3
import Derived.Laws.Bits64b
import Derived.Lib.AppendStr
/- Strings in their order, and cmp.Compare of strings. -/
namespace Go.Proofs.YtecniafnihpjmaaGreatDoor
open Go.RowKit Go.Lap
set_option linter.unusedVariables false

theorem less_trich : ∀ a b : List UInt8, (Op.bytesLess a b || a == b) = !Op.bytesLess b a
  | [], [] => rfl
  | [], _ :: _ => rfl
  | _ :: _, [] => rfl
  | x :: a, y :: b => by
    have ih := less_trich a b
    simp only [Op.bytesLess]
    by_cases h : x = y
    · subst h
      have hx : (x < x) = False := by simp
      simp only [hx, decide_false, Bool.false_or, beq_self_eq_true, Bool.true_and]
      rw [← ih]
      simp
    · have hb : (x == y) = false := by simpa using h
      have hb2 : (y == x) = false := by simpa using Ne.symm h
      have hc : (x :: a == y :: b) = false := by simp [h]
      rw [hb, hb2, hc]
      simp only [Bool.false_and, Bool.or_false]
      have : ¬ x.toNat = y.toNat := fun e => h (UInt8.toNat_inj.1 e)
      rw [Bool.eq_iff_iff]
      simp [UInt8.lt_iff_toNat_lt]
      omega
theorem le_or (a b : ByteArray) : (Op.bytesLess a.toList b.toList || a.toList == b.toList) = !Op.bytesLess b.toList a.toList := less_trich _ _
def cmpS (a b : ByteArray) : Int := if Op.bytesLess a.toList b.toList = true then -1 else if Op.bytesLess b.toList a.toList = true then 1 else 0
set_option maxHeartbeats 1000000 in
theorem isNaN_any (a : ByteArray) (w : World) : Calls Tryz.prog 94 #[.string a] w fun e w' => e = .returned (.bool false) ∧ w' = w := by
  go_enter Tryz.func94, Tryz.ntmps94
  go_wp2_with fail
  go_ret
  exact ⟨rfl, rfl⟩

set_option maxHeartbeats 1000000 in
theorem compare_any (a b : ByteArray) (w : World) : Calls Tryz.prog 68 #[.string a, .string b] w fun e w' => e = .returned (.int .i64 (cmpS a b)) ∧ w' = w := by
  have ha := isNaN_any a
  have hb := isNaN_any b
  cases h1 : Op.bytesLess a.toList b.toList with
  | true =>
    have HF := Lib.hid (show cmpS a b = -1 by simp [cmpS, h1])
    go_enter Tryz.func68, Tryz.ntmps68
    go_wp2_with fail
    refine (ha _).mono ?_
    rintro e w1 ⟨rfl, rfl⟩
    go_wp2_with fail
    refine (hb _).mono ?_
    rintro e w2 ⟨rfl, rfl⟩
    go_wp2_with fail
    go_ret
    exact ⟨ret_int (a := -1) HF.out.symm, rfl⟩
  | false =>
    cases h2 : Op.bytesLess b.toList a.toList with
    | true =>
      have HF := Lib.hid (show cmpS a b = 1 by simp [cmpS, h1, h2])
      have he : (a.toList == b.toList) = false := by have h := le_or a b; rw [h1, h2] at h; simpa using h
      go_enter Tryz.func68, Tryz.ntmps68
      go_wp2_with fail
      refine (ha _).mono ?_
      rintro e w1 ⟨rfl, rfl⟩
      go_wp2_with fail
      refine (hb _).mono ?_
      rintro e w2 ⟨rfl, rfl⟩
      go_wp2_with fail
      go_ret
      exact ⟨ret_int (a := 1) HF.out.symm, rfl⟩
    | false =>
      have HF := Lib.hid (show cmpS a b = 0 by simp [cmpS, h1, h2])
      have he : (a.toList == b.toList) = true := by have h := le_or a b; rw [h1, h2] at h; simpa using h
      go_enter Tryz.func68, Tryz.ntmps68
      go_wp2_with fail
      refine (ha _).mono ?_
      rintro e w1 ⟨rfl, rfl⟩
      go_wp2_with fail
      refine (hb _).mono ?_
      rintro e w2 ⟨rfl, rfl⟩
      go_wp2_with fail
      go_ret
      exact ⟨ret_int (a := 0) HF.out.symm, rfl⟩
end Go.Proofs.YtecniafnihpjmaaGreatDoor

/- Chapter 5 (batch): what a batch is; why one may not be. Printed by genBat.py. -/
namespace Go.Proofs.YtecniafnihpjmaaGreatDoor
open Go.RowKit Go.Lap
set_option linter.unusedVariables false

/-- A write. -/
structure Wri where
  key : ByteArray
  val : ByteArray
  gone : Bool
  deriving DecidableEq

def Wri.enc (x : Wri) : List Value := [.string x.key, .string x.val, .bool x.gone]
theorem Wri.encOk : Enc Wri.enc 3 := fun _ => ⟨rfl, by simp [Wri.enc, Value.oneCell']⟩

/-- Why a write may not be, by itself. -/
def chk1 (x : Wri) : Int := if x.key.size = 0 ∨ 64 < x.key.size then 52 else if 256 < x.val.size ∨ (x.gone = true ∧ x.val.size ≠ 0) then 53 else 0

theorem toList_data (s : ByteArray) : s.toList = s.data.toList := by
  obtain ⟨⟨l⟩⟩ := s
  exact ByteArray.toList_mk l
theorem size_toList (s : ByteArray) : s.toList.length = s.size := by rw [toList_data, Array.length_toList]; rfl
theorem toList_nil {s : ByteArray} (h : s.size = 0) : s.toList = [] := List.eq_nil_of_length_eq_zero (by rw [size_toList, h])
theorem toList_ne {s : ByteArray} (h : s.size ≠ 0) : s.toList.isEmpty = false := by
  cases hl : s.toList with
  | nil => exact absurd (by rw [← size_toList, hl]; rfl) h
  | cons _ _ => rfl

set_option maxHeartbeats 1000000 in
theorem write1_any (x : Wri) (w : World) :
    Calls Tryz.prog 95 #[.agg #[.string x.key, .string x.val, .bool x.gone]] w fun e w' => e = .returned (.int .i64 (chk1 x)) ∧ New w w' := by
  obtain ⟨key, val, gone⟩ := x
  by_cases h1 : key.size = 0
  · have t1 := toList_nil h1
    have hF : chk1 ⟨key, val, gone⟩ = 52 := by simp [chk1, h1]
    have HF := Lib.hid hF
    clear hF
    go_enter Tryz.func95, Tryz.ntmps95
    go_wp2_with fail
    go_ret
    exact ⟨ret_int (a := 52) HF.out.symm, (New.refl w).alloc _⟩
  · have t1 := toList_ne h1
    by_cases h2 : 64 < key.size
    · have h2' : (64 : Int) < (key.size : Int) := by omega
      have hF : chk1 ⟨key, val, gone⟩ = 52 := by simp [chk1, h2]
      have HF := Lib.hid hF
      clear hF
      go_enter Tryz.func95, Tryz.ntmps95
      go_wp2_with fail
      go_ret
      exact ⟨ret_int (a := 52) HF.out.symm, (New.refl w).alloc _⟩
    · have h2' : ¬ (64 : Int) < (key.size : Int) := by omega
      by_cases h3 : 256 < val.size
      · have h3' : (256 : Int) < (val.size : Int) := by omega
        have hF : chk1 ⟨key, val, gone⟩ = 53 := by simp [chk1, h1, h2, h3]
        have HF := Lib.hid hF
        clear hF
        go_enter Tryz.func95, Tryz.ntmps95
        go_wp2_with fail
        go_ret
        exact ⟨ret_int (a := 53) HF.out.symm, (New.refl w).alloc _⟩
      · have h3' : ¬ (256 : Int) < (val.size : Int) := by omega
        cases gone with
        | false =>
          have hF : chk1 ⟨key, val, false⟩ = 0 := by simp [chk1, h1, h2, h3]
          have HF := Lib.hid hF
          clear hF
          go_enter Tryz.func95, Tryz.ntmps95
          go_wp2_with fail
          go_ret
          exact ⟨ret_int (a := 0) HF.out.symm, (New.refl w).alloc _⟩
        | true =>
          by_cases h4 : val.size = 0
          · have t4 := toList_nil h4
            have hF : chk1 ⟨key, val, true⟩ = 0 := by simp [chk1, h1, h2, h4]
            have HF := Lib.hid hF
            clear hF
            go_enter Tryz.func95, Tryz.ntmps95
            go_wp2_with fail
            go_ret
            exact ⟨ret_int (a := 0) HF.out.symm, (New.refl w).alloc _⟩
          · have t4 := toList_ne h4
            have hF : chk1 ⟨key, val, true⟩ = 53 := by simp [chk1, h1, h2, h3, h4]
            have HF := Lib.hid hF
            clear hF
            go_enter Tryz.func95, Tryz.ntmps95
            go_wp2_with fail
            go_ret
            exact ⟨ret_int (a := 53) HF.out.symm, (New.refl w).alloc _⟩

/-- Does a key not rise behind another one (none: it is the first)? -/
def prevBad (p : Option ByteArray) (key : ByteArray) : Bool := match p with | none => false | some k => !Op.bytesLess k.toList key.toList
/-- Why writes may not be, behind a key (none: they are the first). -/
def chkFrom : Option ByteArray → List Wri → Int
  | _, [] => 0
  | p, x :: l => if chk1 x ≠ 0 then chk1 x else if prevBad p x.key = true then 54 else chkFrom (some x.key) l

def prevAt (l : List Wri) (k : Nat) : Option ByteArray := match k with | 0 => none | k + 1 => (l[k]?).map (·.key)

/-- Why a batch may not be. -/
def chk (l : List Wri) : Int := if l.length = 0 then 50 else if 8 < l.length then 51 else chkFrom none l

theorem chkFrom_at {l : List Wri} {k : Nat} {x : Wri} (h : l[k]? = some x) (p : Option ByteArray) :
    chkFrom p (l.drop k) = if chk1 x ≠ 0 then chk1 x else if prevBad p x.key = true then 54 else chkFrom (some x.key) (l.drop (k + 1)) := by
  obtain ⟨hk, hx⟩ := List.getElem?_eq_some_iff.1 h
  rw [List.drop_eq_getElem_cons hk, hx]
  rfl
theorem prevAt_succ {l : List Wri} {k : Nat} {x : Wri} (h : l[k]? = some x) : prevAt l (k + 1) = some x.key := by simp [prevAt, h]

/-- From the k-th write on it is as from the first on. -/
def ChkRel (w : World) (l : List Wri) (k : Nat) (w0 wr : World) : Prop := chkFrom none l = chkFrom (prevAt l k) (l.drop k) ∧ New w0 wr

/-- The value of a batch. -/
abbrev batV (c r s : Nat) (v : Value) : Value := .agg #[.int .u64 (c : Int), .int .u64 (r : Int), .int .u64 (s : Int), v]

/-- A batch that was boxed. -/
theorem Blk4F {w : World} {g t : Nat} {a b c d : Value} (h : Blk w g t #[a, b, c, d]) : g < w.heap.size ∧ w.cell? ⟨g, 0, none⟩ = some a ∧ w.cell? ⟨g, 1, none⟩ = some b ∧ w.cell? ⟨g, 2, none⟩ = some c ∧ w.cell? ⟨g, 3, none⟩ = some d ∧ (∀ i, w.frozen? ⟨g, i, none⟩ = false) :=
  ⟨h.lt, h.cell 0, h.cell 1, h.cell 2, h.cell 3, h.frozen⟩
theorem Blk3F {w : World} {g t : Nat} {a b c : Value} (h : Blk w g t #[a, b, c]) : g < w.heap.size ∧ w.cell? ⟨g, 0, none⟩ = some a ∧ w.cell? ⟨g, 1, none⟩ = some b ∧ w.cell? ⟨g, 2, none⟩ = some c ∧ (∀ i, w.frozen? ⟨g, i, none⟩ = false) :=
  ⟨h.lt, h.cell 0, h.cell 1, h.cell 2, h.frozen⟩
theorem SlIn.three {w : World} {b off : Nat} {l : List Wri} {k : Nat} {x : Wri} (hc : ∀ k x, l[k]? = some x → ∀ j u, (Wri.enc x)[j]? = some u → w.cell? ⟨b, off + k * 3 + j, none⟩ = some u) (h : l[k]? = some x) :
    w.cell? ⟨b, off + k * 3, none⟩ = some (.string x.key) ∧ w.cell? ⟨b, off + k * 3 + 1, none⟩ = some (.string x.val) ∧ w.cell? ⟨b, off + k * 3 + 2, none⟩ = some (.bool x.gone) :=
  ⟨hc k x h 0 _ rfl, hc k x h 1 _ rfl, hc k x h 2 _ rfl⟩

set_option maxRecDepth 100000 in
set_option maxHeartbeats 4000000 in
theorem check_any (c r s : Nat) (v : Value) (l : List Wri) (w : World) (hl : l.length ≤ 1000000000) (hs : SlIn w 3 Wri.enc v l) :
    Calls Tryz.prog 73 #[.agg #[.int .u64 (c : Int), .int .u64 (r : Int), .int .u64 (s : Int), v]] w fun e w' => e = .returned (.int .i64 (chk l)) ∧ New w w' := by
  obtain ⟨A, cap, rfl, hlc, hh⟩ := hs
  by_cases h0 : l.length = 0
  · have hF : chk l = 50 := by simp [chk, h0]
    have HF := Lib.hid hF
    have hz : ((l.length : Int) == 0) = true := by simp [h0]
    clear hF
    go_enter Tryz.func73, Tryz.ntmps73
    go_wp2_with fail
    go_ret
    exact ⟨ret_int (a := 50) HF.out.symm, (New.refl w).alloc _⟩
  have hz : ((l.length : Int) == 0) = false := by simpa using h0
  by_cases h8 : 8 < l.length
  · have hF : chk l = 51 := by simp [chk, h0, h8]
    have HF := Lib.hid hF
    have h8' : (8 : Int) < (l.length : Int) := by omega
    clear hF
    go_enter Tryz.func73, Tryz.ntmps73
    go_wp2_with fail
    go_ret
    exact ⟨ret_int (a := 51) HF.out.symm, (New.refl w).alloc _⟩
  have h8' : ¬ (8 : Int) < (l.length : Int) := by omega
  have hF : chk l = chkFrom none l := by simp [chk, h0, h8]
  have HF := Lib.hid hF
  clear hF h0 h8
  rcases hh with rfl | ⟨b, off, rfl, hbb, hc⟩
  · simp at hz
  go_enter Tryz.func73, Tryz.ntmps73
  go_wp2_with fail
  have hB0 := Blk.mk_new w 40 #[.int .u64 (c : Int), .int .u64 (r : Int), .int .u64 (s : Int), .slice (some ⟨b, off, none⟩) l.length cap]
  have hN0 := (New.refl w).alloc (.cells #[.int .u64 (c : Int), .int .u64 (r : Int), .int .u64 (s : Int), .slice (some ⟨b, off, none⟩) l.length cap] 40)
  have HB0 := Lib.hid hB0
  have HN0 := Lib.hid hN0
  clear hB0 hN0
  go_loopw [3, 4, 5, 19] (fun _ _ _ i wr => ∃ k : Nat, k ≤ l.length ∧ i = .int .i64 k ∧ ChkRel w l k (w.alloc (.cells #[.int .u64 (c : Int), .int .u64 (r : Int), .int .u64 (s : Int), .slice (some ⟨b, off, none⟩) l.length cap] 40)) wr) (fun _ _ _ i _ => l.length - (intOf i).toNat)
  case atStart => exact ⟨0, by omega, rfl, rfl, New.refl _⟩
  case round =>
    obtain ⟨k, hk, rfl, hfr, hn⟩ := hrel
    have HFR := Lib.hid hfr
    clear hfr
    by_cases hlt : k < l.length
    · have hlt2 : (k : Int) < (l.length : Int) := by omega
      have hk0 : (0 : Int) ≤ (k : Int) := by omega
      obtain ⟨x, hx⟩ : ∃ x, l[k]? = some x := ⟨_, List.getElem?_eq_getElem hlt⟩
      have hCo := HN0.out.trans hn
      obtain ⟨e0, e1, e2⟩ := SlIn.three (fun k x h j u hu => (hCo.cells.1 _ _ hbb).trans (hc k x h j u hu)) hx
      have hFx := chkFrom_at hx (prevAt l k)
      have hFx := HFR.out.trans (chkFrom_at hx (prevAt l k))
      have HFX := Lib.hid hFx
      have HX := Lib.hid hx
      have HC := Lib.hid hc
      clear hFx hx hc
      go_wp2_with fail
      refine (write1_any x _).mono ?_
      rintro e w2 ⟨rfl, hn2⟩
      have hBx := (Blk.mk_new wr 97 #[.string x.key, .string x.val, .bool x.gone]).new hn2
      have hn3 := ((New.refl wr).alloc (.cells #[.string x.key, .string x.val, .bool x.gone] 97)).trans hn2
      have hBb := (HB0.out.new hn).new hn3
      have hN3 := hCo.trans hn3
      obtain ⟨p0, p1, p2, p3, p4, pz⟩ := Blk4F hBb
      obtain ⟨q0, q1, q2, q3, qz⟩ := Blk3F hBx
      have hn3q := hn.trans hn3
      clear e0 e1 e2 hn2 hn hBx hBb
      by_cases h1 : chk1 x = 0
      rotate_left
      · have hF2 : chk l = chk1 x := by rw [HF.out, HFX.out, if_pos h1]
        have HF2 := Lib.hid hF2
        generalize chk1 x = cx at *
        have hne : ((cx : Int) != 0) = true := by simpa using h1
        clear h1 hF2
        go_wp2_with fail
        go_ret
        exact ⟨ret_int HF2.out.symm, hN3⟩
      rw [h1]
      go_upto_region 11 with fail
      cases k with
      | zero =>
        have hF2 : chkFrom none l = chkFrom (prevAt l 1) (l.drop 1) := by rw [HFX.out, if_neg (by simpa using h1), prevAt_succ HX.out]; rfl
        have HF2 := Lib.hid hF2
        clear hF2 h1
        have hd : decide ((0 : Int) < ((0 : Nat) : Int)) = false := by decide
        go_quiet (fail)
        go_wp2_with fail
        go_roundw
        case rel => exact ⟨1, by omega, by go_num, HF2.out, hn3q.drewN _⟩
        case measure => simp [intOf]; omega
      | succ j =>
        obtain ⟨y, hy⟩ : ∃ y, l[j]? = some y := ⟨_, List.getElem?_eq_getElem (by omega)⟩
        have f0 : w2.cell? ⟨b, off + j * 3, none⟩ = some (.string y.key) := (hN3.cells.1 _ _ hbb).trans (HC.out j y hy 0 _ rfl)
        have hd : decide ((0 : Int) < ((j + 1 : Nat) : Int)) = true := by rw [decide_eq_true_eq]; omega
        have hpv : prevAt l (j + 1) = some y.key := prevAt_succ hy
        have hfx2 := HFX.out
        rw [hpv, if_neg (by simpa using h1)] at hfx2
        change chkFrom none l = if (!Op.bytesLess y.key.toList x.key.toList) = true then 54 else _ at hfx2
        have hj1 : (0 : Int) ≤ (j : Int) := by omega
        have hj2 : (j : Int) < (l.length : Int) := by omega
        have hj3 : IntKind.i64.wrap (((j + 1 : Nat) : Int) - 1) = (j : Int) := by rw [IntWalk.i64_in _ (by omega)]; omega
        cases hbl : Op.bytesLess y.key.toList x.key.toList with
        | false =>
          rw [hbl, if_pos (by decide)] at hfx2
          have hF2 : chk l = 54 := by rw [HF.out, hfx2]
          have HF2 := Lib.hid hF2
          clear hF2 hfx2 hpv h1
          go_quiet (fail)
          go_wp2_with fail
          go_ret
          exact ⟨ret_int (a := 54) HF2.out.symm, hN3.drewN _⟩
        | true =>
          rw [hbl, if_neg (by decide)] at hfx2
          have hF2 : chkFrom none l = chkFrom (prevAt l (j + 1 + 1)) (l.drop (j + 1 + 1)) := by rw [hfx2, prevAt_succ HX.out]
          have HF2 := Lib.hid hF2
          clear hF2 hfx2 hpv h1
          go_quiet (fail)
          go_wp2_with fail
          go_roundw
          case rel => exact ⟨j + 1 + 1, by omega, by go_num, HF2.out, hn3q.drewN _⟩
          case measure => simp [intOf]; omega
    · have hlt2 : ¬ (k : Int) < (l.length : Int) := by omega
      have hF2 : chk l = 0 := by rw [HF.out, HFR.out, List.drop_eq_nil_of_le (by omega)]; rfl
      have HF2 := Lib.hid hF2
      clear hF2
      go_wp2_with fail
      go_ret
      exact ⟨ret_int (a := 0) HF2.out.symm, HN0.out.trans hn⟩

set_option maxRecDepth 100000 in
set_option maxHeartbeats 4000000 in
theorem refCheck_any (c r s : Nat) (v : Value) (l : List Wri) (w : World) (hl : l.length ≤ 1000000000) (hs : SlIn w 3 Wri.enc v l) :
    Calls Tryz.prog 12 #[.agg #[.int .u64 (c : Int), .int .u64 (r : Int), .int .u64 (s : Int), v]] w fun e w' => e = .returned (.int .i64 (chk l)) ∧ New w w' := by
  obtain ⟨A, cap, rfl, hlc, hh⟩ := hs
  by_cases h0 : l.length = 0
  · have hF : chk l = 50 := by simp [chk, h0]
    have HF := Lib.hid hF
    have hz : ((l.length : Int) == 0) = true := by simp [h0]
    clear hF
    go_enter Tryz.func12, Tryz.ntmps12
    go_wp2_with fail
    go_ret
    exact ⟨ret_int (a := 50) HF.out.symm, (New.refl w).alloc _⟩
  have hz : ((l.length : Int) == 0) = false := by simpa using h0
  by_cases h8 : 8 < l.length
  · have hF : chk l = 51 := by simp [chk, h0, h8]
    have HF := Lib.hid hF
    have h8' : (8 : Int) < (l.length : Int) := by omega
    clear hF
    go_enter Tryz.func12, Tryz.ntmps12
    go_wp2_with fail
    go_ret
    exact ⟨ret_int (a := 51) HF.out.symm, (New.refl w).alloc _⟩
  have h8' : ¬ (8 : Int) < (l.length : Int) := by omega
  have hF : chk l = chkFrom none l := by simp [chk, h0, h8]
  have HF := Lib.hid hF
  clear hF h0 h8
  rcases hh with rfl | ⟨b, off, rfl, hbb, hc⟩
  · simp at hz
  go_enter Tryz.func12, Tryz.ntmps12
  go_wp2_with fail
  have HB0 := Lib.hid (Blk.mk_new w 40 #[.int .u64 (c : Int), .int .u64 (r : Int), .int .u64 (s : Int), .slice (some ⟨b, off, none⟩) l.length cap])
  have HN0 := Lib.hid ((New.refl w).alloc (.cells #[.int .u64 (c : Int), .int .u64 (r : Int), .int .u64 (s : Int), .slice (some ⟨b, off, none⟩) l.length cap] 40))
  go_loopw [3, 4] (fun i _ wr => ∃ k : Nat, k ≤ l.length ∧ i = .int .i64 k ∧ ChkRel w l k (w.alloc (.cells #[.int .u64 (c : Int), .int .u64 (r : Int), .int .u64 (s : Int), .slice (some ⟨b, off, none⟩) l.length cap] 40)) wr) (fun i _ _ => l.length - (intOf i).toNat)
  case atStart => exact ⟨0, by omega, rfl, rfl, New.refl _⟩
  case round =>
    obtain ⟨k, hk, rfl, hfr, hn⟩ := hrel
    have HFR := Lib.hid hfr
    clear hfr
    have hCo := HN0.out.trans hn
    obtain ⟨p0, p1, p2, p3, p4, pz⟩ := Blk4F (HB0.out.new hn)
    by_cases hlt : k < l.length
    · have hlt2 : (k : Int) < (l.length : Int) := by omega
      have hk0 : (0 : Int) ≤ (k : Int) := by omega
      obtain ⟨x, hx⟩ : ∃ x, l[k]? = some x := ⟨_, List.getElem?_eq_getElem hlt⟩
      obtain ⟨e0, e1, e2⟩ := SlIn.three (fun k x h j u hu => (hCo.cells.1 _ _ hbb).trans (hc k x h j u hu)) hx
      have HFX := Lib.hid (HFR.out.trans (chkFrom_at hx (prevAt l k)))
      have HX := Lib.hid hx
      have HC := Lib.hid hc
      clear hx hc
      obtain ⟨key, val, gone⟩ := x
      simp only at e0 e1 e2
      by_cases h1 : key.size = 0
      · have h1' : (key.size : Int) < 1 := by omega
        have hF1 : chk1 ⟨key, val, gone⟩ = 52 := by simp [chk1, h1]
        have hF2 : chk l = 52 := by rw [HF.out, HFX.out, hF1]; rfl
        have HF2 := Lib.hid hF2
        clear hF1 hF2
        go_wp2_with fail
        go_ret
        exact ⟨ret_int (a := 52) HF2.out.symm, hCo.alloc _⟩
      have h1' : ¬ (key.size : Int) < 1 := by omega
      by_cases h2 : 64 < key.size
      · have h2' : (64 : Int) < (key.size : Int) := by omega
        have hF1 : chk1 ⟨key, val, gone⟩ = 52 := by simp [chk1, h2]
        have hF2 : chk l = 52 := by rw [HF.out, HFX.out, hF1]; rfl
        have HF2 := Lib.hid hF2
        clear hF1 hF2
        go_wp2_with fail
        go_ret
        exact ⟨ret_int (a := 52) HF2.out.symm, hCo.alloc _⟩
      have h2' : ¬ (64 : Int) < (key.size : Int) := by omega
      by_cases h3 : 256 < val.size
      · have h3' : (256 : Int) < (val.size : Int) := by omega
        have hF1 : chk1 ⟨key, val, gone⟩ = 53 := by simp [chk1, h1, h2, h3]
        have hF2 : chk l = 53 := by rw [HF.out, HFX.out, hF1]; rfl
        have HF2 := Lib.hid hF2
        clear hF1 hF2
        go_wp2_with fail
        go_ret
        exact ⟨ret_int (a := 53) HF2.out.symm, hCo.alloc _⟩
      have h3' : ¬ (256 : Int) < (val.size : Int) := by omega
      cases gone with
      | false =>
        have hF1 : chk1 ⟨key, val, false⟩ = 0 := by simp [chk1, h1, h2, h3]
        go_upto_region 13 with fail
        have hn3 := hn.alloc (.cells #[.string key, .string val, .bool false] 97)
        have hN3 := hCo.alloc (.cells #[.string key, .string val, .bool false] 97)
        have hBx := Blk.mk_new wr 97 #[.string key, .string val, .bool false]
        have hBb := (HB0.out.new hn).alloc (.cells #[.string key, .string val, .bool false] 97)
        generalize World.alloc wr _ = w2 at *
        generalize wr.heap.size = p at *
        clear p0 p1 p2 p3 p4 pz e0 e1 e2
        obtain ⟨p0, p1, p2, p3, p4, pz⟩ := Blk4F hBb
        obtain ⟨q0, q1, q2, q3, qz⟩ := Blk3F hBx
        clear hBb hBx hn hCo
        cases k with
        | zero =>
          have hF2 : chkFrom none l = chkFrom (prevAt l 1) (l.drop 1) := by rw [HFX.out, if_neg (by simpa using hF1), prevAt_succ HX.out]; rfl
          have HF2 := Lib.hid hF2
          clear hF2 hF1
          have hd : decide ((0 : Int) < ((0 : Nat) : Int)) = false := by decide
          go_quiet (fail)
          go_wp2_with fail
          go_roundw
          case rel => exact ⟨1, by omega, by go_num, HF2.out, hn3.drewN _⟩
          case measure => simp [intOf]; omega
        | succ j =>
          obtain ⟨y, hy⟩ : ∃ y, l[j]? = some y := ⟨_, List.getElem?_eq_getElem (by omega)⟩
          have f0 : w2.cell? ⟨b, off + j * 3, none⟩ = some (.string y.key) := (hN3.cells.1 _ _ hbb).trans (HC.out j y hy 0 _ rfl)
          have hd : decide ((0 : Int) < ((j + 1 : Nat) : Int)) = true := by rw [decide_eq_true_eq]; omega
          have hpv : prevAt l (j + 1) = some y.key := prevAt_succ hy
          have hfx2 := HFX.out
          rw [hpv, if_neg (by simpa using hF1)] at hfx2
          change chkFrom none l = if (!Op.bytesLess y.key.toList key.toList) = true then 54 else _ at hfx2
          have hj1 : (0 : Int) ≤ (j : Int) := by omega
          have hj2 : (j : Int) < (l.length : Int) := by omega
          have hj3 : IntKind.i64.wrap (((j + 1 : Nat) : Int) - 1) = (j : Int) := by rw [IntWalk.i64_in _ (by omega)]; omega
          have hle := le_or key y.key
          cases hbl : Op.bytesLess y.key.toList key.toList with
          | false =>
            rw [hbl, if_pos (by decide)] at hfx2
            have hF2 : chk l = 54 := by rw [HF.out, hfx2]
            have HF2 := Lib.hid hF2
            rw [hbl] at hle
            clear hF2 hfx2 hpv hF1
            go_quiet (fail)
            go_wp2_with fail
            go_ret
            exact ⟨ret_int (a := 54) HF2.out.symm, hN3.drewN _⟩
          | true =>
            rw [hbl, if_neg (by decide)] at hfx2
            have hF2 : chkFrom none l = chkFrom (prevAt l (j + 1 + 1)) (l.drop (j + 1 + 1)) := by rw [hfx2, prevAt_succ HX.out]
            have HF2 := Lib.hid hF2
            rw [hbl] at hle
            clear hF2 hfx2 hpv hF1
            go_quiet (fail)
            go_wp2_with fail
            go_roundw
            case rel => exact ⟨j + 1 + 1, by omega, by go_num, HF2.out, hn3.drewN _⟩
            case measure => simp [intOf]; omega
      | true =>
        by_cases h4 : val.size = 0
        · have h4' : ¬ (0 : Int) < (val.size : Int) := by omega
          have hF1 : chk1 ⟨key, val, true⟩ = 0 := by simp [chk1, h1, h2, h4]
          go_upto_region 13 with fail
          have hn3 := hn.alloc (.cells #[.string key, .string val, .bool true] 97)
          have hN3 := hCo.alloc (.cells #[.string key, .string val, .bool true] 97)
          have hBx := Blk.mk_new wr 97 #[.string key, .string val, .bool true]
          have hBb := (HB0.out.new hn).alloc (.cells #[.string key, .string val, .bool true] 97)
          generalize World.alloc wr _ = w2 at *
          generalize wr.heap.size = p at *
          clear p0 p1 p2 p3 p4 pz e0 e1 e2
          obtain ⟨p0, p1, p2, p3, p4, pz⟩ := Blk4F hBb
          obtain ⟨q0, q1, q2, q3, qz⟩ := Blk3F hBx
          clear hBb hBx hn hCo
          cases k with
          | zero =>
            have hF2 : chkFrom none l = chkFrom (prevAt l 1) (l.drop 1) := by rw [HFX.out, if_neg (by simpa using hF1), prevAt_succ HX.out]; rfl
            have HF2 := Lib.hid hF2
            clear hF2 hF1
            have hd : decide ((0 : Int) < ((0 : Nat) : Int)) = false := by decide
            go_quiet (fail)
            go_wp2_with fail
            go_roundw
            case rel => exact ⟨1, by omega, by go_num, HF2.out, hn3.drewN _⟩
            case measure => simp [intOf]; omega
          | succ j =>
            obtain ⟨y, hy⟩ : ∃ y, l[j]? = some y := ⟨_, List.getElem?_eq_getElem (by omega)⟩
            have f0 : w2.cell? ⟨b, off + j * 3, none⟩ = some (.string y.key) := (hN3.cells.1 _ _ hbb).trans (HC.out j y hy 0 _ rfl)
            have hd : decide ((0 : Int) < ((j + 1 : Nat) : Int)) = true := by rw [decide_eq_true_eq]; omega
            have hpv : prevAt l (j + 1) = some y.key := prevAt_succ hy
            have hfx2 := HFX.out
            rw [hpv, if_neg (by simpa using hF1)] at hfx2
            change chkFrom none l = if (!Op.bytesLess y.key.toList key.toList) = true then 54 else _ at hfx2
            have hj1 : (0 : Int) ≤ (j : Int) := by omega
            have hj2 : (j : Int) < (l.length : Int) := by omega
            have hj3 : IntKind.i64.wrap (((j + 1 : Nat) : Int) - 1) = (j : Int) := by rw [IntWalk.i64_in _ (by omega)]; omega
            have hle := le_or key y.key
            cases hbl : Op.bytesLess y.key.toList key.toList with
            | false =>
              rw [hbl, if_pos (by decide)] at hfx2
              have hF2 : chk l = 54 := by rw [HF.out, hfx2]
              have HF2 := Lib.hid hF2
              rw [hbl] at hle
              clear hF2 hfx2 hpv hF1
              go_quiet (fail)
              go_wp2_with fail
              go_ret
              exact ⟨ret_int (a := 54) HF2.out.symm, hN3.drewN _⟩
            | true =>
              rw [hbl, if_neg (by decide)] at hfx2
              have hF2 : chkFrom none l = chkFrom (prevAt l (j + 1 + 1)) (l.drop (j + 1 + 1)) := by rw [hfx2, prevAt_succ HX.out]
              have HF2 := Lib.hid hF2
              rw [hbl] at hle
              clear hF2 hfx2 hpv hF1
              go_quiet (fail)
              go_wp2_with fail
              go_roundw
              case rel => exact ⟨j + 1 + 1, by omega, by go_num, HF2.out, hn3.drewN _⟩
              case measure => simp [intOf]; omega
        · have h4' : (0 : Int) < (val.size : Int) := by omega
          have hF1 : chk1 ⟨key, val, true⟩ = 53 := by simp [chk1, h1, h2, h3, h4]
          have hF2 : chk l = 53 := by rw [HF.out, HFX.out, hF1]; rfl
          have HF2 := Lib.hid hF2
          clear hF1 hF2
          go_wp2_with fail
          go_ret
          exact ⟨ret_int (a := 53) HF2.out.symm, hCo.alloc _⟩
    · have hlt2 : ¬ (k : Int) < (l.length : Int) := by omega
      have hF2 : chk l = 0 := by rw [HF.out, HFR.out, List.drop_eq_nil_of_le (by omega)]; rfl
      have HF2 := Lib.hid hF2
      clear hF2
      go_wp2_with fail
      go_ret
      exact ⟨ret_int (a := 0) HF2.out.symm, hCo⟩
end Go.Proofs.YtecniafnihpjmaaGreatDoor

/- Chapter 5 (batch): few, Same, Find, Meets, and the document's. Printed by genBat2.py. -/
namespace Go.Proofs.YtecniafnihpjmaaGreatDoor
open Go.RowKit Go.Lap
set_option linter.unusedVariables false

theorem take_snoc {l : List Wri} {k : Nat} {x : Wri} (h : l[k]? = some x) : l.take (k + 1) = l.take k ++ [x] := by rw [List.take_add_one, h]; rfl
theorem bytes_inj {a b : ByteArray} (h : a.toList = b.toList) : a = b := by
  rw [toList_data, toList_data] at h
  obtain ⟨⟨a⟩⟩ := a
  obtain ⟨⟨b⟩⟩ := b
  simp at h
  rw [h]
def SameRel (l l' : List Wri) (k : Nat) (w0 wr : World) : Prop := l.take k = l'.take k ∧ New w0 wr
/-- The same batches. -/
def sameB (c r s : Nat) (l : List Wri) (c' r' s' : Nat) (l' : List Wri) : Bool := decide (c = c' ∧ r = r' ∧ s = s' ∧ l = l')

set_option maxRecDepth 100000 in
set_option maxHeartbeats 4000000 in
theorem refSame_any (c r s : Nat) (v : Value) (l : List Wri) (c' r' s' : Nat) (v' : Value) (l' : List Wri) (w : World) (hl : l.length ≤ 1000000000) (hl' : l'.length ≤ 1000000000) (hs : SlIn w 3 Wri.enc v l) (hs' : SlIn w 3 Wri.enc v' l') :
    Calls Tryz.prog 50 #[.agg #[.int .u64 (c : Int), .int .u64 (r : Int), .int .u64 (s : Int), v], .agg #[.int .u64 (c' : Int), .int .u64 (r' : Int), .int .u64 (s' : Int), v']] w fun e w' => e = .returned (.bool (sameB c r s l c' r' s' l')) ∧ New w w' := by
  obtain ⟨A, cap, rfl, hlc, hh⟩ := hs
  obtain ⟨A', cap', rfl, hlc', hh'⟩ := hs'
  by_cases g0 : c = c'
  rotate_left
  · have HF := Lib.hid (show sameB c r s l c' r' s' l' = false by simp [sameB]; intros; simp_all)
    have t0 : (((c : Nat) : Int) != ((c' : Nat) : Int)) = true := by rw [bne_iff_ne]; omega
    have u0 : (c == c') = false := by simpa using g0
    go_enter Tryz.func50, Tryz.ntmps50
    go_wp2_with fail
    go_ret
    exact ⟨ret_bool (a := false) HF.out.symm, ((New.refl w).alloc _).alloc _⟩
  by_cases g1 : r = r'
  rotate_left
  · have HF := Lib.hid (show sameB c r s l c' r' s' l' = false by simp [sameB]; intros; simp_all)
    have t1 : (((r : Nat) : Int) != ((r' : Nat) : Int)) = true := by rw [bne_iff_ne]; omega
    have u1 : (r == r') = false := by simpa using g1
    have t0 : (((c : Nat) : Int) != ((c' : Nat) : Int)) = false := by rw [g0]; simp
    go_enter Tryz.func50, Tryz.ntmps50
    go_wp2_with fail
    go_ret
    exact ⟨ret_bool (a := false) HF.out.symm, ((New.refl w).alloc _).alloc _⟩
  by_cases g2 : s = s'
  rotate_left
  · have HF := Lib.hid (show sameB c r s l c' r' s' l' = false by simp [sameB]; intros; simp_all)
    have t2 : (((s : Nat) : Int) != ((s' : Nat) : Int)) = true := by rw [bne_iff_ne]; omega
    have u2 : (s == s') = false := by simpa using g2
    have t0 : (((c : Nat) : Int) != ((c' : Nat) : Int)) = false := by rw [g0]; simp
    have t1 : (((r : Nat) : Int) != ((r' : Nat) : Int)) = false := by rw [g1]; simp
    go_enter Tryz.func50, Tryz.ntmps50
    go_wp2_with fail
    go_ret
    exact ⟨ret_bool (a := false) HF.out.symm, ((New.refl w).alloc _).alloc _⟩
  by_cases g3 : l.length = l'.length
  rotate_left
  · have HF := Lib.hid (show sameB c r s l c' r' s' l' = false by simp [sameB]; intros; intro hh; subst hh; exact g3 rfl)
    have t3 : (((l.length : Nat) : Int) != ((l'.length : Nat) : Int)) = true := by rw [bne_iff_ne]; omega
    have u3 : (l.length == l'.length) = false := by simpa using g3
    have t0 : (((c : Nat) : Int) != ((c' : Nat) : Int)) = false := by rw [g0]; simp
    have t1 : (((r : Nat) : Int) != ((r' : Nat) : Int)) = false := by rw [g1]; simp
    have t2 : (((s : Nat) : Int) != ((s' : Nat) : Int)) = false := by rw [g2]; simp
    go_enter Tryz.func50, Tryz.ntmps50
    go_wp2_with fail
    go_ret
    exact ⟨ret_bool (a := false) HF.out.symm, ((New.refl w).alloc _).alloc _⟩
  subst g0 g1 g2
  have HF := Lib.hid (show sameB c r s l c r s l' = decide (l = l') by simp [sameB])
  have HG3 := Lib.hid g3
  have t3 : (((l.length : Nat) : Int) != ((l'.length : Nat) : Int)) = false := by rw [g3]; simp
  have u3 : (l.length == l'.length) = true := by simpa using g3
  clear g3
  have hB1 := (Blk.mk_new w 40 #[.int .u64 (c : Int), .int .u64 (r : Int), .int .u64 (s : Int), .slice A l.length cap]).alloc (.cells #[.int .u64 (c : Int), .int .u64 (r : Int), .int .u64 (s : Int), .slice A' l'.length cap'] 40)
  have hB2 := Blk.mk_new (w.alloc (.cells #[.int .u64 (c : Int), .int .u64 (r : Int), .int .u64 (s : Int), .slice A l.length cap] 40)) 40 #[.int .u64 (c : Int), .int .u64 (r : Int), .int .u64 (s : Int), .slice A' l'.length cap']
  rw [World.size_alloc] at hB2
  have HB1 := Lib.hid hB1
  have HB2 := Lib.hid hB2
  clear hB1 hB2
  have HN0 := Lib.hid (((New.refl w).alloc (.cells #[.int .u64 (c : Int), .int .u64 (r : Int), .int .u64 (s : Int), .slice A l.length cap] 40)).alloc (.cells #[.int .u64 (c : Int), .int .u64 (r : Int), .int .u64 (s : Int), .slice A' l'.length cap'] 40))
  go_enter Tryz.func50, Tryz.ntmps50
  go_wp2_with fail
  go_loopw [5] (fun i wr => ∃ k : Nat, k ≤ l.length ∧ i = .int .i64 k ∧ SameRel l l' k ((w.alloc (.cells #[.int .u64 (c : Int), .int .u64 (r : Int), .int .u64 (s : Int), .slice A l.length cap] 40)).alloc (.cells #[.int .u64 (c : Int), .int .u64 (r : Int), .int .u64 (s : Int), .slice A' l'.length cap'] 40)) wr) (fun  i _ => l.length - (intOf i).toNat)
  case atStart => exact ⟨0, by omega, rfl, rfl, New.refl _⟩
  case round =>
    obtain ⟨k, hk, rfl, hfr, hn⟩ := hrel
    have HFR := Lib.hid hfr
    clear hfr
    have hCo := HN0.out.trans hn
    obtain ⟨p0, p1, p2, p3, p4, pz⟩ := Blk4F (HB1.out.new hn)
    obtain ⟨q0, q1, q2, q3, q4, qz⟩ := Blk4F (HB2.out.new hn)
    by_cases hlt : k < l.length
    · have hlt2 : (k : Int) < (l.length : Int) := by omega
      have hk0 : (0 : Int) ≤ (k : Int) := by omega
      have hlt' : k < l'.length := by rw [← HG3.out]; exact hlt
      have hlt2' : (k : Int) < (l'.length : Int) := by omega
      rcases hh with rfl | ⟨b, off, rfl, hbb, hc⟩
      · simp at hlt
      rcases hh' with rfl | ⟨b', off', rfl, hbb', hc'⟩
      · simp at hlt'
      obtain ⟨x, hx⟩ : ∃ x, l[k]? = some x := ⟨_, List.getElem?_eq_getElem hlt⟩
      obtain ⟨y, hy⟩ : ∃ y, l'[k]? = some y := ⟨_, List.getElem?_eq_getElem hlt'⟩
      obtain ⟨e0, e1, e2⟩ := SlIn.three (fun k x h j u hu => (hCo.cells.1 _ _ hbb).trans (hc k x h j u hu)) hx
      obtain ⟨f0, f1, f2⟩ := SlIn.three (fun k x h j u hu => (hCo.cells.1 _ _ hbb').trans (hc' k x h j u hu)) hy
      have HX := Lib.hid hx
      have HY := Lib.hid hy
      clear hx hy hc hc' hlt'
      by_cases hxy : x = y
      · subst hxy
        have HF2 := Lib.hid (show l.take (k + 1) = l'.take (k + 1) by rw [take_snoc HX.out, take_snoc HY.out, HFR.out])
        go_wp2_with fail
        go_quiet (fail)
        go_wp2_with fail
        go_roundw
        case rel => exact ⟨k + 1, by omega, by go_num, HF2.out, hn.drewN _⟩
        case measure => simp [intOf]; omega
      · have HF2 := Lib.hid (show sameB c r s l c r s l' = false by rw [HF.out]; simp; intro e; subst e; exact hxy (Option.some.inj (HX.out.symm.trans HY.out)))
        obtain ⟨xk, xv, xg⟩ := x
        obtain ⟨yk, yv, yg⟩ := y
        simp only at e0 e1 e2 f0 f1 f2
        clear HX HY
        by_cases k1 : xk = yk
        rotate_left
        · have t1 : ¬ xk.toList = yk.toList := fun e => k1 (bytes_inj e)
          go_wp2_with fail
          go_quiet (fail)
          go_wp2_with fail
          go_ret
          exact ⟨ret_bool (a := false) HF2.out.symm, hCo.drewN _⟩
        subst k1
        by_cases k2 : xv = yv
        rotate_left
        · have t2 : ¬ xv.toList = yv.toList := fun e => k2 (bytes_inj e)
          go_wp2_with fail
          go_quiet (fail)
          go_wp2_with fail
          go_ret
          exact ⟨ret_bool (a := false) HF2.out.symm, hCo.drewN _⟩
        subst k2
        have k3 : ¬ xg = yg := fun e => hxy (by rw [e])
        clear hxy
        go_wp2_with fail
        go_quiet (fail)
        go_wp2_with fail
        go_ret
        exact ⟨ret_bool (a := false) HF2.out.symm, hCo.drewN _⟩
    · have hlt2 : ¬ (k : Int) < (l.length : Int) := by omega
      have HF2 := Lib.hid (show sameB c r s l c r s l' = true by rw [HF.out]; have h := HFR.out; rw [List.take_of_length_le (by omega), List.take_of_length_le (by rw [← HG3.out]; omega)] at h; simp [h])
      go_wp2_with fail
      go_ret
      exact ⟨ret_bool (a := true) HF2.out.symm, hCo⟩
end Go.Proofs.YtecniafnihpjmaaGreatDoor

/- Numbers in as few bytes as they need: the plain functions, and the contracts of the package num. -/
namespace Go.Proofs.YtecniafnihpjmaaGreatDoor
open Go.RowKit Go.Lap
set_option linter.unusedVariables false

end Go.Proofs.YtecniafnihpjmaaGreatDoor

/- Bytes: append of a string to bytes of the call's own; strings and bytes made of each other. -/
namespace Go.Proofs.YtecniafnihpjmaaGreatDoor
open Go.RowKit Go.Lap
set_option linter.unusedVariables false

end Go.Proofs.YtecniafnihpjmaaGreatDoor

/- Contracts of code.Writer (chapter 3): what is put, and what goes wrong first. -/
namespace Go.Lap
open Go.RowKit
section
variable {α : Type} {enc : α → List Value} {size : Nat} {l : List α} {w w' : World} {v v' v'' : Value} {base : Nat} {e : TypeId} {S : Nat → Prop}
theorem SlIn.shape (h : SlIn w size enc v l) : ∃ A n c, v = .slice A n c := by obtain ⟨A, c, hv, _⟩ := h; exact ⟨A, _, c, hv⟩
end
end Go.Lap

namespace Go.Proofs.YtecniafnihpjmaaGreatDoor
open Go.RowKit Go.Lap
set_option linter.unusedVariables false

end Go.Proofs.YtecniafnihpjmaaGreatDoor

/- Chapter 5 (batch): Find, Meets, and the document's. Printed by genBat3.py. -/
namespace Go.Proofs.YtecniafnihpjmaaGreatDoor
open Go.RowKit Go.Lap
set_option linter.unusedVariables false

/-- Is a write one of a key? -/
def keyEq (x : Wri) (key : ByteArray) : Bool := decide (x.key.toList = key.toList)
/-- The place of the first write of a key, from a place on; below 0: there is none. -/
def idxFrom (key : ByteArray) : Nat → List Wri → Int
  | _, [] => -1
  | i, x :: l => if keyEq x key = true then (i : Int) else idxFrom key (i + 1) l
end Go.Proofs.YtecniafnihpjmaaGreatDoor

/- Chapter 5 (batch): Meets, and the document's. Printed by genBat4.py. -/
namespace Go.Proofs.YtecniafnihpjmaaGreatDoor
open Go.RowKit Go.Lap
set_option linter.unusedVariables false

def hasK (key : ByteArray) (l : List Wri) : Bool := l.any fun y => keyEq y key
end Go.Proofs.YtecniafnihpjmaaGreatDoor
