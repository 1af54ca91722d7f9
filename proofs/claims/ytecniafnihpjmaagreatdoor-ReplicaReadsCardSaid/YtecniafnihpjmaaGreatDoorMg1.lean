/- The parts Str, Bat, Bat2, Num, Bytes, CodeW, Bat3, Bat4, joined. -/
import Derived.Test.YtecniafnihpjmaaGreatDoorRows
import Derived.Test.YtecniafnihpjmaaGreatDoorSl
import Derived.Deep.QuietTactic
import Derived.BigQuiet
import Derived.Deep.DeepCutAuto
import Derived.IntWalk
import Derived.Deep.RegionHeld3
import Derived.Laws.Bits64b
import Derived.Lib.AppendStr
/- Strings in their order, and cmp.Compare of strings. -/
namespace Go.Proofs.YtecniafnihpjmaaGreatDoor
open Go.RowKit Go.Lap
set_option linter.unusedVariables false

theorem less_trich : ∀ a b : List UInt8, (Op.bytesLess a b || a == b) = !Op.bytesLess b a
  | [], [] => rfl
  | [], _ :: _ => rfl
  | _ :: _, [] => rfl
  | x :: a, y :: b => by
    have ih := less_trich a b
    simp only [Op.bytesLess]
    by_cases h : x = y
    · subst h
      have hx : (x < x) = False := by simp
      simp only [hx, decide_false, Bool.false_or, beq_self_eq_true, Bool.true_and]
      rw [← ih]
      simp
    · have hb : (x == y) = false := by simpa using h
      have hb2 : (y == x) = false := by simpa using Ne.symm h
      have hc : (x :: a == y :: b) = false := by simp [h]
      rw [hb, hb2, hc]
      simp only [Bool.false_and, Bool.or_false]
      have : ¬ x.toNat = y.toNat := fun e => h (UInt8.toNat_inj.1 e)
      rw [Bool.eq_iff_iff]
      simp [UInt8.lt_iff_toNat_lt]
      omega
theorem le_or (a b : ByteArray) : (Op.bytesLess a.toList b.toList || a.toList == b.toList) = !Op.bytesLess b.toList a.toList := less_trich _ _
theorem less_trans : ∀ a b c : List UInt8, Op.bytesLess a b = true → Op.bytesLess b c = true → Op.bytesLess a c = true
  | [], [], _, h, _ => by simp [Op.bytesLess] at h
  | [], _ :: _, [], _, h => by simp [Op.bytesLess] at h
  | [], _ :: _, _ :: _, _, _ => rfl
  | _ :: _, [], _, h, _ => by simp [Op.bytesLess] at h
  | _ :: _, _ :: _, [], _, h => by simp [Op.bytesLess] at h
  | x :: a, y :: b, z :: c, h, h' => by
    have ih := less_trans a b c
    simp only [Op.bytesLess, Bool.or_eq_true, Bool.and_eq_true, decide_eq_true_eq, beq_iff_eq, UInt8.lt_iff_toNat_lt] at h h' ⊢
    rcases h with h | ⟨rfl, h⟩
    · rcases h' with h' | ⟨rfl, _⟩
      · exact .inl (by omega)
      · exact .inl h
    · rcases h' with h' | ⟨rfl, h'⟩
      · exact .inl h'
      · exact .inr ⟨rfl, ih h h'⟩
theorem less_irr (a : List UInt8) : Op.bytesLess a a = false := by
  have h := less_trich a a
  simp only [beq_self_eq_true, Bool.or_true] at h
  simpa using h.symm
theorem less_tri (a b : List UInt8) (h1 : Op.bytesLess a b = false) (h2 : Op.bytesLess b a = false) : a = b := by
  have h := less_trich a b
  rw [h1, h2] at h
  simpa using h
def cmpS (a b : ByteArray) : Int := if Op.bytesLess a.toList b.toList = true then -1 else if Op.bytesLess b.toList a.toList = true then 1 else 0
set_option maxHeartbeats 1000000 in
theorem isNaN_any (a : ByteArray) (w : World) : Calls Tryz.prog 94 #[.string a] w fun e w' => e = .returned (.bool false) ∧ w' = w := by
  go_enter Tryz.func94, Tryz.ntmps94
  go_wp2_with fail
  go_ret
  exact ⟨rfl, rfl⟩

set_option maxHeartbeats 1000000 in
theorem compare_any (a b : ByteArray) (w : World) : Calls Tryz.prog 68 #[.string a, .string b] w fun e w' => e = .returned (.int .i64 (cmpS a b)) ∧ w' = w := by
  have ha := isNaN_any a
  have hb := isNaN_any b
  cases h1 : Op.bytesLess a.toList b.toList with
  | true =>
    have HF := Lib.hid (show cmpS a b = -1 by simp [cmpS, h1])
    go_enter Tryz.func68, Tryz.ntmps68
    go_wp2_with fail
    refine (ha _).mono ?_
    rintro e w1 ⟨rfl, rfl⟩
    go_wp2_with fail
    refine (hb _).mono ?_
    rintro e w2 ⟨rfl, rfl⟩
    go_wp2_with fail
    go_ret
    exact ⟨ret_int (a := -1) HF.out.symm, rfl⟩
  | false =>
    cases h2 : Op.bytesLess b.toList a.toList with
    | true =>
      have HF := Lib.hid (show cmpS a b = 1 by simp [cmpS, h1, h2])
      have he : (a.toList == b.toList) = false := by have h := le_or a b; rw [h1, h2] at h; simpa using h
      go_enter Tryz.func68, Tryz.ntmps68
      go_wp2_with fail
      refine (ha _).mono ?_
      rintro e w1 ⟨rfl, rfl⟩
      go_wp2_with fail
      refine (hb _).mono ?_
      rintro e w2 ⟨rfl, rfl⟩
      go_wp2_with fail
      go_ret
      exact ⟨ret_int (a := 1) HF.out.symm, rfl⟩
    | false =>
      have HF := Lib.hid (show cmpS a b = 0 by simp [cmpS, h1, h2])
      have he : (a.toList == b.toList) = true := by have h := le_or a b; rw [h1, h2] at h; simpa using h
      go_enter Tryz.func68, Tryz.ntmps68
      go_wp2_with fail
      refine (ha _).mono ?_
      rintro e w1 ⟨rfl, rfl⟩
      go_wp2_with fail
      refine (hb _).mono ?_
      rintro e w2 ⟨rfl, rfl⟩
      go_wp2_with fail
      go_ret
      exact ⟨ret_int (a := 0) HF.out.symm, rfl⟩
end Go.Proofs.YtecniafnihpjmaaGreatDoor

/- Chapter 5 (batch): what a batch is; why one may not be. Printed by genBat.py. -/
namespace Go.Proofs.YtecniafnihpjmaaGreatDoor
open Go.RowKit Go.Lap
set_option linter.unusedVariables false

/-- A write. -/
structure Wri where
  key : ByteArray
  val : ByteArray
  gone : Bool
  deriving DecidableEq

def Wri.enc (x : Wri) : List Value := [.string x.key, .string x.val, .bool x.gone]
theorem Wri.encOk : Enc Wri.enc 3 := fun _ => ⟨rfl, by simp [Wri.enc, Value.oneCell']⟩

/-- Why a write may not be, by itself. -/
def chk1 (x : Wri) : Int := if x.key.size = 0 ∨ 64 < x.key.size then 52 else if 256 < x.val.size ∨ (x.gone = true ∧ x.val.size ≠ 0) then 53 else 0

theorem toList_data (s : ByteArray) : s.toList = s.data.toList := by
  obtain ⟨⟨l⟩⟩ := s
  exact ByteArray.toList_mk l
theorem size_toList (s : ByteArray) : s.toList.length = s.size := by rw [toList_data, Array.length_toList]; rfl
theorem toList_nil {s : ByteArray} (h : s.size = 0) : s.toList = [] := List.eq_nil_of_length_eq_zero (by rw [size_toList, h])
theorem toList_ne {s : ByteArray} (h : s.size ≠ 0) : s.toList.isEmpty = false := by
  cases hl : s.toList with
  | nil => exact absurd (by rw [← size_toList, hl]; rfl) h
  | cons _ _ => rfl

set_option maxHeartbeats 1000000 in
theorem write1_any (x : Wri) (w : World) :
    Calls Tryz.prog 95 #[.agg #[.string x.key, .string x.val, .bool x.gone]] w fun e w' => e = .returned (.int .i64 (chk1 x)) ∧ New w w' := by
  obtain ⟨key, val, gone⟩ := x
  by_cases h1 : key.size = 0
  · have t1 := toList_nil h1
    have hF : chk1 ⟨key, val, gone⟩ = 52 := by simp [chk1, h1]
    have HF := Lib.hid hF
    clear hF
    go_enter Tryz.func95, Tryz.ntmps95
    go_wp2_with fail
    go_ret
    exact ⟨ret_int (a := 52) HF.out.symm, (New.refl w).alloc _⟩
  · have t1 := toList_ne h1
    by_cases h2 : 64 < key.size
    · have h2' : (64 : Int) < (key.size : Int) := by omega
      have hF : chk1 ⟨key, val, gone⟩ = 52 := by simp [chk1, h2]
      have HF := Lib.hid hF
      clear hF
      go_enter Tryz.func95, Tryz.ntmps95
      go_wp2_with fail
      go_ret
      exact ⟨ret_int (a := 52) HF.out.symm, (New.refl w).alloc _⟩
    · have h2' : ¬ (64 : Int) < (key.size : Int) := by omega
      by_cases h3 : 256 < val.size
      · have h3' : (256 : Int) < (val.size : Int) := by omega
        have hF : chk1 ⟨key, val, gone⟩ = 53 := by simp [chk1, h1, h2, h3]
        have HF := Lib.hid hF
        clear hF
        go_enter Tryz.func95, Tryz.ntmps95
        go_wp2_with fail
        go_ret
        exact ⟨ret_int (a := 53) HF.out.symm, (New.refl w).alloc _⟩
      · have h3' : ¬ (256 : Int) < (val.size : Int) := by omega
        cases gone with
        | false =>
          have hF : chk1 ⟨key, val, false⟩ = 0 := by simp [chk1, h1, h2, h3]
          have HF := Lib.hid hF
          clear hF
          go_enter Tryz.func95, Tryz.ntmps95
          go_wp2_with fail
          go_ret
          exact ⟨ret_int (a := 0) HF.out.symm, (New.refl w).alloc _⟩
        | true =>
          by_cases h4 : val.size = 0
          · have t4 := toList_nil h4
            have hF : chk1 ⟨key, val, true⟩ = 0 := by simp [chk1, h1, h2, h4]
            have HF := Lib.hid hF
            clear hF
            go_enter Tryz.func95, Tryz.ntmps95
            go_wp2_with fail
            go_ret
            exact ⟨ret_int (a := 0) HF.out.symm, (New.refl w).alloc _⟩
          · have t4 := toList_ne h4
            have hF : chk1 ⟨key, val, true⟩ = 53 := by simp [chk1, h1, h2, h3, h4]
            have HF := Lib.hid hF
            clear hF
            go_enter Tryz.func95, Tryz.ntmps95
            go_wp2_with fail
            go_ret
            exact ⟨ret_int (a := 53) HF.out.symm, (New.refl w).alloc _⟩

/-- Does a key not rise behind another one (none: it is the first)? -/
def prevBad (p : Option ByteArray) (key : ByteArray) : Bool := match p with | none => false | some k => !Op.bytesLess k.toList key.toList
/-- Why writes may not be, behind a key (none: they are the first). -/
def chkFrom : Option ByteArray → List Wri → Int
  | _, [] => 0
  | p, x :: l => if chk1 x ≠ 0 then chk1 x else if prevBad p x.key = true then 54 else chkFrom (some x.key) l

def prevAt (l : List Wri) (k : Nat) : Option ByteArray := match k with | 0 => none | k + 1 => (l[k]?).map (·.key)

/-- Why a batch may not be. -/
def chk (l : List Wri) : Int := if l.length = 0 then 50 else if 8 < l.length then 51 else chkFrom none l

theorem chkFrom_at {l : List Wri} {k : Nat} {x : Wri} (h : l[k]? = some x) (p : Option ByteArray) :
    chkFrom p (l.drop k) = if chk1 x ≠ 0 then chk1 x else if prevBad p x.key = true then 54 else chkFrom (some x.key) (l.drop (k + 1)) := by
  obtain ⟨hk, hx⟩ := List.getElem?_eq_some_iff.1 h
  rw [List.drop_eq_getElem_cons hk, hx]
  rfl
theorem prevAt_succ {l : List Wri} {k : Nat} {x : Wri} (h : l[k]? = some x) : prevAt l (k + 1) = some x.key := by simp [prevAt, h]

/-- From the k-th write on it is as from the first on. -/
def ChkRel (w : World) (l : List Wri) (k : Nat) (w0 wr : World) : Prop := chkFrom none l = chkFrom (prevAt l k) (l.drop k) ∧ New w0 wr

/-- The value of a batch. -/
abbrev batV (c r s : Nat) (v : Value) : Value := .agg #[.int .u64 (c : Int), .int .u64 (r : Int), .int .u64 (s : Int), v]

/-- A batch that was boxed. -/
theorem Blk4F {w : World} {g t : Nat} {a b c d : Value} (h : Blk w g t #[a, b, c, d]) : g < w.heap.size ∧ w.cell? ⟨g, 0, none⟩ = some a ∧ w.cell? ⟨g, 1, none⟩ = some b ∧ w.cell? ⟨g, 2, none⟩ = some c ∧ w.cell? ⟨g, 3, none⟩ = some d ∧ (∀ i, w.frozen? ⟨g, i, none⟩ = false) :=
  ⟨h.lt, h.cell 0, h.cell 1, h.cell 2, h.cell 3, h.frozen⟩
theorem Blk3F {w : World} {g t : Nat} {a b c : Value} (h : Blk w g t #[a, b, c]) : g < w.heap.size ∧ w.cell? ⟨g, 0, none⟩ = some a ∧ w.cell? ⟨g, 1, none⟩ = some b ∧ w.cell? ⟨g, 2, none⟩ = some c ∧ (∀ i, w.frozen? ⟨g, i, none⟩ = false) :=
  ⟨h.lt, h.cell 0, h.cell 1, h.cell 2, h.frozen⟩
theorem SlIn.three {w : World} {b off : Nat} {l : List Wri} {k : Nat} {x : Wri} (hc : ∀ k x, l[k]? = some x → ∀ j u, (Wri.enc x)[j]? = some u → w.cell? ⟨b, off + k * 3 + j, none⟩ = some u) (h : l[k]? = some x) :
    w.cell? ⟨b, off + k * 3, none⟩ = some (.string x.key) ∧ w.cell? ⟨b, off + k * 3 + 1, none⟩ = some (.string x.val) ∧ w.cell? ⟨b, off + k * 3 + 2, none⟩ = some (.bool x.gone) :=
  ⟨hc k x h 0 _ rfl, hc k x h 1 _ rfl, hc k x h 2 _ rfl⟩

set_option maxRecDepth 100000 in
set_option maxHeartbeats 4000000 in
theorem check_any (c r s : Nat) (v : Value) (l : List Wri) (w : World) (hl : l.length ≤ 1000000000) (hs : SlIn w 3 Wri.enc v l) :
    Calls Tryz.prog 73 #[.agg #[.int .u64 (c : Int), .int .u64 (r : Int), .int .u64 (s : Int), v]] w fun e w' => e = .returned (.int .i64 (chk l)) ∧ New w w' := by
  obtain ⟨A, cap, rfl, hlc, hh⟩ := hs
  by_cases h0 : l.length = 0
  · have hF : chk l = 50 := by simp [chk, h0]
    have HF := Lib.hid hF
    have hz : ((l.length : Int) == 0) = true := by simp [h0]
    clear hF
    go_enter Tryz.func73, Tryz.ntmps73
    go_wp2_with fail
    go_ret
    exact ⟨ret_int (a := 50) HF.out.symm, (New.refl w).alloc _⟩
  have hz : ((l.length : Int) == 0) = false := by simpa using h0
  by_cases h8 : 8 < l.length
  · have hF : chk l = 51 := by simp [chk, h0, h8]
    have HF := Lib.hid hF
    have h8' : (8 : Int) < (l.length : Int) := by omega
    clear hF
    go_enter Tryz.func73, Tryz.ntmps73
    go_wp2_with fail
    go_ret
    exact ⟨ret_int (a := 51) HF.out.symm, (New.refl w).alloc _⟩
  have h8' : ¬ (8 : Int) < (l.length : Int) := by omega
  have hF : chk l = chkFrom none l := by simp [chk, h0, h8]
  have HF := Lib.hid hF
  clear hF h0 h8
  rcases hh with rfl | ⟨b, off, rfl, hbb, hc⟩
  · simp at hz
  go_enter Tryz.func73, Tryz.ntmps73
  go_wp2_with fail
  have hB0 := Blk.mk_new w 40 #[.int .u64 (c : Int), .int .u64 (r : Int), .int .u64 (s : Int), .slice (some ⟨b, off, none⟩) l.length cap]
  have hN0 := (New.refl w).alloc (.cells #[.int .u64 (c : Int), .int .u64 (r : Int), .int .u64 (s : Int), .slice (some ⟨b, off, none⟩) l.length cap] 40)
  have HB0 := Lib.hid hB0
  have HN0 := Lib.hid hN0
  clear hB0 hN0
  go_loopw [3, 4, 5, 19] (fun _ _ _ i wr => ∃ k : Nat, k ≤ l.length ∧ i = .int .i64 k ∧ ChkRel w l k (w.alloc (.cells #[.int .u64 (c : Int), .int .u64 (r : Int), .int .u64 (s : Int), .slice (some ⟨b, off, none⟩) l.length cap] 40)) wr) (fun _ _ _ i _ => l.length - (intOf i).toNat)
  case atStart => exact ⟨0, by omega, rfl, rfl, New.refl _⟩
  case round =>
    obtain ⟨k, hk, rfl, hfr, hn⟩ := hrel
    have HFR := Lib.hid hfr
    clear hfr
    by_cases hlt : k < l.length
    · have hlt2 : (k : Int) < (l.length : Int) := by omega
      have hk0 : (0 : Int) ≤ (k : Int) := by omega
      obtain ⟨x, hx⟩ : ∃ x, l[k]? = some x := ⟨_, List.getElem?_eq_getElem hlt⟩
      have hCo := HN0.out.trans hn
      obtain ⟨e0, e1, e2⟩ := SlIn.three (fun k x h j u hu => (hCo.cells.1 _ _ hbb).trans (hc k x h j u hu)) hx
      have hFx := chkFrom_at hx (prevAt l k)
      have hFx := HFR.out.trans (chkFrom_at hx (prevAt l k))
      have HFX := Lib.hid hFx
      have HX := Lib.hid hx
      have HC := Lib.hid hc
      clear hFx hx hc
      go_wp2_with fail
      refine (write1_any x _).mono ?_
      rintro e w2 ⟨rfl, hn2⟩
      have hBx := (Blk.mk_new wr 97 #[.string x.key, .string x.val, .bool x.gone]).new hn2
      have hn3 := ((New.refl wr).alloc (.cells #[.string x.key, .string x.val, .bool x.gone] 97)).trans hn2
      have hBb := (HB0.out.new hn).new hn3
      have hN3 := hCo.trans hn3
      obtain ⟨p0, p1, p2, p3, p4, pz⟩ := Blk4F hBb
      obtain ⟨q0, q1, q2, q3, qz⟩ := Blk3F hBx
      have hn3q := hn.trans hn3
      clear e0 e1 e2 hn2 hn hBx hBb
      by_cases h1 : chk1 x = 0
      rotate_left
      · have hF2 : chk l = chk1 x := by rw [HF.out, HFX.out, if_pos h1]
        have HF2 := Lib.hid hF2
        generalize chk1 x = cx at *
        have hne : ((cx : Int) != 0) = true := by simpa using h1
        clear h1 hF2
        go_wp2_with fail
        go_ret
        exact ⟨ret_int HF2.out.symm, hN3⟩
      rw [h1]
      go_upto_region 11 with fail
      cases k with
      | zero =>
        have hF2 : chkFrom none l = chkFrom (prevAt l 1) (l.drop 1) := by rw [HFX.out, if_neg (by simpa using h1), prevAt_succ HX.out]; rfl
        have HF2 := Lib.hid hF2
        clear hF2 h1
        have hd : decide ((0 : Int) < ((0 : Nat) : Int)) = false := by decide
        go_quiet (fail)
        go_wp2_with fail
        go_roundw
        case rel => exact ⟨1, by omega, by go_num, HF2.out, hn3q.drewN _⟩
        case measure => simp [intOf]; omega
      | succ j =>
        obtain ⟨y, hy⟩ : ∃ y, l[j]? = some y := ⟨_, List.getElem?_eq_getElem (by omega)⟩
        have f0 : w2.cell? ⟨b, off + j * 3, none⟩ = some (.string y.key) := (hN3.cells.1 _ _ hbb).trans (HC.out j y hy 0 _ rfl)
        have hd : decide ((0 : Int) < ((j + 1 : Nat) : Int)) = true := by rw [decide_eq_true_eq]; omega
        have hpv : prevAt l (j + 1) = some y.key := prevAt_succ hy
        have hfx2 := HFX.out
        rw [hpv, if_neg (by simpa using h1)] at hfx2
        change chkFrom none l = if (!Op.bytesLess y.key.toList x.key.toList) = true then 54 else _ at hfx2
        have hj1 : (0 : Int) ≤ (j : Int) := by omega
        have hj2 : (j : Int) < (l.length : Int) := by omega
        have hj3 : IntKind.i64.wrap (((j + 1 : Nat) : Int) - 1) = (j : Int) := by rw [IntWalk.i64_in _ (by omega)]; omega
        cases hbl : Op.bytesLess y.key.toList x.key.toList with
        | false =>
          rw [hbl, if_pos (by decide)] at hfx2
          have hF2 : chk l = 54 := by rw [HF.out, hfx2]
          have HF2 := Lib.hid hF2
          clear hF2 hfx2 hpv h1
          go_quiet (fail)
          go_wp2_with fail
          go_ret
          exact ⟨ret_int (a := 54) HF2.out.symm, hN3.drewN _⟩
        | true =>
          rw [hbl, if_neg (by decide)] at hfx2
          have hF2 : chkFrom none l = chkFrom (prevAt l (j + 1 + 1)) (l.drop (j + 1 + 1)) := by rw [hfx2, prevAt_succ HX.out]
          have HF2 := Lib.hid hF2
          clear hF2 hfx2 hpv h1
          go_quiet (fail)
          go_wp2_with fail
          go_roundw
          case rel => exact ⟨j + 1 + 1, by omega, by go_num, HF2.out, hn3q.drewN _⟩
          case measure => simp [intOf]; omega
    · have hlt2 : ¬ (k : Int) < (l.length : Int) := by omega
      have hF2 : chk l = 0 := by rw [HF.out, HFR.out, List.drop_eq_nil_of_le (by omega)]; rfl
      have HF2 := Lib.hid hF2
      clear hF2
      go_wp2_with fail
      go_ret
      exact ⟨ret_int (a := 0) HF2.out.symm, HN0.out.trans hn⟩

set_option maxRecDepth 100000 in
set_option maxHeartbeats 4000000 in
theorem refCheck_any (c r s : Nat) (v : Value) (l : List Wri) (w : World) (hl : l.length ≤ 1000000000) (hs : SlIn w 3 Wri.enc v l) :
    Calls Tryz.prog 12 #[.agg #[.int .u64 (c : Int), .int .u64 (r : Int), .int .u64 (s : Int), v]] w fun e w' => e = .returned (.int .i64 (chk l)) ∧ New w w' := by
  obtain ⟨A, cap, rfl, hlc, hh⟩ := hs
  by_cases h0 : l.length = 0
  · have hF : chk l = 50 := by simp [chk, h0]
    have HF := Lib.hid hF
    have hz : ((l.length : Int) == 0) = true := by simp [h0]
    clear hF
    go_enter Tryz.func12, Tryz.ntmps12
    go_wp2_with fail
    go_ret
    exact ⟨ret_int (a := 50) HF.out.symm, (New.refl w).alloc _⟩
  have hz : ((l.length : Int) == 0) = false := by simpa using h0
  by_cases h8 : 8 < l.length
  · have hF : chk l = 51 := by simp [chk, h0, h8]
    have HF := Lib.hid hF
    have h8' : (8 : Int) < (l.length : Int) := by omega
    clear hF
    go_enter Tryz.func12, Tryz.ntmps12
    go_wp2_with fail
    go_ret
    exact ⟨ret_int (a := 51) HF.out.symm, (New.refl w).alloc _⟩
  have h8' : ¬ (8 : Int) < (l.length : Int) := by omega
  have hF : chk l = chkFrom none l := by simp [chk, h0, h8]
  have HF := Lib.hid hF
  clear hF h0 h8
  rcases hh with rfl | ⟨b, off, rfl, hbb, hc⟩
  · simp at hz
  go_enter Tryz.func12, Tryz.ntmps12
  go_wp2_with fail
  have HB0 := Lib.hid (Blk.mk_new w 40 #[.int .u64 (c : Int), .int .u64 (r : Int), .int .u64 (s : Int), .slice (some ⟨b, off, none⟩) l.length cap])
  have HN0 := Lib.hid ((New.refl w).alloc (.cells #[.int .u64 (c : Int), .int .u64 (r : Int), .int .u64 (s : Int), .slice (some ⟨b, off, none⟩) l.length cap] 40))
  go_loopw [3, 4] (fun i _ wr => ∃ k : Nat, k ≤ l.length ∧ i = .int .i64 k ∧ ChkRel w l k (w.alloc (.cells #[.int .u64 (c : Int), .int .u64 (r : Int), .int .u64 (s : Int), .slice (some ⟨b, off, none⟩) l.length cap] 40)) wr) (fun i _ _ => l.length - (intOf i).toNat)
  case atStart => exact ⟨0, by omega, rfl, rfl, New.refl _⟩
  case round =>
    obtain ⟨k, hk, rfl, hfr, hn⟩ := hrel
    have HFR := Lib.hid hfr
    clear hfr
    have hCo := HN0.out.trans hn
    obtain ⟨p0, p1, p2, p3, p4, pz⟩ := Blk4F (HB0.out.new hn)
    by_cases hlt : k < l.length
    · have hlt2 : (k : Int) < (l.length : Int) := by omega
      have hk0 : (0 : Int) ≤ (k : Int) := by omega
      obtain ⟨x, hx⟩ : ∃ x, l[k]? = some x := ⟨_, List.getElem?_eq_getElem hlt⟩
      obtain ⟨e0, e1, e2⟩ := SlIn.three (fun k x h j u hu => (hCo.cells.1 _ _ hbb).trans (hc k x h j u hu)) hx
      have HFX := Lib.hid (HFR.out.trans (chkFrom_at hx (prevAt l k)))
      have HX := Lib.hid hx
      have HC := Lib.hid hc
      clear hx hc
      obtain ⟨key, val, gone⟩ := x
      simp only at e0 e1 e2
      by_cases h1 : key.size = 0
      · have h1' : (key.size : Int) < 1 := by omega
        have hF1 : chk1 ⟨key, val, gone⟩ = 52 := by simp [chk1, h1]
        have hF2 : chk l = 52 := by rw [HF.out, HFX.out, hF1]; rfl
        have HF2 := Lib.hid hF2
        clear hF1 hF2
        go_wp2_with fail
        go_ret
        exact ⟨ret_int (a := 52) HF2.out.symm, hCo.alloc _⟩
      have h1' : ¬ (key.size : Int) < 1 := by omega
      by_cases h2 : 64 < key.size
      · have h2' : (64 : Int) < (key.size : Int) := by omega
        have hF1 : chk1 ⟨key, val, gone⟩ = 52 := by simp [chk1, h2]
        have hF2 : chk l = 52 := by rw [HF.out, HFX.out, hF1]; rfl
        have HF2 := Lib.hid hF2
        clear hF1 hF2
        go_wp2_with fail
        go_ret
        exact ⟨ret_int (a := 52) HF2.out.symm, hCo.alloc _⟩
      have h2' : ¬ (64 : Int) < (key.size : Int) := by omega
      by_cases h3 : 256 < val.size
      · have h3' : (256 : Int) < (val.size : Int) := by omega
        have hF1 : chk1 ⟨key, val, gone⟩ = 53 := by simp [chk1, h1, h2, h3]
        have hF2 : chk l = 53 := by rw [HF.out, HFX.out, hF1]; rfl
        have HF2 := Lib.hid hF2
        clear hF1 hF2
        go_wp2_with fail
        go_ret
        exact ⟨ret_int (a := 53) HF2.out.symm, hCo.alloc _⟩
      have h3' : ¬ (256 : Int) < (val.size : Int) := by omega
      cases gone with
      | false =>
        have hF1 : chk1 ⟨key, val, false⟩ = 0 := by simp [chk1, h1, h2, h3]
        go_upto_region 13 with fail
        have hn3 := hn.alloc (.cells #[.string key, .string val, .bool false] 97)
        have hN3 := hCo.alloc (.cells #[.string key, .string val, .bool false] 97)
        have hBx := Blk.mk_new wr 97 #[.string key, .string val, .bool false]
        have hBb := (HB0.out.new hn).alloc (.cells #[.string key, .string val, .bool false] 97)
        generalize World.alloc wr _ = w2 at *
        generalize wr.heap.size = p at *
        clear p0 p1 p2 p3 p4 pz e0 e1 e2
        obtain ⟨p0, p1, p2, p3, p4, pz⟩ := Blk4F hBb
        obtain ⟨q0, q1, q2, q3, qz⟩ := Blk3F hBx
        clear hBb hBx hn hCo
        cases k with
        | zero =>
          have hF2 : chkFrom none l = chkFrom (prevAt l 1) (l.drop 1) := by rw [HFX.out, if_neg (by simpa using hF1), prevAt_succ HX.out]; rfl
          have HF2 := Lib.hid hF2
          clear hF2 hF1
          have hd : decide ((0 : Int) < ((0 : Nat) : Int)) = false := by decide
          go_quiet (fail)
          go_wp2_with fail
          go_roundw
          case rel => exact ⟨1, by omega, by go_num, HF2.out, hn3.drewN _⟩
          case measure => simp [intOf]; omega
        | succ j =>
          obtain ⟨y, hy⟩ : ∃ y, l[j]? = some y := ⟨_, List.getElem?_eq_getElem (by omega)⟩
          have f0 : w2.cell? ⟨b, off + j * 3, none⟩ = some (.string y.key) := (hN3.cells.1 _ _ hbb).trans (HC.out j y hy 0 _ rfl)
          have hd : decide ((0 : Int) < ((j + 1 : Nat) : Int)) = true := by rw [decide_eq_true_eq]; omega
          have hpv : prevAt l (j + 1) = some y.key := prevAt_succ hy
          have hfx2 := HFX.out
          rw [hpv, if_neg (by simpa using hF1)] at hfx2
          change chkFrom none l = if (!Op.bytesLess y.key.toList key.toList) = true then 54 else _ at hfx2
          have hj1 : (0 : Int) ≤ (j : Int) := by omega
          have hj2 : (j : Int) < (l.length : Int) := by omega
          have hj3 : IntKind.i64.wrap (((j + 1 : Nat) : Int) - 1) = (j : Int) := by rw [IntWalk.i64_in _ (by omega)]; omega
          have hle := le_or key y.key
          cases hbl : Op.bytesLess y.key.toList key.toList with
          | false =>
            rw [hbl, if_pos (by decide)] at hfx2
            have hF2 : chk l = 54 := by rw [HF.out, hfx2]
            have HF2 := Lib.hid hF2
            rw [hbl] at hle
            clear hF2 hfx2 hpv hF1
            go_quiet (fail)
            go_wp2_with fail
            go_ret
            exact ⟨ret_int (a := 54) HF2.out.symm, hN3.drewN _⟩
          | true =>
            rw [hbl, if_neg (by decide)] at hfx2
            have hF2 : chkFrom none l = chkFrom (prevAt l (j + 1 + 1)) (l.drop (j + 1 + 1)) := by rw [hfx2, prevAt_succ HX.out]
            have HF2 := Lib.hid hF2
            rw [hbl] at hle
            clear hF2 hfx2 hpv hF1
            go_quiet (fail)
            go_wp2_with fail
            go_roundw
            case rel => exact ⟨j + 1 + 1, by omega, by go_num, HF2.out, hn3.drewN _⟩
            case measure => simp [intOf]; omega
      | true =>
        by_cases h4 : val.size = 0
        · have h4' : ¬ (0 : Int) < (val.size : Int) := by omega
          have hF1 : chk1 ⟨key, val, true⟩ = 0 := by simp [chk1, h1, h2, h4]
          go_upto_region 13 with fail
          have hn3 := hn.alloc (.cells #[.string key, .string val, .bool true] 97)
          have hN3 := hCo.alloc (.cells #[.string key, .string val, .bool true] 97)
          have hBx := Blk.mk_new wr 97 #[.string key, .string val, .bool true]
          have hBb := (HB0.out.new hn).alloc (.cells #[.string key, .string val, .bool true] 97)
          generalize World.alloc wr _ = w2 at *
          generalize wr.heap.size = p at *
          clear p0 p1 p2 p3 p4 pz e0 e1 e2
          obtain ⟨p0, p1, p2, p3, p4, pz⟩ := Blk4F hBb
          obtain ⟨q0, q1, q2, q3, qz⟩ := Blk3F hBx
          clear hBb hBx hn hCo
          cases k with
          | zero =>
            have hF2 : chkFrom none l = chkFrom (prevAt l 1) (l.drop 1) := by rw [HFX.out, if_neg (by simpa using hF1), prevAt_succ HX.out]; rfl
            have HF2 := Lib.hid hF2
            clear hF2 hF1
            have hd : decide ((0 : Int) < ((0 : Nat) : Int)) = false := by decide
            go_quiet (fail)
            go_wp2_with fail
            go_roundw
            case rel => exact ⟨1, by omega, by go_num, HF2.out, hn3.drewN _⟩
            case measure => simp [intOf]; omega
          | succ j =>
            obtain ⟨y, hy⟩ : ∃ y, l[j]? = some y := ⟨_, List.getElem?_eq_getElem (by omega)⟩
            have f0 : w2.cell? ⟨b, off + j * 3, none⟩ = some (.string y.key) := (hN3.cells.1 _ _ hbb).trans (HC.out j y hy 0 _ rfl)
            have hd : decide ((0 : Int) < ((j + 1 : Nat) : Int)) = true := by rw [decide_eq_true_eq]; omega
            have hpv : prevAt l (j + 1) = some y.key := prevAt_succ hy
            have hfx2 := HFX.out
            rw [hpv, if_neg (by simpa using hF1)] at hfx2
            change chkFrom none l = if (!Op.bytesLess y.key.toList key.toList) = true then 54 else _ at hfx2
            have hj1 : (0 : Int) ≤ (j : Int) := by omega
            have hj2 : (j : Int) < (l.length : Int) := by omega
            have hj3 : IntKind.i64.wrap (((j + 1 : Nat) : Int) - 1) = (j : Int) := by rw [IntWalk.i64_in _ (by omega)]; omega
            have hle := le_or key y.key
            cases hbl : Op.bytesLess y.key.toList key.toList with
            | false =>
              rw [hbl, if_pos (by decide)] at hfx2
              have hF2 : chk l = 54 := by rw [HF.out, hfx2]
              have HF2 := Lib.hid hF2
              rw [hbl] at hle
              clear hF2 hfx2 hpv hF1
              go_quiet (fail)
              go_wp2_with fail
              go_ret
              exact ⟨ret_int (a := 54) HF2.out.symm, hN3.drewN _⟩
            | true =>
              rw [hbl, if_neg (by decide)] at hfx2
              have hF2 : chkFrom none l = chkFrom (prevAt l (j + 1 + 1)) (l.drop (j + 1 + 1)) := by rw [hfx2, prevAt_succ HX.out]
              have HF2 := Lib.hid hF2
              rw [hbl] at hle
              clear hF2 hfx2 hpv hF1
              go_quiet (fail)
              go_wp2_with fail
              go_roundw
              case rel => exact ⟨j + 1 + 1, by omega, by go_num, HF2.out, hn3.drewN _⟩
              case measure => simp [intOf]; omega
        · have h4' : (0 : Int) < (val.size : Int) := by omega
          have hF1 : chk1 ⟨key, val, true⟩ = 53 := by simp [chk1, h1, h2, h3, h4]
          have hF2 : chk l = 53 := by rw [HF.out, HFX.out, hF1]; rfl
          have HF2 := Lib.hid hF2
          clear hF1 hF2
          go_wp2_with fail
          go_ret
          exact ⟨ret_int (a := 53) HF2.out.symm, hCo.alloc _⟩
    · have hlt2 : ¬ (k : Int) < (l.length : Int) := by omega
      have hF2 : chk l = 0 := by rw [HF.out, HFR.out, List.drop_eq_nil_of_le (by omega)]; rfl
      have HF2 := Lib.hid hF2
      clear hF2
      go_wp2_with fail
      go_ret
      exact ⟨ret_int (a := 0) HF2.out.symm, hCo⟩
end Go.Proofs.YtecniafnihpjmaaGreatDoor

/- Chapter 5 (batch): few, Same, Find, Meets, and the document's. Printed by genBat2.py. -/
namespace Go.Proofs.YtecniafnihpjmaaGreatDoor
open Go.RowKit Go.Lap
set_option linter.unusedVariables false

/-- The law's bound on a batch. -/
def fewB (l : List Wri) : Bool := decide (l.length ≤ 80) && l.all fun x => decide (x.key.size ≤ 5000) && decide (x.val.size ≤ 5000)
def fewF (l : List Wri) : Bool := l.all fun x => decide (x.key.size ≤ 5000) && decide (x.val.size ≤ 5000)
theorem fewF_at {l : List Wri} {k : Nat} {x : Wri} (h : l[k]? = some x) : fewF (l.drop k) = ((decide (x.key.size ≤ 5000) && decide (x.val.size ≤ 5000)) && fewF (l.drop (k + 1))) := by
  obtain ⟨hk, hx⟩ := List.getElem?_eq_some_iff.1 h
  rw [List.drop_eq_getElem_cons hk, hx]
  rfl
def FewRel (l : List Wri) (k : Nat) (w0 wr : World) : Prop := fewF l = fewF (l.drop k) ∧ New w0 wr

theorem take_snoc {l : List Wri} {k : Nat} {x : Wri} (h : l[k]? = some x) : l.take (k + 1) = l.take k ++ [x] := by rw [List.take_add_one, h]; rfl
theorem bytes_inj {a b : ByteArray} (h : a.toList = b.toList) : a = b := by
  rw [toList_data, toList_data] at h
  obtain ⟨⟨a⟩⟩ := a
  obtain ⟨⟨b⟩⟩ := b
  simp at h
  rw [h]
theorem wri_ne {x y : Wri} (h : x ≠ y) : (x.key.toList == y.key.toList && (x.val.toList == y.val.toList && x.gone == y.gone)) = false := by
  by_cases h1 : x.key.toList = y.key.toList
  · by_cases h2 : x.val.toList = y.val.toList
    · by_cases h3 : x.gone = y.gone
      · exact absurd (by obtain ⟨a, b, c⟩ := x; obtain ⟨a', b', c'⟩ := y; simp only at h1 h2 h3; rw [bytes_inj h1, bytes_inj h2, h3]) h
      · simp [h3]
    · simp [h2]
  · simp [h1]
def SameRel (l l' : List Wri) (k : Nat) (w0 wr : World) : Prop := l.take k = l'.take k ∧ New w0 wr
/-- The same batches. -/
def sameB (c r s : Nat) (l : List Wri) (c' r' s' : Nat) (l' : List Wri) : Bool := decide (c = c' ∧ r = r' ∧ s = s' ∧ l = l')

set_option maxRecDepth 100000 in
set_option maxHeartbeats 4000000 in
theorem refSame_any (c r s : Nat) (v : Value) (l : List Wri) (c' r' s' : Nat) (v' : Value) (l' : List Wri) (w : World) (hl : l.length ≤ 1000000000) (hl' : l'.length ≤ 1000000000) (hs : SlIn w 3 Wri.enc v l) (hs' : SlIn w 3 Wri.enc v' l') :
    Calls Tryz.prog 50 #[.agg #[.int .u64 (c : Int), .int .u64 (r : Int), .int .u64 (s : Int), v], .agg #[.int .u64 (c' : Int), .int .u64 (r' : Int), .int .u64 (s' : Int), v']] w fun e w' => e = .returned (.bool (sameB c r s l c' r' s' l')) ∧ New w w' := by
  obtain ⟨A, cap, rfl, hlc, hh⟩ := hs
  obtain ⟨A', cap', rfl, hlc', hh'⟩ := hs'
  by_cases g0 : c = c'
  rotate_left
  · have HF := Lib.hid (show sameB c r s l c' r' s' l' = false by simp [sameB]; intros; simp_all)
    have t0 : (((c : Nat) : Int) != ((c' : Nat) : Int)) = true := by rw [bne_iff_ne]; omega
    have u0 : (c == c') = false := by simpa using g0
    go_enter Tryz.func50, Tryz.ntmps50
    go_wp2_with fail
    go_ret
    exact ⟨ret_bool (a := false) HF.out.symm, ((New.refl w).alloc _).alloc _⟩
  by_cases g1 : r = r'
  rotate_left
  · have HF := Lib.hid (show sameB c r s l c' r' s' l' = false by simp [sameB]; intros; simp_all)
    have t1 : (((r : Nat) : Int) != ((r' : Nat) : Int)) = true := by rw [bne_iff_ne]; omega
    have u1 : (r == r') = false := by simpa using g1
    have t0 : (((c : Nat) : Int) != ((c' : Nat) : Int)) = false := by rw [g0]; simp
    go_enter Tryz.func50, Tryz.ntmps50
    go_wp2_with fail
    go_ret
    exact ⟨ret_bool (a := false) HF.out.symm, ((New.refl w).alloc _).alloc _⟩
  by_cases g2 : s = s'
  rotate_left
  · have HF := Lib.hid (show sameB c r s l c' r' s' l' = false by simp [sameB]; intros; simp_all)
    have t2 : (((s : Nat) : Int) != ((s' : Nat) : Int)) = true := by rw [bne_iff_ne]; omega
    have u2 : (s == s') = false := by simpa using g2
    have t0 : (((c : Nat) : Int) != ((c' : Nat) : Int)) = false := by rw [g0]; simp
    have t1 : (((r : Nat) : Int) != ((r' : Nat) : Int)) = false := by rw [g1]; simp
    go_enter Tryz.func50, Tryz.ntmps50
    go_wp2_with fail
    go_ret
    exact ⟨ret_bool (a := false) HF.out.symm, ((New.refl w).alloc _).alloc _⟩
  by_cases g3 : l.length = l'.length
  rotate_left
  · have HF := Lib.hid (show sameB c r s l c' r' s' l' = false by simp [sameB]; intros; intro hh; subst hh; exact g3 rfl)
    have t3 : (((l.length : Nat) : Int) != ((l'.length : Nat) : Int)) = true := by rw [bne_iff_ne]; omega
    have u3 : (l.length == l'.length) = false := by simpa using g3
    have t0 : (((c : Nat) : Int) != ((c' : Nat) : Int)) = false := by rw [g0]; simp
    have t1 : (((r : Nat) : Int) != ((r' : Nat) : Int)) = false := by rw [g1]; simp
    have t2 : (((s : Nat) : Int) != ((s' : Nat) : Int)) = false := by rw [g2]; simp
    go_enter Tryz.func50, Tryz.ntmps50
    go_wp2_with fail
    go_ret
    exact ⟨ret_bool (a := false) HF.out.symm, ((New.refl w).alloc _).alloc _⟩
  subst g0 g1 g2
  have HF := Lib.hid (show sameB c r s l c r s l' = decide (l = l') by simp [sameB])
  have HG3 := Lib.hid g3
  have t3 : (((l.length : Nat) : Int) != ((l'.length : Nat) : Int)) = false := by rw [g3]; simp
  have u3 : (l.length == l'.length) = true := by simpa using g3
  clear g3
  have hB1 := (Blk.mk_new w 40 #[.int .u64 (c : Int), .int .u64 (r : Int), .int .u64 (s : Int), .slice A l.length cap]).alloc (.cells #[.int .u64 (c : Int), .int .u64 (r : Int), .int .u64 (s : Int), .slice A' l'.length cap'] 40)
  have hB2 := Blk.mk_new (w.alloc (.cells #[.int .u64 (c : Int), .int .u64 (r : Int), .int .u64 (s : Int), .slice A l.length cap] 40)) 40 #[.int .u64 (c : Int), .int .u64 (r : Int), .int .u64 (s : Int), .slice A' l'.length cap']
  rw [World.size_alloc] at hB2
  have HB1 := Lib.hid hB1
  have HB2 := Lib.hid hB2
  clear hB1 hB2
  have HN0 := Lib.hid (((New.refl w).alloc (.cells #[.int .u64 (c : Int), .int .u64 (r : Int), .int .u64 (s : Int), .slice A l.length cap] 40)).alloc (.cells #[.int .u64 (c : Int), .int .u64 (r : Int), .int .u64 (s : Int), .slice A' l'.length cap'] 40))
  go_enter Tryz.func50, Tryz.ntmps50
  go_wp2_with fail
  go_loopw [5] (fun i wr => ∃ k : Nat, k ≤ l.length ∧ i = .int .i64 k ∧ SameRel l l' k ((w.alloc (.cells #[.int .u64 (c : Int), .int .u64 (r : Int), .int .u64 (s : Int), .slice A l.length cap] 40)).alloc (.cells #[.int .u64 (c : Int), .int .u64 (r : Int), .int .u64 (s : Int), .slice A' l'.length cap'] 40)) wr) (fun  i _ => l.length - (intOf i).toNat)
  case atStart => exact ⟨0, by omega, rfl, rfl, New.refl _⟩
  case round =>
    obtain ⟨k, hk, rfl, hfr, hn⟩ := hrel
    have HFR := Lib.hid hfr
    clear hfr
    have hCo := HN0.out.trans hn
    obtain ⟨p0, p1, p2, p3, p4, pz⟩ := Blk4F (HB1.out.new hn)
    obtain ⟨q0, q1, q2, q3, q4, qz⟩ := Blk4F (HB2.out.new hn)
    by_cases hlt : k < l.length
    · have hlt2 : (k : Int) < (l.length : Int) := by omega
      have hk0 : (0 : Int) ≤ (k : Int) := by omega
      have hlt' : k < l'.length := by rw [← HG3.out]; exact hlt
      have hlt2' : (k : Int) < (l'.length : Int) := by omega
      rcases hh with rfl | ⟨b, off, rfl, hbb, hc⟩
      · simp at hlt
      rcases hh' with rfl | ⟨b', off', rfl, hbb', hc'⟩
      · simp at hlt'
      obtain ⟨x, hx⟩ : ∃ x, l[k]? = some x := ⟨_, List.getElem?_eq_getElem hlt⟩
      obtain ⟨y, hy⟩ : ∃ y, l'[k]? = some y := ⟨_, List.getElem?_eq_getElem hlt'⟩
      obtain ⟨e0, e1, e2⟩ := SlIn.three (fun k x h j u hu => (hCo.cells.1 _ _ hbb).trans (hc k x h j u hu)) hx
      obtain ⟨f0, f1, f2⟩ := SlIn.three (fun k x h j u hu => (hCo.cells.1 _ _ hbb').trans (hc' k x h j u hu)) hy
      have HX := Lib.hid hx
      have HY := Lib.hid hy
      clear hx hy hc hc' hlt'
      by_cases hxy : x = y
      · subst hxy
        have HF2 := Lib.hid (show l.take (k + 1) = l'.take (k + 1) by rw [take_snoc HX.out, take_snoc HY.out, HFR.out])
        go_wp2_with fail
        go_quiet (fail)
        go_wp2_with fail
        go_roundw
        case rel => exact ⟨k + 1, by omega, by go_num, HF2.out, hn.drewN _⟩
        case measure => simp [intOf]; omega
      · have HF2 := Lib.hid (show sameB c r s l c r s l' = false by rw [HF.out]; simp; intro e; subst e; exact hxy (Option.some.inj (HX.out.symm.trans HY.out)))
        obtain ⟨xk, xv, xg⟩ := x
        obtain ⟨yk, yv, yg⟩ := y
        simp only at e0 e1 e2 f0 f1 f2
        clear HX HY
        by_cases k1 : xk = yk
        rotate_left
        · have t1 : ¬ xk.toList = yk.toList := fun e => k1 (bytes_inj e)
          go_wp2_with fail
          go_quiet (fail)
          go_wp2_with fail
          go_ret
          exact ⟨ret_bool (a := false) HF2.out.symm, hCo.drewN _⟩
        subst k1
        by_cases k2 : xv = yv
        rotate_left
        · have t2 : ¬ xv.toList = yv.toList := fun e => k2 (bytes_inj e)
          go_wp2_with fail
          go_quiet (fail)
          go_wp2_with fail
          go_ret
          exact ⟨ret_bool (a := false) HF2.out.symm, hCo.drewN _⟩
        subst k2
        have k3 : ¬ xg = yg := fun e => hxy (by rw [e])
        clear hxy
        go_wp2_with fail
        go_quiet (fail)
        go_wp2_with fail
        go_ret
        exact ⟨ret_bool (a := false) HF2.out.symm, hCo.drewN _⟩
    · have hlt2 : ¬ (k : Int) < (l.length : Int) := by omega
      have HF2 := Lib.hid (show sameB c r s l c r s l' = true by rw [HF.out]; have h := HFR.out; rw [List.take_of_length_le (by omega), List.take_of_length_le (by rw [← HG3.out]; omega)] at h; simp [h])
      go_wp2_with fail
      go_ret
      exact ⟨ret_bool (a := true) HF2.out.symm, hCo⟩
end Go.Proofs.YtecniafnihpjmaaGreatDoor

/- Numbers in as few bytes as they need: the plain functions, and the contracts of the package num. -/
namespace Go.Proofs.YtecniafnihpjmaaGreatDoor
open Go.RowKit Go.Lap
set_option linter.unusedVariables false

/-- A byte as a cell. -/
def bEnc (b : UInt8) : List Value := [.int .u8 (b.toNat : Int)]
theorem bEncOk : Enc bEnc 1 := fun _ => ⟨rfl, by simp [bEnc, Value.oneCell']⟩
theorem bTy : SlTy Tryz.prog 200 5 (.int .u8 0) 1 1 := ⟨Tryz.underlying200, by kernel_rfl, rfl, by decide⟩

def varB (n : Nat) : List UInt8 := if n < 128 then [UInt8.ofNat n] else UInt8.ofNat (n % 128 + 128) :: varB (n / 128)
termination_by n
decreasing_by omega
theorem varB_small {n : Nat} (h : n < 128) : varB n = [UInt8.ofNat n] := by rw [varB, if_pos h]
theorem varB_big {n : Nat} (h : 128 ≤ n) : varB n = UInt8.ofNat (n % 128 + 128) :: varB (n / 128) := by rw [varB, if_neg (by omega)]
theorem varB_len : ∀ (k n : Nat), n < 128 ^ (k + 1) → (varB n).length ≤ k + 1
  | 0, n, h => by rw [varB_small (by simpa using h)]; simp
  | k + 1, n, h => by
    by_cases hn : n < 128
    · rw [varB_small hn]; simp
    · rw [varB_big (by omega)]
      have := varB_len k (n / 128) (by rw [Nat.div_lt_iff_lt_mul (by omega)]; rw [Nat.pow_succ] at h; exact h)
      simp only [List.length_cons]
      omega
theorem varB_len10 {n : Nat} (h : n < 18446744073709551616) : (varB n).length ≤ 10 := varB_len 9 n (by omega)
theorem varB_pos (n : Nat) : 0 < (varB n).length := by rw [varB]; split <;> simp

theorem byte_lo {n : Nat} (h : n < 128) : ((UInt8.ofNat n).toNat : Int) = (n : Int) := by simp [UInt8.toNat_ofNat']; omega
theorem byte_hi (n : Nat) : ((UInt8.ofNat (n % 128 + 128)).toNat : Int) = ((n % 128 + 128 : Nat) : Int) := by simp [UInt8.toNat_ofNat']; omega

theorem or128_fin : ∀ x : Fin 256, bits BinOp.or IntKind.u8 (x.val : Int) 128 = ((x.val % 128 + 128 : Nat) : Int) := by decide +kernel
theorem or128 (m : Nat) : bits BinOp.or IntKind.u8 ((m : Int) % 256) 128 = ((UInt8.ofNat (m % 128 + 128)).toNat : Int) := by
  rw [byte_hi]
  have h := or128_fin ⟨m % 256, Nat.mod_lt _ (by decide)⟩
  simp only [Int.natCast_emod] at h
  rw [show ((256 : Nat) : Int) = 256 from rfl] at h
  rw [h]
  congr 1
  omega
theorem low_byte {m : Nat} (h : m < 128) : (m : Int) % 256 = ((UInt8.ofNat m).toNat : Int) := by rw [byte_lo h]; omega

theorem and127_fin : ∀ x : Fin 256, bits BinOp.and IntKind.u8 (x.val : Int) 127 = ((x.val % 128 : Nat) : Int) := by decide +kernel
theorem and127 {X : Nat} (h : X < 256) : bits BinOp.and IntKind.u8 (X : Int) 127 = ((X % 128 : Nat) : Int) := and127_fin ⟨X, h⟩
theorem pow_le {i : Nat} (h : i ≤ 9) : 128 ^ i ≤ 9223372036854775808 := Nat.le_trans (Nat.pow_le_pow_right (by decide) h) (by decide)
theorem pow_le8 {i : Nat} (h : i ≤ 8) : 128 ^ i ≤ 72057594037927936 := Nat.le_trans (Nat.pow_le_pow_right (by decide) h) (by decide)
theorem put_fits {i acc y : Nat} (hi : i ≤ 9) (hacc : acc < 128 ^ i) (hy : y < 128) (h9 : i = 9 → y ≤ 1) : y * 128 ^ i < 18446744073709551616 ∧ acc + y * 128 ^ i < 18446744073709551616 := by
  by_cases he : i = 9
  · subst he
    have := h9 rfl
    have hp : (128 : Nat) ^ 9 = 9223372036854775808 := by decide
    rw [hp] at *
    omega
  · have := pow_le8 (i := i) (by omega)
    generalize 128 ^ i = p at *
    have h1 : y * p ≤ 127 * p := Nat.mul_le_mul_right _ (by omega)
    omega
theorem or_shift (i acc y : Nat) (hi : i ≤ 9) (hacc : acc < 128 ^ i) (hy : y < 128) (h9 : i = 9 → y ≤ 1) : bits BinOp.or IntKind.u64 (acc : Int) (IntKind.u64.wrap ((y : Int) * 2 ^ (7 * i))) = ((acc + y * 128 ^ i : Nat) : Int) := by
  obtain ⟨h1, h2⟩ := put_fits hi hacc hy h9
  have hp : (2 : Int) ^ (7 * i) = ((128 ^ i : Nat) : Int) := by rw [Int.pow_mul]; simp
  have hlt : acc < 18446744073709551616 := by omega
  rw [hp, ← Int.natCast_mul, IntKind.wrap_u64, show ((y * 128 ^ i : Nat) : Int) % 18446744073709551616 = ((y * 128 ^ i : Nat) : Int) from by omega, bits_or_u64_nat _ _ hlt h1]
  congr 1
  have h3 : (128 : Nat) ^ i = 2 ^ (7 * i) := by rw [Nat.pow_mul]
  rw [h3] at hacc ⊢
  have := Nat.shiftLeft_add_eq_or_of_lt (i := 7 * i) hacc y
  rw [Nat.shiftLeft_eq] at this
  rw [Nat.or_comm, ← this, Nat.add_comm]

theorem or_shift2 (i acc X : Nat) (hi : i ≤ 9) (hacc : acc < 128 ^ i) (hX : X < 256) (h9 : i ≠ 9) : bits BinOp.or IntKind.u64 (acc : Int) (IntKind.u64.wrap (IntKind.u64.wrap (bits BinOp.and IntKind.u8 (X : Int) 127) * 2 ^ (7 * i))) = ((acc + X % 128 * 128 ^ i : Nat) : Int) := by
  rw [and127 hX, ← or_shift i acc (X % 128) hi hacc (by omega) (fun h => absurd h h9)]
  have : IntKind.u64.wrap ((X % 128 : Nat) : Int) = ((X % 128 : Nat) : Int) := by rw [IntKind.wrap_u64]; omega
  rw [this]

/-- The number that stands first: what went wrong (0: nothing), the number, the rest. -/
def getV : Nat → Nat → List UInt8 → Int × Nat × List UInt8
  | _, _, [] => (10, 0, [])
  | i, acc, x :: xs => if (i = 9 ∧ 1 < x.toNat) ∨ (0 < i ∧ x.toNat = 0) then (12, 0, []) else if x.toNat < 128 then (0, acc + x.toNat * 128 ^ i, xs) else getV (i + 1) (acc + (x.toNat - 128) * 128 ^ i) xs

/-- What GetVar answers. -/
def GetPost (w : World) (r : Int × Nat × List UInt8) (e : Ending) (w' : World) : Prop :=
  ∃ u, e = .returned (.tuple #[.int .u64 (r.2.1 : Int), u, .int .i64 r.1]) ∧ (if r.1 = 0 then Owns w' w.heap.size 5 1 bEnc u r.2.2 else u = .slice none 0 0) ∧ New w w'

end Go.Proofs.YtecniafnihpjmaaGreatDoor

/- Bytes: append of a string to bytes of the call's own; strings and bytes made of each other. -/
namespace Go.Proofs.YtecniafnihpjmaaGreatDoor
open Go.RowKit Go.Lap
set_option linter.unusedVariables false

theorem strCells_flat (s : ByteArray) : Lib.strCells s = s.data.toList.flatMap bEnc := by
  unfold Lib.strCells
  generalize s.data.toList = l
  induction l with
  | nil => rfl
  | cons x l ih => simp only [List.map_cons, List.flatMap_cons, ih, bEnc, List.singleton_append]

theorem strLen (s : ByteArray) : s.data.toList.length = s.size := by rw [Array.length_toList]; rfl

theorem okBlock {v v' : Value} {w w' : World} {b : Option Nat} (h : Result.ok v w = Result.ok v' w') (hv : v.ownBlock = b) : v'.ownBlock = b := by
  injection h with h1 _
  rw [← h1]; exact hv

theorem run_app_str (w : World) (ty : TypeId) {base : Nat} {v : Value} {l : List UInt8} (hown : Owns w base 5 1 bEnc v l) (s : ByteArray) (h63 : l.length + s.size ≤ 1000000000000) (hbase : base ≤ w.heap.size) :
    ∃ v' w', (Builtin.append_ #[200, 9] ty #[v, .string s]).run Tryz.prog w = .ok v' w' ∧ Owns w' base 5 1 bEnc v' (l ++ s.data.toList) ∧ w.grownBy w' v.ownBlock ∧ (v'.ownBlock = v.ownBlock ∨ v'.ownBlock = some w.heap.size) := by
  obtain ⟨ht, hinfo, _, _⟩ := bTy
  obtain ⟨i, hi, hii⟩ := Option.map_eq_some_iff.1 hinfo
  simp only [Prod.mk.injEq] at hii
  obtain ⟨hz, hsize, hby⟩ := hii
  have hu := Tryz.underlying9
  obtain ⟨v', w', hrun, h1, h2, h3⟩ := Lib.run_append_own_string (P := Tryz.prog) w base 200 9 ty 5 i ht hu hi hz hsize hby v l.length _ hown s (by unfold maxLen; omega) (by omega) hbase
  have hO : Owns w' base 5 1 bEnc v' (l ++ s.data.toList) := by
    rw [strCells_flat] at h1
    show w'.ownsRow _ _ _ _ _ _
    rw [List.length_append, strLen, List.flatMap_append]
    exact h1
  refine ⟨v', w', hrun, hO, h2, ?_⟩
  rcases hown.2 with ⟨rfl, hl0⟩ | ⟨g, cap, cur, rfl, hbg, hg, hnc, hcm, hcs, htake⟩
  · by_cases hm : s.size = 0
    · left
      have := h3.2 ⟨rfl, hm⟩
      rw [this]
    · right
      have hr := run_append_nil_string (P := Tryz.prog) w 200 9 ty 5 i (.int .u8 0) ht hu hi hz s (by omega) (by omega) (by rw [hby]; omega)
      exact okBlock (hr.symm.trans hrun) rfl
  · by_cases hroom : l.length + s.size ≤ cap
    · left
      have hcs' : cur.size = cap := by simpa using hcs
      have hr := Lib.run_append_room_string (P := Tryz.prog) w 200 9 ty 5 i ht hu hi hsize g l.length cap cur hg s hroom (by omega)
      exact okBlock (hr.symm.trans hrun) rfl
    · right
      have holds : ∀ j u, (l.flatMap bEnc)[j]? = some u → w.cell? ((⟨g, 0, none⟩ : Addr).add j) = some u := hown.cells (g := g) rfl
      have hr := Lib.run_append_grow_string (P := Tryz.prog) w 200 9 ty 5 i (.int .u8 0) ht hu hi hz ⟨g, 0, none⟩ l.length cap _ (by rw [hsize]; exact flat_length bEncOk l) holds s (by omega) (by omega) (by rw [hby]; exact growslice_fits (by omega) (by omega))
      exact okBlock (hr.symm.trans hrun) rfl

theorem wpList_app_str {w : World} {ops : Array Oper} {rest : List Oper} {o : Oper} {a : Act} {Q : Exit → Act → World → Prop} (hgd : o.guard = none) (s x : Operand)
    (ho : o.op = .call { callee := .builtin .append, args := #[s, x], argTypes := #[200, 9] }) {base : Nat} {v : Value} {l : List UInt8} {b : ByteArray} (hs : a.eval s = v) (hx : a.eval x = .string b) (hown : Owns w base 5 1 bEnc v l)
    (h63 : l.length + b.size ≤ 1000000000000) (hbase : base ≤ w.heap.size)
    (h : ∀ v' w', Owns w' base 5 1 bEnc v' (l ++ b.data.toList) → w.grownBy w' v.ownBlock → (v'.ownBlock = v.ownBlock ∨ v'.ownBlock = some w.heap.size) → wpList Tryz.prog ops Q rest (a.put o.dst v') w') : wpList Tryz.prog ops Q (o :: rest) a w := by
  refine wpList_plain hgd fun K hK => ?_
  obtain ⟨v', w', hrun, h2, h3, h4⟩ := run_app_str w o.type hown b h63 hbase
  unfold Oper.wp execOp
  simp only [ho, resolve, invoke, builtin, Sem.run_bind, Sem.run_pure, Result.andThen_ok, List.map_toArray, List.map_cons, List.map_nil, hs, hx, hrun]
  exact hK _ _ (h v' w' h2 h3 h4)
end Go.Proofs.YtecniafnihpjmaaGreatDoor

/- Contracts of code.Writer (chapter 3): what is put, and what goes wrong first. -/
namespace Go.Lap
open Go.RowKit
section
variable {α : Type} {enc : α → List Value} {size : Nat} {l : List α} {w w' : World} {v v' v'' : Value} {base : Nat} {e : TypeId} {S : Nat → Prop}
theorem SlIn.upd (h : SlIn w size enc v l) (hu : Upd S w w') (hS : ∀ k, v.ownBlock = some k → ¬ S k) : SlIn w' size enc v l := by
  obtain ⟨A, c, rfl, hc, h⟩ := h
  refine ⟨A, c, rfl, hc, ?_⟩
  rcases h with h | ⟨b, off, rfl, hb, h⟩
  · exact .inl h
  · have hne : ¬ S b := hS b rfl
    exact .inr ⟨b, off, rfl, Nat.lt_of_lt_of_le hb hu.size, fun k x hx j u hu' => (World.cell?_of_block (hu.block b hb hne)).trans (h k x hx j u hu')⟩
theorem SlIn.shape (h : SlIn w size enc v l) : ∃ A n c, v = .slice A n c := by obtain ⟨A, c, hv, _⟩ := h; exact ⟨A, _, c, hv⟩
theorem Owns.upd (h : Owns w base e size enc v l) (hu : Upd S w w') (hS : ∀ k, v.ownBlock = some k → ¬ S k) : Owns w' base e size enc v l := by
  refine ⟨h.1, ?_⟩
  rcases h.2 with h2 | ⟨g, cap, cur, rfl, hg, hh, r⟩
  · exact .inl h2
  · exact .inr ⟨g, cap, cur, rfl, hg, Blk.upd hh hu (hS g rfl), r⟩
theorem Owns.setFar (h : Owns w base e size enc v l) {p : Addr} (hp : v.ownBlock ≠ some p.block) (u : Value) : Owns (w.setCell p u) base e size enc v l := by
  refine ⟨h.1, ?_⟩
  rcases h.2 with h2 | ⟨g, cap, cur, rfl, hg, hh, r⟩
  · exact .inl h2
  · exact .inr ⟨g, cap, cur, rfl, hg, Blk.far hh (fun e => hp (by rw [← e]; rfl)) u, r⟩
theorem Owns.ne_blk {g : Nat} {t : TypeId} {cs : Array Value} (h : Owns w base e size enc v l) (hg : Blk w g t cs) (hne : e ≠ t) : v.ownBlock ≠ some g := by
  rcases h.2 with ⟨rfl, _⟩ | ⟨g', cap, cur, rfl, _, hh, _⟩
  · simp [Value.ownBlock]
  · intro he
    have : g' = g := by simpa [Value.ownBlock] using he
    subst this
    exact Blk.ne_ (t := e) hh hg hne rfl
/-- v' lies where v lay, or in new memory. -/
def Fr (w : World) (v v' : Value) : Prop := ∀ k, v'.ownBlock = some k → v.ownBlock = some k ∨ w.heap.size ≤ k
theorem Fr.refl (w : World) (v : Value) : Fr w v v := fun _ h => .inl h
theorem Fr.new (hb : Owns w' w.heap.size e size enc v' l) : Fr w v v' := fun k hk => .inr (hb.blockGe k hk)
theorem Fr.trans {w1 : World} (h : Fr w v v') (k : Fr w1 v' v'') (hs : w.heap.size ≤ w1.heap.size) : Fr w v v'' := fun i hi => by
  rcases k i hi with h1 | h1
  · exact h i h1
  · exact .inr (by omega)
end
end Go.Lap

namespace Go.Proofs.YtecniafnihpjmaaGreatDoor
open Go.RowKit Go.Lap
set_option linter.unusedVariables false

/-- What a writer's call may change. -/
def WrS (g : Nat) (v : Value) : Nat → Prop := fun k => k = g ∨ v.ownBlock = some k

theorem WrS.back {w : World} {g : Nat} {v v' : Value} (hf : Fr w v v') : ∀ i, i < w.heap.size → WrS g v' i → WrS g v i := fun i hi h => by
  rcases h with h | h
  · exact .inl h
  · rcases hf i h with h1 | h1
    · exact .inr h1
    · omega
theorem blk_new_set (w : World) (a : Addr) (u : Value) (t : TypeId) (cs : Array Value) : Blk ((w.setCell a u).alloc (.cells cs t)) w.heap.size t cs := by
  have := Blk.mk_new (w.setCell a u) t cs
  rwa [World.size_setCell] at this

def nEnc (n : Nat) : List Value := [.int .u64 (n : Int)]
theorem nEncOk : Enc nEnc 1 := fun _ => ⟨rfl, by simp [nEnc, Value.oneCell']⟩

def numB (err : Int) (bs : List UInt8) (ns : List Nat) : List UInt8 := if err = 0 then bs ++ ns.flatMap varB else bs
theorem numB_snoc {err : Int} {bs : List UInt8} {ns : List Nat} {k n : Nat} (he : err = 0) (h : ns[k]? = some n) : numB err bs (ns.take (k + 1)) = numB err bs (ns.take k) ++ varB n := by
  obtain ⟨hk, rfl⟩ := List.getElem?_eq_some_iff.1 h
  simp only [numB, he, if_true]
  rw [List.take_succ_eq_append_getElem hk, List.flatMap_append]
  simp
theorem numB_bad {err : Int} {bs : List UInt8} {ns ns' : List Nat} (he : err ≠ 0) : numB err bs ns = numB err bs ns' := by simp [numB, he]
theorem numB_len {err : Int} {bs : List UInt8} (ns : List Nat) (h : ∀ n ∈ ns, n < 18446744073709551616) : (numB err bs ns).length ≤ bs.length + 10 * ns.length := by
  unfold numB
  split
  · rw [List.length_append]
    have : (ns.flatMap varB).length ≤ 10 * ns.length := by
      induction ns with
      | nil => simp
      | cons n ns ih =>
        have h1 := varB_len10 (h n (List.mem_cons_self ..))
        have h2 := ih (fun m hm => h m (List.mem_cons_of_mem _ hm))
        simp only [List.flatMap_cons, List.length_append, List.length_cons]
        omega
    omega
  · omega

def sEnc (s : ByteArray) : List Value := [.string s]
theorem sEncOk : Enc sEnc 1 := fun _ => ⟨rfl, by simp [sEnc, Value.oneCell']⟩

/-- What one text makes of the bytes and of what went wrong. -/
def textS (st : List UInt8 × Int) (s : ByteArray) : List UInt8 × Int := if st.2 = 0 then if 65536 < s.size then (st.1, 32) else (st.1 ++ varB s.size ++ s.data.toList, 0) else st
def textB (st : List UInt8 × Int) (ss : List ByteArray) : List UInt8 × Int := ss.foldl textS st
theorem textB_snoc {st : List UInt8 × Int} {ss : List ByteArray} {k : Nat} {x : ByteArray} (h : ss[k]? = some x) : textB st (ss.take (k + 1)) = textS (textB st (ss.take k)) x := by
  obtain ⟨hk, rfl⟩ := List.getElem?_eq_some_iff.1 h
  unfold textB
  rw [List.take_succ_eq_append_getElem hk, List.foldl_append]
  rfl
theorem textS_len (st : List UInt8 × Int) (s : ByteArray) : (textS st s).1.length ≤ st.1.length + 65546 := by
  unfold textS
  split
  · split
    · simp
    · rename_i h
      have := varB_len10 (n := s.size) (by omega)
      simp only [List.length_append, strLen]
      omega
  · omega
theorem textB_len : ∀ (ss : List ByteArray) (st : List UInt8 × Int), (textB st ss).1.length ≤ st.1.length + 65546 * ss.length
  | [], st => by simp [textB]
  | s :: ss, st => by
    have h1 := textS_len st s
    have h2 := textB_len ss (textS st s)
    simp only [textB, List.foldl_cons, List.length_cons] at *
    omega

def flagN (b : Bool) : Nat := if b then 1 else 0
theorem flagN_lt (b : Bool) : flagN b < 18446744073709551616 := by cases b <;> decide

/-- What Bytes answers. -/
def BytesPost (w : World) (bs : List UInt8) (err : Int) (e : Ending) (w' : World) : Prop :=
  ∃ u, e = .returned (.tuple #[u, .int .i64 err]) ∧ (if err = 0 then Owns w' w.heap.size 5 1 bEnc u bs else u = .slice none 0 0) ∧ New w w'

end Go.Proofs.YtecniafnihpjmaaGreatDoor

/- Chapter 5 (batch): Find, Meets, and the document's. Printed by genBat3.py. -/
namespace Go.Proofs.YtecniafnihpjmaaGreatDoor
open Go.RowKit Go.Lap
set_option linter.unusedVariables false

/-- Is a write one of a key? -/
def keyEq (x : Wri) (key : ByteArray) : Bool := decide (x.key.toList = key.toList)
theorem keyEq_symm (x y : Wri) : keyEq x y.key = keyEq y x.key := by simp [keyEq, eq_comm]

/-- The place of the first write of a key, from a place on; below 0: there is none. -/
def idxFrom (key : ByteArray) : Nat → List Wri → Int
  | _, [] => -1
  | i, x :: l => if keyEq x key = true then (i : Int) else idxFrom key (i + 1) l
theorem idxFrom_at {key : ByteArray} {l : List Wri} {k : Nat} {x : Wri} (h : l[k]? = some x) : idxFrom key k (l.drop k) = if keyEq x key = true then (k : Int) else idxFrom key (k + 1) (l.drop (k + 1)) := by
  obtain ⟨hk, hx⟩ := List.getElem?_eq_some_iff.1 h
  rw [List.drop_eq_getElem_cons hk, hx]
  rfl
def IdxRel (key : ByteArray) (l : List Wri) (k : Nat) (w0 wr : World) : Prop := idxFrom key 0 l = idxFrom key k (l.drop k) ∧ New w0 wr

/-- The first write of a key. -/
def findB (key : ByteArray) (l : List Wri) : Option Wri := l.find? fun x => keyEq x key
theorem idx_find (key : ByteArray) : ∀ (l : List Wri) (i : Nat), (idxFrom key i l = -1 ∧ findB key l = none) ∨ ∃ j x, idxFrom key i l = ((i + j : Nat) : Int) ∧ l[j]? = some x ∧ findB key l = some x
  | [], i => .inl ⟨rfl, rfl⟩
  | y :: l, i => by
    by_cases h : keyEq y key = true
    · exact .inr ⟨0, y, by simp [idxFrom, h], rfl, by simp [findB, h]⟩
    · have h' : keyEq y key = false := by simpa using h
      rcases idx_find key l (i + 1) with ⟨h1, h2⟩ | ⟨j, x, h1, h2, h3⟩
      · exact .inl ⟨by simp [idxFrom, h', h1], by simpa [findB, h'] using h2⟩
      · exact .inr ⟨j + 1, x, by simp only [idxFrom, h']; rw [if_neg (by decide), h1]; congr 1; omega, by simpa using h2, by simpa [findB, h'] using h3⟩

/-- What Find answers. -/
def FindPost (w : World) (r : Option Wri) (e : Ending) (w' : World) : Prop := New w w' ∧ match r with
  | some x => e = .returned (.tuple #[.agg #[.string x.key, .string x.val, .bool x.gone], .bool true])
  | none => e = .returned (.tuple #[.agg #[.string ⟨#[]⟩, .string ⟨#[]⟩, .bool false], .bool false])

end Go.Proofs.YtecniafnihpjmaaGreatDoor

/- Chapter 5 (batch): Meets, and the document's. Printed by genBat4.py. -/
namespace Go.Proofs.YtecniafnihpjmaaGreatDoor
open Go.RowKit Go.Lap
set_option linter.unusedVariables false

def hasK (key : ByteArray) (l : List Wri) : Bool := l.any fun y => keyEq y key
/-- Do two batches write one key? -/
def meetsB (l l' : List Wri) : Bool := l.any fun x => hasK x.key l'
theorem find_has (key : ByteArray) (l : List Wri) : (findB key l).isSome = hasK key l := by unfold findB hasK; rw [Bool.eq_iff_iff, List.find?_isSome, List.any_eq_true]
theorem meets_at {l l' : List Wri} {k : Nat} {x : Wri} (h : l[k]? = some x) : meetsB (l.drop k) l' = (hasK x.key l' || meetsB (l.drop (k + 1)) l') := by
  obtain ⟨hk, hx⟩ := List.getElem?_eq_some_iff.1 h
  rw [List.drop_eq_getElem_cons hk, hx]
  rfl
theorem has_at {key : ByteArray} {l : List Wri} {k : Nat} {x : Wri} (h : l[k]? = some x) : hasK key (l.drop k) = (keyEq x key || hasK key (l.drop (k + 1))) := by
  obtain ⟨hk, hx⟩ := List.getElem?_eq_some_iff.1 h
  rw [List.drop_eq_getElem_cons hk, hx]
  rfl
theorem meets_comm (l l' : List Wri) : meetsB l l' = meetsB l' l := by
  rw [Bool.eq_iff_iff]
  simp only [meetsB, hasK, List.any_eq_true]
  constructor
  · rintro ⟨x, hx, y, hy, h⟩
    exact ⟨y, hy, x, hx, by rw [keyEq_symm]; exact h⟩
  · rintro ⟨x, hx, y, hy, h⟩
    exact ⟨y, hy, x, hx, by rw [keyEq_symm]; exact h⟩
def MeetRel (l l' : List Wri) (k : Nat) (w0 wr : World) : Prop := meetsB l l' = meetsB (l.drop k) l' ∧ New w0 wr
def HasRel (key : ByteArray) (l : List Wri) (k : Nat) (w0 wr : World) : Prop := hasK key l = hasK key (l.drop k) ∧ New w0 wr

set_option maxRecDepth 100000 in
set_option maxHeartbeats 4000000 in
theorem refMeets_any (c r s : Nat) (v : Value) (l : List Wri) (c' r' s' : Nat) (v' : Value) (l' : List Wri) (w : World) (hl : l.length ≤ 1000000000) (hl' : l'.length ≤ 1000000000) (hs : SlIn w 3 Wri.enc v l) (hs' : SlIn w 3 Wri.enc v' l') :
    Calls Tryz.prog 26 #[.agg #[.int .u64 (c : Int), .int .u64 (r : Int), .int .u64 (s : Int), v], .agg #[.int .u64 (c' : Int), .int .u64 (r' : Int), .int .u64 (s' : Int), v']] w fun e w' => e = .returned (.bool (meetsB l l')) ∧ New w w' := by
  have HS' := Lib.hid hs'
  obtain ⟨A, cap, rfl, hlc, hh⟩ := hs
  obtain ⟨A', cap', rfl, hlc', hh'⟩ := hs'
  have hB1 := (Blk.mk_new w 40 #[.int .u64 (c : Int), .int .u64 (r : Int), .int .u64 (s : Int), .slice A l.length cap]).alloc (.cells #[.int .u64 (c' : Int), .int .u64 (r' : Int), .int .u64 (s' : Int), .slice A' l'.length cap'] 40)
  have hB2 := Blk.mk_new (w.alloc (.cells #[.int .u64 (c : Int), .int .u64 (r : Int), .int .u64 (s : Int), .slice A l.length cap] 40)) 40 #[.int .u64 (c' : Int), .int .u64 (r' : Int), .int .u64 (s' : Int), .slice A' l'.length cap']
  rw [World.size_alloc] at hB2
  have HB1 := Lib.hid hB1
  have HB2 := Lib.hid hB2
  clear hB1 hB2
  have HN0 := Lib.hid (((New.refl w).alloc (.cells #[.int .u64 (c : Int), .int .u64 (r : Int), .int .u64 (s : Int), .slice A l.length cap] 40)).alloc (.cells #[.int .u64 (c' : Int), .int .u64 (r' : Int), .int .u64 (s' : Int), .slice A' l'.length cap'] 40))
  go_enter Tryz.func26, Tryz.ntmps26
  go_wp2_with fail
  go_loopw [5, 6] (fun i _ wr => ∃ k : Nat, k ≤ l.length ∧ i = .int .i64 k ∧ MeetRel l l' k ((w.alloc (.cells #[.int .u64 (c : Int), .int .u64 (r : Int), .int .u64 (s : Int), .slice A l.length cap] 40)).alloc (.cells #[.int .u64 (c' : Int), .int .u64 (r' : Int), .int .u64 (s' : Int), .slice A' l'.length cap'] 40)) wr) (fun i _ _ => l.length - (intOf i).toNat)
  case atStart => exact ⟨0, by omega, rfl, rfl, New.refl _⟩
  case round =>
    obtain ⟨k, hk, rfl, hfr, hn⟩ := hrel
    have HFR := Lib.hid hfr
    clear hfr
    have hCo := HN0.out.trans hn
    obtain ⟨p0, p1, p2, p3, p4, pz⟩ := Blk4F (HB1.out.new hn)
    by_cases hlt : k < l.length
    · have hlt2 : (k : Int) < (l.length : Int) := by omega
      have hk0 : (0 : Int) ≤ (k : Int) := by omega
      rcases hh with rfl | ⟨b, off, rfl, hbb, hc⟩
      · simp at hlt
      obtain ⟨x, hx⟩ : ∃ x, l[k]? = some x := ⟨_, List.getElem?_eq_getElem hlt⟩
      have HFX := Lib.hid (HFR.out.trans (meets_at (l' := l') hx))
      have HX := Lib.hid hx
      have HC := Lib.hid hc
      clear hx hc
      obtain ⟨wo, rfl⟩ : ∃ wo : World, wo = wr := ⟨_, rfl⟩
      go_wp2_with fail
      go_loopw [6] (fun i wr => ∃ m : Nat, m ≤ l'.length ∧ i = .int .i64 m ∧ HasRel x.key l' m wo wr) (fun i _ => l'.length - (intOf i).toNat)
      case atStart => exact ⟨0, by omega, rfl, rfl, New.refl _⟩
      case round =>
        obtain ⟨m, hm, rfl, hfr, hn2⟩ := hrel
        have HFQ := Lib.hid hfr
        clear hfr p0 p1 p2 p3 p4 pz
        have hn3 := hn.trans hn2
        have hCi := HN0.out.trans hn3
        obtain ⟨p0, p1, p2, p3, p4, pz⟩ := Blk4F (HB1.out.new hn3)
        obtain ⟨q0, q1, q2, q3, q4, qz⟩ := Blk4F (HB2.out.new hn3)
        by_cases hlm : m < l'.length
        · have hlm2 : (m : Int) < (l'.length : Int) := by omega
          have hm0 : (0 : Int) ≤ (m : Int) := by omega
          rcases hh' with rfl | ⟨b', off', rfl, hbb', hc'⟩
          · simp at hlm
          obtain ⟨y, hy⟩ : ∃ y, l'[m]? = some y := ⟨_, List.getElem?_eq_getElem hlm⟩
          obtain ⟨e0, e1, e2⟩ := SlIn.three (fun k x h j u hu => (hCi.cells.1 _ _ hbb).trans (HC.out k x h j u hu)) HX.out
          obtain ⟨f0, f1, f2⟩ := SlIn.three (fun k x h j u hu => (hCi.cells.1 _ _ hbb').trans (hc' k x h j u hu)) hy
          have HFY := Lib.hid (HFQ.out.trans (has_at (key := x.key) hy))
          clear hy hc'
          by_cases hxy : x.key.toList = y.key.toList
          · have HF2 := Lib.hid (show meetsB l l' = true by rw [HFX.out, HFY.out]; simp [keyEq, hxy])
            go_wp2_with fail
            go_quiet (fail)
            go_wp2_with fail
            go_ret
            exact ⟨ret_bool (a := true) HF2.out.symm, hCi.drewN _⟩
          · have HF2 := Lib.hid (show hasK x.key l' = hasK x.key (l'.drop (m + 1)) by rw [HFY.out]; simp [keyEq, Ne.symm hxy])
            have hb : (x.key.toList == y.key.toList) = false := by simpa using hxy
            go_wp2_with fail
            go_quiet (fail)
            go_wp2_with fail
            go_roundw
            case rel => exact ⟨m + 1, by omega, by go_num, HF2.out, hn2.drewN _⟩
            case measure => simp [intOf]; omega
        · have hlm2 : ¬ (m : Int) < (l'.length : Int) := by omega
          have HF2 := Lib.hid (show meetsB l l' = meetsB (l.drop (k + 1)) l' by rw [HFX.out, HFQ.out, List.drop_eq_nil_of_le (by omega)]; rfl)
          go_wp2_with fail
          go_roundw
          case rel => exact ⟨k + 1, by omega, by go_num, HF2.out, hn3⟩
          case measure => simp [intOf]; omega
    · have hlt2 : ¬ (k : Int) < (l.length : Int) := by omega
      have HF2 := Lib.hid (show meetsB l l' = false by rw [HFR.out, List.drop_eq_nil_of_le (by omega)]; rfl)
      go_wp2_with fail
      go_ret
      exact ⟨ret_bool (a := false) HF2.out.symm, hCo⟩
end Go.Proofs.YtecniafnihpjmaaGreatDoor
