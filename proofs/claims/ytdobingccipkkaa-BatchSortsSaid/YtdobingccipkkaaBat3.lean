/- Chapter 5 (batch): Find, Meets, and the document's. Printed by genBat3.py. -/
import Derived.Test.YtdobingccipkkaaBat2
import Derived.Test.YtdobingccipkkaaCodeW
namespace Go.Proofs.Ytdobingccipkkaa
open Go.RowKit Go.Lap
set_option linter.unusedVariables false

/-- Is a write one of a key? -/
def keyEq (x : Wri) (key : ByteArray) : Bool := decide (x.key.toList = key.toList)
theorem keyEq_symm (x y : Wri) : keyEq x y.key = keyEq y x.key := by simp [keyEq, eq_comm]

set_option maxHeartbeats 1000000 in
theorem findFn_any (x : Wri) (key : ByteArray) (g : Nat) (w : World) (hc : w.cell? ⟨g, 0, none⟩ = some (.string key)) (hg : g < w.heap.size) :
    Calls Try.prog 46 #[.agg #[.string x.key, .string x.val, .bool x.gone], .pointer (some ⟨g, 0, none⟩)] w fun e w' => e = .returned (.bool (keyEq x key)) ∧ New w w' := by
  unfold keyEq
  by_cases h : x.key.toList = key.toList
  · have HF := Lib.hid (show decide (x.key.toList = key.toList) = true from decide_eq_true h)
    go_enter Try.func46, Try.ntmps46
    go_wp2_with fail
    go_ret
    exact ⟨ret_bool (a := true) HF.out.symm, (New.refl w).alloc _⟩
  · have HF := Lib.hid (show decide (x.key.toList = key.toList) = false from decide_eq_false h)
    have h2 : (x.key.toList == key.toList) = false := by simpa using h
    go_enter Try.func46, Try.ntmps46
    go_wp2_with fail
    go_ret
    exact ⟨ret_bool (a := false) HF.out.symm, (New.refl w).alloc _⟩

/-- The place of the first write of a key, from a place on; below 0: there is none. -/
def idxFrom (key : ByteArray) : Nat → List Wri → Int
  | _, [] => -1
  | i, x :: l => if keyEq x key = true then (i : Int) else idxFrom key (i + 1) l
theorem idxFrom_at {key : ByteArray} {l : List Wri} {k : Nat} {x : Wri} (h : l[k]? = some x) : idxFrom key k (l.drop k) = if keyEq x key = true then (k : Int) else idxFrom key (k + 1) (l.drop (k + 1)) := by
  obtain ⟨hk, hx⟩ := List.getElem?_eq_some_iff.1 h
  rw [List.drop_eq_getElem_cons hk, hx]
  rfl
def IdxRel (key : ByteArray) (l : List Wri) (k : Nat) (w0 wr : World) : Prop := idxFrom key 0 l = idxFrom key k (l.drop k) ∧ New w0 wr

/-- The first write of a key. -/
def findB (key : ByteArray) (l : List Wri) : Option Wri := l.find? fun x => keyEq x key
theorem idx_find (key : ByteArray) : ∀ (l : List Wri) (i : Nat), (idxFrom key i l = -1 ∧ findB key l = none) ∨ ∃ j x, idxFrom key i l = ((i + j : Nat) : Int) ∧ l[j]? = some x ∧ findB key l = some x
  | [], i => .inl ⟨rfl, rfl⟩
  | y :: l, i => by
    by_cases h : keyEq y key = true
    · exact .inr ⟨0, y, by simp [idxFrom, h], rfl, by simp [findB, h]⟩
    · have h' : keyEq y key = false := by simpa using h
      rcases idx_find key l (i + 1) with ⟨h1, h2⟩ | ⟨j, x, h1, h2, h3⟩
      · exact .inl ⟨by simp [idxFrom, h', h1], by simpa [findB, h'] using h2⟩
      · exact .inr ⟨j + 1, x, by simp only [idxFrom, h']; rw [if_neg (by decide), h1]; congr 1; omega, by simpa using h2, by simpa [findB, h'] using h3⟩

set_option maxRecDepth 100000 in
set_option maxHeartbeats 4000000 in
theorem index_any (v : Value) (l : List Wri) (key : ByteArray) (g : Nat) (w : World) (hl : l.length ≤ 1000000000) (hs : SlIn w 3 Wri.enc v l) (hkey : w.cell? ⟨g, 0, none⟩ = some (.string key)) (hg : g < w.heap.size) :
    Calls Try.prog 45 #[v, .func (.func 46) #[] #[.pointer (some ⟨g, 0, none⟩)]] w fun e w' => e = .returned (.int .i64 (idxFrom key 0 l)) ∧ New w w' := by
  obtain ⟨A, cap, rfl, hlc, hh⟩ := hs
  go_enter Try.func45, Try.ntmps45
  go_wp2_with fail
  have HK := Lib.hid hkey
  clear hkey
  go_loopw [5, 8] (fun _ i wr => ∃ k : Nat, k ≤ l.length ∧ i = .int .i64 k ∧ IdxRel key l k w wr) (fun _ i _ => l.length - (intOf i).toNat)
  case atStart => exact ⟨0, by omega, rfl, rfl, New.refl _⟩
  case round =>
    obtain ⟨k, hk, rfl, hfr, hn⟩ := hrel
    have HFR := Lib.hid hfr
    clear hfr
    by_cases hlt : k < l.length
    · have hlt2 : (k : Int) < (l.length : Int) := by omega
      have hk0 : (0 : Int) ≤ (k : Int) := by omega
      rcases hh with rfl | ⟨b, off, rfl, hbb, hc⟩
      · simp at hlt
      obtain ⟨x, hx⟩ : ∃ x, l[k]? = some x := ⟨_, List.getElem?_eq_getElem hlt⟩
      obtain ⟨e0, e1, e2⟩ := SlIn.three (fun k x h j u hu => (hn.cells.1 _ _ hbb).trans (hc k x h j u hu)) hx
      have HFX := Lib.hid (HFR.out.trans (idxFrom_at hx))
      clear hx hc
      go_wp2_with fail
      refine (findFn_any x key g wr ((hn.cells.1 _ _ hg).trans HK.out) (Nat.lt_of_lt_of_le hg hn.size)).mono ?_
      rintro e w2 ⟨rfl, hn2⟩
      cases hb : keyEq x key with
      | true =>
        have HF2 := Lib.hid (show idxFrom key 0 l = (k : Int) by rw [HFX.out, hb, if_pos rfl])
        clear hb
        go_wp2_with fail
        go_ret
        exact ⟨ret_int HF2.out.symm, hn.trans hn2⟩
      | false =>
        have HF2 := Lib.hid (show idxFrom key 0 l = idxFrom key (k + 1) (l.drop (k + 1)) by rw [HFX.out, hb, if_neg (by decide)])
        clear hb
        go_wp2_with fail
        go_roundw
        case rel => exact ⟨k + 1, by omega, by go_num, HF2.out, hn.trans hn2⟩
        case measure => simp [intOf]; omega
    · have hlt2 : ¬ (k : Int) < (l.length : Int) := by omega
      have HF2 := Lib.hid (show idxFrom key 0 l = -1 by rw [HFR.out, List.drop_eq_nil_of_le (by omega)]; rfl)
      go_wp2_with fail
      go_ret
      exact ⟨ret_int (a := -1) HF2.out.symm, hn⟩

/-- What Find answers. -/
def FindPost (w : World) (r : Option Wri) (e : Ending) (w' : World) : Prop := New w w' ∧ match r with
  | some x => e = .returned (.tuple #[.agg #[.string x.key, .string x.val, .bool x.gone], .bool true])
  | none => e = .returned (.tuple #[.agg #[.string ⟨#[]⟩, .string ⟨#[]⟩, .bool false], .bool false])

set_option maxRecDepth 100000 in
set_option maxHeartbeats 4000000 in
theorem find_any (c r s : Nat) (v : Value) (l : List Wri) (key : ByteArray) (w : World) (hl : l.length ≤ 1000000000) (hs : SlIn w 3 Wri.enc v l) :
    Calls Try.prog 24 #[.agg #[.int .u64 (c : Int), .int .u64 (r : Int), .int .u64 (s : Int), v], .string key] w (FindPost w (findB key l)) := by
  obtain ⟨A, n, cap, rfl⟩ := hs.shape
  have hW : SlIn (((w.alloc (.cells #[.int .u64 (c : Int), .int .u64 (r : Int), .int .u64 (s : Int), .slice A n cap] 25)).alloc (.cells #[.string key] 9)).alloc (.cells #[.string ⟨#[]⟩, .string ⟨#[]⟩, .bool false] 43)) 3 Wri.enc (.slice A n cap) l := ((hs.alloc _).alloc _).alloc _
  have hB1 := ((Blk.mk_new w 25 #[.int .u64 (c : Int), .int .u64 (r : Int), .int .u64 (s : Int), .slice A n cap]).alloc (.cells #[.string key] 9)).alloc (.cells #[.string ⟨#[]⟩, .string ⟨#[]⟩, .bool false] 43)
  have hB2 := (Blk.mk_new (w.alloc (.cells #[.int .u64 (c : Int), .int .u64 (r : Int), .int .u64 (s : Int), .slice A n cap] 25)) 9 #[.string key]).alloc (.cells #[.string ⟨#[]⟩, .string ⟨#[]⟩, .bool false] 43)
  have hB3 := Blk.mk_new ((w.alloc (.cells #[.int .u64 (c : Int), .int .u64 (r : Int), .int .u64 (s : Int), .slice A n cap] 25)).alloc (.cells #[.string key] 9)) 43 #[.string ⟨#[]⟩, .string ⟨#[]⟩, .bool false]
  rw [World.size_alloc] at hB2
  rw [World.size_alloc, World.size_alloc] at hB3
  have hN := (((New.refl w).alloc (.cells #[.int .u64 (c : Int), .int .u64 (r : Int), .int .u64 (s : Int), .slice A n cap] 25)).alloc (.cells #[.string key] 9)).alloc (.cells #[.string ⟨#[]⟩, .string ⟨#[]⟩, .bool false] 43)
  go_enter Try.func24, Try.ntmps24
  go_wp2_with fail
  refine (index_any _ l key (w.heap.size + 1) _ hl hW (hB2.cell 0) hB2.lt).mono ?_
  rintro e w2 ⟨rfl, hn2⟩
  have hN2 := hN.trans hn2
  have hs2 := hs.new hN2
  obtain ⟨p0, p1, p2, p3, p4, pz⟩ := Blk4F (hB1.new hn2)
  obtain ⟨q0, q1, q2, q3, qz⟩ := Blk3F (hB3.new hn2)
  clear hB1 hB2 hB3 hW hN hn2 hs
  rcases idx_find key l 0 with ⟨h1, h2⟩ | ⟨j, x, h1, h2, h3⟩
  · rw [h1]
    have HF := Lib.hid h2
    clear h1 h2 hs2
    go_wp2_with fail
    refine bodyPost_ret (v := .tuple #[.agg #[.string ⟨#[]⟩, .string ⟨#[]⟩, .bool false], .bool false]) (by simp [results, Try.results24, go_sem, q1, q2, q3]) rfl ⟨((hN2.setCell (p := ⟨_, _, none⟩) (by show w.heap.size ≤ w.heap.size + 2; omega) _).setCell (p := ⟨_, _, none⟩) (by show w.heap.size ≤ w.heap.size + 2; omega) _).setCell (p := ⟨_, _, none⟩) (by show w.heap.size ≤ w.heap.size + 2; omega) _, ?_⟩
    rw [HF.out]
  · rw [h1, Nat.zero_add]
    obtain ⟨A', cap', hv, hlc, hh⟩ := hs2
    injection hv with hA hn hcc
    subst hA hn hcc
    have hj := (List.getElem?_eq_some_iff.1 h2).1
    rcases hh with rfl | ⟨b, off, rfl, hbb, hc⟩
    · simp at hj
    obtain ⟨e0, e1, e2⟩ := SlIn.three hc h2
    have hj0 : (0 : Int) ≤ (j : Int) := by omega
    have hj1 : (j : Int) < (l.length : Int) := by omega
    have HF := Lib.hid h3
    clear h1 h2 h3 hc
    go_wp2_with fail
    refine bodyPost_ret (v := .tuple #[.agg #[.string x.key, .string x.val, .bool x.gone], .bool true]) (by simp [results, Try.results24, go_sem, q1, q2, q3]) rfl ⟨((hN2.setCell (p := ⟨_, _, none⟩) (by show w.heap.size ≤ w.heap.size + 2; omega) _).setCell (p := ⟨_, _, none⟩) (by show w.heap.size ≤ w.heap.size + 2; omega) _).setCell (p := ⟨_, _, none⟩) (by show w.heap.size ≤ w.heap.size + 2; omega) _, ?_⟩
    rw [HF.out]
end Go.Proofs.Ytdobingccipkkaa
