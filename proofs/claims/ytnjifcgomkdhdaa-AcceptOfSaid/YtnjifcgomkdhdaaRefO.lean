/- The document's acceptor of bytes (chapter 20): its walk. Printed by genRefO.py. -/
import Derived.Test.YtnjifcgomkdhdaaAccO
import Derived.Test.YtnjifcgomkdhdaaRef03e
import Derived.LoopN
namespace Go.Proofs.Ytnjifcgomkdhdaa
open Go.RowKit Go.Lap
set_option linter.unusedVariables false

/-- The acceptor of bytes, as the document reads it. -/
def ofR (bs : List UInt8) : Option AccV :=
  let r1 := numR bs 0
  if r1.2.2 = 0 then
    let r2 := numR r1.2.1 0
    if r2.2.2 = 0 then
      let r3 := flagR r2.2.1 0
      if r3.2.2 = 0 then
        if r3.1 = true then
          let r4 := numR r3.2.1 0
          if r4.2.2 = 0 then
            let r5 := numR r4.2.1 0
            if r5.2.2 = 0 then
              let r6 := textR r5.2.1 0
              if r6.2.2 = 0 then if r6.2.1 = [] then if lessB r1.1 r2.1 r4.1 r5.1 = false then some ⟨r1.1, r2.1, true, r4.1, r5.1, r6.1⟩ else none else none else none
            else none
          else none
        else if r3.2.1 = [] then some ⟨r1.1, r2.1, false, 0, 0, []⟩ else none
      else none
    else none
  else none

def ROfPost (w : World) (r : Option AccV) (e : Ending) (w' : World) : Prop := New w w' ∧
  ((r = none ∧ ∃ (pr pn : Int) (h : Bool) (ar an : Int) (v : ByteArray), e = .returned (.tuple #[.agg #[.int .u64 pr, .int .u64 pn, .bool h, .int .u64 ar, .int .u64 an, .string v], .bool false])) ∨
    ∃ a : AccV, r = some a ∧ e = .returned (.tuple #[.agg #[.int .u64 (a.pr : Int), .int .u64 (a.pn : Int), .bool a.h, .int .u64 (a.ar : Int), .int .u64 (a.an : Int), .string (str a.v)], .bool true]))

/-- The three blocks of the reader: the result, the acceptor, the two numbers. -/
def RO (w wx : World) (res acc : Array Value) (v0 v1 : Nat) : Prop := Blk wx w.heap.size 39 res ∧ Blk wx (w.heap.size + 1) 39 acc ∧ Blk wx (w.heap.size + 2) 104 #[.int .u64 (v0 : Int), .int .u64 (v1 : Int)] ∧ New w wx

theorem RO.new {w wx wy : World} {res acc : Array Value} {v0 v1 : Nat} (h : RO w wx res acc v0 v1) (hn : New wx wy) : RO w wy res acc v0 v1 := ⟨h.1.new hn, h.2.1.new hn, h.2.2.1.new hn, h.2.2.2.trans hn⟩
theorem RO.set0 {w wx : World} {res acc : Array Value} {v0 v1 : Nat} (h : RO w wx res acc v0 v1) (n : Nat) : RO w (wx.setCell ⟨w.heap.size + 2, 0, none⟩ (.int .u64 (n : Int))) res acc n v1 :=
  ⟨h.1.far (by show w.heap.size ≠ w.heap.size + 2; omega) _, h.2.1.far (by show w.heap.size + 1 ≠ w.heap.size + 2; omega) _, h.2.2.1.set_ 0 _, h.2.2.2.setCell (by show w.heap.size ≤ w.heap.size + 2; omega) _⟩
theorem RO.set1 {w wx : World} {res acc : Array Value} {v0 v1 : Nat} (h : RO w wx res acc v0 v1) (n : Nat) : RO w (wx.setCell ⟨w.heap.size + 2, 1, none⟩ (.int .u64 (n : Int))) res acc v0 n :=
  ⟨h.1.far (by show w.heap.size ≠ w.heap.size + 2; omega) _, h.2.1.far (by show w.heap.size + 1 ≠ w.heap.size + 2; omega) _, h.2.2.1.set_ 1 _, h.2.2.2.setCell (by show w.heap.size ≤ w.heap.size + 2; omega) _⟩
theorem RO.setA {w wx : World} {res acc : Array Value} {v0 v1 : Nat} (h : RO w wx res acc v0 v1) (i : Nat) (u : Value) : RO w (wx.setCell ⟨w.heap.size + 1, i, none⟩ u) res (acc.setIfInBounds i u) v0 v1 :=
  ⟨h.1.far (by show w.heap.size ≠ w.heap.size + 1; omega) _, h.2.1.set_ i _, h.2.2.1.far (by show w.heap.size + 2 ≠ w.heap.size + 1; omega) _, h.2.2.2.setCell (by show w.heap.size ≤ w.heap.size + 1; omega) _⟩

theorem RO.facts {w wx : World} {r0 r1 r2 r3 r4 r5 a0 a1 a2 a3 a4 a5 : Value} {v0 v1 : Nat} (h : RO w wx #[r0, r1, r2, r3, r4, r5] #[a0, a1, a2, a3, a4, a5] v0 v1) :
    w.heap.size + 2 < wx.heap.size ∧ w.heap.size + 1 < wx.heap.size ∧ w.heap.size < wx.heap.size ∧
    wx.cell? ⟨w.heap.size, 0, none⟩ = some r0 ∧ wx.cell? ⟨w.heap.size, 1, none⟩ = some r1 ∧ wx.cell? ⟨w.heap.size, 2, none⟩ = some r2 ∧ wx.cell? ⟨w.heap.size, 3, none⟩ = some r3 ∧ wx.cell? ⟨w.heap.size, 4, none⟩ = some r4 ∧ wx.cell? ⟨w.heap.size, 5, none⟩ = some r5 ∧
    wx.cell? ⟨w.heap.size + 1, 0, none⟩ = some a0 ∧ wx.cell? ⟨w.heap.size + 1, 1, none⟩ = some a1 ∧ wx.cell? ⟨w.heap.size + 1, 2, none⟩ = some a2 ∧ wx.cell? ⟨w.heap.size + 1, 3, none⟩ = some a3 ∧ wx.cell? ⟨w.heap.size + 1, 4, none⟩ = some a4 ∧ wx.cell? ⟨w.heap.size + 1, 5, none⟩ = some a5 ∧
    wx.cell? ⟨w.heap.size + 2, 0, none⟩ = some (.int .u64 (v0 : Int)) ∧ wx.cell? ⟨w.heap.size + 2, 1, none⟩ = some (.int .u64 (v1 : Int)) ∧
    (∀ i, wx.frozen? ⟨w.heap.size, i, none⟩ = false) ∧ (∀ i, wx.frozen? ⟨w.heap.size + 1, i, none⟩ = false) ∧ (∀ i, wx.frozen? ⟨w.heap.size + 2, i, none⟩ = false) :=
  ⟨h.2.2.1.lt, h.2.1.lt, h.1.lt, h.1.cell 0, h.1.cell 1, h.1.cell 2, h.1.cell 3, h.1.cell 4, h.1.cell 5, h.2.1.cell 0, h.2.1.cell 1, h.2.1.cell 2, h.2.1.cell 3, h.2.1.cell 4, h.2.1.cell 5, h.2.2.1.cell 0, h.2.2.1.cell 1, h.1.frozen, h.2.1.frozen, h.2.2.1.frozen⟩

theorem RO.start (w : World) : RO w (((w.alloc (.cells #[.int .u64 0, .int .u64 0, .bool false, .int .u64 0, .int .u64 0, .string ⟨#[]⟩] 39)).alloc (.cells #[.int .u64 0, .int .u64 0, .bool false, .int .u64 0, .int .u64 0, .string ⟨#[]⟩] 39)).alloc (.cells #[.int .u64 0, .int .u64 0] 104)) #[.int .u64 0, .int .u64 0, .bool false, .int .u64 0, .int .u64 0, .string ⟨#[]⟩] #[.int .u64 0, .int .u64 0, .bool false, .int .u64 0, .int .u64 0, .string ⟨#[]⟩] 0 0 := by
  have h2 := Blk.mk_new (w.alloc (.cells #[.int .u64 0, .int .u64 0, .bool false, .int .u64 0, .int .u64 0, .string ⟨#[]⟩] 39)) 39 #[.int .u64 0, .int .u64 0, .bool false, .int .u64 0, .int .u64 0, .string ⟨#[]⟩]
  have h3 := Blk.mk_new ((w.alloc (.cells #[.int .u64 0, .int .u64 0, .bool false, .int .u64 0, .int .u64 0, .string ⟨#[]⟩] 39)).alloc (.cells #[.int .u64 0, .int .u64 0, .bool false, .int .u64 0, .int .u64 0, .string ⟨#[]⟩] 39)) 104 #[.int .u64 0, .int .u64 0]
  rw [World.size_alloc] at h2
  rw [World.size_alloc, World.size_alloc] at h3
  exact ⟨((Blk.mk_new w _ _).alloc _).alloc _, h2.alloc _, h3, (((New.refl w).alloc _).alloc _).alloc _⟩

theorem far6 (wx : World) (b b' i : Nat) (h : b' ≠ b) (c0 c1 c2 c3 c4 c5 : Value) : ((((((wx.setCell ⟨b, 0, none⟩ c0).setCell ⟨b, 1, none⟩ c1).setCell ⟨b, 2, none⟩ c2).setCell ⟨b, 3, none⟩ c3).setCell ⟨b, 4, none⟩ c4).setCell ⟨b, 5, none⟩ c5).cell? ⟨b', i, none⟩ = wx.cell? ⟨b', i, none⟩ := by
  have hk : ∀ (wy : World) (j : Nat) (u : Value), (wy.setCell ⟨b, j, none⟩ u).cell? ⟨b', i, none⟩ = wy.cell? ⟨b', i, none⟩ := fun wy j u => by
    have := Below.heap_setCell wy ⟨b, j, none⟩ u b' h
    simp only [World.cell?]
    rw [this]
  rw [hk, hk, hk, hk, hk, hk]

/-- The result is laid: six stores. -/
theorem RO.out {w wx : World} {res acc : Array Value} {v0 v1 : Nat} (h : RO w wx res acc v0 v1) (c0 c1 c2 c3 c4 c5 : Value) : New w ((((((wx.setCell ⟨w.heap.size, 0, none⟩ c0).setCell ⟨w.heap.size, 1, none⟩ c1).setCell ⟨w.heap.size, 2, none⟩ c2).setCell ⟨w.heap.size, 3, none⟩ c3).setCell ⟨w.heap.size, 4, none⟩ c4).setCell ⟨w.heap.size, 5, none⟩ c5) :=
  (((((h.2.2.2.setCell (Nat.le_refl _) _).setCell (Nat.le_refl _) _).setCell (Nat.le_refl _) _).setCell (Nat.le_refl _) _).setCell (Nat.le_refl _) _).setCell (Nat.le_refl _) _

set_option maxRecDepth 100000 in
set_option maxHeartbeats 4000000 in
theorem refOf_any (bs : List UInt8) (w : World) (hb : bs.length ≤ 100000000) :
    Calls Try.prog 40 #[.string (str bs)] w (ROfPost w (ofR bs)) := by
  have hst := RO.start w
  go_enter Try.func40, Try.ntmps40
  go_wp2_with fail
  refine wp_loop_rounds 3 ?_
  rw [rounds_succ]
  go_wp2_with fail
  refine (refNum_any bs _ (by omega)).mono ?_
  rintro e wn1 ⟨rfl, hn1⟩
  have hq1 := hst.new hn1
  have hl1 := numR_lenE bs 0
  generalize hE1 : numR bs 0 = r1 at *
  have HE1 := Lib.hid hE1
  obtain ⟨n1, b1, e1⟩ := r1
  simp only at hl1 ⊢
  clear hE1 hn1 hst
  obtain ⟨zl2, zl1, zl0, x0, x1, x2, x3, x4, x5, y0, y1, y2, y3, y4, y5, u0, u1, fz0, fz1, fz2⟩ := hq1.facts
  by_cases he1 : e1 = 0
  rotate_left
  · have hF : ofR bs = none := by unfold ofR; simp [HE1.out, he1]
    have HF := Lib.hid hF
    have hne : ((e1 : Int) != 0) = true := by simpa using he1
    have hne2 : ((e1 : Int) == 0) = false := by simpa using he1
    clear hF he1
    go_wp2_with fail
    exact bodyPost_ret (v := .tuple #[.agg #[.int .u64 0, .int .u64 0, .bool false, .int .u64 0, .int .u64 0, .string ⟨#[]⟩], .bool false]) (by simp [results, Try.results40, go_sem, x0, x1, x2, x3, x4, x5]) rfl ⟨hq1.out _ _ _ _ _ _, .inl ⟨HF.out, _, _, _, _, _, _, rfl⟩⟩
  subst he1
  go_wp2_with fail
  have hs1 := hq1.set0 n1
  clear hq1 zl2 zl1 zl0 x0 x1 x2 x3 x4 x5 y0 y1 y2 y3 y4 y5 u0 u1 fz0 fz1 fz2
  rw [rounds_succ]
  go_wp2_with fail
  refine (refNum_any b1 _ (by omega)).mono ?_
  rintro e wn2 ⟨rfl, hn2⟩
  have hq2 := hs1.new hn2
  have hl2 := numR_lenE b1 0
  generalize hE2 : numR b1 0 = r2 at *
  have HE2 := Lib.hid hE2
  obtain ⟨n2, b2, e2⟩ := r2
  simp only at hl2 ⊢
  clear hE2 hn2 hs1
  obtain ⟨zl2, zl1, zl0, x0, x1, x2, x3, x4, x5, y0, y1, y2, y3, y4, y5, u0, u1, fz0, fz1, fz2⟩ := hq2.facts
  by_cases he2 : e2 = 0
  rotate_left
  · have hF : ofR bs = none := by unfold ofR; simp [HE1.out, HE2.out, he2]
    have HF := Lib.hid hF
    have hne : ((e2 : Int) != 0) = true := by simpa using he2
    have hne2 : ((e2 : Int) == 0) = false := by simpa using he2
    clear hF he2
    go_wp2_with fail
    exact bodyPost_ret (v := .tuple #[.agg #[.int .u64 0, .int .u64 0, .bool false, .int .u64 0, .int .u64 0, .string ⟨#[]⟩], .bool false]) (by simp [results, Try.results40, go_sem, x0, x1, x2, x3, x4, x5]) rfl ⟨hq2.out _ _ _ _ _ _, .inl ⟨HF.out, _, _, _, _, _, _, rfl⟩⟩
  subst he2
  go_wp2_with fail
  have hs2 := hq2.set1 n2
  clear hq2 zl2 zl1 zl0 x0 x1 x2 x3 x4 x5 y0 y1 y2 y3 y4 y5 u0 u1 fz0 fz1 fz2
  rw [rounds_succ]
  go_wp2_with fail
  refine (refTake_flag 0 b2 _).mono ?_
  rintro e wn3 ⟨rfl, hn3⟩
  have hq3 := hs2.new hn3
  have hl3 := flagR_lenE b2 0
  generalize hE3 : flagR b2 0 = r3 at *
  have HE3 := Lib.hid hE3
  obtain ⟨yes, b3, e3⟩ := r3
  simp only at hl3 ⊢
  clear hE3 hn3 hs2
  obtain ⟨zl2, zl1, zl0, x0, x1, x2, x3, x4, x5, y0, y1, y2, y3, y4, y5, u0, u1, fz0, fz1, fz2⟩ := hq3.facts
  by_cases he3 : e3 = 0
  rotate_left
  · have hF : ofR bs = none := by unfold ofR; simp [HE1.out, HE2.out, HE3.out, he3]
    have HF := Lib.hid hF
    have hne : ((e3 : Int) != 0) = true := by simpa using he3
    have hne2 : ((e3 : Int) == 0) = false := by simpa using he3
    clear hF he3
    go_wp2_with fail
    exact bodyPost_ret (v := .tuple #[.agg #[.int .u64 0, .int .u64 0, .bool false, .int .u64 0, .int .u64 0, .string ⟨#[]⟩], .bool false]) (by simp [results, Try.results40, go_sem, x0, x1, x2, x3, x4, x5, zl0]) rfl ⟨(hq3.out _ _ _ _ _ _).alloc _, .inl ⟨HF.out, _, _, _, _, _, _, rfl⟩⟩
  subst he3
  cases yes with
  | false =>
    have hA := (hq3.setA 0 (.int .u64 (n1 : Int))).setA 1 (.int .u64 (n2 : Int))
    cases b3 with
    | nil =>
      have hF : ofR bs = some ⟨n1, n2, false, 0, 0, []⟩ := by unfold ofR; simp [HE1.out, HE2.out, HE3.out]
      have HF := Lib.hid hF
      clear hF
      have hTL := str_toList []
      go_wp2_with fail
      exact bodyPost_ret (v := .tuple #[.agg #[.int .u64 (n1 : Int), .int .u64 (n2 : Int), .bool false, .int .u64 0, .int .u64 0, .string ⟨#[]⟩], .bool true]) (by simp [results, Try.results40, go_sem, x0, x1, x2, x3, x4, x5, zl0]) rfl ⟨(hA.out _ _ _ _ _ _).alloc _, .inr ⟨_, HF.out, rfl⟩⟩
    | cons y ys =>
      have hF : ofR bs = none := by unfold ofR; simp [HE1.out, HE2.out, HE3.out]
      have HF := Lib.hid hF
      clear hF
      have hTL := str_toList (y :: ys)
      go_wp2_with fail
      exact bodyPost_ret (v := .tuple #[.agg #[.int .u64 (n1 : Int), .int .u64 (n2 : Int), .bool false, .int .u64 0, .int .u64 0, .string ⟨#[]⟩], .bool false]) (by simp [results, Try.results40, go_sem, x0, x1, x2, x3, x4, x5, zl0]) rfl ⟨(hA.out _ _ _ _ _ _).alloc _, .inl ⟨HF.out, _, _, _, _, _, _, rfl⟩⟩
  | true =>
    go_wp2_with fail
    have hA := ((hq3.setA 0 (.int .u64 (n1 : Int))).setA 1 (.int .u64 (n2 : Int))).new ((New.refl _).alloc (.cells #[.int .i64 2, .int .u64 0, .string (str []), .bool true, .int .i64 0] 55))
    clear hq3 zl2 zl1 zl0 x0 x1 x2 x3 x4 x5 y0 y1 y2 y3 y4 y5 u0 u1 fz0 fz1 fz2
    refine wp_loop_rounds 3 ?_
    rw [rounds_succ]
    go_wp2_with fail
    refine (refNum_any b3 _ (by omega)).mono ?_
    rintro e wn4 ⟨rfl, hn4⟩
    have hq4 := hA.new hn4
    have hl4 := numR_lenE b3 0
    generalize hE4 : numR b3 0 = r4 at *
    have HE4 := Lib.hid hE4
    obtain ⟨n4, b4, e4⟩ := r4
    simp only at hl4 ⊢
    clear hE4 hn4 hA
    obtain ⟨zl2, zl1, zl0, x0, x1, x2, x3, x4, x5, y0, y1, y2, y3, y4, y5, u0, u1, fz0, fz1, fz2⟩ := hq4.facts
    by_cases he4 : e4 = 0
    rotate_left
    · have hF : ofR bs = none := by unfold ofR; simp [HE1.out, HE2.out, HE3.out, HE4.out, he4]
      have HF := Lib.hid hF
      have hne : ((e4 : Int) != 0) = true := by simpa using he4
      have hne2 : ((e4 : Int) == 0) = false := by simpa using he4
      clear hF he4
      go_wp2_with fail
      exact bodyPost_ret (v := .tuple #[.agg #[.int .u64 (n1 : Int), .int .u64 (n2 : Int), .bool false, .int .u64 0, .int .u64 0, .string ⟨#[]⟩], .bool false]) (by simp [results, Try.results40, go_sem, x0, x1, x2, x3, x4, x5]) rfl ⟨hq4.out _ _ _ _ _ _, .inl ⟨HF.out, _, _, _, _, _, _, rfl⟩⟩
    subst he4
    go_wp2_with fail
    have hs4 := hq4.set0 n4
    clear hq4 zl2 zl1 zl0 x0 x1 x2 x3 x4 x5 y0 y1 y2 y3 y4 y5 u0 u1 fz0 fz1 fz2
    rw [rounds_succ]
    go_wp2_with fail
    refine (refNum_any b4 _ (by omega)).mono ?_
    rintro e wn5 ⟨rfl, hn5⟩
    have hq5 := hs4.new hn5
    have hl5 := numR_lenE b4 0
    generalize hE5 : numR b4 0 = r5 at *
    have HE5 := Lib.hid hE5
    obtain ⟨n5, b5, e5⟩ := r5
    simp only at hl5 ⊢
    clear hE5 hn5 hs4
    obtain ⟨zl2, zl1, zl0, x0, x1, x2, x3, x4, x5, y0, y1, y2, y3, y4, y5, u0, u1, fz0, fz1, fz2⟩ := hq5.facts
    by_cases he5 : e5 = 0
    rotate_left
    · have hF : ofR bs = none := by unfold ofR; simp [HE1.out, HE2.out, HE3.out, HE4.out, HE5.out, he5]
      have HF := Lib.hid hF
      have hne : ((e5 : Int) != 0) = true := by simpa using he5
      have hne2 : ((e5 : Int) == 0) = false := by simpa using he5
      clear hF he5
      go_wp2_with fail
      exact bodyPost_ret (v := .tuple #[.agg #[.int .u64 (n1 : Int), .int .u64 (n2 : Int), .bool false, .int .u64 0, .int .u64 0, .string ⟨#[]⟩], .bool false]) (by simp [results, Try.results40, go_sem, x0, x1, x2, x3, x4, x5]) rfl ⟨hq5.out _ _ _ _ _ _, .inl ⟨HF.out, _, _, _, _, _, _, rfl⟩⟩
    subst he5
    go_wp2_with fail
    have hs5 := hq5.set1 n5
    clear hq5 zl2 zl1 zl0 x0 x1 x2 x3 x4 x5 y0 y1 y2 y3 y4 y5 u0 u1 fz0 fz1 fz2
    rw [rounds_succ]
    go_wp2_with fail
    refine (refTake_text 0 b5 _ (by omega)).mono ?_
    rintro e wn6 ⟨rfl, hn6⟩
    have hq6 := hs5.new hn6
    have hl6 := textR_lenE b5 0
    generalize hE6 : textR b5 0 = r6 at *
    have HE6 := Lib.hid hE6
    obtain ⟨s6, b6, e6⟩ := r6
    simp only at hl6 ⊢
    clear hE6 hn6 hs5
    obtain ⟨zl2, zl1, zl0, x0, x1, x2, x3, x4, x5, y0, y1, y2, y3, y4, y5, u0, u1, fz0, fz1, fz2⟩ := hq6.facts
    have hA6 := (((hq6.setA 2 (.bool true)).setA 3 (.int .u64 (n4 : Int))).setA 4 (.int .u64 (n5 : Int))).setA 5 (.string (str s6))
    have hA7 : RO w _ _ #[.int .u64 (n1 : Int), .int .u64 (n2 : Int), .bool true, .int .u64 (n4 : Int), .int .u64 (n5 : Int), .string (str s6)] n4 n5 := hA6.new ((New.refl _).alloc (.cells #[.int .i64 1, .int .u64 0, .string (str s6), .bool false, .int .i64 0] 55))
    go_upto_region 25 with fail
    generalize World.alloc _ _ = w8 at *
    clear hq6 hA6 zl2 zl1 zl0 x0 x1 x2 x3 x4 x5 y0 y1 y2 y3 y4 y5 u0 u1 fz0 fz1 fz2
    obtain ⟨zl2, zl1, zl0, x0, x1, x2, x3, x4, x5, y0, y1, y2, y3, y4, y5, u0, u1, fz0, fz1, fz2⟩ := hA7.facts
    by_cases he6 : e6 = 0
    rotate_left
    · have hF : ofR bs = none := by unfold ofR; simp [HE1.out, HE2.out, HE3.out, HE4.out, HE5.out, HE6.out, he6]
      have HF := Lib.hid hF
      have hne : ((e6 : Int) != 0) = true := by simpa using he6
      have hne2 : ((e6 : Int) == 0) = false := by simpa using he6
      clear hF he6
      go_region
      all_goals go_wp2_with fail
      all_goals exact bodyPost_ret (v := .tuple #[.agg #[.int .u64 (n1 : Int), .int .u64 (n2 : Int), .bool true, .int .u64 (n4 : Int), .int .u64 (n5 : Int), .string (str s6)], .bool false]) (by simp [results, Try.results40, go_sem, x0, x1, x2, x3, x4, x5]) rfl ⟨(hA7.out _ _ _ _ _ _).drew, .inl ⟨HF.out, _, _, _, _, _, _, rfl⟩⟩
    subst he6
    cases b6 with
    | cons y ys =>
      have hF : ofR bs = none := by unfold ofR; simp [HE1.out, HE2.out, HE3.out, HE4.out, HE5.out, HE6.out]
      have HF := Lib.hid hF
      clear hF
      have hTL := str_toList (y :: ys)
      go_region
      all_goals go_wp2_with fail
      all_goals exact bodyPost_ret (v := .tuple #[.agg #[.int .u64 (n1 : Int), .int .u64 (n2 : Int), .bool true, .int .u64 (n4 : Int), .int .u64 (n5 : Int), .string (str s6)], .bool false]) (by simp [results, Try.results40, go_sem, x0, x1, x2, x3, x4, x5]) rfl ⟨(hA7.out _ _ _ _ _ _).drew, .inl ⟨HF.out, _, _, _, _, _, _, rfl⟩⟩
    | nil =>
      rw [show str [] = (⟨#[]⟩ : ByteArray) from rfl]
      have hF : ofR bs = if lessB n1 n2 n4 n5 = false then some ⟨n1, n2, true, n4, n5, s6⟩ else none := by unfold ofR; simp [HE1.out, HE2.out, HE3.out, HE4.out, HE5.out, HE6.out]
      have hL : ∀ wx, Calls Try.prog 18 #[.agg #[.int .u64 (n1 : Int), .int .u64 (n2 : Int)], .agg #[.int .u64 (n4 : Int), .int .u64 (n5 : Int)]] wx fun e w' => e = .returned (.bool (lessB n1 n2 n4 n5)) ∧ New wx w' := fun wx => refLess_any _ _ _ _ wx
      generalize lessB n1 n2 n4 n5 = lb at hL hF
      have HL := Lib.hid hL
      clear hL
      cases lb with
      | false =>
        rw [if_pos rfl] at hF
        have HF := Lib.hid hF
        clear hF
        go_region_held3 (fun w' => w'.cell? ⟨w.heap.size + 1, 0, none⟩ = some (.int .u64 (n1 : Int)) ∧ w'.cell? ⟨w.heap.size + 1, 1, none⟩ = some (.int .u64 (n2 : Int)) ∧ w'.cell? ⟨w.heap.size + 1, 2, none⟩ = some (.bool true) ∧ w'.cell? ⟨w.heap.size + 1, 3, none⟩ = some (.int .u64 (n4 : Int)) ∧ w'.cell? ⟨w.heap.size + 1, 4, none⟩ = some (.int .u64 (n5 : Int)) ∧ w'.cell? ⟨w.heap.size + 1, 5, none⟩ = some (.string (str s6))) (first | (with_reducible exact ⟨z0, z1, z2, z3, z4, z5⟩) | (with_reducible exact ⟨(far6 _ _ _ _ (by omega) _ _ _ _ _ _).trans z0, (far6 _ _ _ _ (by omega) _ _ _ _ _ _).trans z1, (far6 _ _ _ _ (by omega) _ _ _ _ _ _).trans z2, (far6 _ _ _ _ (by omega) _ _ _ _ _ _).trans z3, (far6 _ _ _ _ (by omega) _ _ _ _ _ _).trans z4, (far6 _ _ _ _ (by omega) _ _ _ _ _ _).trans z5⟩) | exact ⟨y0, y1, y2, y3, y4, y5⟩)
          (first | (go_at_call 18; refine (HL.out _).mono ?_; rintro e wb ⟨rfl, hnb⟩; have hqb := hA7.new ((New.refl w8).drew.trans hnb); obtain ⟨yl2, yl1, yl0, r0, r1, r2, r3, r4, r5, z0, z1, z2, z3, z4, z5, v0, v1, gz0, gz1, gz2⟩ := hqb.facts))
        all_goals go_wp2_with fail
        all_goals exact bodyPost_ret (v := .tuple #[.agg #[.int .u64 (n1 : Int), .int .u64 (n2 : Int), .bool true, .int .u64 (n4 : Int), .int .u64 (n5 : Int), .string (str s6)], .bool true]) (by simp [results, Try.results40, go_sem, r0, r1, r2, r3, r4, r5]) rfl ⟨hqb.out _ _ _ _ _ _, .inr ⟨_, HF.out, rfl⟩⟩
      | true =>
        rw [if_neg (by decide)] at hF
        have HF := Lib.hid hF
        clear hF
        go_region_held3 (fun w' => w'.cell? ⟨w.heap.size + 1, 0, none⟩ = some (.int .u64 (n1 : Int)) ∧ w'.cell? ⟨w.heap.size + 1, 1, none⟩ = some (.int .u64 (n2 : Int)) ∧ w'.cell? ⟨w.heap.size + 1, 2, none⟩ = some (.bool true) ∧ w'.cell? ⟨w.heap.size + 1, 3, none⟩ = some (.int .u64 (n4 : Int)) ∧ w'.cell? ⟨w.heap.size + 1, 4, none⟩ = some (.int .u64 (n5 : Int)) ∧ w'.cell? ⟨w.heap.size + 1, 5, none⟩ = some (.string (str s6))) (first | (with_reducible exact ⟨z0, z1, z2, z3, z4, z5⟩) | (with_reducible exact ⟨(far6 _ _ _ _ (by omega) _ _ _ _ _ _).trans z0, (far6 _ _ _ _ (by omega) _ _ _ _ _ _).trans z1, (far6 _ _ _ _ (by omega) _ _ _ _ _ _).trans z2, (far6 _ _ _ _ (by omega) _ _ _ _ _ _).trans z3, (far6 _ _ _ _ (by omega) _ _ _ _ _ _).trans z4, (far6 _ _ _ _ (by omega) _ _ _ _ _ _).trans z5⟩) | exact ⟨y0, y1, y2, y3, y4, y5⟩)
          (first | (go_at_call 18; refine (HL.out _).mono ?_; rintro e wb ⟨rfl, hnb⟩; have hqb := hA7.new ((New.refl w8).drew.trans hnb); obtain ⟨yl2, yl1, yl0, r0, r1, r2, r3, r4, r5, z0, z1, z2, z3, z4, z5, v0, v1, gz0, gz1, gz2⟩ := hqb.facts))
        all_goals go_wp2_with fail
        all_goals exact bodyPost_ret (v := .tuple #[.agg #[.int .u64 (n1 : Int), .int .u64 (n2 : Int), .bool true, .int .u64 (n4 : Int), .int .u64 (n5 : Int), .string (str s6)], .bool false]) (by simp [results, Try.results40, go_sem, r0, r1, r2, r3, r4, r5]) rfl ⟨hqb.out _ _ _ _ _ _, .inl ⟨HF.out, _, _, _, _, _, _, rfl⟩⟩
end Go.Proofs.Ytnjifcgomkdhdaa
