/- Chapter 5 (batch): the document's Get. Printed by genBat9.py. -/
import Derived.Test.YtdobingccipkkaaBat8
import Derived.Test.YtdobingccipkkaaRef03e
import Derived.LoopN
namespace Go.Proofs.Ytdobingccipkkaa
open Go.RowKit Go.Lap
set_option linter.unusedVariables false

/-- One write, as the document reads it. -/
def rdWR (bs : List UInt8) : Option (Wri × List UInt8) :=
  if (textR bs 0).2.2 = 0 then
    if (flagR (textR bs 0).2.1 0).2.2 = 0 then
      if (flagR (textR bs 0).2.1 0).1 = true then some (⟨str (textR bs 0).1, ⟨#[]⟩, true⟩, (flagR (textR bs 0).2.1 0).2.1)
      else if (textR (flagR (textR bs 0).2.1 0).2.1 0).2.2 = 0 then some (⟨str (textR bs 0).1, str (textR (flagR (textR bs 0).2.1 0).2.1 0).1, false⟩, (textR (flagR (textR bs 0).2.1 0).2.1 0).2.1) else none
    else none
  else none
/-- So many writes are left. -/
def finR (c r s : Nat) : List Wri → Nat → List UInt8 → Option BatR
  | acc, 0, bs => if bs = [] then if chk acc = 0 then some ⟨c, r, s, acc⟩ else none else none
  | acc, n + 1, bs => (rdWR bs).bind fun p => finR c r s (acc ++ [p.1]) n p.2
/-- The batch of bytes, as the document reads it. -/
def getR (bs : List UInt8) : Option BatR :=
  if (numR bs 0).2.2 = 0 then
    if (numR (numR bs 0).2.1 0).2.2 = 0 then
      if (numR (numR (numR bs 0).2.1 0).2.1 0).2.2 = 0 then
        if (numR (numR (numR (numR bs 0).2.1 0).2.1 0).2.1 0).2.2 = 0 then
          if 8 < (numR (numR (numR (numR bs 0).2.1 0).2.1 0).2.1 0).1 then none
          else finR (numR bs 0).1 (numR (numR bs 0).2.1 0).1 (numR (numR (numR bs 0).2.1 0).2.1 0).1 [] (numR (numR (numR (numR bs 0).2.1 0).2.1 0).2.1 0).1 (numR (numR (numR (numR bs 0).2.1 0).2.1 0).2.1 0).2.1
        else none
      else none
    else none
  else none

/-- The four blocks of the reader: the result, no batch, the batch, the four numbers. -/
structure RG (w wx : World) (b v : Array Value) : Prop where
  res : Blk wx w.heap.size 25 #[.int .u64 0, .int .u64 0, .int .u64 0, .slice none 0 0]
  non : Blk wx (w.heap.size + 1) 25 #[.int .u64 0, .int .u64 0, .int .u64 0, .slice none 0 0]
  bat : Blk wx (w.heap.size + 2) 25 b
  num : Blk wx (w.heap.size + 3) 65 v
  new : New w wx
theorem RG.keep {w wx wy : World} {b v : Array Value} (h : RG w wx b v) (hn : New wx wy) : RG w wy b v := ⟨h.res.new hn, h.non.new hn, h.bat.new hn, h.num.new hn, h.new.trans hn⟩
theorem RG.setV {w wx : World} {b v : Array Value} (h : RG w wx b v) (i : Nat) (u : Value) : RG w (wx.setCell ⟨w.heap.size + 3, i, none⟩ u) b (v.setIfInBounds i u) :=
  ⟨h.res.far (by show w.heap.size ≠ w.heap.size + 3; omega) _, h.non.far (by show w.heap.size + 1 ≠ w.heap.size + 3; omega) _, h.bat.far (by show w.heap.size + 2 ≠ w.heap.size + 3; omega) _, h.num.set_ i _, h.new.setCell (by show w.heap.size ≤ w.heap.size + 3; omega) _⟩
theorem RG.setB {w wx : World} {b v : Array Value} (h : RG w wx b v) (i : Nat) (u : Value) : RG w (wx.setCell ⟨w.heap.size + 2, i, none⟩ u) (b.setIfInBounds i u) v :=
  ⟨h.res.far (by show w.heap.size ≠ w.heap.size + 2; omega) _, h.non.far (by show w.heap.size + 1 ≠ w.heap.size + 2; omega) _, h.bat.set_ i _, h.num.far (by show w.heap.size + 3 ≠ w.heap.size + 2; omega) _, h.new.setCell (by show w.heap.size ≤ w.heap.size + 2; omega) _⟩
theorem RG.far {w wx : World} {b v : Array Value} (h : RG w wx b v) {p : Nat} (hp : w.heap.size + 3 < p) (i : Nat) (u : Value) : RG w (wx.setCell ⟨p, i, none⟩ u) b v :=
  ⟨h.res.far (by show w.heap.size ≠ p; omega) _, h.non.far (by show w.heap.size + 1 ≠ p; omega) _, h.bat.far (by show w.heap.size + 2 ≠ p; omega) _, h.num.far (by show w.heap.size + 3 ≠ p; omega) _, h.new.setCell (by show w.heap.size ≤ p; omega) _⟩
theorem RG.grown {w wx wy : World} {b v : Array Value} (h : RG w wx b v) {row : Option Nat} (hg : wx.grownBy wy row) (hr : ∀ k, row = some k → w.heap.size + 3 < k) : RG w wy b v :=
  ⟨h.res.grown hg (fun e => by have := hr _ e.symm; omega), h.non.grown hg (fun e => by have := hr _ e.symm; omega), h.bat.grown hg (fun e => by have := hr _ e.symm; omega), h.num.grown hg (fun e => by have := hr _ e.symm; omega), h.new.grown hg (fun k e => by have := hr k e; omega)⟩
theorem RG.facts {w wx : World} {b0 b1 b2 b3 v0 v1 v2 v3 : Value} (h : RG w wx #[b0, b1, b2, b3] #[v0, v1, v2, v3]) :
    w.heap.size + 3 < wx.heap.size ∧ w.heap.size + 2 < wx.heap.size ∧ w.heap.size + 1 < wx.heap.size ∧ w.heap.size < wx.heap.size ∧
    wx.cell? ⟨w.heap.size, 0, none⟩ = some (.int .u64 0) ∧ wx.cell? ⟨w.heap.size, 1, none⟩ = some (.int .u64 0) ∧ wx.cell? ⟨w.heap.size, 2, none⟩ = some (.int .u64 0) ∧ wx.cell? ⟨w.heap.size, 3, none⟩ = some (.slice none 0 0) ∧
    wx.cell? ⟨w.heap.size + 1, 0, none⟩ = some (.int .u64 0) ∧ wx.cell? ⟨w.heap.size + 1, 1, none⟩ = some (.int .u64 0) ∧ wx.cell? ⟨w.heap.size + 1, 2, none⟩ = some (.int .u64 0) ∧ wx.cell? ⟨w.heap.size + 1, 3, none⟩ = some (.slice none 0 0) ∧
    wx.cell? ⟨w.heap.size + 2, 0, none⟩ = some b0 ∧ wx.cell? ⟨w.heap.size + 2, 1, none⟩ = some b1 ∧ wx.cell? ⟨w.heap.size + 2, 2, none⟩ = some b2 ∧ wx.cell? ⟨w.heap.size + 2, 3, none⟩ = some b3 ∧
    wx.cell? ⟨w.heap.size + 3, 0, none⟩ = some v0 ∧ wx.cell? ⟨w.heap.size + 3, 1, none⟩ = some v1 ∧ wx.cell? ⟨w.heap.size + 3, 2, none⟩ = some v2 ∧ wx.cell? ⟨w.heap.size + 3, 3, none⟩ = some v3 ∧
    (∀ i, wx.frozen? ⟨w.heap.size, i, none⟩ = false) ∧ (∀ i, wx.frozen? ⟨w.heap.size + 2, i, none⟩ = false) ∧ (∀ i, wx.frozen? ⟨w.heap.size + 3, i, none⟩ = false) :=
  ⟨h.num.lt, h.bat.lt, h.non.lt, h.res.lt, h.res.cell 0, h.res.cell 1, h.res.cell 2, h.res.cell 3, h.non.cell 0, h.non.cell 1, h.non.cell 2, h.non.cell 3, h.bat.cell 0, h.bat.cell 1, h.bat.cell 2, h.bat.cell 3, h.num.cell 0, h.num.cell 1, h.num.cell 2, h.num.cell 3, h.res.frozen, h.bat.frozen, h.num.frozen⟩
theorem RG.start (w : World) : RG w ((((w.alloc (.cells #[.int .u64 0, .int .u64 0, .int .u64 0, .slice none 0 0] 25)).alloc (.cells #[.int .u64 0, .int .u64 0, .int .u64 0, .slice none 0 0] 25)).alloc (.cells #[.int .u64 0, .int .u64 0, .int .u64 0, .slice none 0 0] 25)).alloc (.cells #[.int .u64 0, .int .u64 0, .int .u64 0, .int .u64 0] 65)) #[.int .u64 0, .int .u64 0, .int .u64 0, .slice none 0 0] #[.int .u64 0, .int .u64 0, .int .u64 0, .int .u64 0] := by
  have h2 := Blk.mk_new (w.alloc (.cells #[.int .u64 0, .int .u64 0, .int .u64 0, .slice none 0 0] 25)) 25 #[.int .u64 0, .int .u64 0, .int .u64 0, .slice none 0 0]
  have h3 := Blk.mk_new ((w.alloc (.cells #[.int .u64 0, .int .u64 0, .int .u64 0, .slice none 0 0] 25)).alloc (.cells #[.int .u64 0, .int .u64 0, .int .u64 0, .slice none 0 0] 25)) 25 #[.int .u64 0, .int .u64 0, .int .u64 0, .slice none 0 0]
  have h4 := Blk.mk_new (((w.alloc (.cells #[.int .u64 0, .int .u64 0, .int .u64 0, .slice none 0 0] 25)).alloc (.cells #[.int .u64 0, .int .u64 0, .int .u64 0, .slice none 0 0] 25)).alloc (.cells #[.int .u64 0, .int .u64 0, .int .u64 0, .slice none 0 0] 25)) 65 #[.int .u64 0, .int .u64 0, .int .u64 0, .int .u64 0]
  rw [World.size_alloc] at h2
  rw [World.size_alloc, World.size_alloc] at h3
  rw [World.size_alloc, World.size_alloc, World.size_alloc] at h4
  exact ⟨(((Blk.mk_new w _ _).alloc _).alloc _).alloc _, (h2.alloc _).alloc _, h3.alloc _, h4, ((((New.refl w).alloc _).alloc _).alloc _).alloc _⟩
/-- The result is laid: four stores. -/
theorem RG.out {w wx : World} {b v : Array Value} (h : RG w wx b v) (c0 c1 c2 c3 : Value) : New w ((((wx.setCell ⟨w.heap.size, 0, none⟩ c0).setCell ⟨w.heap.size, 1, none⟩ c1).setCell ⟨w.heap.size, 2, none⟩ c2).setCell ⟨w.heap.size, 3, none⟩ c3) :=
  (((h.new.setCell (Nat.le_refl _) _).setCell (Nat.le_refl _) _).setCell (Nat.le_refl _) _).setCell (Nat.le_refl _) _

/-- So many writes are read. -/
def RGRel (w0 wr : World) (n1 n2 n3 n : Nat) (bs0 : List UInt8) (L k : Nat) (s : Value) : Prop := ∃ (bs : List UInt8) (vO : Value) (acc : List Wri),
  s = .string (str bs) ∧ RG w0 wr #[.int .u64 (n1 : Int), .int .u64 (n2 : Int), .int .u64 (n3 : Int), vO] #[.int .u64 (n1 : Int), .int .u64 (n2 : Int), .int .u64 (n3 : Int), .int .u64 (n : Int)] ∧
  Owns wr (w0.heap.size + 4) 43 3 Wri.enc vO acc ∧ bs.length ≤ L ∧ acc.length = k ∧ getR bs0 = finR n1 n2 n3 acc (n - k) bs

set_option maxRecDepth 100000 in
set_option maxHeartbeats 8000000 in
theorem refGet_any (bs : List UInt8) (w : World) (hb : bs.length ≤ 100000000) :
    Calls Try.prog 20 #[.string (str bs)] w (GetPostB w (getR bs)) := by
  have hst := RG.start w
  go_enter Try.func20, Try.ntmps20
  go_wp2_with fail
  refine wp_loop_rounds 5 ?_
  rw [rounds_succ]
  go_wp2_with fail
  refine (refNum_any bs _ (by omega)).mono ?_
  rintro e wn1 ⟨rfl, hn1⟩
  have hq1 := hst.keep hn1
  have hl1 := numR_lenE bs 0
  generalize hE1 : numR bs 0 = r1 at *
  have HE1 := Lib.hid hE1
  obtain ⟨n1, b1, e1⟩ := r1
  simp only at hl1 ⊢
  clear hE1 hn1 hst
  obtain ⟨zl3, zl2, zl1, zl0, x0, x1, x2, x3, m0, m1, m2, m3, y0, y1, y2, y3, c0, c1, c2, c3, fz0, fz2, fz3⟩ := hq1.facts
  by_cases he1 : e1 = 0
  rotate_left
  · have hF : getR bs = none := by unfold getR; simp [HE1.out, he1]
    have HF := Lib.hid hF
    have hne : ((e1 : Int) != 0) = true := by simpa using he1
    clear hF he1
    go_wp2_with fail
    exact bodyPost_ret (v := .tuple #[.agg #[.int .u64 0, .int .u64 0, .int .u64 0, .slice none 0 0], .int .i64 55]) (by simp [results, Try.results20, go_sem, x0, x1, x2, x3]) rfl ⟨hq1.out _ _ _ _, .inl ⟨HF.out, rfl⟩⟩
  subst he1
  go_wp2_with fail
  have hs1 := hq1.setV 0 (.int .u64 (n1 : Int))
  clear hq1 zl3 zl2 zl1 zl0 x0 x1 x2 x3 m0 m1 m2 m3 y0 y1 y2 y3 c0 c1 c2 c3 fz0 fz2 fz3
  rw [rounds_succ]
  go_wp2_with fail
  refine (refNum_any b1 _ (by omega)).mono ?_
  rintro e wn2 ⟨rfl, hn2⟩
  have hq2 := hs1.keep hn2
  have hl2 := numR_lenE b1 0
  generalize hE2 : numR b1 0 = r2 at *
  have HE2 := Lib.hid hE2
  obtain ⟨n2, b2, e2⟩ := r2
  simp only at hl2 ⊢
  clear hE2 hn2 hs1
  obtain ⟨zl3, zl2, zl1, zl0, x0, x1, x2, x3, m0, m1, m2, m3, y0, y1, y2, y3, c0, c1, c2, c3, fz0, fz2, fz3⟩ := hq2.facts
  by_cases he2 : e2 = 0
  rotate_left
  · have hF : getR bs = none := by unfold getR; simp [HE1.out, HE2.out, he2]
    have HF := Lib.hid hF
    have hne : ((e2 : Int) != 0) = true := by simpa using he2
    clear hF he2
    go_wp2_with fail
    exact bodyPost_ret (v := .tuple #[.agg #[.int .u64 0, .int .u64 0, .int .u64 0, .slice none 0 0], .int .i64 55]) (by simp [results, Try.results20, go_sem, x0, x1, x2, x3]) rfl ⟨hq2.out _ _ _ _, .inl ⟨HF.out, rfl⟩⟩
  subst he2
  go_wp2_with fail
  have hs2 := hq2.setV 1 (.int .u64 (n2 : Int))
  clear hq2 zl3 zl2 zl1 zl0 x0 x1 x2 x3 m0 m1 m2 m3 y0 y1 y2 y3 c0 c1 c2 c3 fz0 fz2 fz3
  rw [rounds_succ]
  go_wp2_with fail
  refine (refNum_any b2 _ (by omega)).mono ?_
  rintro e wn3 ⟨rfl, hn3⟩
  have hq3 := hs2.keep hn3
  have hl3 := numR_lenE b2 0
  generalize hE3 : numR b2 0 = r3 at *
  have HE3 := Lib.hid hE3
  obtain ⟨n3, b3, e3⟩ := r3
  simp only at hl3 ⊢
  clear hE3 hn3 hs2
  obtain ⟨zl3, zl2, zl1, zl0, x0, x1, x2, x3, m0, m1, m2, m3, y0, y1, y2, y3, c0, c1, c2, c3, fz0, fz2, fz3⟩ := hq3.facts
  by_cases he3 : e3 = 0
  rotate_left
  · have hF : getR bs = none := by unfold getR; simp [HE1.out, HE2.out, HE3.out, he3]
    have HF := Lib.hid hF
    have hne : ((e3 : Int) != 0) = true := by simpa using he3
    clear hF he3
    go_wp2_with fail
    exact bodyPost_ret (v := .tuple #[.agg #[.int .u64 0, .int .u64 0, .int .u64 0, .slice none 0 0], .int .i64 55]) (by simp [results, Try.results20, go_sem, x0, x1, x2, x3]) rfl ⟨hq3.out _ _ _ _, .inl ⟨HF.out, rfl⟩⟩
  subst he3
  go_wp2_with fail
  have hs3 := hq3.setV 2 (.int .u64 (n3 : Int))
  clear hq3 zl3 zl2 zl1 zl0 x0 x1 x2 x3 m0 m1 m2 m3 y0 y1 y2 y3 c0 c1 c2 c3 fz0 fz2 fz3
  rw [rounds_succ]
  go_wp2_with fail
  refine (refNum_any b3 _ (by omega)).mono ?_
  rintro e wn4 ⟨rfl, hn4⟩
  have hq4 := hs3.keep hn4
  have hl4 := numR_lenE b3 0
  generalize hE4 : numR b3 0 = r4 at *
  have HE4 := Lib.hid hE4
  obtain ⟨n4, b4, e4⟩ := r4
  simp only at hl4 ⊢
  clear hE4 hn4 hs3
  obtain ⟨zl3, zl2, zl1, zl0, x0, x1, x2, x3, m0, m1, m2, m3, y0, y1, y2, y3, c0, c1, c2, c3, fz0, fz2, fz3⟩ := hq4.facts
  by_cases he4 : e4 = 0
  rotate_left
  · have hF : getR bs = none := by unfold getR; simp [HE1.out, HE2.out, HE3.out, HE4.out, he4]
    have HF := Lib.hid hF
    have hne : ((e4 : Int) != 0) = true := by simpa using he4
    clear hF he4
    go_wp2_with fail
    exact bodyPost_ret (v := .tuple #[.agg #[.int .u64 0, .int .u64 0, .int .u64 0, .slice none 0 0], .int .i64 55]) (by simp [results, Try.results20, go_sem, x0, x1, x2, x3]) rfl ⟨hq4.out _ _ _ _, .inl ⟨HF.out, rfl⟩⟩
  subst he4
  go_wp2_with fail
  have hs4 := hq4.setV 3 (.int .u64 (n4 : Int))
  clear hq4 zl3 zl2 zl1 zl0 x0 x1 x2 x3 m0 m1 m2 m3 y0 y1 y2 y3 c0 c1 c2 c3 fz0 fz2 fz3
  rw [rounds_succ]
  obtain ⟨zl3, zl2, zl1, zl0, x0, x1, x2, x3, m0, m1, m2, m3, y0, y1, y2, y3, c0, c1, c2, c3, fz0, fz2, fz3⟩ := hs4.facts
  by_cases h8 : 8 < n4
  · have h8i : (8 : Int) < (n4 : Int) := by omega
    have HF : Hid (getR bs = none) := Lib.hid (by unfold getR; simp [HE1.out, HE2.out, HE3.out, HE4.out]; intros; omega)
    clear h8
    have hB := ((hs4.setB 0 (.int .u64 (n1 : Int))).setB 1 (.int .u64 (n2 : Int))).setB 2 (.int .u64 (n3 : Int))
    go_wp2_with fail
    go_region
    all_goals go_wp2_with fail
    exact bodyPost_ret (v := .tuple #[.agg #[.int .u64 0, .int .u64 0, .int .u64 0, .slice none 0 0], .int .i64 55]) (by simp [results, Try.results20, go_sem, x0, x1, x2, x3]) rfl ⟨(hB.out _ _ _ _).drew, .inl ⟨HF.out, rfl⟩⟩
  have h8i : ¬ (8 : Int) < (n4 : Int) := by omega
  have HF : Hid (getR bs = finR n1 n2 n3 [] n4 b4) := Lib.hid (by unfold getR; simp [HE1.out, HE2.out, HE3.out, HE4.out, h8])
  have hB := (((hs4.setB 0 (.int .u64 (n1 : Int))).setB 1 (.int .u64 (n2 : Int))).setB 2 (.int .u64 (n3 : Int))).keep (New.refl _).drew
  have HR0 : Hid (RGRel w _ n1 n2 n3 n4 bs b4.length 0 (.string (str b4))) := Lib.hid ⟨b4, _, [], rfl, hB, Owns.nil _ _ _ _ _, Nat.le_refl _, rfl, HF.out⟩
  go_wp2_with fail
  go_region
  go_wp2_with fail
  clear hs4 hB HE1 HE2 HE3 HE4 zl3 zl2 zl1 zl0 x0 x1 x2 x3 m0 m1 m2 m3 y0 y1 y2 y3 c0 c1 c2 c3 fz0 fz2 fz3
  go_loopw [0, 11] (fun s i wr => ∃ k : Nat, k ≤ n4 ∧ i = .int .u64 k ∧ RGRel w wr n1 n2 n3 n4 bs b4.length k s) (fun _ i _ => n4 - (intOf i).toNat)
  case atStart => exact ⟨0, by omega, rfl, HR0.out⟩
  case round =>
    clear HR0 HF
    obtain ⟨k, hk, rfl, bx, vO, acc, rfl, hG, hO, hbl, hal, hws⟩ := hrel
    have HWS := Lib.hid hws
    clear hws
    obtain ⟨zl3, zl2, zl1, zl0, x0, x1, x2, x3, m0, m1, m2, m3, y0, y1, y2, y3, c0, c1, c2, c3, fz0, fz2, fz3⟩ := hG.facts
    by_cases hlt : k < n4
    · have hlt2 : (k : Int) < (n4 : Int) := by omega
      have hk0 : (0 : Int) ≤ (k : Int) := by omega
      have hst := HWS.out
      rw [show n4 - k = (n4 - (k + 1)) + 1 by omega] at hst
      have HST : Hid (getR bs = (rdWR bx).bind fun p => finR n1 n2 n3 (acc ++ [p.1]) (n4 - (k + 1)) p.2) := Lib.hid hst
      clear hst HWS
      have hX := Blk.mk_new wr 43 #[.string ⟨#[]⟩, .string ⟨#[]⟩, .bool false]
      have hnX := (New.refl wr).alloc (.cells #[.string ⟨#[]⟩, .string ⟨#[]⟩, .bool false] 43)
      have hpX : w.heap.size + 3 < wr.heap.size := zl3
      have hvX : vO.ownBlock ≠ some wr.heap.size := fun h => by have := (hO.lt _ h).2; omega
      have hG5 := hG.keep hnX
      have hO5 := hO.new hnX
      clear hG hO
      go_wp2_with fail
      refine (refTake_text 0 bx _ (by omega)).mono ?_
      rintro e w6 ⟨rfl, hn6⟩
      clear zl3 zl2 zl1 zl0 x0 x1 x2 x3 m0 m1 m2 m3 y0 y1 y2 y3 c0 c1 c2 c3 fz0 fz2 fz3
      have hl6 := textR_lenE bx 0
      have hxf := hn6.size
      rw [World.size_alloc] at hxf
      have hG6 := (hG5.keep hn6).keep ((New.refl w6).alloc (.cells #[.int .i64 1, .int .u64 0, .string (str (textR bx 0).1), .bool false, .int .i64 0] 69))
      have hO6 := (hO5.new hn6).new ((New.refl w6).alloc (.cells #[.int .i64 1, .int .u64 0, .string (str (textR bx 0).1), .bool false, .int .i64 0] 69))
      have hX6 := (hX.new hn6).alloc (.cells #[.int .i64 1, .int .u64 0, .string (str (textR bx 0).1), .bool false, .int .i64 0] 69)
      have hF6 := Blk.mk_new w6 69 #[.int .i64 1, .int .u64 0, .string (str (textR bx 0).1), .bool false, .int .i64 0]
      have hrw : rdWR bx = if (textR bx 0).2.2 = 0 then if (flagR (textR bx 0).2.1 0).2.2 = 0 then if (flagR (textR bx 0).2.1 0).1 = true then some (⟨str (textR bx 0).1, ⟨#[]⟩, true⟩, (flagR (textR bx 0).2.1 0).2.1) else if (textR (flagR (textR bx 0).2.1 0).2.1 0).2.2 = 0 then some (⟨str (textR bx 0).1, str (textR (flagR (textR bx 0).2.1 0).2.1 0).1, false⟩, (textR (flagR (textR bx 0).2.1 0).2.1 0).2.1) else none else none else none := rfl
      have HRW := Lib.hid hrw
      clear hrw
      generalize textR bx 0 = r6 at *
      obtain ⟨s6, b6, e6⟩ := r6
      simp only at hl6 hF6 hX6 hG6 hO6 ⊢
      clear hG5 hO5 hX hn6 hnX
      go_wp2_with fail
      refine (refTake_flag 0 b6 _).mono ?_
      rintro e w7 ⟨rfl, hn7⟩
      have hl7 := flagR_lenE b6 0
      have hA7 := (New.refl w7).alloc (.cells #[.int .i64 2, .int .u64 0, .string (str []), .bool (flagR b6 0).1, .int .i64 0] 69)
      have hG7 := (hG6.keep hn7).keep hA7
      have hO7 := (hO6.new hn7).new hA7
      have hX7 := (hX6.new hn7).new hA7
      have hF7 := (hF6.new hn7).new hA7
      have hH7 := Blk.mk_new w7 69 #[.int .i64 2, .int .u64 0, .string (str []), .bool (flagR b6 0).1, .int .i64 0]
      have hff := hn7.size
      rw [World.size_alloc] at hff
      generalize flagR b6 0 = r7 at *
      obtain ⟨yes, b7, e7⟩ := r7
      simp only at hl7 hG7 hO7 hX7 hF7 hH7 ⊢
      clear hG6 hO6 hX6 hF6 hn7 hA7
      go_upto_region 20 with fail
      generalize w7.alloc _ = w8 at *
      generalize wr.heap.size = x at *
      generalize w6.heap.size = f1 at *
      generalize w7.heap.size = f2 at *
      obtain ⟨zl3, zl2, zl1, zl0, x0, x1, x2, x3, m0, m1, m2, m3, y0, y1, y2, y3, c0, c1, c2, c3, fz0, fz2, fz3⟩ := hG7.facts
      obtain ⟨p0, p1, p2, p3, pz⟩ := Blk3F hX7
      obtain ⟨q0, q1, q2, q3, q4, q5, qz⟩ := Blk5F hF7
      obtain ⟨r0, r1, r2, r3, r4, r5, rz⟩ := Blk5F hH7
      by_cases he6 : e6 = 0
      rotate_left
      · have HF : Hid (getR bs = none) := Lib.hid (by rw [HST.out, HRW.out]; simp [he6])
        have hne : ((e6 : Int) != 0) = true := by simpa using he6
        have hne2 : ((e6 : Int) == 0) = false := by simpa using he6
        clear he6
        go_wp2_with fail
        exact bodyPost_ret (v := .tuple #[.agg #[.int .u64 0, .int .u64 0, .int .u64 0, .slice none 0 0], .int .i64 55]) (by simp [results, Try.results20, go_sem, x0, x1, x2, x3]) rfl ⟨hG7.out _ _ _ _, .inl ⟨HF.out, rfl⟩⟩
      subst he6
      by_cases he7 : e7 = 0
      rotate_left
      · have HF : Hid (getR bs = none) := Lib.hid (by rw [HST.out, HRW.out]; simp [he7])
        have hne : ((e7 : Int) != 0) = true := by simpa using he7
        have hne2 : ((e7 : Int) == 0) = false := by simpa using he7
        clear he7
        go_wp2_with fail
        exact bodyPost_ret (v := .tuple #[.agg #[.int .u64 0, .int .u64 0, .int .u64 0, .slice none 0 0], .int .i64 55]) (by simp [results, Try.results20, go_sem, x0, x1, x2, x3]) rfl ⟨hG7.out _ _ _ _, .inl ⟨HF.out, rfl⟩⟩
      subst he7
      cases yes with
      | true =>
        have HF : Hid (getR bs = finR n1 n2 n3 (acc ++ [⟨str s6, ⟨#[]⟩, true⟩]) (n4 - (k + 1)) b7) := Lib.hid (by rw [HST.out, HRW.out]; simp)
        have hG8 := ((hG7.far hpX 0 (.string (str s6))).far hpX 2 (.bool true)).keep (New.refl _).drew
        have hu8 : Upd (· = x) w8 ((w8.setCell ⟨x, 0, none⟩ (.string (str s6))).setCell ⟨x, 2, none⟩ (.bool true)) := ((Upd.refl _ w8).setIn 0 _).setIn 2 _
        have hO8 := (hO7.upd hu8 (fun k hk e => hvX (by rw [hk, e]))).new (New.refl _).drew
        have hX8 : Blk (((w8.setCell ⟨x, 0, none⟩ (.string (str s6))).setCell ⟨x, 2, none⟩ (.bool true)).drew) x 43 #[.string (str s6), .string ⟨#[]⟩, .bool true] := ((Blk.set_ hX7 0 (.string (str s6))).set_ 2 (.bool true)).drew
        go_wp2_with fail
        go_region
        have hsz : (((w8.setCell ⟨x, 0, none⟩ (.string (str s6))).setCell ⟨x, 2, none⟩ (.bool true)).drew).heap.size = w8.heap.size := by show ((w8.setCell _ _).setCell _ _).heap.size = w8.heap.size; rw [World.size_setCell, World.size_setCell]
        have hY := hG8.keep ((New.refl (((w8.setCell ⟨x, 0, none⟩ (.string (str s6))).setCell ⟨x, 2, none⟩ (.bool true)).drew)).alloc (.cells #[.string (str s6), .string ⟨#[]⟩, .bool true] 43))
        have hOY := hO8.new ((New.refl (((w8.setCell ⟨x, 0, none⟩ (.string (str s6))).setCell ⟨x, 2, none⟩ (.bool true)).drew)).alloc (.cells #[.string (str s6), .string ⟨#[]⟩, .bool true] 43))
        have hYb := Blk.mk_new (((w8.setCell ⟨x, 0, none⟩ (.string (str s6))).setCell ⟨x, 2, none⟩ (.bool true)).drew) 43 #[.string (str s6), .string ⟨#[]⟩, .bool true]
        rw [hsz] at hYb
        have HM1 := Lib.hid (show acc.length + 1 ≤ maxLen by unfold maxLen; omega)
        have HM2 := Lib.hid (show (acc.length + 1) * 40 ≤ 140737488355328 by omega)
        have HM3 := Lib.hid (show w.heap.size + 4 ≤ ((((w8.setCell ⟨x, 0, none⟩ (.string (str s6))).setCell ⟨x, 2, none⟩ (.bool true)).drew).alloc (.cells #[.string (str s6), .string ⟨#[]⟩, .bool true] 43)).heap.size by have := hY.num.lt; omega)
        clear zl3 zl2 zl1 zl0 x0 x1 x2 x3 m0 m1 m2 m3 y0 y1 y2 y3 c0 c1 c2 c3 fz0 fz2 fz3 p0 p1 p2 p3 pz q0 q1 q2 q3 q4 q5 qz r0 r1 r2 r3 r4 r5 rz
        obtain ⟨p0, p1, p2, p3, pz⟩ := Blk3F hX8
        obtain ⟨zl3, zl2, zl1, zl0, x0, x1, x2, x3, m0, m1, m2, m3, y0, y1, y2, y3, c0, c1, c2, c3, fz0, fz2, fz3⟩ := hG8.facts
        go_wp2_with (at_builtin; refine wpList_app wTy Wri.encOk rfl _ _ rfl rfl rfl hOY (SlIn.one (x := ⟨str s6, ⟨#[]⟩, true⟩) hYb Wri.encOk rfl) HM1.out HM2.out HM3.out ?_; intro v9 w9 ho9 hg9 hb9; obtain ⟨A9, n9, c9, rfl⟩ := (Owns.slIn Wri.encOk ho9).shape; have hG9 := hY.grown hg9 (fun k hk => by have := (hOY.lt k hk).1; omega); obtain ⟨tzl3, tzl2, tzl1, tzl0, tx0, tx1, tx2, tx3, tm0, tm1, tm2, tm3, ty0, ty1, ty2, ty3, tc0, tc1, tc2, tc3, tfz0, tfz2, tfz3⟩ := hG9.facts)
        have hG10 := hG9.setB 3 (.slice A9 n9 c9)
        have hu10 : Upd (· = w.heap.size + 2) w9 (w9.setCell ⟨w.heap.size + 2, 3, none⟩ (.slice A9 n9 c9)) := (Upd.refl _ w9).setIn 3 _
        have hO10 := ho9.upd hu10 (fun k hk e => by have := (ho9.lt k hk).1; omega)
        go_roundw
        case rel => exact ⟨k + 1, by omega, by go_num, b7, _, _, rfl, hG10, hO10, by omega, by simp [hal], HF.out⟩
        case measure => simp [intOf]; omega
      | false =>
        have hG8 := ((hG7.far hpX 0 (.string (str s6))).far hpX 2 (.bool false)).keep (New.refl _).drew
        have hu8 : Upd (· = x) w8 ((w8.setCell ⟨x, 0, none⟩ (.string (str s6))).setCell ⟨x, 2, none⟩ (.bool false)) := ((Upd.refl _ w8).setIn 0 _).setIn 2 _
        have hO8 := (hO7.upd hu8 (fun k hk e => hvX (by rw [hk, e]))).new (New.refl _).drew
        have hX8 : Blk (((w8.setCell ⟨x, 0, none⟩ (.string (str s6))).setCell ⟨x, 2, none⟩ (.bool false)).drew) x 43 #[.string (str s6), .string ⟨#[]⟩, .bool false] := ((Blk.set_ hX7 0 (.string (str s6))).set_ 2 (.bool false)).drew
        go_wp2_with fail
        go_region
        go_wp2_with fail
        refine (refTake_text 0 b7 _ (by omega)).mono ?_
        rintro e w9 ⟨rfl, hn9⟩
        have hl9 := textR_lenE b7 0
        have hA9 := (New.refl w9).alloc (.cells #[.int .i64 1, .int .u64 0, .string (str (textR b7 0).1), .bool false, .int .i64 0] 69)
        have hH9 := Blk.mk_new w9 69 #[.int .i64 1, .int .u64 0, .string (str (textR b7 0).1), .bool false, .int .i64 0]
        have hG9 := (hG8.keep hn9).keep hA9
        have hO9 := (hO8.new hn9).new hA9
        have hX9 := (hX8.new hn9).new hA9
        generalize textR b7 0 = r9 at *
        obtain ⟨s9, b9, e9⟩ := r9
        simp only at hl9 hG9 hO9 hX9 hH9 ⊢
        clear hG8 hO8 hX8 hG7 hO7 hX7 hF7 hH7 hn9 hA9 hu8 zl3 zl2 zl1 zl0 x0 x1 x2 x3 m0 m1 m2 m3 y0 y1 y2 y3 c0 c1 c2 c3 fz0 fz2 fz3 p0 p1 p2 p3 pz q0 q1 q2 q3 q4 q5 qz r0 r1 r2 r3 r4 r5 rz
        go_upto_region 25 with fail
        generalize w9.alloc _ = w10 at *
        generalize w9.heap.size = f3 at *
        obtain ⟨zl3, zl2, zl1, zl0, x0, x1, x2, x3, m0, m1, m2, m3, y0, y1, y2, y3, c0, c1, c2, c3, fz0, fz2, fz3⟩ := hG9.facts
        obtain ⟨p0, p1, p2, p3, pz⟩ := Blk3F hX9
        obtain ⟨q0, q1, q2, q3, q4, q5, qz⟩ := Blk5F hH9
        by_cases he9 : e9 = 0
        rotate_left
        · have HF : Hid (getR bs = none) := Lib.hid (by rw [HST.out, HRW.out]; simp [he9])
          have hne : ((e9 : Int) != 0) = true := by simpa using he9
          clear he9
          go_wp2_with fail
          exact bodyPost_ret (v := .tuple #[.agg #[.int .u64 0, .int .u64 0, .int .u64 0, .slice none 0 0], .int .i64 55]) (by simp [results, Try.results20, go_sem, x0, x1, x2, x3]) rfl ⟨hG9.out _ _ _ _, .inl ⟨HF.out, rfl⟩⟩
        subst he9
        have HF : Hid (getR bs = finR n1 n2 n3 (acc ++ [⟨str s6, str s9, false⟩]) (n4 - (k + 1)) b9) := Lib.hid (by rw [HST.out, HRW.out]; simp)
        have hG10 := hG9.far hpX 1 (.string (str s9))
        have hu10 : Upd (· = x) w10 (w10.setCell ⟨x, 1, none⟩ (.string (str s9))) := (Upd.refl _ w10).setIn 1 _
        have hO10 := hO9.upd hu10 (fun k hk e => hvX (by rw [hk, e]))
        have hX10 : Blk (w10.setCell ⟨x, 1, none⟩ (.string (str s9))) x 43 #[.string (str s6), .string (str s9), .bool false] := Blk.set_ hX9 1 (.string (str s9))
        go_upto_region 28 with fail
        have hsz : (w10.setCell ⟨x, 1, none⟩ (.string (str s9))).heap.size = w10.heap.size := by rw [World.size_setCell]
        have hY := hG10.keep ((New.refl (w10.setCell ⟨x, 1, none⟩ (.string (str s9)))).alloc (.cells #[.string (str s6), .string (str s9), .bool false] 43))
        have hOY := hO10.new ((New.refl (w10.setCell ⟨x, 1, none⟩ (.string (str s9)))).alloc (.cells #[.string (str s6), .string (str s9), .bool false] 43))
        have hYb := Blk.mk_new (w10.setCell ⟨x, 1, none⟩ (.string (str s9))) 43 #[.string (str s6), .string (str s9), .bool false]
        rw [hsz] at hYb
        have HM1 := Lib.hid (show acc.length + 1 ≤ maxLen by unfold maxLen; omega)
        have HM2 := Lib.hid (show (acc.length + 1) * 40 ≤ 140737488355328 by omega)
        have HM3 := Lib.hid (show w.heap.size + 4 ≤ ((w10.setCell ⟨x, 1, none⟩ (.string (str s9))).alloc (.cells #[.string (str s6), .string (str s9), .bool false] 43)).heap.size by have := hY.num.lt; omega)
        clear zl3 zl2 zl1 zl0 x0 x1 x2 x3 m0 m1 m2 m3 y0 y1 y2 y3 c0 c1 c2 c3 fz0 fz2 fz3 p0 p1 p2 p3 pz q0 q1 q2 q3 q4 q5 qz
        obtain ⟨p0, p1, p2, p3, pz⟩ := Blk3F hX10
        obtain ⟨zl3, zl2, zl1, zl0, x0, x1, x2, x3, m0, m1, m2, m3, y0, y1, y2, y3, c0, c1, c2, c3, fz0, fz2, fz3⟩ := hG10.facts
        go_wp2_with (at_builtin; refine wpList_app wTy Wri.encOk rfl _ _ rfl rfl rfl hOY (SlIn.one (x := ⟨str s6, (str s9), false⟩) hYb Wri.encOk rfl) HM1.out HM2.out HM3.out ?_; intro v9 w9 ho9 hg9 hb9; obtain ⟨A9, n9, c9, rfl⟩ := (Owns.slIn Wri.encOk ho9).shape; have hG9 := hY.grown hg9 (fun k hk => by have := (hOY.lt k hk).1; omega); obtain ⟨tzl3, tzl2, tzl1, tzl0, tx0, tx1, tx2, tx3, tm0, tm1, tm2, tm3, ty0, ty1, ty2, ty3, tc0, tc1, tc2, tc3, tfz0, tfz2, tfz3⟩ := hG9.facts)
        have hG10 := hG9.setB 3 (.slice A9 n9 c9)
        have hu10 : Upd (· = w.heap.size + 2) w9 (w9.setCell ⟨w.heap.size + 2, 3, none⟩ (.slice A9 n9 c9)) := (Upd.refl _ w9).setIn 3 _
        have hO10 := ho9.upd hu10 (fun k hk e => by have := (ho9.lt k hk).1; omega)
        go_roundw
        case rel => exact ⟨k + 1, by omega, by go_num, b9, _, _, rfl, hG10, hO10, by omega, by simp [hal], HF.out⟩
        case measure => simp [intOf]; omega
    · have hlt2 : ¬ (k : Int) < (n4 : Int) := by omega
      have hkn : n4 - k = 0 := by omega
      have hws2 := HWS.out
      rw [hkn] at hws2
      have HF0 : Hid (getR bs = if bx = [] then if chk acc = 0 then some ⟨n1, n2, n3, acc⟩ else none else none) := Lib.hid hws2
      clear hws2 hkn HWS
      cases bx with
      | cons y ys =>
        have HF : Hid (getR bs = none) := Lib.hid (by rw [HF0.out, if_neg (by simp)])
        clear HF0
        have hTL := str_toList (y :: ys)
        go_wp2_with fail
        exact bodyPost_ret (v := .tuple #[.agg #[.int .u64 0, .int .u64 0, .int .u64 0, .slice none 0 0], .int .i64 55]) (by simp [results, Try.results20, go_sem, x0, x1, x2, x3]) rfl ⟨hG.out _ _ _ _, .inl ⟨HF.out, rfl⟩⟩
      | nil =>
        have HF1 : Hid (getR bs = if chk acc = 0 then some ⟨n1, n2, n3, acc⟩ else none) := Lib.hid (by rw [HF0.out, if_pos rfl])
        clear HF0
        have hTL := str_toList []
        have hso := Owns.slIn Wri.encOk hO
        obtain ⟨vA, vn, vc, rfl⟩ := hso.shape
        go_wp2_with fail
        refine (refCheck_any n1 n2 n3 _ acc wr (by omega) hso).mono ?_
        rintro e w9 ⟨rfl, hn9⟩
        have hG9 := hG.keep hn9
        have hO9 := hO.new hn9
        clear hG hO hso zl3 zl2 zl1 zl0 x0 x1 x2 x3 m0 m1 m2 m3 y0 y1 y2 y3 c0 c1 c2 c3 fz0 fz2 fz3
        obtain ⟨zl3, zl2, zl1, zl0, x0, x1, x2, x3, m0, m1, m2, m3, y0, y1, y2, y3, c0, c1, c2, c3, fz0, fz2, fz3⟩ := hG9.facts
        generalize hcx : chk acc = cx at *
        by_cases hc0 : cx = 0
        rotate_left
        · have hne : ((cx : Int) != 0) = true := by simpa using hc0
          have HF : Hid (getR bs = none) := Lib.hid (by rw [HF1.out, if_neg hc0])
          clear hc0 HF1 hcx
          go_wp2_with fail
          exact bodyPost_ret (v := .tuple #[.agg #[.int .u64 0, .int .u64 0, .int .u64 0, .slice none 0 0], .int .i64 55]) (by simp [results, Try.results20, go_sem, x0, x1, x2, x3]) rfl ⟨hG9.out _ _ _ _, .inl ⟨HF.out, rfl⟩⟩
        subst hc0
        have HF : Hid (getR bs = some ⟨n1, n2, n3, acc⟩) := Lib.hid (by rw [HF1.out, if_pos rfl])
        clear HF1 hcx
        go_wp2_with fail
        refine bodyPost_ret (v := .tuple #[.agg #[.int .u64 (n1 : Int), .int .u64 (n2 : Int), .int .u64 (n3 : Int), .slice vA vn vc], .int .i64 0]) (by simp [results, Try.results20, go_sem, x0, x1, x2, x3]) rfl ⟨hG9.out _ _ _ _, .inr ⟨_, _, HF.out, rfl, ?_⟩⟩
        have hu : Upd (· = w.heap.size) w9 ((((w9.setCell ⟨w.heap.size, 0, none⟩ (.int .u64 (n1 : Int))).setCell ⟨w.heap.size, 1, none⟩ (.int .u64 (n2 : Int))).setCell ⟨w.heap.size, 2, none⟩ (.int .u64 (n3 : Int))).setCell ⟨w.heap.size, 3, none⟩ (.slice vA vn vc)) := ((((Upd.refl _ w9).setIn 0 _).setIn 1 _).setIn 2 _).setIn 3 _
        exact (hO9.upd hu (fun k hk e => by have := (hO9.lt k hk).1; omega)).lower (by omega)
end Go.Proofs.Ytdobingccipkkaa
