/- Chapter 23 (config): the chapter's examples: awake is true. Printed by genCfg.py. -/
import Derived.Test.YtinpbjknakncdaaDoorCfgK
import Derived.Test.YtinpbjknakncdaaDoorCfgM
import Derived.Test.YtinpbjknakncdaaDoorCfgN
namespace Go.Proofs.YtinpbjknakncdaaDoor
open Go.RowKit Go.Lap
set_option linter.unusedVariables false

def exC : Cfg := ⟨1, [4, 2, 9]⟩
def cmd1 : List UInt8 := [114, 101, 109, 111, 118, 101, 32, 49, 32, 52]
def cmd2 : List UInt8 := [114, 101, 109, 111, 118, 101, 32, 49, 32, 50]
def cmd3 : List UInt8 := [106, 111, 105, 110, 32, 50, 32, 53]
theorem cmd1_eq : cmd1 = showL false 1 4 := by simp [cmd1, showL, wordL, removeL, Lib.decDigits_one]
theorem cmd2_eq : cmd2 = showL false 1 2 := by simp [cmd2, showL, wordL, removeL, Lib.decDigits_one]
theorem cmd3_eq : cmd3 = showL true 2 5 := by simp [cmd3, showL, wordL, joinL, Lib.decDigits_one]
theorem ex_rem : remC exC 2 = (⟨2, [4, 9]⟩, 0) := by kernel_rfl
theorem ex_next : atC [4, 2, 9] (placeC [4, 2, 9] 4) (placeC [4, 2, 9] 4 + 1) = (2, true) := by kernel_rfl
theorem ex_chk : chkC exC = true := by kernel_rfl
theorem ex_s1 : stepC ⟨1, [4, 2, 9]⟩ cmd1 = ⟨2, [2, 9]⟩ := by
  rw [cmd1_eq]
  exact (step_show (c := ⟨1, [4, 2, 9]⟩) (by decide) (by decide)).trans (by kernel_rfl)
theorem ex_s2 : stepC ⟨2, [2, 9]⟩ cmd2 = ⟨2, [2, 9]⟩ := by
  rw [cmd2_eq]
  exact step_none fun j n _ h => by have := (show_inj h).2.1; cases this
theorem ex_s3 : stepC ⟨2, [2, 9]⟩ cmd3 = ⟨3, [2, 9, 5]⟩ := by
  rw [cmd3_eq]
  exact (step_show (c := ⟨2, [2, 9]⟩) (by decide) (by decide)).trans (by kernel_rfl)
theorem ex_fold : foldC ⟨1, [4, 2, 9]⟩ (([⟨cmd1.toArray⟩, ⟨cmd2.toArray⟩, ⟨cmd3.toArray⟩] : List ByteArray).map fun b => b.data.toList) = ⟨3, [2, 9, 5]⟩ := by
  show stepC (stepC (stepC ⟨1, [4, 2, 9]⟩ cmd1) cmd2) cmd3 = _
  rw [ex_s1, ex_s2, ex_s3]
theorem ex_enc : encC exC = [1, 3, 4, 2, 9] := by
  simp [encC, exC, encM, varB_small]

set_option maxRecDepth 100000 in
set_option maxHeartbeats 16000000 in
theorem awake23 (w : World) (henv : Env w) : Calls Tryd.prog 11 #[] w fun e w' => e = .returned (.bool true) ∧ New w w' := by
  have HE := Lib.hid henv
  have hI := Blk.mk_new w 3 #[.int .i64 4, .int .i64 2, .int .i64 9]
  have hA0 := (New.refl w).alloc (.cells #[.int .i64 4, .int .i64 2, .int .i64 9] 3)
  clear henv
  go_enter Tryd.func11, Tryd.ntmps11
  go_wp2_with fail
  refine (of_any 1 (some ⟨w.heap.size, 0, none⟩) 3 3 _).mono ?_
  rintro e1 w1 ⟨rfl, hn1⟩
  have hsl : SlIn w1 1 iEnc (.slice (some ⟨w.heap.size, 0, none⟩) 3 3) [4, 2, 9] := (SlIn.lit (l := [4, 2, 9]) hI iEncOk rfl (by decide)).new hn1
  have hN1 := hA0.trans hn1
  have hG1 := Blk.mk_new w1 25 #[.int .u64 1, .slice (some ⟨w.heap.size, 0, none⟩) 3 3]
  have hA1 := (New.refl w1).alloc (.cells #[.int .u64 1, .slice (some ⟨w.heap.size, 0, none⟩) 3 3] 25)
  have HSL := Lib.hid (hsl.new hA1)
  have HG1 := Lib.hid hG1
  have HN1 := Lib.hid (hN1.trans hA1)
  clear hI hA0 hn1 hsl hN1 hG1 hA1
  go_upto_region 2 with fail
  generalize hga : (some ⟨w.heap.size, 0, none⟩ : Option Addr) = ga at *
  generalize w1.heap.size = g1 at *
  generalize w1.alloc _ = w2 at *
  have HGA := Lib.hid hga
  clear hga
  obtain ⟨p0, p1, p2, pz⟩ := Blk2F HG1.out
  go_wp2_with fail
  refine (remove_any 1 _ [4, 2, 9] 2 w2 (by decide) (by decide) HSL.out).mono ?_
  rw [show remC ⟨1, [4, 2, 9]⟩ 2 = (⟨2, [4, 9]⟩, 0) from ex_rem]
  rintro e1 w3 ⟨u3, rfl, hs3, hn3⟩
  obtain ⟨A3, n3, c3, rfl⟩ := hs3.shape
  have hG2 := Blk.mk_new w3 25 #[.int .u64 2, .slice A3 n3 c3]
  have hA3 := (New.refl w3).alloc (.cells #[.int .u64 2, .slice A3 n3 c3] 25)
  have HS3 := Lib.hid (hs3.new hA3)
  have HG2 := Lib.hid hG2
  have HN3 := Lib.hid (HN1.out.trans (hn3.trans hA3))
  have HG1b := Lib.hid (HG1.out.new (hn3.trans hA3))
  have HSLb := Lib.hid (HSL.out.new (hn3.trans hA3))
  clear HN1 HG1 HSL hG2 hA3 hs3 hn3 p0 p1 p2 pz
  go_upto_region 3 with fail
  generalize w3.heap.size = g2 at *
  generalize w3.alloc _ = w4 at *
  obtain ⟨p0, p1, p2, pz⟩ := Blk2F HG1b.out
  go_wp2_with fail
  refine (next_any 1 _ [4, 2, 9] 4 w4 (by decide) HSLb.out).mono ?_
  rw [ex_next]
  rintro e1 w5 ⟨rfl, hn5⟩
  have HS5 := Lib.hid (HS3.out.new hn5)
  have HG2b := Lib.hid (HG2.out.new hn5)
  have HN5 := Lib.hid (HN3.out.trans hn5)
  have HG1c := Lib.hid (HG1b.out.new hn5)
  have HSLc := Lib.hid (HSLb.out.new hn5)
  clear HS3 HG2 HN3 HG1b HSLb hn5 p0 p1 p2 pz
  obtain ⟨p0, p1, p2, pz⟩ := Blk2F HG1c.out
  dsimp only
  have hL := Blk.mk_new w5 9 #[.string ⟨#[114, 101, 109, 111, 118, 101, 32, 49, 32, 52]⟩, .string ⟨#[114, 101, 109, 111, 118, 101, 32, 49, 32, 50]⟩, .string ⟨#[106, 111, 105, 110, 32, 50, 32, 53]⟩]
  have hA5 := (New.refl w5).alloc (.cells #[.string ⟨#[114, 101, 109, 111, 118, 101, 32, 49, 32, 52]⟩, .string ⟨#[114, 101, 109, 111, 118, 101, 32, 49, 32, 50]⟩, .string ⟨#[106, 111, 105, 110, 32, 50, 32, 53]⟩] 9)
  have hsL : SlIn (w5.alloc (.cells #[.string ⟨#[114, 101, 109, 111, 118, 101, 32, 49, 32, 52]⟩, .string ⟨#[114, 101, 109, 111, 118, 101, 32, 49, 32, 50]⟩, .string ⟨#[106, 111, 105, 110, 32, 50, 32, 53]⟩] 9)) 1 sEnc (.slice (some ⟨w5.heap.size, 0, none⟩) 3 3) ([⟨#[114, 101, 109, 111, 118, 101, 32, 49, 32, 52]⟩, ⟨#[114, 101, 109, 111, 118, 101, 32, 49, 32, 50]⟩, ⟨#[106, 111, 105, 110, 32, 50, 32, 53]⟩] : List ByteArray) := SlIn.lit (l := ([⟨#[114, 101, 109, 111, 118, 101, 32, 49, 32, 52]⟩, ⟨#[114, 101, 109, 111, 118, 101, 32, 49, 32, 50]⟩, ⟨#[106, 111, 105, 110, 32, 50, 32, 53]⟩] : List ByteArray)) hL (fun _ => ⟨rfl, by simp [sEnc, Value.oneCell']⟩) rfl (by decide)
  have HfA := Lib.hid (fold_any 1 _ [4, 2, 9] _ ([⟨#[114, 101, 109, 111, 118, 101, 32, 49, 32, 52]⟩, ⟨#[114, 101, 109, 111, 118, 101, 32, 49, 32, 50]⟩, ⟨#[106, 111, 105, 110, 32, 50, 32, 53]⟩] : List ByteArray) (w5.alloc (.cells #[.string ⟨#[114, 101, 109, 111, 118, 101, 32, 49, 32, 52]⟩, .string ⟨#[114, 101, 109, 111, 118, 101, 32, 49, 32, 50]⟩, .string ⟨#[106, 111, 105, 110, 32, 50, 32, 53]⟩] 9)) (by decide) (by decide) (HSLc.out.new hA5) hsL (by decide) (by decide) (HE.out.new (HN5.out.trans hA5)))
  have hf := HfA.out
  rw [show foldC ⟨1, [4, 2, 9]⟩ (([⟨#[114, 101, 109, 111, 118, 101, 32, 49, 32, 52]⟩, ⟨#[114, 101, 109, 111, 118, 101, 32, 49, 32, 50]⟩, ⟨#[106, 111, 105, 110, 32, 50, 32, 53]⟩] : List ByteArray).map fun b => b.data.toList) = ⟨3, [2, 9, 5]⟩ from ex_fold] at hf
  have HF := Lib.hid hf
  clear hf HfA hL hsL
  go_wp2_with fail
  refine HF.out.mono ?_
  rintro e1 w6 ⟨u6, rfl, hs6, hn6⟩
  obtain ⟨A6, n6, c6, rfl⟩ := hs6.shape
  have hn6b := hA5.trans hn6
  clear hA5 hn6 HF
  have hG6 := Blk.mk_new w6 25 #[.int .u64 3, .slice A6 n6 c6]
  have hA6 := (New.refl w6).alloc (.cells #[.int .u64 3, .slice A6 n6 c6] 25)
  have hn7 := hn6b.trans hA6
  have HS6 := Lib.hid (hs6.new hA6)
  have HG6 := Lib.hid hG6
  have HS7 := Lib.hid (HS5.out.new hn7)
  have HG2c := Lib.hid (HG2b.out.new hn7)
  have HN7 := Lib.hid (HN5.out.trans hn7)
  have HG1d := Lib.hid (HG1c.out.new hn7)
  have HSLd := Lib.hid (HSLc.out.new hn7)
  clear HS5 HG2b HN5 HG1c HSLc hn6b hn7 hG6 hA6 hs6 p0 p1 p2 pz
  go_upto_region 5 with fail
  generalize w6.heap.size = g6 at *
  generalize w6.alloc _ = w7 at *
  obtain ⟨p0, p1, p2, pz⟩ := Blk2F HG1d.out
  go_wp2_with fail
  refine (cbytes_any 1 _ [4, 2, 9] w7 (by decide) (by decide) HSLd.out).mono ?_
  rintro e1 w8 ⟨hn8, h8⟩
  rcases h8 with ⟨_, u8, rfl, ho8⟩ | ⟨hb, _⟩
  rotate_left
  · rw [show chkC ⟨1, [4, 2, 9]⟩ = true from ex_chk] at hb
    cases hb
  rw [show encC ⟨1, [4, 2, 9]⟩ = [1, 3, 4, 2, 9] from ex_enc] at ho8
  have hs8 := Owns.slIn bEncOk ho8
  obtain ⟨A8, n8, c8, rfl⟩ := hs8.shape
  have HS8 := Lib.hid hs8
  have HS6b := Lib.hid (HS6.out.new hn8)
  have HG6b := Lib.hid (HG6.out.new hn8)
  have HS7b := Lib.hid (HS7.out.new hn8)
  have HG2d := Lib.hid (HG2c.out.new hn8)
  have HN8 := Lib.hid (HN7.out.trans hn8)
  have HG1e := Lib.hid (HG1d.out.new hn8)
  have HSLe := Lib.hid (HSLd.out.new hn8)
  clear hs8 ho8 HS6 HG6 HS7 HG2c HN7 HG1d HSLd hn8 p0 p1 p2 pz
  go_upto_region 6 with fail
  obtain ⟨p0, p1, p2, pz⟩ := Blk2F HG1e.out
  obtain ⟨q0, q1, q2, qz⟩ := Blk2F HG2d.out
  obtain ⟨r0, r1, r2, rz⟩ := Blk2F HG6b.out
  refine wp_region_held_drew (S := fun w' => Held w8 w') (by kernel_rfl) (Held.of (New.refl _).drew) (fun hHeld => ?_)
  refine wpAnyH_take (i := 0) (oi := { dst := some 29, op := Op.load 25 (Operand.tmp 2), type := 25, pos := "law.go:20", after := #[], guard := none }) (v := ?_) rfl (by kernel_rfl) (by kernel_rfl) (by kernel_rfl) (fun _ _ _ h => h) (Or.inl ⟨by rfl, ?_⟩) (by assumption) ?_
  rotate_left
  · (intro wq hSw; (try dsimp only at hSw); go_simp; first | done | with_reducible rfl)
  try simp only [Act.put, List.setIfInBounds_toArray, List.set_cons_zero, List.set_cons_succ]
  refine wpAnyH_ready (rs := [1]) (by kernel_rfl) (by simp) ?_
  refine AllReadyH.cons (o := { dst := some 30, op := Op.buildSlice 23 2 #[(0, Operand.const (Value.int IntKind.i64 4)), (1, Operand.const (Value.int IntKind.i64 9))], type := 23, pos := "law.go:20", after := #[], guard := none }) rfl (fun K hK => ?_) AllReadyH.nil
  go_simp
  have hn0 := ((New.refl w8).drew).alloc (.cells #[.int .i64 4, .int .i64 9] 3)
  have hx0 := Blk.mk_new w8.drew 3 #[.int .i64 4, .int .i64 9]
  refine hK.out _ _ ?_ (fun hHeld => ?_)
  · exact Held.of hn0
  clear hK K
  try simp only [Act.put, List.setIfInBounds_toArray, List.set_cons_zero, List.set_cons_succ]
  refine wpAnyH_ready (rs := [2]) (by kernel_rfl) (by simp) ?_
  refine AllReadyH.cons (o := { dst := some 31, op := Op.call { callee := Callee.value (Operand.func 31), args := #[Operand.const (Value.int IntKind.u64 2), Operand.tmp 30], argTypes := #[22, 23] }, type := 25, pos := "law.go:20", after := #[{ on := 1, ground := Ground.data }], guard := none }) rfl (fun K hK => ?_) AllReadyH.nil
  go_simp
  refine (of_any 2 _ 2 2 _).mono ?_
  rintro e1 wk1 ⟨rfl, hk1⟩
  have hn1 := (hn0).trans hk1
  have hx1 := (hx0).new hk1
  refine hK.out _ _ ?_ (fun hHeld => ?_)
  · exact Held.of hn1
  clear hK K
  try simp only [Act.put, List.setIfInBounds_toArray, List.set_cons_zero, List.set_cons_succ]
  refine wpAnyH_ready (rs := [3]) (by kernel_rfl) (by simp) ?_
  refine AllReadyH.cons (o := { dst := some 32, op := Op.call { callee := Callee.value (Operand.func 16), args := #[Operand.tmp 29, Operand.tmp 31], argTypes := #[25, 25] }, type := 4, pos := "law.go:20", after := #[{ on := 0, ground := Ground.data }, { on := 2, ground := Ground.data }, { on := 2, ground := Ground.chain }], guard := none }) rfl (fun K hK => ?_) AllReadyH.nil
  go_simp
  refine (refSame_any 2 _ [4, 9] 2 _ [4, 9] _ (by decide) (by decide) (HS7b.out.new hn1) (SlIn.lit (l := [4, 9]) hx1 iEncOk rfl (by decide))).mono ?_
  rintro e1 wk2 ⟨rfl, hk2⟩
  rw [show sameC ⟨2, [4, 9]⟩ ⟨2, [4, 9]⟩ = true by simp [sameC]]
  have hn2 := (hn1).trans hk2
  refine hK.out _ _ ?_ (fun hHeld => ?_)
  · exact Held.of hn2
  clear hK K
  try simp only [Act.put, List.setIfInBounds_toArray, List.set_cons_zero, List.set_cons_succ]
  refine wpAnyH_take (i := 4) (oi := { dst := some 33, op := Op.move (Operand.tmp 32), type := 4, pos := "law.go:20", after := #[{ on := 3, ground := Ground.data }, { on := 3, ground := Ground.chain }], guard := none }) (v := ?_) rfl (by kernel_rfl) (by kernel_rfl) (by kernel_rfl) (fun _ _ _ h => h) (Or.inl ⟨by rfl, ?_⟩) (by assumption) ?_
  rotate_left
  · (intro wq hSw; (try dsimp only at hSw); go_simp; first | done | with_reducible rfl)
  try simp only [Act.put, List.setIfInBounds_toArray, List.set_cons_zero, List.set_cons_succ]
  refine wpAnyH_take (i := 5) (oi := { dst := some 34, op := Op.move (Operand.tmp 3), type := 28, pos := "law.go:20", after := #[{ on := 4, ground := Ground.guard }], guard := some (4, true) }) (v := ?_) rfl (by kernel_rfl) (by kernel_rfl) (by kernel_rfl) (fun _ _ _ h => h) (Or.inl ⟨by rfl, ?_⟩) (by assumption) ?_
  rotate_left
  · (intro wq hSw; (try dsimp only at hSw); go_simp; first | done | with_reducible rfl)
  try simp only [Act.put, List.setIfInBounds_toArray, List.set_cons_zero, List.set_cons_succ]
  refine wpAnyH_take (i := 6) (oi := { dst := some 35, op := Op.binOp BinOp.eql 28 (Operand.tmp 34) (Operand.const (Value.int IntKind.i64 0)) 28, type := 4, pos := "law.go:20", after := #[{ on := 5, ground := Ground.data }, { on := 4, ground := Ground.guard }], guard := some (4, true) }) (v := .bool true) rfl (by kernel_rfl) (by kernel_rfl) (by kernel_rfl) (fun _ _ _ h => h) (Or.inl ⟨by rfl, ?_⟩) (by assumption) ?_
  · (intro wq hSw; (try dsimp only at hSw); go_simp; first | done | with_reducible rfl | (simp; done) | (simp [str]))
  try simp only [Act.put, List.setIfInBounds_toArray, List.set_cons_zero, List.set_cons_succ]
  refine wpAnyH_take (i := 7) (oi := { dst := some 36, op := Op.pick (Operand.tmp 33) (Operand.tmp 35) (Operand.const (Value.bool false)), type := 4, pos := "law.go:20", after := #[{ on := 4, ground := Ground.data }, { on := 6, ground := Ground.data }], guard := none }) (v := .bool true) rfl (by kernel_rfl) (by kernel_rfl) (by kernel_rfl) (fun _ _ _ h => h) (Or.inl ⟨by rfl, ?_⟩) (by assumption) ?_
  · (intro wq hSw; (try dsimp only at hSw); go_simp; first | done | with_reducible rfl | (simp; done) | (simp [str]))
  try simp only [Act.put, List.setIfInBounds_toArray, List.set_cons_zero, List.set_cons_succ]
  refine wpAnyH_take (i := 8) (oi := { dst := some 37, op := Op.move (Operand.tmp 36), type := 4, pos := "law.go:20", after := #[{ on := 7, ground := Ground.data }, { on := 4, ground := Ground.chain }], guard := none }) (v := ?_) rfl (by kernel_rfl) (by kernel_rfl) (by kernel_rfl) (fun _ _ _ h => h) (Or.inl ⟨by rfl, ?_⟩) (by assumption) ?_
  rotate_left
  · (intro wq hSw; (try dsimp only at hSw); go_simp; first | done | with_reducible rfl)
  try simp only [Act.put, List.setIfInBounds_toArray, List.set_cons_zero, List.set_cons_succ]
  refine wpAnyH_take (i := 9) (oi := { dst := some 38, op := Op.move (Operand.tmp 4), type := 3, pos := "law.go:20", after := #[{ on := 8, ground := Ground.guard }], guard := some (8, true) }) (v := ?_) rfl (by kernel_rfl) (by kernel_rfl) (by kernel_rfl) (fun _ _ _ h => h) (Or.inl ⟨by rfl, ?_⟩) (by assumption) ?_
  rotate_left
  · (intro wq hSw; (try dsimp only at hSw); go_simp; first | done | with_reducible rfl)
  try simp only [Act.put, List.setIfInBounds_toArray, List.set_cons_zero, List.set_cons_succ]
  refine wpAnyH_take (i := 10) (oi := { dst := some 39, op := Op.binOp BinOp.eql 3 (Operand.tmp 38) (Operand.const (Value.int IntKind.i64 2)) 3, type := 4, pos := "law.go:20", after := #[{ on := 9, ground := Ground.data }, { on := 8, ground := Ground.guard }], guard := some (8, true) }) (v := .bool true) rfl (by kernel_rfl) (by kernel_rfl) (by kernel_rfl) (fun _ _ _ h => h) (Or.inl ⟨by rfl, ?_⟩) (by assumption) ?_
  · (intro wq hSw; (try dsimp only at hSw); go_simp; first | done | with_reducible rfl | (simp; done) | (simp [str]))
  try simp only [Act.put, List.setIfInBounds_toArray, List.set_cons_zero, List.set_cons_succ]
  refine wpAnyH_take (i := 11) (oi := { dst := some 40, op := Op.pick (Operand.tmp 37) (Operand.tmp 39) (Operand.const (Value.bool false)), type := 4, pos := "law.go:20", after := #[{ on := 8, ground := Ground.data }, { on := 10, ground := Ground.data }], guard := none }) (v := .bool true) rfl (by kernel_rfl) (by kernel_rfl) (by kernel_rfl) (fun _ _ _ h => h) (Or.inl ⟨by rfl, ?_⟩) (by assumption) ?_
  · (intro wq hSw; (try dsimp only at hSw); go_simp; first | done | with_reducible rfl | (simp; done) | (simp [str]))
  try simp only [Act.put, List.setIfInBounds_toArray, List.set_cons_zero, List.set_cons_succ]
  refine wpAnyH_take (i := 12) (oi := { dst := some 41, op := Op.move (Operand.tmp 40), type := 4, pos := "law.go:20", after := #[{ on := 11, ground := Ground.data }, { on := 8, ground := Ground.chain }], guard := none }) (v := ?_) rfl (by kernel_rfl) (by kernel_rfl) (by kernel_rfl) (fun _ _ _ h => h) (Or.inl ⟨by rfl, ?_⟩) (by assumption) ?_
  rotate_left
  · (intro wq hSw; (try dsimp only at hSw); go_simp; first | done | with_reducible rfl)
  try simp only [Act.put, List.setIfInBounds_toArray, List.set_cons_zero, List.set_cons_succ]
  refine wpAnyH_take (i := 13) (oi := { dst := some 42, op := Op.move (Operand.tmp 5), type := 4, pos := "law.go:20", after := #[{ on := 12, ground := Ground.guard }], guard := some (12, true) }) (v := ?_) rfl (by kernel_rfl) (by kernel_rfl) (by kernel_rfl) (fun _ _ _ h => h) (Or.inl ⟨by rfl, ?_⟩) (by assumption) ?_
  rotate_left
  · (intro wq hSw; (try dsimp only at hSw); go_simp; first | done | with_reducible rfl)
  try simp only [Act.put, List.setIfInBounds_toArray, List.set_cons_zero, List.set_cons_succ]
  refine wpAnyH_take (i := 14) (oi := { dst := some 43, op := Op.pick (Operand.tmp 41) (Operand.tmp 42) (Operand.const (Value.bool false)), type := 4, pos := "law.go:20", after := #[{ on := 12, ground := Ground.data }, { on := 13, ground := Ground.data }], guard := none }) (v := .bool true) rfl (by kernel_rfl) (by kernel_rfl) (by kernel_rfl) (fun _ _ _ h => h) (Or.inl ⟨by rfl, ?_⟩) (by assumption) ?_
  · (intro wq hSw; (try dsimp only at hSw); go_simp; first | done | with_reducible rfl | (simp; done) | (simp [str]))
  try simp only [Act.put, List.setIfInBounds_toArray, List.set_cons_zero, List.set_cons_succ]
  refine wpAnyH_take (i := 15) (oi := { dst := some 44, op := Op.move (Operand.tmp 43), type := 4, pos := "law.go:20", after := #[{ on := 14, ground := Ground.data }, { on := 12, ground := Ground.chain }], guard := none }) (v := ?_) rfl (by kernel_rfl) (by kernel_rfl) (by kernel_rfl) (fun _ _ _ h => h) (Or.inl ⟨by rfl, ?_⟩) (by assumption) ?_
  rotate_left
  · (intro wq hSw; (try dsimp only at hSw); go_simp; first | done | with_reducible rfl)
  try simp only [Act.put, List.setIfInBounds_toArray, List.set_cons_zero, List.set_cons_succ]
  refine wpAnyH_take (i := 16) (oi := { dst := some 45, op := Op.load 25 (Operand.tmp 6), type := 25, pos := "law.go:20", after := #[{ on := 15, ground := Ground.guard }], guard := some (15, true) }) (v := ?_) rfl (by kernel_rfl) (by kernel_rfl) (by kernel_rfl) (fun _ _ _ h => h) (Or.inl ⟨by rfl, ?_⟩) (by assumption) ?_
  rotate_left
  · (intro wq hSw; (try dsimp only at hSw); go_simp; first | done | with_reducible rfl)
  try simp only [Act.put, List.setIfInBounds_toArray, List.set_cons_zero, List.set_cons_succ]
  refine wpAnyH_ready (rs := [17]) (by kernel_rfl) (by simp) ?_
  refine AllReadyH.cons (o := { dst := some 46, op := Op.buildSlice 23 3 #[(0, Operand.const (Value.int IntKind.i64 2)), (1, Operand.const (Value.int IntKind.i64 9)), (2, Operand.const (Value.int IntKind.i64 5))], type := 23, pos := "law.go:20", after := #[{ on := 15, ground := Ground.guard }], guard := some (15, true) }) rfl (fun K hK => ?_) AllReadyH.nil
  go_simp
  have hn3 := (hn2).alloc (.cells #[.int .i64 2, .int .i64 9, .int .i64 5] 3)
  have hx3 := Blk.mk_new wk2 3 #[.int .i64 2, .int .i64 9, .int .i64 5]
  refine hK.out _ _ ?_ (fun hHeld => ?_)
  · exact Held.of hn3
  clear hK K
  try simp only [Act.put, List.setIfInBounds_toArray, List.set_cons_zero, List.set_cons_succ]
  refine wpAnyH_ready (rs := [18]) (by kernel_rfl) (by simp) ?_
  refine AllReadyH.cons (o := { dst := some 47, op := Op.call { callee := Callee.value (Operand.func 31), args := #[Operand.const (Value.int IntKind.u64 3), Operand.tmp 46], argTypes := #[22, 23] }, type := 25, pos := "law.go:20", after := #[{ on := 17, ground := Ground.data }, { on := 15, ground := Ground.chain }, { on := 15, ground := Ground.guard }], guard := some (15, true) }) rfl (fun K hK => ?_) AllReadyH.nil
  go_simp
  refine (of_any 3 _ 3 3 _).mono ?_
  rintro e1 wk4 ⟨rfl, hk4⟩
  have hn4 := (hn3).trans hk4
  have hx4 := (hx3).new hk4
  refine hK.out _ _ ?_ (fun hHeld => ?_)
  · exact Held.of hn4
  clear hK K
  try simp only [Act.put, List.setIfInBounds_toArray, List.set_cons_zero, List.set_cons_succ]
  refine wpAnyH_ready (rs := [19]) (by kernel_rfl) (by simp) ?_
  refine AllReadyH.cons (o := { dst := some 48, op := Op.call { callee := Callee.value (Operand.func 16), args := #[Operand.tmp 45, Operand.tmp 47], argTypes := #[25, 25] }, type := 4, pos := "law.go:20", after := #[{ on := 16, ground := Ground.data }, { on := 18, ground := Ground.data }, { on := 18, ground := Ground.chain }, { on := 15, ground := Ground.guard }], guard := some (15, true) }) rfl (fun K hK => ?_) AllReadyH.nil
  go_simp
  refine (refSame_any 3 _ [2, 9, 5] 3 _ [2, 9, 5] _ (by decide) (by decide) (HS6b.out.new hn4) (SlIn.lit (l := [2, 9, 5]) hx4 iEncOk rfl (by decide))).mono ?_
  rintro e1 wk5 ⟨rfl, hk5⟩
  rw [show sameC ⟨3, [2, 9, 5]⟩ ⟨3, [2, 9, 5]⟩ = true by simp [sameC]]
  have hn5 := (hn4).trans hk5
  refine hK.out _ _ ?_ (fun hHeld => ?_)
  · exact Held.of hn5
  clear hK K
  try simp only [Act.put, List.setIfInBounds_toArray, List.set_cons_zero, List.set_cons_succ]
  refine wpAnyH_take (i := 20) (oi := { dst := some 49, op := Op.pick (Operand.tmp 44) (Operand.tmp 48) (Operand.const (Value.bool false)), type := 4, pos := "law.go:20", after := #[{ on := 15, ground := Ground.data }, { on := 19, ground := Ground.data }], guard := none }) (v := .bool true) rfl (by kernel_rfl) (by kernel_rfl) (by kernel_rfl) (fun _ _ _ h => h) (Or.inl ⟨by rfl, ?_⟩) (by assumption) ?_
  · (intro wq hSw; (try dsimp only at hSw); go_simp; first | done | with_reducible rfl | (simp; done) | (simp [str]))
  try simp only [Act.put, List.setIfInBounds_toArray, List.set_cons_zero, List.set_cons_succ]
  refine wpAnyH_take (i := 21) (oi := { dst := some 50, op := Op.move (Operand.tmp 49), type := 4, pos := "law.go:20", after := #[{ on := 20, ground := Ground.data }, { on := 19, ground := Ground.chain }], guard := none }) (v := ?_) rfl (by kernel_rfl) (by kernel_rfl) (by kernel_rfl) (fun _ _ _ h => h) (Or.inl ⟨by rfl, ?_⟩) (by assumption) ?_
  rotate_left
  · (intro wq hSw; (try dsimp only at hSw); go_simp; first | done | with_reducible rfl)
  try simp only [Act.put, List.setIfInBounds_toArray, List.set_cons_zero, List.set_cons_succ]
  refine wpAnyH_take (i := 22) (oi := { dst := some 51, op := Op.move (Operand.tmp 7), type := 43, pos := "law.go:20", after := #[{ on := 21, ground := Ground.guard }], guard := some (21, true) }) (v := ?_) rfl (by kernel_rfl) (by kernel_rfl) (by kernel_rfl) (fun _ _ _ h => h) (Or.inl ⟨by rfl, ?_⟩) (by assumption) ?_
  rotate_left
  · (intro wq hSw; (try dsimp only at hSw); go_simp; first | done | with_reducible rfl)
  try simp only [Act.put, List.setIfInBounds_toArray, List.set_cons_zero, List.set_cons_succ]
  refine wpAnyH_ready (rs := [23]) (by kernel_rfl) (by simp) ?_
  refine AllReadyH.cons (o := { dst := some 52, op := Op.convert 43 9 (Operand.tmp 51), type := 9, pos := "law.go:20", after := #[{ on := 22, ground := Ground.data }, { on := 21, ground := Ground.guard }], guard := some (21, true) }) rfl (fun K hK => ?_) AllReadyH.nil
  have hcv := run_str wk5 (HS8.out.new hn5)
  go_simp
  refine hK.out _ _ ?_ (fun hHeld => ?_)
  · exact hHeld
  clear hK K
  try simp only [Act.put, List.setIfInBounds_toArray, List.set_cons_zero, List.set_cons_succ]
  refine wpAnyH_take (i := 24) (oi := { dst := some 53, op := Op.binOp BinOp.eql 9 (Operand.tmp 52) (Operand.const (Value.string { data := #[1, 3, 4, 2, 9] })) 9, type := 4, pos := "law.go:20", after := #[{ on := 23, ground := Ground.data }, { on := 21, ground := Ground.guard }], guard := some (21, true) }) (v := .bool true) rfl (by kernel_rfl) (by kernel_rfl) (by kernel_rfl) (fun _ _ _ h => h) (Or.inl ⟨by rfl, ?_⟩) (by assumption) ?_
  · (intro wq hSw; (try dsimp only at hSw); go_simp; first | done | with_reducible rfl | (simp; done) | (simp [str]))
  try simp only [Act.put, List.setIfInBounds_toArray, List.set_cons_zero, List.set_cons_succ]
  refine wpAnyH_take (i := 25) (oi := { dst := some 54, op := Op.pick (Operand.tmp 50) (Operand.tmp 53) (Operand.const (Value.bool false)), type := 4, pos := "law.go:20", after := #[{ on := 21, ground := Ground.data }, { on := 24, ground := Ground.data }], guard := none }) (v := .bool true) rfl (by kernel_rfl) (by kernel_rfl) (by kernel_rfl) (fun _ _ _ h => h) (Or.inl ⟨by rfl, ?_⟩) (by assumption) ?_
  · (intro wq hSw; (try dsimp only at hSw); go_simp; first | done | with_reducible rfl | (simp; done) | (simp [str]))
  try simp only [Act.put, List.setIfInBounds_toArray, List.set_cons_zero, List.set_cons_succ]
  refine wpAnyH_take (i := 26) (oi := { dst := some 55, op := Op.move (Operand.tmp 54), type := 4, pos := "law.go:20", after := #[{ on := 25, ground := Ground.data }, { on := 21, ground := Ground.chain }], guard := none }) (v := ?_) rfl (by kernel_rfl) (by kernel_rfl) (by kernel_rfl) (fun _ _ _ h => h) (Or.inl ⟨by rfl, ?_⟩) (by assumption) ?_
  rotate_left
  · (intro wq hSw; (try dsimp only at hSw); go_simp; first | done | with_reducible rfl)
  try simp only [Act.put, List.setIfInBounds_toArray, List.set_cons_zero, List.set_cons_succ]
  refine wpAnyH_take (i := 27) (oi := { dst := some 56, op := Op.move (Operand.tmp 8), type := 28, pos := "law.go:20", after := #[{ on := 26, ground := Ground.guard }], guard := some (26, true) }) (v := ?_) rfl (by kernel_rfl) (by kernel_rfl) (by kernel_rfl) (fun _ _ _ h => h) (Or.inl ⟨by rfl, ?_⟩) (by assumption) ?_
  rotate_left
  · (intro wq hSw; (try dsimp only at hSw); go_simp; first | done | with_reducible rfl)
  try simp only [Act.put, List.setIfInBounds_toArray, List.set_cons_zero, List.set_cons_succ]
  refine wpAnyH_take (i := 28) (oi := { dst := some 57, op := Op.binOp BinOp.eql 28 (Operand.tmp 56) (Operand.const (Value.int IntKind.i64 0)) 28, type := 4, pos := "law.go:20", after := #[{ on := 27, ground := Ground.data }, { on := 26, ground := Ground.guard }], guard := some (26, true) }) (v := .bool true) rfl (by kernel_rfl) (by kernel_rfl) (by kernel_rfl) (fun _ _ _ h => h) (Or.inl ⟨by rfl, ?_⟩) (by assumption) ?_
  · (intro wq hSw; (try dsimp only at hSw); go_simp; first | done | with_reducible rfl | (simp; done) | (simp [str]))
  try simp only [Act.put, List.setIfInBounds_toArray, List.set_cons_zero, List.set_cons_succ]
  refine wpAnyH_take (i := 29) (oi := { dst := some 58, op := Op.pick (Operand.tmp 55) (Operand.tmp 57) (Operand.const (Value.bool false)), type := 4, pos := "law.go:20", after := #[{ on := 26, ground := Ground.data }, { on := 28, ground := Ground.data }], guard := none }) (v := .bool true) rfl (by kernel_rfl) (by kernel_rfl) (by kernel_rfl) (fun _ _ _ h => h) (Or.inl ⟨by rfl, ?_⟩) (by assumption) ?_
  · (intro wq hSw; (try dsimp only at hSw); go_simp; first | done | with_reducible rfl | (simp; done) | (simp [str]))
  try simp only [Act.put, List.setIfInBounds_toArray, List.set_cons_zero, List.set_cons_succ]
  refine wpAnyH_take (i := 30) (oi := { dst := some 59, op := Op.move (Operand.tmp 58), type := 4, pos := "law.go:20", after := #[{ on := 29, ground := Ground.data }, { on := 26, ground := Ground.chain }], guard := none }) (v := ?_) rfl (by kernel_rfl) (by kernel_rfl) (by kernel_rfl) (fun _ _ _ h => h) (Or.inl ⟨by rfl, ?_⟩) (by assumption) ?_
  rotate_left
  · (intro wq hSw; (try dsimp only at hSw); go_simp; first | done | with_reducible rfl)
  try simp only [Act.put, List.setIfInBounds_toArray, List.set_cons_zero, List.set_cons_succ]
  refine wpAnyH_take (i := 31) (oi := { dst := some 60, op := Op.load 25 (Operand.tmp 1), type := 25, pos := "law.go:20", after := #[{ on := 30, ground := Ground.guard }], guard := some (30, true) }) (v := ?_) rfl (by kernel_rfl) (by kernel_rfl) (by kernel_rfl) (fun _ _ _ h => h) (Or.inl ⟨by rfl, ?_⟩) (by assumption) ?_
  rotate_left
  · (intro wq hSw; (try dsimp only at hSw); go_simp; first | done | with_reducible rfl)
  try simp only [Act.put, List.setIfInBounds_toArray, List.set_cons_zero, List.set_cons_succ]
  refine wpAnyH_ready (rs := [32]) (by kernel_rfl) (by simp) ?_
  refine AllReadyH.cons (o := { dst := some 61, op := Op.call { callee := Callee.value (Operand.func 17), args := #[Operand.tmp 60], argTypes := #[25] }, type := 4, pos := "law.go:20", after := #[{ on := 31, ground := Ground.data }, { on := 30, ground := Ground.chain }, { on := 30, ground := Ground.guard }], guard := some (30, true) }) rfl (fun K hK => ?_) AllReadyH.nil
  go_simp
  refine (check_any 1 _ [4, 2, 9] _ (by decide) (HSLe.out.new hn5)).mono ?_
  rintro e1 wk6 ⟨rfl, hk6⟩
  rw [show chkC ⟨1, [4, 2, 9]⟩ = true from ex_chk]
  have hn6 := (hn5).trans hk6
  refine hK.out _ _ ?_ (fun hHeld => ?_)
  · exact Held.of hn6
  clear hK K
  try simp only [Act.put, List.setIfInBounds_toArray, List.set_cons_zero, List.set_cons_succ]
  refine wpAnyH_take (i := 33) (oi := { dst := some 62, op := Op.pick (Operand.tmp 59) (Operand.tmp 61) (Operand.const (Value.bool false)), type := 4, pos := "law.go:20", after := #[{ on := 30, ground := Ground.data }, { on := 32, ground := Ground.data }], guard := none }) (v := .bool true) rfl (by kernel_rfl) (by kernel_rfl) (by kernel_rfl) (fun _ _ _ h => h) (Or.inl ⟨by rfl, ?_⟩) (by assumption) ?_
  · (intro wq hSw; (try dsimp only at hSw); go_simp; first | done | with_reducible rfl | (simp; done) | (simp [str]))
  try simp only [Act.put, List.setIfInBounds_toArray, List.set_cons_zero, List.set_cons_succ]
  refine wpAnyH_take (i := 34) (oi := { dst := some 63, op := Op.move (Operand.tmp 62), type := 4, pos := "law.go:20", after := #[{ on := 33, ground := Ground.data }, { on := 32, ground := Ground.chain }], guard := none }) (v := ?_) rfl (by kernel_rfl) (by kernel_rfl) (by kernel_rfl) (fun _ _ _ h => h) (Or.inl ⟨by rfl, ?_⟩) (by assumption) ?_
  rotate_left
  · (intro wq hSw; (try dsimp only at hSw); go_simp; first | done | with_reducible rfl)
  try simp only [Act.put, List.setIfInBounds_toArray, List.set_cons_zero, List.set_cons_succ]
  refine wpAnyH_ready (rs := [35]) (by kernel_rfl) (by simp) ?_
  refine AllReadyH.cons (o := { dst := some 64, op := Op.call { callee := Callee.value (Operand.func 21), args := #[Operand.const (Value.bool false), Operand.const (Value.int IntKind.u64 1), Operand.const (Value.int IntKind.i64 4)], argTypes := #[4, 22, 3] }, type := 9, pos := "law.go:20", after := #[{ on := 34, ground := Ground.chain }, { on := 34, ground := Ground.guard }], guard := some (34, true) }) rfl (fun K hK => ?_) AllReadyH.nil
  go_simp
  refine (show_any false 1 4 _ (by decide) (by decide) (HE.out.new (HN8.out.trans hn6))).mono ?_
  rintro e1 wk7 ⟨rfl, hk7⟩
  rw [show str (showL false 1 (max (4 : Int) 0).toNat) = ⟨#[114, 101, 109, 111, 118, 101, 32, 49, 32, 52]⟩ from (by rw [show (max (4 : Int) 0).toNat = 4 from rfl, ← cmd1_eq]; rfl)]
  have hn7 := (hn6).trans hk7
  refine hK.out _ _ ?_ (fun hHeld => ?_)
  · exact Held.of hn7
  clear hK K
  try simp only [Act.put, List.setIfInBounds_toArray, List.set_cons_zero, List.set_cons_succ]
  refine wpAnyH_take (i := 36) (oi := { dst := some 65, op := Op.binOp BinOp.eql 9 (Operand.tmp 64) (Operand.const (Value.string { data := #[114, 101, 109, 111, 118, 101, 32, 49, 32, 52] })) 9, type := 4, pos := "law.go:20", after := #[{ on := 35, ground := Ground.data }, { on := 34, ground := Ground.guard }], guard := some (34, true) }) (v := .bool true) rfl (by kernel_rfl) (by kernel_rfl) (by kernel_rfl) (fun _ _ _ h => h) (Or.inl ⟨by rfl, ?_⟩) (by assumption) ?_
  · (intro wq hSw; (try dsimp only at hSw); go_simp; first | done | with_reducible rfl | (simp; done) | (simp [str]))
  try simp only [Act.put, List.setIfInBounds_toArray, List.set_cons_zero, List.set_cons_succ]
  refine wpAnyH_take (i := 37) (oi := { dst := some 66, op := Op.pick (Operand.tmp 63) (Operand.tmp 65) (Operand.const (Value.bool false)), type := 4, pos := "law.go:20", after := #[{ on := 34, ground := Ground.data }, { on := 36, ground := Ground.data }], guard := none }) (v := .bool true) rfl (by kernel_rfl) (by kernel_rfl) (by kernel_rfl) (fun _ _ _ h => h) (Or.inl ⟨by rfl, ?_⟩) (by assumption) ?_
  · (intro wq hSw; (try dsimp only at hSw); go_simp; first | done | with_reducible rfl | (simp; done) | (simp [str]))
  try simp only [Act.put, List.setIfInBounds_toArray, List.set_cons_zero, List.set_cons_succ]
  refine wpAnyH_take (i := 38) (oi := { dst := some 0, op := Op.assign (Operand.tmp 66), type := 4, pos := "law.go:20", after := #[{ on := 37, ground := Ground.data }, { on := 35, ground := Ground.chain }, { on := 0, ground := Ground.phase }, { on := 1, ground := Ground.phase }, { on := 2, ground := Ground.phase }, { on := 3, ground := Ground.phase }, { on := 4, ground := Ground.phase }, { on := 5, ground := Ground.phase }, { on := 6, ground := Ground.phase }, { on := 7, ground := Ground.phase }, { on := 8, ground := Ground.phase }, { on := 9, ground := Ground.phase }, { on := 10, ground := Ground.phase }, { on := 11, ground := Ground.phase }, { on := 12, ground := Ground.phase }, { on := 13, ground := Ground.phase }, { on := 14, ground := Ground.phase }, { on := 15, ground := Ground.phase }, { on := 16, ground := Ground.phase }, { on := 17, ground := Ground.phase }, { on := 18, ground := Ground.phase }, { on := 19, ground := Ground.phase }, { on := 20, ground := Ground.phase }, { on := 21, ground := Ground.phase }, { on := 22, ground := Ground.phase }, { on := 23, ground := Ground.phase }, { on := 24, ground := Ground.phase }, { on := 25, ground := Ground.phase }, { on := 26, ground := Ground.phase }, { on := 27, ground := Ground.phase }, { on := 28, ground := Ground.phase }, { on := 29, ground := Ground.phase }, { on := 30, ground := Ground.phase }, { on := 31, ground := Ground.phase }, { on := 32, ground := Ground.phase }, { on := 33, ground := Ground.phase }, { on := 34, ground := Ground.phase }, { on := 35, ground := Ground.phase }, { on := 36, ground := Ground.phase }, { on := 37, ground := Ground.phase }], guard := none }) (v := ?_) rfl (by kernel_rfl) (by kernel_rfl) (by kernel_rfl) (fun _ _ _ h => h) (Or.inl ⟨by rfl, ?_⟩) (by assumption) ?_
  rotate_left
  · (intro wq hSw; (try dsimp only at hSw); go_simp; first | done | with_reducible rfl)
  try simp only [Act.put, List.setIfInBounds_toArray, List.set_cons_zero]
  refine wpAnyH_done (by kernel_rfl) ?_ _
  clear hHeld
  go_wp2_with fail
  go_ret
  exact ⟨rfl, HN8.out.trans hn7⟩
end Go.Proofs.YtinpbjknakncdaaDoor
