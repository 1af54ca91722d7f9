/- Chapter 5 (batch): the law's example: it answers true, and changes nothing that was there. Printed by genBat15.py. -/
import Derived.Test.YtdobingccipkkaaBat14
import Derived.Test.YtdobingccipkkaaBat12
import Derived.Test.YtdobingccipkkaaBat5
namespace Go.Proofs.Ytdobingccipkkaa
open Go.RowKit Go.Lap
set_option linter.unusedVariables false

def exL : List Wri := [⟨⟨#[97]⟩, ⟨#[120]⟩, false⟩, ⟨⟨#[98]⟩, ⟨#[]⟩, true⟩]
def badL : List Wri := [⟨⟨#[98]⟩, ⟨#[]⟩, false⟩, ⟨⟨#[97]⟩, ⟨#[]⟩, false⟩]

theorem ex_chk : chk exL = 0 := by decide +kernel
theorem ex_enc : encB 1 2 3 exL = [1, 2, 3, 2, 1, 97, 0, 1, 120, 1, 98, 1] := by
  have h0 : varB 0 = [0] := by rw [varB_small (by decide)]; rfl
  have h1 : varB 1 = [1] := by rw [varB_small (by decide)]; rfl
  have h2 : varB 2 = [2] := by rw [varB_small (by decide)]; rfl
  have h3 : varB 3 = [3] := by rw [varB_small (by decide)]; rfl
  have e1 : encW ⟨⟨#[97]⟩, ⟨#[120]⟩, false⟩ = varB 1 ++ [97] ++ varB 0 ++ (varB 1 ++ [120]) := rfl
  have e2 : encW ⟨⟨#[98]⟩, ⟨#[]⟩, true⟩ = varB 1 ++ [98] ++ varB 1 ++ [] := rfl
  show varB 1 ++ varB 2 ++ varB 3 ++ varB 2 ++ (encW ⟨⟨#[97]⟩, ⟨#[120]⟩, false⟩ ++ (encW ⟨⟨#[98]⟩, ⟨#[]⟩, true⟩ ++ [])) = _
  rw [e1, e2, h0, h1, h2, h3]
  rfl
theorem ex_get : getC [1, 2, 3, 2, 1, 97, 0, 1, 120, 1, 98, 1] = some ⟨1, 2, 3, exL⟩ := by rw [getC_getR, ← ex_enc]; exact getR_enc (by decide) (by decide) (by decide) ex_chk
theorem ex_find : findB ⟨#[98]⟩ exL = some ⟨⟨#[98]⟩, ⟨#[]⟩, true⟩ := by decide +kernel
theorem bad_chk : chk badL = 54 := by decide +kernel
theorem bad_sort : chk (sortW badL) = 0 := by decide +kernel
theorem bad_meets : meetsB badL exL = true := by decide +kernel

set_option maxHeartbeats 2000000 in
theorem example_any (w : World) : Calls Try.prog 25 #[] w fun e w' => ∃ u, e = .returned (.agg #[.int .u64 1, .int .u64 2, .int .u64 3, u]) ∧ SlIn w' 3 Wri.enc u exL ∧ New w w' := by
  have hR := (Blk.mk_new w 25 #[.int .u64 1, .int .u64 2, .int .u64 3, .slice (some ⟨w.heap.size + 1, 0, none⟩) 2 2]).alloc (.cells #[.string ⟨#[97]⟩, .string ⟨#[120]⟩, .bool false, .string ⟨#[98]⟩, .string ⟨#[]⟩, .bool true] 43)
  have hL := Blk.mk_new (w.alloc (.cells #[.int .u64 1, .int .u64 2, .int .u64 3, .slice (some ⟨w.heap.size + 1, 0, none⟩) 2 2] 25)) 43 #[.string ⟨#[97]⟩, .string ⟨#[120]⟩, .bool false, .string ⟨#[98]⟩, .string ⟨#[]⟩, .bool true]
  have hN := ((New.refl w).alloc (.cells #[.int .u64 1, .int .u64 2, .int .u64 3, .slice (some ⟨w.heap.size + 1, 0, none⟩) 2 2] 25)).alloc (.cells #[.string ⟨#[97]⟩, .string ⟨#[120]⟩, .bool false, .string ⟨#[98]⟩, .string ⟨#[]⟩, .bool true] 43)
  rw [World.size_alloc] at hL
  obtain ⟨q0, q1, q2, q3, q4, qz⟩ := Blk4F hR
  go_enter Try.func25, Try.ntmps25
  go_wp2_with fail
  exact bodyPost_ret (v := .agg #[.int .u64 1, .int .u64 2, .int .u64 3, .slice (some ⟨w.heap.size + 1, 0, none⟩) 2 2]) (by simp [results, Try.results25, go_sem, q1, q2, q3, q4]) rfl ⟨_, rfl, SlIn.lit (l := exL) hL Wri.encOk rfl (Nat.le_refl _), hN⟩

set_option maxRecDepth 100000 in
set_option maxHeartbeats 8000000 in
theorem awake05 (w : World) : Calls Try.prog 11 #[] w fun e w' => e = .returned (.bool true) ∧ New w w' := by
  go_enter Try.func11, Try.ntmps11
  go_wp2_with fail
  refine (example_any _).mono ?_
  rintro e w1 ⟨u1, rfl, hs1, hn1⟩
  obtain ⟨a1, m1, k1, rfl⟩ := hs1.shape
  go_wp2_with fail
  refine (putB_any 1 2 3 _ exL _ (by decide) (by decide) (by decide) (by decide) hs1).mono ?_
  rintro e w2 ⟨hn2, hp⟩
  rcases hp with ⟨_, u2, rfl, ho2⟩ | ⟨hbad, _⟩
  rotate_left
  · exact absurd ex_chk hbad
  rw [ex_enc] at ho2
  have hN2 := hn1.trans hn2
  have hs2 := Owns.slIn bEncOk ho2
  have HS2 := Lib.hid hs2
  obtain ⟨a2, m2, k2, rfl⟩ := hs2.shape
  clear hs1 hn1 hn2 ho2 hs2
  go_wp2_with fail
  refine (getB_any [1, 2, 3, 2, 1, 97, 0, 1, 120, 1, 98, 1] _ w2 (by decide) HS2.out).mono ?_
  rintro e w3 ⟨hn3, hg⟩
  rw [ex_get] at hg
  rcases hg with ⟨hbad, _⟩ | ⟨a, u3, ha, rfl, ho3⟩
  · cases hbad
  obtain rfl := Option.some.inj ha
  dsimp only at ho3
  have hs3 := Owns.slIn Wri.encOk ho3
  obtain ⟨a3, m3, k3, rfl⟩ := hs3.shape
  have hG3 := Blk.mk_new w3 25 #[.int .u64 1, .int .u64 2, .int .u64 3, .slice a3 m3 k3]
  have hA3 := (New.refl w3).alloc (.cells #[.int .u64 1, .int .u64 2, .int .u64 3, .slice a3 m3 k3] 25)
  have hN3 := hN2.trans (hn3.trans hA3)
  have HS2b := Lib.hid (HS2.out.new (hn3.trans hA3))
  have HS3 := Lib.hid (hs3.new hA3)
  clear ha ho3 hs3 hn3 hN2 HS2 hA3
  go_wp2_with fail
  refine (example_any _).mono ?_
  rintro e w4 ⟨u4, rfl, hs4, hn4⟩
  obtain ⟨a4, m4, k4, rfl⟩ := hs4.shape
  go_wp2_with fail
  refine (find_any 1 2 3 _ exL ⟨#[98]⟩ w4 (by decide) hs4).mono ?_
  rintro e w5 ⟨hn5, hf⟩
  rw [ex_find] at hf
  dsimp only at hf
  subst hf
  have hF5 := ((Blk.mk_new w5 43 #[.string ⟨#[98]⟩, .string ⟨#[]⟩, .bool true]).alloc (.cells #[.string ⟨#[98]⟩, .string ⟨#[]⟩, .bool false, .string ⟨#[97]⟩, .string ⟨#[]⟩, .bool false] 43)).alloc (.cells #[.int .u64 0, .int .u64 0, .int .u64 0, .slice (some ⟨w5.heap.size + 1, 0, none⟩) 2 2] 25)
  have hL5 := (Blk.mk_new (w5.alloc (.cells #[.string ⟨#[98]⟩, .string ⟨#[]⟩, .bool true] 43)) 43 #[.string ⟨#[98]⟩, .string ⟨#[]⟩, .bool false, .string ⟨#[97]⟩, .string ⟨#[]⟩, .bool false]).alloc (.cells #[.int .u64 0, .int .u64 0, .int .u64 0, .slice (some ⟨w5.heap.size + 1, 0, none⟩) 2 2] 25)
  have hB5 := Blk.mk_new ((w5.alloc (.cells #[.string ⟨#[98]⟩, .string ⟨#[]⟩, .bool true] 43)).alloc (.cells #[.string ⟨#[98]⟩, .string ⟨#[]⟩, .bool false, .string ⟨#[97]⟩, .string ⟨#[]⟩, .bool false] 43)) 25 #[.int .u64 0, .int .u64 0, .int .u64 0, .slice (some ⟨w5.heap.size + 1, 0, none⟩) 2 2]
  have hA5 := (((New.refl w5).alloc (.cells #[.string ⟨#[98]⟩, .string ⟨#[]⟩, .bool true] 43)).alloc (.cells #[.string ⟨#[98]⟩, .string ⟨#[]⟩, .bool false, .string ⟨#[97]⟩, .string ⟨#[]⟩, .bool false] 43)).alloc (.cells #[.int .u64 0, .int .u64 0, .int .u64 0, .slice (some ⟨w5.heap.size + 1, 0, none⟩) 2 2] 25)
  rw [World.size_alloc] at hL5
  rw [World.size_alloc, World.size_alloc] at hB5
  have hN6 := hN3.trans ((hn4.trans hn5).trans hA5)
  have HS2c := Lib.hid (HS2b.out.new ((hn4.trans hn5).trans hA5))
  have HS3c := Lib.hid (HS3.out.new ((hn4.trans hn5).trans hA5))
  have hG6 := hG3.new ((hn4.trans hn5).trans hA5)
  clear HS2b HS3 hG3 hN3 hs4 hn4 hn5 hA5
  go_upto_region 5 with fail
  generalize w3.heap.size = g3 at *
  generalize ((w5.alloc (.cells #[.string ⟨#[98]⟩, .string ⟨#[]⟩, .bool true] 43)).alloc (.cells #[.string ⟨#[98]⟩, .string ⟨#[]⟩, .bool false, .string ⟨#[97]⟩, .string ⟨#[]⟩, .bool false] 43)).alloc (.cells #[.int .u64 0, .int .u64 0, .int .u64 0, .slice (some ⟨w5.heap.size + 1, 0, none⟩) 2 2] 25) = w6 at *
  generalize w5.heap.size = g5 at *
  have HB6 := Lib.hid (SlIn.lit (l := badL) hL5 Wri.encOk rfl (Nat.le_refl _))
  clear hL5
  obtain ⟨p0, p1, p2, p3, p4, pz⟩ := Blk4F hG6
  obtain ⟨q0, q1, q2, q3, q4, qz⟩ := Blk4F hB5
  obtain ⟨r0, r1, r2, r3, rz⟩ := Blk3F hF5
  clear hG6 hB5 hF5
  refine wp_region_held_drew (S := fun w' => Held w6 w') (by kernel_rfl) (Held.of (New.refl _).drew) (fun hHeld => ?_)
  have hcv := run_str w6.drew (HS2c.out.new (New.refl _).drew)
  refine wpAnyH_take (i := 0) (oi := { dst := some 27, op := Op.move (Operand.tmp 1), type := 32, pos := "law.go:21", after := #[], guard := none }) (v := ?_) rfl (by kernel_rfl) (by kernel_rfl) (by kernel_rfl) (fun _ _ _ h => h) (Or.inl ⟨by rfl, ?_⟩) (by assumption) ?_
  rotate_left
  · (intro wq hSw; (try dsimp only at hSw); go_simp; first | done | with_reducible rfl)
  try simp only [Act.put, List.setIfInBounds_toArray, List.set_cons_zero, List.set_cons_succ]
  refine wpAnyH_ready (rs := [1]) (by kernel_rfl) (by simp) ?_
  refine AllReadyH.cons (o := { dst := some 28, op := Op.convert 32 9 (Operand.tmp 27), type := 9, pos := "law.go:21", after := #[{ on := 0, ground := Ground.data }], guard := none }) rfl (fun K hK => ?_) AllReadyH.nil
  go_simp
  refine hK.out _ _ ?_ (fun hHeld => ?_)
  · exact Held.of ((New.refl w6).drew)
  clear hK K
  try simp only [Act.put, List.setIfInBounds_toArray, List.set_cons_zero, List.set_cons_succ]
  refine wpAnyH_take (i := 2) (oi := { dst := some 29, op := Op.binOp BinOp.eql 9 (Operand.tmp 28) (Operand.const (Value.string { data := #[1, 2, 3, 2, 1, 97, 0, 1, 120, 1, 98, 1] })) 9, type := 4, pos := "law.go:21", after := #[{ on := 1, ground := Ground.data }], guard := none }) (v := .bool true) rfl (by kernel_rfl) (by kernel_rfl) (by kernel_rfl) (fun _ _ _ h => h) (Or.inl ⟨by rfl, ?_⟩) (by assumption) ?_
  · (intro wq hSw; (try dsimp only at hSw); go_simp; simp [str_toList])
  try simp only [Act.put, List.setIfInBounds_toArray, List.set_cons_zero, List.set_cons_succ]
  refine wpAnyH_take (i := 3) (oi := { dst := some 30, op := Op.move (Operand.tmp 29), type := 4, pos := "law.go:21", after := #[{ on := 2, ground := Ground.data }], guard := none }) (v := ?_) rfl (by kernel_rfl) (by kernel_rfl) (by kernel_rfl) (fun _ _ _ h => h) (Or.inl ⟨by rfl, ?_⟩) (by assumption) ?_
  rotate_left
  · (intro wq hSw; (try dsimp only at hSw); go_simp; first | done | with_reducible rfl)
  try simp only [Act.put, List.setIfInBounds_toArray, List.set_cons_zero, List.set_cons_succ]
  refine wpAnyH_take (i := 4) (oi := { dst := some 31, op := Op.move (Operand.tmp 2), type := 28, pos := "law.go:21", after := #[{ on := 3, ground := Ground.guard }], guard := some (3, true) }) (v := ?_) rfl (by kernel_rfl) (by kernel_rfl) (by kernel_rfl) (fun _ _ _ h => h) (Or.inl ⟨by rfl, ?_⟩) (by assumption) ?_
  rotate_left
  · (intro wq hSw; (try dsimp only at hSw); go_simp; first | done | with_reducible rfl)
  try simp only [Act.put, List.setIfInBounds_toArray, List.set_cons_zero, List.set_cons_succ]
  refine wpAnyH_take (i := 5) (oi := { dst := some 32, op := Op.binOp BinOp.eql 28 (Operand.tmp 31) (Operand.const (Value.int IntKind.i64 0)) 28, type := 4, pos := "law.go:21", after := #[{ on := 4, ground := Ground.data }, { on := 3, ground := Ground.guard }], guard := some (3, true) }) (v := ?_) rfl (by kernel_rfl) (by kernel_rfl) (by kernel_rfl) (fun _ _ _ h => h) (Or.inl ⟨by rfl, ?_⟩) (by assumption) ?_
  rotate_left
  · (intro wq hSw; (try dsimp only at hSw); go_simp; first | done | with_reducible rfl)
  try simp only [Act.put, List.setIfInBounds_toArray, List.set_cons_zero, List.set_cons_succ]
  refine wpAnyH_take (i := 6) (oi := { dst := some 33, op := Op.pick (Operand.tmp 30) (Operand.tmp 32) (Operand.const (Value.bool false)), type := 4, pos := "law.go:21", after := #[{ on := 3, ground := Ground.data }, { on := 5, ground := Ground.data }], guard := none }) (v := ?_) rfl (by kernel_rfl) (by kernel_rfl) (by kernel_rfl) (fun _ _ _ h => h) (Or.inl ⟨by rfl, ?_⟩) (by assumption) ?_
  rotate_left
  · (intro wq hSw; (try dsimp only at hSw); go_simp; first | done | with_reducible rfl)
  try simp only [Act.put, List.setIfInBounds_toArray, List.set_cons_zero, List.set_cons_succ]
  refine wpAnyH_take (i := 7) (oi := { dst := some 34, op := Op.move (Operand.tmp 33), type := 4, pos := "law.go:21", after := #[{ on := 6, ground := Ground.data }, { on := 3, ground := Ground.chain }], guard := none }) (v := ?_) rfl (by kernel_rfl) (by kernel_rfl) (by kernel_rfl) (fun _ _ _ h => h) (Or.inl ⟨by rfl, ?_⟩) (by assumption) ?_
  rotate_left
  · (intro wq hSw; (try dsimp only at hSw); go_simp; first | done | with_reducible rfl)
  try simp only [Act.put, List.setIfInBounds_toArray, List.set_cons_zero, List.set_cons_succ]
  refine wpAnyH_take (i := 8) (oi := { dst := some 35, op := Op.load 25 (Operand.tmp 3), type := 25, pos := "law.go:21", after := #[{ on := 7, ground := Ground.guard }], guard := some (7, true) }) (v := ?_) rfl (by kernel_rfl) (by kernel_rfl) (by kernel_rfl) (fun _ _ _ h => h) (Or.inl ⟨by rfl, ?_⟩) (by assumption) ?_
  rotate_left
  · (intro wq hSw; (try dsimp only at hSw); go_simp; first | done | with_reducible rfl)
  try simp only [Act.put, List.setIfInBounds_toArray, List.set_cons_zero, List.set_cons_succ]
  refine wpAnyH_ready (rs := [9]) (by kernel_rfl) (by simp) ?_
  refine AllReadyH.cons (o := { dst := some 36, op := Op.call { callee := Callee.value (Operand.func 25), args := #[], argTypes := #[] }, type := 25, pos := "law.go:21", after := #[{ on := 7, ground := Ground.chain }, { on := 7, ground := Ground.guard }], guard := some (7, true) }) rfl (fun K hK => ?_) AllReadyH.nil
  go_simp
  refine (example_any _).mono ?_
  rintro e wk0 ⟨ux0, rfl, hs0, hk0⟩
  have hh0 := ((New.refl w6).drew).trans hk0
  obtain ⟨ax0, mx0, kx0, rfl⟩ := hs0.shape
  refine hK.out _ _ ?_ (fun hHeld => ?_)
  · exact Held.of hh0
  clear hK K
  try simp only [Act.put, List.setIfInBounds_toArray, List.set_cons_zero, List.set_cons_succ]
  refine wpAnyH_ready (rs := [10]) (by kernel_rfl) (by simp) ?_
  refine AllReadyH.cons (o := { dst := some 37, op := Op.call { callee := Callee.value (Operand.func 14), args := #[Operand.tmp 35, Operand.tmp 36], argTypes := #[25, 25] }, type := 4, pos := "law.go:21", after := #[{ on := 8, ground := Ground.data }, { on := 9, ground := Ground.data }, { on := 9, ground := Ground.chain }, { on := 7, ground := Ground.guard }], guard := some (7, true) }) rfl (fun K hK => ?_) AllReadyH.nil
  go_simp
  refine (refSame_any 1 2 3 _ exL 1 2 3 _ exL _ (by decide) (by decide) (HS3c.out.new hh0) hs0).mono ?_
  rintro e wk1 ⟨rfl, hk1⟩
  have hh1 := hh0.trans hk1
  rw [show sameB 1 2 3 exL 1 2 3 exL = true by simp [sameB]]
  refine hK.out _ _ ?_ (fun hHeld => ?_)
  · exact Held.of hh1
  clear hK K
  try simp only [Act.put, List.setIfInBounds_toArray, List.set_cons_zero, List.set_cons_succ]
  refine wpAnyH_take (i := 11) (oi := { dst := some 38, op := Op.pick (Operand.tmp 34) (Operand.tmp 37) (Operand.const (Value.bool false)), type := 4, pos := "law.go:21", after := #[{ on := 7, ground := Ground.data }, { on := 10, ground := Ground.data }], guard := none }) (v := ?_) rfl (by kernel_rfl) (by kernel_rfl) (by kernel_rfl) (fun _ _ _ h => h) (Or.inl ⟨by rfl, ?_⟩) (by assumption) ?_
  rotate_left
  · (intro wq hSw; (try dsimp only at hSw); go_simp; first | done | with_reducible rfl)
  try simp only [Act.put, List.setIfInBounds_toArray, List.set_cons_zero, List.set_cons_succ]
  refine wpAnyH_take (i := 12) (oi := { dst := some 39, op := Op.move (Operand.tmp 38), type := 4, pos := "law.go:21", after := #[{ on := 11, ground := Ground.data }, { on := 10, ground := Ground.chain }], guard := none }) (v := ?_) rfl (by kernel_rfl) (by kernel_rfl) (by kernel_rfl) (fun _ _ _ h => h) (Or.inl ⟨by rfl, ?_⟩) (by assumption) ?_
  rotate_left
  · (intro wq hSw; (try dsimp only at hSw); go_simp; first | done | with_reducible rfl)
  try simp only [Act.put, List.setIfInBounds_toArray, List.set_cons_zero, List.set_cons_succ]
  refine wpAnyH_take (i := 13) (oi := { dst := some 40, op := Op.move (Operand.tmp 4), type := 28, pos := "law.go:21", after := #[{ on := 12, ground := Ground.guard }], guard := some (12, true) }) (v := ?_) rfl (by kernel_rfl) (by kernel_rfl) (by kernel_rfl) (fun _ _ _ h => h) (Or.inl ⟨by rfl, ?_⟩) (by assumption) ?_
  rotate_left
  · (intro wq hSw; (try dsimp only at hSw); go_simp; first | done | with_reducible rfl)
  try simp only [Act.put, List.setIfInBounds_toArray, List.set_cons_zero, List.set_cons_succ]
  refine wpAnyH_take (i := 14) (oi := { dst := some 41, op := Op.binOp BinOp.eql 28 (Operand.tmp 40) (Operand.const (Value.int IntKind.i64 0)) 28, type := 4, pos := "law.go:21", after := #[{ on := 13, ground := Ground.data }, { on := 12, ground := Ground.guard }], guard := some (12, true) }) (v := ?_) rfl (by kernel_rfl) (by kernel_rfl) (by kernel_rfl) (fun _ _ _ h => h) (Or.inl ⟨by rfl, ?_⟩) (by assumption) ?_
  rotate_left
  · (intro wq hSw; (try dsimp only at hSw); go_simp; first | done | with_reducible rfl)
  try simp only [Act.put, List.setIfInBounds_toArray, List.set_cons_zero, List.set_cons_succ]
  refine wpAnyH_take (i := 15) (oi := { dst := some 42, op := Op.pick (Operand.tmp 39) (Operand.tmp 41) (Operand.const (Value.bool false)), type := 4, pos := "law.go:21", after := #[{ on := 12, ground := Ground.data }, { on := 14, ground := Ground.data }], guard := none }) (v := ?_) rfl (by kernel_rfl) (by kernel_rfl) (by kernel_rfl) (fun _ _ _ h => h) (Or.inl ⟨by rfl, ?_⟩) (by assumption) ?_
  rotate_left
  · (intro wq hSw; (try dsimp only at hSw); go_simp; first | done | with_reducible rfl)
  try simp only [Act.put, List.setIfInBounds_toArray, List.set_cons_zero, List.set_cons_succ]
  refine wpAnyH_take (i := 16) (oi := { dst := some 43, op := Op.move (Operand.tmp 42), type := 4, pos := "law.go:21", after := #[{ on := 15, ground := Ground.data }, { on := 12, ground := Ground.chain }], guard := none }) (v := ?_) rfl (by kernel_rfl) (by kernel_rfl) (by kernel_rfl) (fun _ _ _ h => h) (Or.inl ⟨by rfl, ?_⟩) (by assumption) ?_
  rotate_left
  · (intro wq hSw; (try dsimp only at hSw); go_simp; first | done | with_reducible rfl)
  try simp only [Act.put, List.setIfInBounds_toArray, List.set_cons_zero, List.set_cons_succ]
  refine wpAnyH_take (i := 17) (oi := { dst := some 44, op := Op.fieldAddr 43 (Operand.tmp 5) 2, type := 0, pos := "law.go:21", after := #[{ on := 16, ground := Ground.guard }], guard := some (16, true) }) (v := ?_) rfl (by kernel_rfl) (by kernel_rfl) (by kernel_rfl) (fun _ _ _ h => h) (Or.inl ⟨by rfl, ?_⟩) (by assumption) ?_
  rotate_left
  · (intro wq hSw; (try dsimp only at hSw); go_simp; first | done | with_reducible rfl)
  try simp only [Act.put, List.setIfInBounds_toArray, List.set_cons_zero, List.set_cons_succ]
  refine wpAnyH_take (i := 18) (oi := { dst := some 45, op := Op.load 4 (Operand.tmp 44), type := 4, pos := "law.go:21", after := #[{ on := 17, ground := Ground.data }, { on := 16, ground := Ground.guard }], guard := some (16, true) }) (v := ?_) rfl (by kernel_rfl) (by kernel_rfl) (by kernel_rfl) (fun _ _ _ h => h) (Or.inl ⟨by rfl, ?_⟩) (by assumption) ?_
  rotate_left
  · (intro wq hSw; (try dsimp only at hSw); go_simp; first | done | with_reducible rfl)
  try simp only [Act.put, List.setIfInBounds_toArray, List.set_cons_zero, List.set_cons_succ]
  refine wpAnyH_take (i := 19) (oi := { dst := some 46, op := Op.pick (Operand.tmp 43) (Operand.tmp 45) (Operand.const (Value.bool false)), type := 4, pos := "law.go:21", after := #[{ on := 16, ground := Ground.data }, { on := 18, ground := Ground.data }], guard := none }) (v := ?_) rfl (by kernel_rfl) (by kernel_rfl) (by kernel_rfl) (fun _ _ _ h => h) (Or.inl ⟨by rfl, ?_⟩) (by assumption) ?_
  rotate_left
  · (intro wq hSw; (try dsimp only at hSw); go_simp; first | done | with_reducible rfl)
  try simp only [Act.put, List.setIfInBounds_toArray, List.set_cons_zero, List.set_cons_succ]
  refine wpAnyH_take (i := 20) (oi := { dst := some 47, op := Op.move (Operand.tmp 46), type := 4, pos := "law.go:21", after := #[{ on := 19, ground := Ground.data }, { on := 16, ground := Ground.chain }], guard := none }) (v := ?_) rfl (by kernel_rfl) (by kernel_rfl) (by kernel_rfl) (fun _ _ _ h => h) (Or.inl ⟨by rfl, ?_⟩) (by assumption) ?_
  rotate_left
  · (intro wq hSw; (try dsimp only at hSw); go_simp; first | done | with_reducible rfl)
  try simp only [Act.put, List.setIfInBounds_toArray, List.set_cons_zero, List.set_cons_succ]
  refine wpAnyH_take (i := 21) (oi := { dst := some 48, op := Op.move (Operand.tmp 6), type := 4, pos := "law.go:21", after := #[{ on := 20, ground := Ground.guard }], guard := some (20, true) }) (v := ?_) rfl (by kernel_rfl) (by kernel_rfl) (by kernel_rfl) (fun _ _ _ h => h) (Or.inl ⟨by rfl, ?_⟩) (by assumption) ?_
  rotate_left
  · (intro wq hSw; (try dsimp only at hSw); go_simp; first | done | with_reducible rfl)
  try simp only [Act.put, List.setIfInBounds_toArray, List.set_cons_zero, List.set_cons_succ]
  refine wpAnyH_take (i := 22) (oi := { dst := some 49, op := Op.pick (Operand.tmp 47) (Operand.tmp 48) (Operand.const (Value.bool false)), type := 4, pos := "law.go:21", after := #[{ on := 20, ground := Ground.data }, { on := 21, ground := Ground.data }], guard := none }) (v := ?_) rfl (by kernel_rfl) (by kernel_rfl) (by kernel_rfl) (fun _ _ _ h => h) (Or.inl ⟨by rfl, ?_⟩) (by assumption) ?_
  rotate_left
  · (intro wq hSw; (try dsimp only at hSw); go_simp; first | done | with_reducible rfl)
  try simp only [Act.put, List.setIfInBounds_toArray, List.set_cons_zero, List.set_cons_succ]
  refine wpAnyH_take (i := 23) (oi := { dst := some 50, op := Op.move (Operand.tmp 49), type := 4, pos := "law.go:21", after := #[{ on := 22, ground := Ground.data }, { on := 20, ground := Ground.chain }], guard := none }) (v := ?_) rfl (by kernel_rfl) (by kernel_rfl) (by kernel_rfl) (fun _ _ _ h => h) (Or.inl ⟨by rfl, ?_⟩) (by assumption) ?_
  rotate_left
  · (intro wq hSw; (try dsimp only at hSw); go_simp; first | done | with_reducible rfl)
  try simp only [Act.put, List.setIfInBounds_toArray, List.set_cons_zero, List.set_cons_succ]
  refine wpAnyH_take (i := 24) (oi := { dst := some 51, op := Op.load 25 (Operand.tmp 7), type := 25, pos := "law.go:21", after := #[{ on := 23, ground := Ground.guard }], guard := some (23, true) }) (v := ?_) rfl (by kernel_rfl) (by kernel_rfl) (by kernel_rfl) (fun _ _ _ h => h) (Or.inl ⟨by rfl, ?_⟩) (by assumption) ?_
  rotate_left
  · (intro wq hSw; (try dsimp only at hSw); go_simp; first | done | with_reducible rfl)
  try simp only [Act.put, List.setIfInBounds_toArray, List.set_cons_zero, List.set_cons_succ]
  refine wpAnyH_ready (rs := [25]) (by kernel_rfl) (by simp) ?_
  refine AllReadyH.cons (o := { dst := some 52, op := Op.call { callee := Callee.value (Operand.func 12), args := #[Operand.tmp 51], argTypes := #[25] }, type := 28, pos := "law.go:21", after := #[{ on := 24, ground := Ground.data }, { on := 23, ground := Ground.chain }, { on := 23, ground := Ground.guard }], guard := some (23, true) }) rfl (fun K hK => ?_) AllReadyH.nil
  go_simp
  refine (check_any 0 0 0 _ badL _ (by decide) (HB6.out.new hh1)).mono ?_
  rintro e wk2 ⟨rfl, hk2⟩
  have hh2 := hh1.trans hk2
  rw [bad_chk]
  refine hK.out _ _ ?_ (fun hHeld => ?_)
  · exact Held.of hh2
  clear hK K
  try simp only [Act.put, List.setIfInBounds_toArray, List.set_cons_zero, List.set_cons_succ]
  refine wpAnyH_take (i := 26) (oi := { dst := some 53, op := Op.binOp BinOp.eql 28 (Operand.tmp 52) (Operand.const (Value.int IntKind.i64 54)) 28, type := 4, pos := "law.go:21", after := #[{ on := 25, ground := Ground.data }, { on := 23, ground := Ground.guard }], guard := some (23, true) }) (v := ?_) rfl (by kernel_rfl) (by kernel_rfl) (by kernel_rfl) (fun _ _ _ h => h) (Or.inl ⟨by rfl, ?_⟩) (by assumption) ?_
  rotate_left
  · (intro wq hSw; (try dsimp only at hSw); go_simp; first | done | with_reducible rfl)
  try simp only [Act.put, List.setIfInBounds_toArray, List.set_cons_zero, List.set_cons_succ]
  refine wpAnyH_take (i := 27) (oi := { dst := some 54, op := Op.pick (Operand.tmp 50) (Operand.tmp 53) (Operand.const (Value.bool false)), type := 4, pos := "law.go:21", after := #[{ on := 23, ground := Ground.data }, { on := 26, ground := Ground.data }], guard := none }) (v := ?_) rfl (by kernel_rfl) (by kernel_rfl) (by kernel_rfl) (fun _ _ _ h => h) (Or.inl ⟨by rfl, ?_⟩) (by assumption) ?_
  rotate_left
  · (intro wq hSw; (try dsimp only at hSw); go_simp; first | done | with_reducible rfl)
  try simp only [Act.put, List.setIfInBounds_toArray, List.set_cons_zero, List.set_cons_succ]
  refine wpAnyH_take (i := 28) (oi := { dst := some 55, op := Op.move (Operand.tmp 54), type := 4, pos := "law.go:21", after := #[{ on := 27, ground := Ground.data }, { on := 25, ground := Ground.chain }], guard := none }) (v := ?_) rfl (by kernel_rfl) (by kernel_rfl) (by kernel_rfl) (fun _ _ _ h => h) (Or.inl ⟨by rfl, ?_⟩) (by assumption) ?_
  rotate_left
  · (intro wq hSw; (try dsimp only at hSw); go_simp; first | done | with_reducible rfl)
  try simp only [Act.put, List.setIfInBounds_toArray, List.set_cons_zero, List.set_cons_succ]
  refine wpAnyH_take (i := 29) (oi := { dst := some 56, op := Op.load 25 (Operand.tmp 7), type := 25, pos := "law.go:21", after := #[{ on := 28, ground := Ground.guard }], guard := some (28, true) }) (v := ?_) rfl (by kernel_rfl) (by kernel_rfl) (by kernel_rfl) (fun _ _ _ h => h) (Or.inl ⟨by rfl, ?_⟩) (by assumption) ?_
  rotate_left
  · (intro wq hSw; (try dsimp only at hSw); go_simp; first | done | with_reducible rfl)
  try simp only [Act.put, List.setIfInBounds_toArray, List.set_cons_zero, List.set_cons_succ]
  refine wpAnyH_ready (rs := [30]) (by kernel_rfl) (by simp) ?_
  refine AllReadyH.cons (o := { dst := some 57, op := Op.call { callee := Callee.value (Operand.func 15), args := #[Operand.tmp 56], argTypes := #[25] }, type := 25, pos := "law.go:21", after := #[{ on := 29, ground := Ground.data }, { on := 28, ground := Ground.chain }, { on := 28, ground := Ground.guard }], guard := some (28, true) }) rfl (fun K hK => ?_) AllReadyH.nil
  go_simp
  refine (sorted_small 0 0 0 _ badL _ (by decide) (HB6.out.new hh2)).mono ?_
  rintro e wk3 ⟨ux3, rfl, ho3, hk3⟩
  have hh3 := hh2.trans hk3
  have hs3 := Owns.slIn Wri.encOk ho3
  obtain ⟨ax3, mx3, kx3, rfl⟩ := hs3.shape
  refine hK.out _ _ ?_ (fun hHeld => ?_)
  · exact Held.of hh3
  clear hK K
  try simp only [Act.put, List.setIfInBounds_toArray, List.set_cons_zero, List.set_cons_succ]
  refine wpAnyH_ready (rs := [31]) (by kernel_rfl) (by simp) ?_
  refine AllReadyH.cons (o := { dst := some 58, op := Op.call { callee := Callee.value (Operand.func 12), args := #[Operand.tmp 57], argTypes := #[25] }, type := 28, pos := "law.go:21", after := #[{ on := 30, ground := Ground.data }, { on := 30, ground := Ground.chain }, { on := 28, ground := Ground.guard }], guard := some (28, true) }) rfl (fun K hK => ?_) AllReadyH.nil
  go_simp
  refine (check_any 0 0 0 _ (sortW badL) _ (by decide +kernel) hs3).mono ?_
  rintro e wk4 ⟨rfl, hk4⟩
  have hh4 := hh3.trans hk4
  rw [bad_sort]
  refine hK.out _ _ ?_ (fun hHeld => ?_)
  · exact Held.of hh4
  clear hK K
  try simp only [Act.put, List.setIfInBounds_toArray, List.set_cons_zero, List.set_cons_succ]
  refine wpAnyH_take (i := 32) (oi := { dst := some 59, op := Op.binOp BinOp.eql 28 (Operand.tmp 58) (Operand.const (Value.int IntKind.i64 0)) 28, type := 4, pos := "law.go:21", after := #[{ on := 31, ground := Ground.data }, { on := 28, ground := Ground.guard }], guard := some (28, true) }) (v := ?_) rfl (by kernel_rfl) (by kernel_rfl) (by kernel_rfl) (fun _ _ _ h => h) (Or.inl ⟨by rfl, ?_⟩) (by assumption) ?_
  rotate_left
  · (intro wq hSw; (try dsimp only at hSw); go_simp; first | done | with_reducible rfl)
  try simp only [Act.put, List.setIfInBounds_toArray, List.set_cons_zero, List.set_cons_succ]
  refine wpAnyH_take (i := 33) (oi := { dst := some 60, op := Op.pick (Operand.tmp 55) (Operand.tmp 59) (Operand.const (Value.bool false)), type := 4, pos := "law.go:21", after := #[{ on := 28, ground := Ground.data }, { on := 32, ground := Ground.data }], guard := none }) (v := ?_) rfl (by kernel_rfl) (by kernel_rfl) (by kernel_rfl) (fun _ _ _ h => h) (Or.inl ⟨by rfl, ?_⟩) (by assumption) ?_
  rotate_left
  · (intro wq hSw; (try dsimp only at hSw); go_simp; first | done | with_reducible rfl)
  try simp only [Act.put, List.setIfInBounds_toArray, List.set_cons_zero, List.set_cons_succ]
  refine wpAnyH_take (i := 34) (oi := { dst := some 61, op := Op.move (Operand.tmp 60), type := 4, pos := "law.go:21", after := #[{ on := 33, ground := Ground.data }, { on := 31, ground := Ground.chain }], guard := none }) (v := ?_) rfl (by kernel_rfl) (by kernel_rfl) (by kernel_rfl) (fun _ _ _ h => h) (Or.inl ⟨by rfl, ?_⟩) (by assumption) ?_
  rotate_left
  · (intro wq hSw; (try dsimp only at hSw); go_simp; first | done | with_reducible rfl)
  try simp only [Act.put, List.setIfInBounds_toArray, List.set_cons_zero, List.set_cons_succ]
  refine wpAnyH_take (i := 35) (oi := { dst := some 62, op := Op.load 25 (Operand.tmp 7), type := 25, pos := "law.go:21", after := #[{ on := 34, ground := Ground.guard }], guard := some (34, true) }) (v := ?_) rfl (by kernel_rfl) (by kernel_rfl) (by kernel_rfl) (fun _ _ _ h => h) (Or.inl ⟨by rfl, ?_⟩) (by assumption) ?_
  rotate_left
  · (intro wq hSw; (try dsimp only at hSw); go_simp; first | done | with_reducible rfl)
  try simp only [Act.put, List.setIfInBounds_toArray, List.set_cons_zero, List.set_cons_succ]
  refine wpAnyH_ready (rs := [36]) (by kernel_rfl) (by simp) ?_
  refine AllReadyH.cons (o := { dst := some 63, op := Op.call { callee := Callee.value (Operand.func 25), args := #[], argTypes := #[] }, type := 25, pos := "law.go:21", after := #[{ on := 34, ground := Ground.chain }, { on := 34, ground := Ground.guard }], guard := some (34, true) }) rfl (fun K hK => ?_) AllReadyH.nil
  go_simp
  refine (example_any _).mono ?_
  rintro e wk5 ⟨ux5, rfl, hs5, hk5⟩
  have hh5 := hh4.trans hk5
  obtain ⟨ax5, mx5, kx5, rfl⟩ := hs5.shape
  refine hK.out _ _ ?_ (fun hHeld => ?_)
  · exact Held.of hh5
  clear hK K
  try simp only [Act.put, List.setIfInBounds_toArray, List.set_cons_zero, List.set_cons_succ]
  refine wpAnyH_ready (rs := [37]) (by kernel_rfl) (by simp) ?_
  refine AllReadyH.cons (o := { dst := some 64, op := Op.call { callee := Callee.value (Operand.func 21), args := #[Operand.tmp 62, Operand.tmp 63], argTypes := #[25, 25] }, type := 4, pos := "law.go:21", after := #[{ on := 35, ground := Ground.data }, { on := 36, ground := Ground.data }, { on := 36, ground := Ground.chain }, { on := 34, ground := Ground.guard }], guard := some (34, true) }) rfl (fun K hK => ?_) AllReadyH.nil
  go_simp
  refine (meets_any 0 0 0 _ badL 1 2 3 _ exL _ (by decide) (by decide) (HB6.out.new hh5) hs5).mono ?_
  rintro e wk6 ⟨rfl, hk6⟩
  have hh6 := hh5.trans hk6
  rw [bad_meets]
  refine hK.out _ _ ?_ (fun hHeld => ?_)
  · exact Held.of hh6
  clear hK K
  try simp only [Act.put, List.setIfInBounds_toArray, List.set_cons_zero, List.set_cons_succ]
  refine wpAnyH_take (i := 38) (oi := { dst := some 65, op := Op.pick (Operand.tmp 61) (Operand.tmp 64) (Operand.const (Value.bool false)), type := 4, pos := "law.go:21", after := #[{ on := 34, ground := Ground.data }, { on := 37, ground := Ground.data }], guard := none }) (v := ?_) rfl (by kernel_rfl) (by kernel_rfl) (by kernel_rfl) (fun _ _ _ h => h) (Or.inl ⟨by rfl, ?_⟩) (by assumption) ?_
  rotate_left
  · (intro wq hSw; (try dsimp only at hSw); go_simp; first | done | with_reducible rfl)
  try simp only [Act.put, List.setIfInBounds_toArray, List.set_cons_zero, List.set_cons_succ]
  refine wpAnyH_take (i := 39) (oi := { dst := some 66, op := Op.move (Operand.tmp 65), type := 4, pos := "law.go:21", after := #[{ on := 38, ground := Ground.data }, { on := 37, ground := Ground.chain }], guard := none }) (v := ?_) rfl (by kernel_rfl) (by kernel_rfl) (by kernel_rfl) (fun _ _ _ h => h) (Or.inl ⟨by rfl, ?_⟩) (by assumption) ?_
  rotate_left
  · (intro wq hSw; (try dsimp only at hSw); go_simp; first | done | with_reducible rfl)
  try simp only [Act.put, List.setIfInBounds_toArray, List.set_cons_zero, List.set_cons_succ]
  refine wpAnyH_take (i := 40) (oi := { dst := some 67, op := Op.load 25 (Operand.tmp 7), type := 25, pos := "law.go:21", after := #[{ on := 39, ground := Ground.guard }], guard := some (39, true) }) (v := ?_) rfl (by kernel_rfl) (by kernel_rfl) (by kernel_rfl) (fun _ _ _ h => h) (Or.inl ⟨by rfl, ?_⟩) (by assumption) ?_
  rotate_left
  · (intro wq hSw; (try dsimp only at hSw); go_simp; first | done | with_reducible rfl)
  try simp only [Act.put, List.setIfInBounds_toArray, List.set_cons_zero, List.set_cons_succ]
  refine wpAnyH_take (i := 41) (oi := { dst := some 68, op := Op.load 25 (Operand.tmp 7), type := 25, pos := "law.go:21", after := #[{ on := 39, ground := Ground.guard }], guard := some (39, true) }) (v := ?_) rfl (by kernel_rfl) (by kernel_rfl) (by kernel_rfl) (fun _ _ _ h => h) (Or.inl ⟨by rfl, ?_⟩) (by assumption) ?_
  rotate_left
  · (intro wq hSw; (try dsimp only at hSw); go_simp; first | done | with_reducible rfl)
  try simp only [Act.put, List.setIfInBounds_toArray, List.set_cons_zero, List.set_cons_succ]
  refine wpAnyH_ready (rs := [42]) (by kernel_rfl) (by simp) ?_
  refine AllReadyH.cons (o := { dst := some 69, op := Op.call { callee := Callee.value (Operand.func 23), args := #[Operand.tmp 67, Operand.tmp 68], argTypes := #[25, 25] }, type := 4, pos := "law.go:21", after := #[{ on := 40, ground := Ground.data }, { on := 41, ground := Ground.data }, { on := 39, ground := Ground.chain }, { on := 39, ground := Ground.guard }], guard := some (39, true) }) rfl (fun K hK => ?_) AllReadyH.nil
  go_simp
  refine (same_any 0 0 0 _ badL 0 0 0 _ badL _ (by decide) (by decide) (HB6.out.new hh6) (HB6.out.new hh6)).mono ?_
  rintro e wk7 ⟨rfl, hk7⟩
  have hh7 := hh6.trans hk7
  rw [show sameB 0 0 0 badL 0 0 0 badL = true by simp [sameB]]
  refine hK.out _ _ ?_ (fun hHeld => ?_)
  · exact Held.of hh7
  clear hK K
  try simp only [Act.put, List.setIfInBounds_toArray, List.set_cons_zero, List.set_cons_succ]
  refine wpAnyH_take (i := 43) (oi := { dst := some 70, op := Op.pick (Operand.tmp 66) (Operand.tmp 69) (Operand.const (Value.bool false)), type := 4, pos := "law.go:21", after := #[{ on := 39, ground := Ground.data }, { on := 42, ground := Ground.data }], guard := none }) (v := ?_) rfl (by kernel_rfl) (by kernel_rfl) (by kernel_rfl) (fun _ _ _ h => h) (Or.inl ⟨by rfl, ?_⟩) (by assumption) ?_
  rotate_left
  · (intro wq hSw; (try dsimp only at hSw); go_simp; first | done | with_reducible rfl)
  try simp only [Act.put, List.setIfInBounds_toArray, List.set_cons_zero, List.set_cons_succ]
  refine wpAnyH_take (i := 44) (oi := { dst := some 0, op := Op.assign (Operand.tmp 70), type := 4, pos := "law.go:21", after := #[{ on := 43, ground := Ground.data }, { on := 42, ground := Ground.chain }, { on := 0, ground := Ground.phase }, { on := 1, ground := Ground.phase }, { on := 2, ground := Ground.phase }, { on := 3, ground := Ground.phase }, { on := 4, ground := Ground.phase }, { on := 5, ground := Ground.phase }, { on := 6, ground := Ground.phase }, { on := 7, ground := Ground.phase }, { on := 8, ground := Ground.phase }, { on := 9, ground := Ground.phase }, { on := 10, ground := Ground.phase }, { on := 11, ground := Ground.phase }, { on := 12, ground := Ground.phase }, { on := 13, ground := Ground.phase }, { on := 14, ground := Ground.phase }, { on := 15, ground := Ground.phase }, { on := 16, ground := Ground.phase }, { on := 17, ground := Ground.phase }, { on := 18, ground := Ground.phase }, { on := 19, ground := Ground.phase }, { on := 20, ground := Ground.phase }, { on := 21, ground := Ground.phase }, { on := 22, ground := Ground.phase }, { on := 23, ground := Ground.phase }, { on := 24, ground := Ground.phase }, { on := 25, ground := Ground.phase }, { on := 26, ground := Ground.phase }, { on := 27, ground := Ground.phase }, { on := 28, ground := Ground.phase }, { on := 29, ground := Ground.phase }, { on := 30, ground := Ground.phase }, { on := 31, ground := Ground.phase }, { on := 32, ground := Ground.phase }, { on := 33, ground := Ground.phase }, { on := 34, ground := Ground.phase }, { on := 35, ground := Ground.phase }, { on := 36, ground := Ground.phase }, { on := 37, ground := Ground.phase }, { on := 38, ground := Ground.phase }, { on := 39, ground := Ground.phase }, { on := 40, ground := Ground.phase }, { on := 41, ground := Ground.phase }, { on := 42, ground := Ground.phase }, { on := 43, ground := Ground.phase }], guard := none }) (v := ?_) rfl (by kernel_rfl) (by kernel_rfl) (by kernel_rfl) (fun _ _ _ h => h) (Or.inl ⟨by rfl, ?_⟩) (by assumption) ?_
  rotate_left
  · (intro wq hSw; (try dsimp only at hSw); go_simp; first | done | with_reducible rfl)
  try simp only [Act.put, List.setIfInBounds_toArray, List.set_cons_zero]
  refine wpAnyH_done (by kernel_rfl) ?_ _
  clear hHeld
  go_wp2_with fail
  go_ret
  exact ⟨rfl, hN6.trans hh7⟩
end Go.Proofs.Ytdobingccipkkaa
