/- Chapter 5 (batch): the document's Put. Printed by genBat6.py. -/
import Derived.Test.YtdobingccipkkaaBat5
import Derived.Test.YtdobingccipkkaaRef03t
import Derived.Deep.RegionHeld3
namespace Go.Proofs.Ytdobingccipkkaa
open Go.RowKit Go.Lap
set_option linter.unusedVariables false

/-- What the document's Put answers. -/
def RPutPost (w : World) (c r s : Nat) (l : List Wri) (e : Ending) (w' : World) : Prop := New w w' ∧
  ((chk l = 0 ∧ e = .returned (.tuple #[.string (str (encB c r s l)), .int .i64 0])) ∨ (chk l ≠ 0 ∧ e = .returned (.tuple #[.string ⟨#[]⟩, .int .i64 (chk l)])))

def RPutRel (w1 : World) (c r s : Nat) (l : List Wri) (k : Nat) (t : Value) (wr : World) : Prop := New w1 wr ∧ ∃ bs : List UInt8, bs = encH c r s l.length ++ (l.take k).flatMap encW ∧ t = .string (str bs) ∧ bs.length ≤ 40 + 400 * k

theorem flag_one : varB (flagN true) = [1] := by rw [show flagN true = 1 from rfl, varB_small (by decide)]; rfl
theorem flag_zero : varB (flagN false) = [0] := by rw [show flagN false = 0 from rfl, varB_small (by decide)]; rfl

set_option maxRecDepth 100000 in
set_option maxHeartbeats 8000000 in
theorem refPutB_any (c r s : Nat) (v : Value) (l : List Wri) (w : World) (hl : l.length ≤ 1000000000) (hc : c < 18446744073709551616) (hr : r < 18446744073709551616) (hst : s < 18446744073709551616) (hs : SlIn w 3 Wri.enc v l) :
    Calls Try.prog 18 #[.agg #[.int .u64 (c : Int), .int .u64 (r : Int), .int .u64 (s : Int), v]] w (RPutPost w c r s l) := by
  have HS := Lib.hid hs
  obtain ⟨A, cap, rfl, hlc, hh⟩ := hs
  have HB0 := Lib.hid (Blk.mk_new w 25 #[.int .u64 (c : Int), .int .u64 (r : Int), .int .u64 (s : Int), .slice A l.length cap])
  have HN0 := Lib.hid ((New.refl w).alloc (.cells #[.int .u64 (c : Int), .int .u64 (r : Int), .int .u64 (s : Int), .slice A l.length cap] 25))
  have hl1 := varB_len10 hc
  have hl2 := varB_len10 hr
  have hl3 := varB_len10 hst
  have hl4 := varB_len10 (n := l.length) (by omega)
  go_enter Try.func18, Try.ntmps18
  go_wp2_with fail
  refine (refCheck_any c r s _ l _ hl (HS.out.new HN0.out)).mono ?_
  rintro e w1 ⟨rfl, hn1⟩
  by_cases hch : chk l = 0
  rotate_left
  · have HF := Lib.hid hch
    have hne : ((chk l : Int) != 0) = true := by simpa using hch
    clear hch
    go_wp2_with fail
    go_ret2
    exact ⟨HN0.out.trans hn1, .inr ⟨HF.out, rfl⟩⟩
  have HCH := Lib.hid hch
  rw [hch]
  clear hch
  obtain ⟨hne, hl8, hall⟩ := chk_ok HCH.out
  have hn1w := HN0.out.trans hn1
  obtain ⟨p0, p1, p2, p3, p4, pz⟩ := Blk4F (HB0.out.new hn1)
  rcases hh with rfl | ⟨b, off, rfl, hbb, hcel⟩
  · simp at hne
  have hlw : IntKind.u64.wrap (l.length : Int) = (l.length : Int) := by rw [IntKind.wrap_u64]; omega
  have HLC := Lib.hid (show l.length < 18446744073709551616 by omega)
  have HC := Lib.hid hc
  have HR := Lib.hid hr
  have HT := Lib.hid hst
  have a1 := str_size (varB c)
  have a2 := str_size (varB r)
  have a3 := str_size (varB s)
  have a4 := str_size (varB l.length)
  have z1 : ¬ 9223372036854775807 < (str (varB c)).size + (str (varB r)).size := by omega
  have z2 : ¬ 9223372036854775807 < (str (varB c)).size + (str (varB r)).size + (str (varB s)).size := by omega
  have z3 : ¬ 9223372036854775807 < (str (varB c)).size + (str (varB r)).size + (str (varB s)).size + (str (varB l.length)).size := by omega
  have HSE := Lib.hid (show str (varB c) ++ str (varB r) ++ str (varB s) ++ str (varB l.length) = str (encH c r s l.length) by rw [str_append, str_append, str_append]; rfl)
  have HHL := Lib.hid (show (encH c r s l.length).length ≤ 40 by simp only [encH, List.length_append]; omega)
  clear a1 a2 a3 a4 hl1 hl2 hl3 hl4 hc hr hst
  go_upto_region 4 with fail
  refine wp_region_held_drew (S := fun w' => Held w1 w') (by kernel_rfl) (Held.of (New.refl _).drew) (fun hHeld => ?_)
  refine wpAnyH_take (i := 0) (oi := { dst := some 13, op := Op.fieldAddr 25 (Operand.tmp 1) 0, type := 0, pos := "ref.go:53", after := #[], guard := none }) (v := ?_) rfl (by kernel_rfl) (by kernel_rfl) (by kernel_rfl) (fun _ _ _ h => h) (Or.inl ⟨by rfl, ?_⟩) (by assumption) ?_
  rotate_left
  · (intro wq hSw; (try dsimp only at hSw); go_simp; first | done | with_reducible rfl)
  try simp only [Act.put, List.setIfInBounds_toArray, List.set_cons_zero, List.set_cons_succ]
  refine wpAnyH_take (i := 1) (oi := { dst := some 14, op := Op.load 22 (Operand.tmp 13), type := 22, pos := "ref.go:53", after := #[{ on := 0, ground := Ground.data }], guard := none }) (v := ?_) rfl (by kernel_rfl) (by kernel_rfl) (by kernel_rfl) (fun _ _ _ h => h) (Or.inl ⟨by rfl, ?_⟩) (by assumption) ?_
  rotate_left
  · (intro wq hSw; (try dsimp only at hSw); go_simp; first | done | with_reducible rfl)
  try simp only [Act.put, List.setIfInBounds_toArray, List.set_cons_zero, List.set_cons_succ]
  refine wpAnyH_take (i := 3) (oi := { dst := some 16, op := Op.fieldAddr 25 (Operand.tmp 1) 1, type := 0, pos := "ref.go:53", after := #[], guard := none }) (v := ?_) rfl (by kernel_rfl) (by kernel_rfl) (by kernel_rfl) (fun _ _ _ h => h) (Or.inl ⟨by rfl, ?_⟩) (by assumption) ?_
  rotate_left
  · (intro wq hSw; (try dsimp only at hSw); go_simp; first | done | with_reducible rfl)
  try simp only [Act.put, List.setIfInBounds_toArray, List.set_cons_zero, List.set_cons_succ]
  refine wpAnyH_take (i := 4) (oi := { dst := some 17, op := Op.load 22 (Operand.tmp 16), type := 22, pos := "ref.go:53", after := #[{ on := 3, ground := Ground.data }], guard := none }) (v := ?_) rfl (by kernel_rfl) (by kernel_rfl) (by kernel_rfl) (fun _ _ _ h => h) (Or.inl ⟨by rfl, ?_⟩) (by assumption) ?_
  rotate_left
  · (intro wq hSw; (try dsimp only at hSw); go_simp; first | done | with_reducible rfl)
  try simp only [Act.put, List.setIfInBounds_toArray, List.set_cons_zero, List.set_cons_succ]
  refine wpAnyH_take (i := 7) (oi := { dst := some 20, op := Op.fieldAddr 25 (Operand.tmp 1) 2, type := 0, pos := "ref.go:53", after := #[], guard := none }) (v := ?_) rfl (by kernel_rfl) (by kernel_rfl) (by kernel_rfl) (fun _ _ _ h => h) (Or.inl ⟨by rfl, ?_⟩) (by assumption) ?_
  rotate_left
  · (intro wq hSw; (try dsimp only at hSw); go_simp; first | done | with_reducible rfl)
  try simp only [Act.put, List.setIfInBounds_toArray, List.set_cons_zero, List.set_cons_succ]
  refine wpAnyH_take (i := 8) (oi := { dst := some 21, op := Op.load 22 (Operand.tmp 20), type := 22, pos := "ref.go:53", after := #[{ on := 7, ground := Ground.data }], guard := none }) (v := ?_) rfl (by kernel_rfl) (by kernel_rfl) (by kernel_rfl) (fun _ _ _ h => h) (Or.inl ⟨by rfl, ?_⟩) (by assumption) ?_
  rotate_left
  · (intro wq hSw; (try dsimp only at hSw); go_simp; first | done | with_reducible rfl)
  try simp only [Act.put, List.setIfInBounds_toArray, List.set_cons_zero, List.set_cons_succ]
  refine wpAnyH_take (i := 11) (oi := { dst := some 24, op := Op.fieldAddr 25 (Operand.tmp 1) 3, type := 0, pos := "ref.go:53", after := #[], guard := none }) (v := ?_) rfl (by kernel_rfl) (by kernel_rfl) (by kernel_rfl) (fun _ _ _ h => h) (Or.inl ⟨by rfl, ?_⟩) (by assumption) ?_
  rotate_left
  · (intro wq hSw; (try dsimp only at hSw); go_simp; first | done | with_reducible rfl)
  try simp only [Act.put, List.setIfInBounds_toArray, List.set_cons_zero, List.set_cons_succ]
  refine wpAnyH_take (i := 12) (oi := { dst := some 25, op := Op.load 23 (Operand.tmp 24), type := 23, pos := "ref.go:53", after := #[{ on := 11, ground := Ground.data }], guard := none }) (v := ?_) rfl (by kernel_rfl) (by kernel_rfl) (by kernel_rfl) (fun _ _ _ h => h) (Or.inl ⟨by rfl, ?_⟩) (by assumption) ?_
  rotate_left
  · (intro wq hSw; (try dsimp only at hSw); go_simp; first | done | with_reducible rfl)
  try simp only [Act.put, List.setIfInBounds_toArray, List.set_cons_zero, List.set_cons_succ]
  refine wpAnyH_take (i := 13) (oi := { dst := some 26, op := Op.call { callee := Callee.builtin Builtin.len, args := #[Operand.tmp 25], argTypes := #[23] }, type := 3, pos := "ref.go:53", after := #[{ on := 12, ground := Ground.data }], guard := none }) (v := ?_) rfl (by kernel_rfl) (by kernel_rfl) (by kernel_rfl) (fun _ _ _ h => h) (Or.inl ⟨by rfl, ?_⟩) (by assumption) ?_
  rotate_left
  · (intro wq hSw; (try dsimp only at hSw); go_simp; first | done | with_reducible rfl)
  try simp only [Act.put, List.setIfInBounds_toArray, List.set_cons_zero, List.set_cons_succ]
  refine wpAnyH_take (i := 14) (oi := { dst := some 27, op := Op.convert 3 22 (Operand.tmp 26), type := 22, pos := "ref.go:53", after := #[{ on := 13, ground := Ground.data }], guard := none }) (v := ?_) rfl (by kernel_rfl) (by kernel_rfl) (by kernel_rfl) (fun _ _ _ h => h) (Or.inl ⟨by rfl, ?_⟩) (by assumption) ?_
  rotate_left
  · (intro wq hSw; (try dsimp only at hSw); go_simp; first | done | with_reducible rfl)
  try simp only [Act.put, List.setIfInBounds_toArray, List.set_cons_zero, List.set_cons_succ]
  refine wpAnyH_ready (rs := [2]) (by kernel_rfl) (by simp) ?_
  refine AllReadyH.cons (o := { dst := some 15, op := Op.call { callee := Callee.value (Operand.func 35), args := #[Operand.tmp 14], argTypes := #[22] }, type := 9, pos := "ref.go:53", after := #[{ on := 1, ground := Ground.data }], guard := none }) rfl (fun K hK => ?_) AllReadyH.nil
  go_simp
  refine (refVar_any c _ HC.out).mono ?_
  rintro e v1 ⟨rfl, hv1⟩
  have hw1 := (New.refl w1).drew.trans hv1
  refine hK.out _ _ ?_ (fun hHeld => ?_)
  · exact Held.of hw1
  clear hK K
  try simp only [Act.put, List.setIfInBounds_toArray, List.set_cons_zero, List.set_cons_succ]
  refine wpAnyH_ready (rs := [5]) (by kernel_rfl) (by simp) ?_
  refine AllReadyH.cons (o := { dst := some 18, op := Op.call { callee := Callee.value (Operand.func 35), args := #[Operand.tmp 17], argTypes := #[22] }, type := 9, pos := "ref.go:53", after := #[{ on := 4, ground := Ground.data }, { on := 2, ground := Ground.chain }], guard := none }) rfl (fun K hK => ?_) AllReadyH.nil
  go_simp
  refine (refVar_any r _ HR.out).mono ?_
  rintro e v2 ⟨rfl, hv2⟩
  have hw2 := hw1.trans hv2
  refine hK.out _ _ ?_ (fun hHeld => ?_)
  · exact Held.of hw2
  clear hK K
  try simp only [Act.put, List.setIfInBounds_toArray, List.set_cons_zero, List.set_cons_succ]
  refine wpAnyH_take (i := 6) (oi := { dst := some 19, op := Op.binOp BinOp.add 9 (Operand.tmp 15) (Operand.tmp 18) 9, type := 9, pos := "ref.go:53", after := #[{ on := 2, ground := Ground.data }, { on := 5, ground := Ground.data }], guard := none }) (v := ?_) rfl (by kernel_rfl) (by kernel_rfl) (by kernel_rfl) (fun _ _ _ h => h) (Or.inl ⟨by rfl, ?_⟩) (by assumption) ?_
  rotate_left
  · (intro wq hSw; (try dsimp only at hSw); go_simp; first | done | with_reducible rfl)
  try simp only [Act.put, List.setIfInBounds_toArray, List.set_cons_zero, List.set_cons_succ]
  refine wpAnyH_ready (rs := [9]) (by kernel_rfl) (by simp) ?_
  refine AllReadyH.cons (o := { dst := some 22, op := Op.call { callee := Callee.value (Operand.func 35), args := #[Operand.tmp 21], argTypes := #[22] }, type := 9, pos := "ref.go:53", after := #[{ on := 8, ground := Ground.data }, { on := 5, ground := Ground.chain }], guard := none }) rfl (fun K hK => ?_) AllReadyH.nil
  go_simp
  refine (refVar_any s _ HT.out).mono ?_
  rintro e v3 ⟨rfl, hv3⟩
  have hw3 := hw2.trans hv3
  refine hK.out _ _ ?_ (fun hHeld => ?_)
  · exact Held.of hw3
  clear hK K
  try simp only [Act.put, List.setIfInBounds_toArray, List.set_cons_zero, List.set_cons_succ]
  refine wpAnyH_take (i := 10) (oi := { dst := some 23, op := Op.binOp BinOp.add 9 (Operand.tmp 19) (Operand.tmp 22) 9, type := 9, pos := "ref.go:53", after := #[{ on := 6, ground := Ground.data }, { on := 9, ground := Ground.data }], guard := none }) (v := ?_) rfl (by kernel_rfl) (by kernel_rfl) (by kernel_rfl) (fun _ _ _ h => h) (Or.inl ⟨by rfl, ?_⟩) (by assumption) ?_
  rotate_left
  · (intro wq hSw; (try dsimp only at hSw); go_simp; first | done | with_reducible rfl)
  try simp only [Act.put, List.setIfInBounds_toArray, List.set_cons_zero, List.set_cons_succ]
  refine wpAnyH_ready (rs := [15]) (by kernel_rfl) (by simp) ?_
  refine AllReadyH.cons (o := { dst := some 28, op := Op.call { callee := Callee.value (Operand.func 35), args := #[Operand.tmp 27], argTypes := #[22] }, type := 9, pos := "ref.go:53", after := #[{ on := 14, ground := Ground.data }, { on := 9, ground := Ground.chain }], guard := none }) rfl (fun K hK => ?_) AllReadyH.nil
  go_simp
  refine (refVar_any l.length _ HLC.out).mono ?_
  rintro e v4 ⟨rfl, hv4⟩
  have hw4 := hw3.trans hv4
  refine hK.out _ _ ?_ (fun hHeld => ?_)
  · exact Held.of hw4
  clear hK K
  try simp only [Act.put, List.setIfInBounds_toArray, List.set_cons_zero, List.set_cons_succ]
  refine wpAnyH_take (i := 16) (oi := { dst := some 29, op := Op.binOp BinOp.add 9 (Operand.tmp 23) (Operand.tmp 28) 9, type := 9, pos := "ref.go:53", after := #[{ on := 10, ground := Ground.data }, { on := 15, ground := Ground.data }], guard := none }) (v := ?_) rfl (by kernel_rfl) (by kernel_rfl) (by kernel_rfl) (fun _ _ _ h => h) (Or.inl ⟨by rfl, ?_⟩) (by assumption) ?_
  rotate_left
  · (intro wq hSw; (try dsimp only at hSw); go_simp; first | done | with_reducible rfl)
  try simp only [Act.put, List.setIfInBounds_toArray, List.set_cons_zero, List.set_cons_succ]
  refine wpAnyH_take (i := 17) (oi := { dst := some 5, op := Op.assign (Operand.tmp 29), type := 9, pos := "ref.go:53", after := #[{ on := 16, ground := Ground.data }, { on := 15, ground := Ground.chain }, { on := 0, ground := Ground.phase }, { on := 1, ground := Ground.phase }, { on := 2, ground := Ground.phase }, { on := 3, ground := Ground.phase }, { on := 4, ground := Ground.phase }, { on := 5, ground := Ground.phase }, { on := 6, ground := Ground.phase }, { on := 7, ground := Ground.phase }, { on := 8, ground := Ground.phase }, { on := 9, ground := Ground.phase }, { on := 10, ground := Ground.phase }, { on := 11, ground := Ground.phase }, { on := 12, ground := Ground.phase }, { on := 13, ground := Ground.phase }, { on := 14, ground := Ground.phase }, { on := 15, ground := Ground.phase }, { on := 16, ground := Ground.phase }], guard := none }) (v := ?_) rfl (by kernel_rfl) (by kernel_rfl) (by kernel_rfl) (fun _ _ _ h => h) (Or.inl ⟨by rfl, ?_⟩) (by assumption) ?_
  rotate_left
  · (intro wq hSw; (try dsimp only at hSw); go_simp; first | done | with_reducible rfl)
  try simp only [Act.put, List.setIfInBounds_toArray, List.set_cons_zero, List.set_cons_succ]
  refine wpAnyH_done (by kernel_rfl) ?_ _
  rw [HSE.out]
  have HC1 := Lib.hid hn1w
  have HBX := Lib.hid (HB0.out.new hn1)
  have HW4 := Lib.hid hw4
  clear hHeld hv1 hv2 hv3 hv4 hw1 hw2 hw3 hw4 z1 z2 z3 hlw p0 p1 p2 p3 p4 pz hn1 hn1w HC HR HT HLC HSE
  generalize hh0 : encH c r s l.length = hd at *
  have HH0 := Lib.hid hh0
  clear hh0
  go_wp2_with fail
  go_loopw [5, 6, 7] (fun t i _ wr => ∃ k : Nat, k ≤ l.length ∧ i = .int .i64 k ∧ RPutRel w1 c r s l k t wr) (fun _ i _ _ => l.length - (intOf i).toNat)
  case atStart => exact ⟨0, by omega, rfl, HW4.out, hd, by rw [HH0.out]; simp, rfl, by have := HHL.out; omega⟩
  case round =>
    obtain ⟨k, hk, rfl, hn, bs, hbs, rfl, hle⟩ := hrel
    have HB := Lib.hid hbs
    clear hbs
    obtain ⟨p0, p1, p2, p3, p4, pz⟩ := Blk4F (HBX.out.new hn)
    have hCo := HC1.out.trans hn
    by_cases hlt : k < l.length
    · have hlt2 : (k : Int) < (l.length : Int) := by omega
      have hk0 : (0 : Int) ≤ (k : Int) := by omega
      obtain ⟨x, hx⟩ : ∃ x, l[k]? = some x := ⟨_, List.getElem?_eq_getElem hlt⟩
      have hck := hall x (List.mem_of_getElem? hx)
      obtain ⟨s1, s2, s3, s4⟩ := chk1_ok hck
      have HWL := Lib.hid (encW_len hck)
      obtain ⟨e0, e1, e2⟩ := SlIn.three (fun k x h j u hu => (hCo.cells.1 _ _ hbb).trans (hcel k x h j u hu)) hx
      have HSN := Lib.hid (encs_snoc hx)
      have HEV := Lib.hid (show encW x = varB x.key.size ++ x.key.data.toList ++ varB (flagN x.gone) ++ (if x.gone then [] else varB x.val.size ++ x.val.data.toList) from rfl)
      clear hx hcel hck s4
      obtain ⟨key, val, gone⟩ := x
      simp only at e0 e1 e2 s1 s2 s3
      have hXa := Blk.mk_new wr 43 #[.string key, .string val, .bool gone]
      have hN4 := hn.alloc (.cells #[.string key, .string val, .bool gone] 43)
      have kk : key.data.toList.length = key.size := by rw [Array.length_toList]; rfl
      have vv : val.data.toList.length = val.size := by rw [Array.length_toList]; rfl
      have m1 := varB_len10 (n := key.size) (by omega)
      have m2 := varB_len10 (n := val.size) (by omega)
      have n1 : (varB key.size ++ key.data.toList).length ≤ 74 := by rw [List.length_append]; omega
      have n2 : (varB val.size ++ val.data.toList).length ≤ 266 := by rw [List.length_append]; omega
      generalize hk1 : varB key.size ++ key.data.toList = kb at *
      generalize hv1 : varB val.size ++ val.data.toList = vb at *
      have a1 := str_size bs
      have a2 := str_size kb
      have a3 := str_size vb
      have z1 : ¬ 9223372036854775807 < (str bs).size + (str kb).size := by omega
      have HK1 := Lib.hid hk1
      have HV1 := Lib.hid hv1
      have N1 := Lib.hid n1
      have N2 := Lib.hid n2
      have z2 : ¬ 9223372036854775807 < (str bs).size + (str kb).size + 1 := by omega
      have z3 : ¬ 9223372036854775807 < 1 + (str vb).size := by omega
      have z4 : ¬ 9223372036854775807 < (str bs).size + (str kb).size + (1 + (str vb).size) := by omega
      clear a1 a2 a3 hk1 hv1 m1 m2 kk vv n1 n2
      go_wp2_with fail
      refine (refTextW_any key _ (by omega)).mono ?_
      rw [HK1.out]
      rintro e w5 ⟨rfl, hn5⟩
      have hX5 := hXa.new hn5
      have hN5 := hN4.trans hn5
      clear e0 e1 e2 p0 p1 p2 p3 p4 pz hXa hn5
      obtain ⟨x0, x1, x2, x3, xz⟩ := Blk3F hX5
      cases gone with
      | true =>
        have HF2 := Lib.hid (show bs ++ kb ++ [1] = encH c r s l.length ++ (l.take (k + 1)).flatMap encW by rw [HSN.out, HEV.out, flag_one, ← List.append_assoc (encH c r s l.length), ← HB.out]; simp)
        go_wp2_with fail
        go_roundw
        case rel => exact ⟨k + 1, by omega, by go_num, hN5, bs ++ kb ++ [1], HF2.out, congrArg Value.string (by rw [← str_append, ← str_append]; rfl), by have := N1.out; simp only [List.length_append, List.length_cons, List.length_nil]; omega⟩
        case measure => simp [intOf]; omega
      | false =>
        have HF2 := Lib.hid (show bs ++ kb ++ ([0] ++ vb) = encH c r s l.length ++ (l.take (k + 1)).flatMap encW by rw [HSN.out, HEV.out, flag_zero, ← List.append_assoc (encH c r s l.length), ← HB.out]; simp)
        go_wp2_with fail
        refine (refTextW_any val _ (by omega)).mono ?_
        rw [HV1.out]
        rintro e w6 ⟨rfl, hn6⟩
        have hN6 := hN5.trans hn6
        clear x0 x1 x2 x3 xz hX5
        go_wp2_with fail
        go_roundw
        case rel => exact ⟨k + 1, by omega, by go_num, hN6, bs ++ kb ++ ([0] ++ vb), HF2.out, congrArg Value.string (by rw [← str_append, ← str_append, ← str_append]; rfl), by have := N1.out; have := N2.out; simp only [List.length_append, List.length_cons, List.length_nil]; omega⟩
        case measure => simp [intOf]; omega
    · have hlt2 : ¬ (k : Int) < (l.length : Int) := by omega
      have HE := Lib.hid (show bs = encB c r s l by rw [HB.out, List.take_of_length_le (by omega)]; rfl)
      go_wp2_with fail
      go_ret2
      exact ⟨hCo, .inl ⟨HCH.out, by rw [← HE.out]; rfl⟩⟩
end Go.Proofs.Ytdobingccipkkaa
