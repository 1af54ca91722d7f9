/- The walk of the law ConfigChanges (chapter 23): for every input it answers true. Printed by genCfg.py. -/
import Derived.Test.YtinpbjknakncdaaDoorCfgO
import Derived.Test.YtinpbjknakncdaaDoorCfgG
namespace Go.Proofs.YtinpbjknakncdaaDoor
open Go.RowKit Go.Lap
set_option linter.unusedVariables false

theorem rem_len2 (c : Cfg) (n : Int) : (remC c n).1.ms.length ≤ c.ms.length := rem_len c n
theorem join_len2 (c : Cfg) (n : Int) : (joinC c n).1.ms.length ≤ c.ms.length + 1 := join_len c n

set_option maxRecDepth 100000 in
set_option maxHeartbeats 16000000 in
theorem configChanges_walk (e : Nat) (v : Value) (ms : List Int) (n : Int) (w : World) (hep : e < 18446744073709551616) (hs : SlIn w 1 iEnc v ms) (henv : Env w) :
    Calls Tryd.prog 3 #[.agg #[.int .u64 (e : Int), v], .int .i64 n] w fun e' w' => e' = .returned (.bool true) ∧ New w w' := by
  obtain ⟨A, m, cap, rfl⟩ := hs.shape
  obtain ⟨A', c', hv, hlc, -⟩ := id hs
  cases hv
  have HE := Lib.hid henv
  have HS0 := Lib.hid hs
  have HN0 := Lib.hid ((New.refl w).alloc (.cells #[.int .u64 (e : Int), .slice A ms.length cap] 25))
  have HB0 := Lib.hid (Blk.mk_new w 25 #[.int .u64 (e : Int), .slice A ms.length cap])
  clear hs henv
  go_enter Tryd.func3, Tryd.ntmps3
  go_upto_region 1 with fail
  generalize w.alloc _ = w1 at *
  obtain ⟨p0, p1, p2, pz⟩ := Blk2F HB0.out
  go_wp2_with fail
  refine (few_any e _ ms w1 (HS0.out.new HN0.out)).mono ?_
  rintro e9 w2 ⟨rfl, hn2⟩
  have HN2 := Lib.hid (HN0.out.trans hn2)
  have HB2 := Lib.hid (HB0.out.new hn2)
  clear HN0 HB0 hn2 p0 p1 p2 pz
  by_cases h20 : ms.length ≤ 20
  rotate_left
  · rw [decide_eq_false h20]
    go_wp2_with fail
    refine (awake23 _ (HE.out.new HN2.out)).mono ?_
    rintro e9 wz ⟨rfl, hnz⟩
    go_wp2_with fail
    go_ret
    exact ⟨rfl, HN2.out.trans hnz⟩
  rw [decide_eq_true h20]
  obtain ⟨p0, p1, p2, pz⟩ := Blk2F HB2.out
  obtain ⟨⟨⟨re, rms⟩, rc⟩, hrr⟩ : ∃ r, remC ⟨e, ms⟩ n = r := ⟨_, rfl⟩
  obtain ⟨⟨⟨je, jms⟩, jc⟩, hjj⟩ : ∃ r, joinC ⟨e, ms⟩ n = r := ⟨_, rfl⟩
  have HL : Hid (rms.length ≤ 1000 ∧ jms.length ≤ 1000) := Lib.hid ⟨by have := rem_len2 ⟨e, ms⟩ n; rw [hrr] at this; dsimp only at this; omega, by have := join_len2 ⟨e, ms⟩ n; rw [hjj] at this; dsimp only at this; omega⟩
  have hc1 := fun wx hx => remove_any e (.slice A ms.length cap) ms n wx hep (by omega) hx
  have hc2 := fun wx hx => refRemove_any e (.slice A ms.length cap) ms n wx hep (by omega) hx
  have hc3 := fun wx hx => join_any e (.slice A ms.length cap) ms n wx hep (by omega) hx
  have hc4 := fun wx hx => refJoin_any e (.slice A ms.length cap) ms n wx hep (by omega) hx
  rw [hrr] at hc1 hc2
  rw [hjj] at hc3 hc4
  clear hrr hjj
  go_wp2_with fail
  refine (hc1 _ (HS0.out.new HN2.out)).mono ?_
  rintro e9 wa ⟨ua, rfl, hsa, hna⟩
  obtain ⟨Aa, na, ca, rfl⟩ := hsa.shape
  dsimp only at hsa ⊢
  have hba := Blk.mk_new wa 25 #[.int .u64 (re : Int), .slice Aa na ca]
  have haa := (New.refl wa).alloc (.cells #[.int .u64 (re : Int), .slice Aa na ca] 25)
  have HSa := Lib.hid (hsa.new haa)
  have HBa := Lib.hid hba
  have hna2 := hna.trans haa
  have HN3 := Lib.hid (HN2.out.trans hna2)
  have HB3 := Lib.hid (HB2.out.new hna2)
  clear HN2 HB2 hsa hba haa hna hna2 p0 p1 p2 pz
  go_upto_region 4 with fail
  generalize wa.heap.size = ga at *
  generalize wa.alloc _ = w3 at *
  obtain ⟨p0, p1, p2, pz⟩ := Blk2F HB3.out
  go_wp2_with fail
  refine (hc2 _ (HS0.out.new HN3.out)).mono ?_
  rintro e9 wb ⟨ub, rfl, hsb, hnb⟩
  obtain ⟨Ab, nb, cb, rfl⟩ := hsb.shape
  dsimp only at hsb ⊢
  have hbb := Blk.mk_new wb 25 #[.int .u64 (re : Int), .slice Ab nb cb]
  have hab := (New.refl wb).alloc (.cells #[.int .u64 (re : Int), .slice Ab nb cb] 25)
  have HSb := Lib.hid (hsb.new hab)
  have HBb := Lib.hid hbb
  have hnb2 := hnb.trans hab
  have HN4 := Lib.hid (HN3.out.trans hnb2)
  have HB4 := Lib.hid (HB3.out.new hnb2)
  replace HSa := Lib.hid (HSa.out.new hnb2)
  replace HBa := Lib.hid (HBa.out.new hnb2)
  clear HN3 HB3 hsb hbb hab hnb hnb2 p0 p1 p2 pz
  go_upto_region 5 with fail
  generalize wb.heap.size = gb at *
  generalize wb.alloc _ = w4 at *
  obtain ⟨p0, p1, p2, pz⟩ := Blk2F HB4.out
  go_wp2_with fail
  refine (hc3 _ (HS0.out.new HN4.out)).mono ?_
  rintro e9 wc ⟨uc, rfl, hsc, hnc⟩
  obtain ⟨Ac, nc, cc, rfl⟩ := hsc.shape
  dsimp only at hsc ⊢
  have hbc := Blk.mk_new wc 25 #[.int .u64 (je : Int), .slice Ac nc cc]
  have hac := (New.refl wc).alloc (.cells #[.int .u64 (je : Int), .slice Ac nc cc] 25)
  have HSc := Lib.hid (hsc.new hac)
  have HBc := Lib.hid hbc
  have hnc2 := hnc.trans hac
  have HN5 := Lib.hid (HN4.out.trans hnc2)
  have HB5 := Lib.hid (HB4.out.new hnc2)
  replace HSa := Lib.hid (HSa.out.new hnc2)
  replace HBa := Lib.hid (HBa.out.new hnc2)
  replace HSb := Lib.hid (HSb.out.new hnc2)
  replace HBb := Lib.hid (HBb.out.new hnc2)
  clear HN4 HB4 hsc hbc hac hnc hnc2 p0 p1 p2 pz
  go_upto_region 6 with fail
  generalize wc.heap.size = gc at *
  generalize wc.alloc _ = w5 at *
  obtain ⟨p0, p1, p2, pz⟩ := Blk2F HB5.out
  go_wp2_with fail
  refine (hc4 _ (HS0.out.new HN5.out)).mono ?_
  rintro e9 wd ⟨ud, rfl, hsd, hnd⟩
  obtain ⟨Ad, nd, cd, rfl⟩ := hsd.shape
  dsimp only at hsd ⊢
  have hbd := Blk.mk_new wd 25 #[.int .u64 (je : Int), .slice Ad nd cd]
  have had := (New.refl wd).alloc (.cells #[.int .u64 (je : Int), .slice Ad nd cd] 25)
  have HSd := Lib.hid (hsd.new had)
  have HBd := Lib.hid hbd
  have hnd2 := hnd.trans had
  have HN6 := Lib.hid (HN5.out.trans hnd2)
  have HB6 := Lib.hid (HB5.out.new hnd2)
  replace HSa := Lib.hid (HSa.out.new hnd2)
  replace HBa := Lib.hid (HBa.out.new hnd2)
  replace HSb := Lib.hid (HSb.out.new hnd2)
  replace HBb := Lib.hid (HBb.out.new hnd2)
  replace HSc := Lib.hid (HSc.out.new hnd2)
  replace HBc := Lib.hid (HBc.out.new hnd2)
  clear HN5 HB5 hsd hbd had hnd hnd2 p0 p1 p2 pz
  go_upto_region 7 with fail
  generalize wd.heap.size = gd at *
  generalize wd.alloc _ = w6 at *
  obtain ⟨p0, p1, p2, pz⟩ := Blk2F HB6.out
  clear hc1 hc2 hc3 hc4
  obtain ⟨a0, a1, a2, az⟩ := Blk2F HBa.out
  obtain ⟨b0, b1, b2, bz⟩ := Blk2F HBb.out
  obtain ⟨c0, c1, c2, cz⟩ := Blk2F HBc.out
  obtain ⟨d0, d1, d2, dz⟩ := Blk2F HBd.out
  obtain ⟨ck, hck⟩ : ∃ ck, chkC ⟨e, ms⟩ = ck := ⟨_, rfl⟩
  have HCK := Lib.hid hck
  clear hck
  refine wp_region_held_drew (S := fun w' => Held w6 w') (by kernel_rfl) (Held.of (New.refl _).drew) (fun hHeld => ?_)
  refine wpAnyH_ready (rs := [0]) (by kernel_rfl) (by simp) ?_
  refine AllReadyH.cons (o := { dst := some 41, op := Op.call { callee := Callee.value (Operand.func 11), args := #[], argTypes := #[] }, type := 4, pos := "law.go:35", after := #[], guard := none }) rfl (fun K hK => ?_) AllReadyH.nil
  go_simp
  refine (awake23 _ (HE.out.new (HN6.out.trans (New.refl w6).drew))).mono ?_
  rintro e9 wk0 ⟨rfl, hk0⟩
  have hn0 := ((New.refl w6).drew).trans hk0
  refine hK.out _ _ ?_ (fun hHeld => ?_)
  · exact Held.of hn0
  clear hK K
  try simp only [Act.put, List.setIfInBounds_toArray, List.set_cons_zero, List.set_cons_succ]
  refine wpAnyH_take (i := 1) (oi := { dst := some 42, op := Op.move (Operand.tmp 41), type := 4, pos := "law.go:35", after := #[{ on := 0, ground := Ground.data }, { on := 0, ground := Ground.chain }], guard := none }) (v := ?_) rfl (by kernel_rfl) (by kernel_rfl) (by kernel_rfl) (fun _ _ _ h => h) (Or.inl ⟨by rfl, ?_⟩) (by assumption) ?_
  rotate_left
  · (intro wq hSw; (try dsimp only at hSw); go_simp; first | done | with_reducible rfl)
  try simp only [Act.put, List.setIfInBounds_toArray, List.set_cons_zero, List.set_cons_succ]
  refine wpAnyH_take (i := 2) (oi := { dst := some 43, op := Op.load 25 (Operand.tmp 5), type := 25, pos := "law.go:35", after := #[{ on := 1, ground := Ground.guard }], guard := some (1, true) }) (v := ?_) rfl (by kernel_rfl) (by kernel_rfl) (by kernel_rfl) (fun _ _ _ h => h) (Or.inl ⟨by rfl, ?_⟩) (by assumption) ?_
  rotate_left
  · (intro wq hSw; (try dsimp only at hSw); go_simp; first | done | with_reducible rfl)
  try simp only [Act.put, List.setIfInBounds_toArray, List.set_cons_zero, List.set_cons_succ]
  refine wpAnyH_take (i := 3) (oi := { dst := some 44, op := Op.load 25 (Operand.tmp 7), type := 25, pos := "law.go:35", after := #[{ on := 1, ground := Ground.guard }], guard := some (1, true) }) (v := ?_) rfl (by kernel_rfl) (by kernel_rfl) (by kernel_rfl) (fun _ _ _ h => h) (Or.inl ⟨by rfl, ?_⟩) (by assumption) ?_
  rotate_left
  · (intro wq hSw; (try dsimp only at hSw); go_simp; first | done | with_reducible rfl)
  try simp only [Act.put, List.setIfInBounds_toArray, List.set_cons_zero, List.set_cons_succ]
  refine wpAnyH_ready (rs := [4]) (by kernel_rfl) (by simp) ?_
  refine AllReadyH.cons (o := { dst := some 45, op := Op.call { callee := Callee.value (Operand.func 16), args := #[Operand.tmp 43, Operand.tmp 44], argTypes := #[25, 25] }, type := 4, pos := "law.go:35", after := #[{ on := 2, ground := Ground.data }, { on := 3, ground := Ground.data }, { on := 1, ground := Ground.chain }, { on := 1, ground := Ground.guard }], guard := some (1, true) }) rfl (fun K hK => ?_) AllReadyH.nil
  go_simp
  refine (refSame_any re _ rms re _ rms _ (by have := HL.out.1; omega) (by have := HL.out.1; omega) (HSa.out.new hn0) (HSb.out.new hn0)).mono ?_
  rintro e9 wk1 ⟨rfl, hk1⟩
  rw [show sameC ⟨re, rms⟩ ⟨re, rms⟩ = true by simp [sameC]]
  have hn1 := (hn0).trans hk1
  refine hK.out _ _ ?_ (fun hHeld => ?_)
  · exact Held.of hn1
  clear hK K
  try simp only [Act.put, List.setIfInBounds_toArray, List.set_cons_zero, List.set_cons_succ]
  refine wpAnyH_take (i := 5) (oi := { dst := some 46, op := Op.pick (Operand.tmp 42) (Operand.tmp 45) (Operand.const (Value.bool false)), type := 4, pos := "law.go:35", after := #[{ on := 1, ground := Ground.data }, { on := 4, ground := Ground.data }], guard := none }) (v := .bool true) rfl (by kernel_rfl) (by kernel_rfl) (by kernel_rfl) (fun _ _ _ h => h) (Or.inl ⟨by rfl, ?_⟩) (by assumption) ?_
  · (intro wq hSw; (try dsimp only at hSw); go_simp; first | done | with_reducible rfl | (simp; done) | (simp [str]))
  try simp only [Act.put, List.setIfInBounds_toArray, List.set_cons_zero, List.set_cons_succ]
  refine wpAnyH_take (i := 6) (oi := { dst := some 47, op := Op.move (Operand.tmp 46), type := 4, pos := "law.go:35", after := #[{ on := 5, ground := Ground.data }, { on := 4, ground := Ground.chain }], guard := none }) (v := ?_) rfl (by kernel_rfl) (by kernel_rfl) (by kernel_rfl) (fun _ _ _ h => h) (Or.inl ⟨by rfl, ?_⟩) (by assumption) ?_
  rotate_left
  · (intro wq hSw; (try dsimp only at hSw); go_simp; first | done | with_reducible rfl)
  try simp only [Act.put, List.setIfInBounds_toArray, List.set_cons_zero, List.set_cons_succ]
  refine wpAnyH_take (i := 7) (oi := { dst := some 48, op := Op.move (Operand.tmp 6), type := 28, pos := "law.go:35", after := #[{ on := 6, ground := Ground.guard }], guard := some (6, true) }) (v := ?_) rfl (by kernel_rfl) (by kernel_rfl) (by kernel_rfl) (fun _ _ _ h => h) (Or.inl ⟨by rfl, ?_⟩) (by assumption) ?_
  rotate_left
  · (intro wq hSw; (try dsimp only at hSw); go_simp; first | done | with_reducible rfl)
  try simp only [Act.put, List.setIfInBounds_toArray, List.set_cons_zero, List.set_cons_succ]
  refine wpAnyH_take (i := 8) (oi := { dst := some 49, op := Op.move (Operand.tmp 8), type := 28, pos := "law.go:35", after := #[{ on := 6, ground := Ground.guard }], guard := some (6, true) }) (v := ?_) rfl (by kernel_rfl) (by kernel_rfl) (by kernel_rfl) (fun _ _ _ h => h) (Or.inl ⟨by rfl, ?_⟩) (by assumption) ?_
  rotate_left
  · (intro wq hSw; (try dsimp only at hSw); go_simp; first | done | with_reducible rfl)
  try simp only [Act.put, List.setIfInBounds_toArray, List.set_cons_zero, List.set_cons_succ]
  refine wpAnyH_take (i := 9) (oi := { dst := some 50, op := Op.binOp BinOp.eql 28 (Operand.tmp 48) (Operand.tmp 49) 28, type := 4, pos := "law.go:35", after := #[{ on := 7, ground := Ground.data }, { on := 8, ground := Ground.data }, { on := 6, ground := Ground.guard }], guard := some (6, true) }) (v := .bool true) rfl (by kernel_rfl) (by kernel_rfl) (by kernel_rfl) (fun _ _ _ h => h) (Or.inl ⟨by rfl, ?_⟩) (by assumption) ?_
  · (intro wq hSw; (try dsimp only at hSw); go_simp; first | done | with_reducible rfl | (simp; done) | (simp [str]))
  try simp only [Act.put, List.setIfInBounds_toArray, List.set_cons_zero, List.set_cons_succ]
  refine wpAnyH_take (i := 10) (oi := { dst := some 51, op := Op.pick (Operand.tmp 47) (Operand.tmp 50) (Operand.const (Value.bool false)), type := 4, pos := "law.go:35", after := #[{ on := 6, ground := Ground.data }, { on := 9, ground := Ground.data }], guard := none }) (v := .bool true) rfl (by kernel_rfl) (by kernel_rfl) (by kernel_rfl) (fun _ _ _ h => h) (Or.inl ⟨by rfl, ?_⟩) (by assumption) ?_
  · (intro wq hSw; (try dsimp only at hSw); go_simp; first | done | with_reducible rfl | (simp; done) | (simp [str]))
  try simp only [Act.put, List.setIfInBounds_toArray, List.set_cons_zero, List.set_cons_succ]
  refine wpAnyH_take (i := 11) (oi := { dst := some 52, op := Op.move (Operand.tmp 51), type := 4, pos := "law.go:35", after := #[{ on := 10, ground := Ground.data }, { on := 6, ground := Ground.chain }], guard := none }) (v := ?_) rfl (by kernel_rfl) (by kernel_rfl) (by kernel_rfl) (fun _ _ _ h => h) (Or.inl ⟨by rfl, ?_⟩) (by assumption) ?_
  rotate_left
  · (intro wq hSw; (try dsimp only at hSw); go_simp; first | done | with_reducible rfl)
  try simp only [Act.put, List.setIfInBounds_toArray, List.set_cons_zero, List.set_cons_succ]
  refine wpAnyH_take (i := 12) (oi := { dst := some 53, op := Op.load 25 (Operand.tmp 9), type := 25, pos := "law.go:35", after := #[{ on := 11, ground := Ground.guard }], guard := some (11, true) }) (v := ?_) rfl (by kernel_rfl) (by kernel_rfl) (by kernel_rfl) (fun _ _ _ h => h) (Or.inl ⟨by rfl, ?_⟩) (by assumption) ?_
  rotate_left
  · (intro wq hSw; (try dsimp only at hSw); go_simp; first | done | with_reducible rfl)
  try simp only [Act.put, List.setIfInBounds_toArray, List.set_cons_zero, List.set_cons_succ]
  refine wpAnyH_take (i := 13) (oi := { dst := some 54, op := Op.load 25 (Operand.tmp 11), type := 25, pos := "law.go:35", after := #[{ on := 11, ground := Ground.guard }], guard := some (11, true) }) (v := ?_) rfl (by kernel_rfl) (by kernel_rfl) (by kernel_rfl) (fun _ _ _ h => h) (Or.inl ⟨by rfl, ?_⟩) (by assumption) ?_
  rotate_left
  · (intro wq hSw; (try dsimp only at hSw); go_simp; first | done | with_reducible rfl)
  try simp only [Act.put, List.setIfInBounds_toArray, List.set_cons_zero, List.set_cons_succ]
  refine wpAnyH_ready (rs := [14]) (by kernel_rfl) (by simp) ?_
  refine AllReadyH.cons (o := { dst := some 55, op := Op.call { callee := Callee.value (Operand.func 16), args := #[Operand.tmp 53, Operand.tmp 54], argTypes := #[25, 25] }, type := 4, pos := "law.go:35", after := #[{ on := 12, ground := Ground.data }, { on := 13, ground := Ground.data }, { on := 11, ground := Ground.chain }, { on := 11, ground := Ground.guard }], guard := some (11, true) }) rfl (fun K hK => ?_) AllReadyH.nil
  go_simp
  refine (refSame_any je _ jms je _ jms _ (by have := HL.out.2; omega) (by have := HL.out.2; omega) (HSc.out.new hn1) (HSd.out.new hn1)).mono ?_
  rintro e9 wk2 ⟨rfl, hk2⟩
  rw [show sameC ⟨je, jms⟩ ⟨je, jms⟩ = true by simp [sameC]]
  have hn2 := (hn1).trans hk2
  refine hK.out _ _ ?_ (fun hHeld => ?_)
  · exact Held.of hn2
  clear hK K
  try simp only [Act.put, List.setIfInBounds_toArray, List.set_cons_zero, List.set_cons_succ]
  refine wpAnyH_take (i := 15) (oi := { dst := some 56, op := Op.pick (Operand.tmp 52) (Operand.tmp 55) (Operand.const (Value.bool false)), type := 4, pos := "law.go:35", after := #[{ on := 11, ground := Ground.data }, { on := 14, ground := Ground.data }], guard := none }) (v := .bool true) rfl (by kernel_rfl) (by kernel_rfl) (by kernel_rfl) (fun _ _ _ h => h) (Or.inl ⟨by rfl, ?_⟩) (by assumption) ?_
  · (intro wq hSw; (try dsimp only at hSw); go_simp; first | done | with_reducible rfl | (simp; done) | (simp [str]))
  try simp only [Act.put, List.setIfInBounds_toArray, List.set_cons_zero, List.set_cons_succ]
  refine wpAnyH_take (i := 16) (oi := { dst := some 57, op := Op.move (Operand.tmp 56), type := 4, pos := "law.go:35", after := #[{ on := 15, ground := Ground.data }, { on := 14, ground := Ground.chain }], guard := none }) (v := ?_) rfl (by kernel_rfl) (by kernel_rfl) (by kernel_rfl) (fun _ _ _ h => h) (Or.inl ⟨by rfl, ?_⟩) (by assumption) ?_
  rotate_left
  · (intro wq hSw; (try dsimp only at hSw); go_simp; first | done | with_reducible rfl)
  try simp only [Act.put, List.setIfInBounds_toArray, List.set_cons_zero, List.set_cons_succ]
  refine wpAnyH_take (i := 17) (oi := { dst := some 58, op := Op.move (Operand.tmp 10), type := 28, pos := "law.go:35", after := #[{ on := 16, ground := Ground.guard }], guard := some (16, true) }) (v := ?_) rfl (by kernel_rfl) (by kernel_rfl) (by kernel_rfl) (fun _ _ _ h => h) (Or.inl ⟨by rfl, ?_⟩) (by assumption) ?_
  rotate_left
  · (intro wq hSw; (try dsimp only at hSw); go_simp; first | done | with_reducible rfl)
  try simp only [Act.put, List.setIfInBounds_toArray, List.set_cons_zero, List.set_cons_succ]
  refine wpAnyH_take (i := 18) (oi := { dst := some 59, op := Op.move (Operand.tmp 12), type := 28, pos := "law.go:35", after := #[{ on := 16, ground := Ground.guard }], guard := some (16, true) }) (v := ?_) rfl (by kernel_rfl) (by kernel_rfl) (by kernel_rfl) (fun _ _ _ h => h) (Or.inl ⟨by rfl, ?_⟩) (by assumption) ?_
  rotate_left
  · (intro wq hSw; (try dsimp only at hSw); go_simp; first | done | with_reducible rfl)
  try simp only [Act.put, List.setIfInBounds_toArray, List.set_cons_zero, List.set_cons_succ]
  refine wpAnyH_take (i := 19) (oi := { dst := some 60, op := Op.binOp BinOp.eql 28 (Operand.tmp 58) (Operand.tmp 59) 28, type := 4, pos := "law.go:35", after := #[{ on := 17, ground := Ground.data }, { on := 18, ground := Ground.data }, { on := 16, ground := Ground.guard }], guard := some (16, true) }) (v := .bool true) rfl (by kernel_rfl) (by kernel_rfl) (by kernel_rfl) (fun _ _ _ h => h) (Or.inl ⟨by rfl, ?_⟩) (by assumption) ?_
  · (intro wq hSw; (try dsimp only at hSw); go_simp; first | done | with_reducible rfl | (simp; done) | (simp [str]))
  try simp only [Act.put, List.setIfInBounds_toArray, List.set_cons_zero, List.set_cons_succ]
  refine wpAnyH_take (i := 20) (oi := { dst := some 61, op := Op.pick (Operand.tmp 57) (Operand.tmp 60) (Operand.const (Value.bool false)), type := 4, pos := "law.go:35", after := #[{ on := 16, ground := Ground.data }, { on := 19, ground := Ground.data }], guard := none }) (v := .bool true) rfl (by kernel_rfl) (by kernel_rfl) (by kernel_rfl) (fun _ _ _ h => h) (Or.inl ⟨by rfl, ?_⟩) (by assumption) ?_
  · (intro wq hSw; (try dsimp only at hSw); go_simp; first | done | with_reducible rfl | (simp; done) | (simp [str]))
  try simp only [Act.put, List.setIfInBounds_toArray, List.set_cons_zero, List.set_cons_succ]
  refine wpAnyH_take (i := 21) (oi := { dst := some 62, op := Op.move (Operand.tmp 61), type := 4, pos := "law.go:35", after := #[{ on := 20, ground := Ground.data }, { on := 16, ground := Ground.chain }], guard := none }) (v := ?_) rfl (by kernel_rfl) (by kernel_rfl) (by kernel_rfl) (fun _ _ _ h => h) (Or.inl ⟨by rfl, ?_⟩) (by assumption) ?_
  rotate_left
  · (intro wq hSw; (try dsimp only at hSw); go_simp; first | done | with_reducible rfl)
  try simp only [Act.put, List.setIfInBounds_toArray, List.set_cons_zero, List.set_cons_succ]
  refine wpAnyH_take (i := 22) (oi := { dst := some 63, op := Op.load 25 (Operand.tmp 2), type := 25, pos := "law.go:35", after := #[{ on := 21, ground := Ground.guard }], guard := some (21, true) }) (v := ?_) rfl (by kernel_rfl) (by kernel_rfl) (by kernel_rfl) (fun _ _ _ h => h) (Or.inl ⟨by rfl, ?_⟩) (by assumption) ?_
  rotate_left
  · (intro wq hSw; (try dsimp only at hSw); go_simp; first | done | with_reducible rfl)
  try simp only [Act.put, List.setIfInBounds_toArray, List.set_cons_zero, List.set_cons_succ]
  refine wpAnyH_take (i := 24) (oi := { dst := some 65, op := Op.load 25 (Operand.tmp 2), type := 25, pos := "law.go:35", after := #[{ on := 21, ground := Ground.guard }], guard := some (21, true) }) (v := ?_) rfl (by kernel_rfl) (by kernel_rfl) (by kernel_rfl) (fun _ _ _ h => h) (Or.inl ⟨by rfl, ?_⟩) (by assumption) ?_
  rotate_left
  · (intro wq hSw; (try dsimp only at hSw); go_simp; first | done | with_reducible rfl)
  try simp only [Act.put, List.setIfInBounds_toArray, List.set_cons_zero, List.set_cons_succ]
  refine wpAnyH_ready (rs := [23]) (by kernel_rfl) (by simp) ?_
  refine AllReadyH.cons (o := { dst := some 64, op := Op.call { callee := Callee.value (Operand.func 17), args := #[Operand.tmp 63], argTypes := #[25] }, type := 4, pos := "law.go:35", after := #[{ on := 22, ground := Ground.data }, { on := 21, ground := Ground.chain }, { on := 21, ground := Ground.guard }], guard := some (21, true) }) rfl (fun K hK => ?_) AllReadyH.nil
  go_simp
  refine (check_any e _ ms _ (by omega) (HS0.out.new (HN6.out.trans hn2))).mono ?_
  rintro e9 wk3 ⟨rfl, hk3⟩
  have hn3 := (hn2).trans hk3
  try rw [HCK.out]
  refine hK.out _ _ ?_ (fun hHeld => ?_)
  · exact Held.of hn3
  clear hK K
  try simp only [Act.put, List.setIfInBounds_toArray, List.set_cons_zero, List.set_cons_succ]
  refine wpAnyH_ready (rs := [25]) (by kernel_rfl) (by simp) ?_
  refine AllReadyH.cons (o := { dst := some 66, op := Op.call { callee := Callee.value (Operand.func 18), args := #[Operand.tmp 65], argTypes := #[25] }, type := 4, pos := "law.go:35", after := #[{ on := 24, ground := Ground.data }, { on := 23, ground := Ground.chain }, { on := 21, ground := Ground.guard }], guard := some (21, true) }) rfl (fun K hK => ?_) AllReadyH.nil
  go_simp
  refine (refCheck_any e _ ms _ (by omega) (HS0.out.new (HN6.out.trans hn3))).mono ?_
  rintro e9 wk4 ⟨rfl, hk4⟩
  have hn4 := (hn3).trans hk4
  try rw [HCK.out]
  refine hK.out _ _ ?_ (fun hHeld => ?_)
  · exact Held.of hn4
  clear hK K
  try simp only [Act.put, List.setIfInBounds_toArray, List.set_cons_zero, List.set_cons_succ]
  refine wpAnyH_take (i := 26) (oi := { dst := some 67, op := Op.binOp BinOp.eql 4 (Operand.tmp 64) (Operand.tmp 66) 4, type := 4, pos := "law.go:35", after := #[{ on := 23, ground := Ground.data }, { on := 25, ground := Ground.data }, { on := 21, ground := Ground.guard }], guard := some (21, true) }) (v := .bool true) rfl (by kernel_rfl) (by kernel_rfl) (by kernel_rfl) (fun _ _ _ h => h) (Or.inl ⟨by rfl, ?_⟩) (by assumption) ?_
  · (intro wq hSw; (try dsimp only at hSw); go_simp; first | done | with_reducible rfl | (simp; done) | (simp [str]))
  try simp only [Act.put, List.setIfInBounds_toArray, List.set_cons_zero, List.set_cons_succ]
  refine wpAnyH_take (i := 27) (oi := { dst := some 68, op := Op.pick (Operand.tmp 62) (Operand.tmp 67) (Operand.const (Value.bool false)), type := 4, pos := "law.go:35", after := #[{ on := 21, ground := Ground.data }, { on := 26, ground := Ground.data }], guard := none }) (v := .bool true) rfl (by kernel_rfl) (by kernel_rfl) (by kernel_rfl) (fun _ _ _ h => h) (Or.inl ⟨by rfl, ?_⟩) (by assumption) ?_
  · (intro wq hSw; (try dsimp only at hSw); go_simp; first | done | with_reducible rfl | (simp; done) | (simp [str]))
  try simp only [Act.put, List.setIfInBounds_toArray, List.set_cons_zero, List.set_cons_succ]
  refine wpAnyH_take (i := 28) (oi := { dst := some 4, op := Op.assign (Operand.tmp 68), type := 4, pos := "law.go:35", after := #[{ on := 27, ground := Ground.data }, { on := 25, ground := Ground.chain }, { on := 0, ground := Ground.phase }, { on := 1, ground := Ground.phase }, { on := 2, ground := Ground.phase }, { on := 3, ground := Ground.phase }, { on := 4, ground := Ground.phase }, { on := 5, ground := Ground.phase }, { on := 6, ground := Ground.phase }, { on := 7, ground := Ground.phase }, { on := 8, ground := Ground.phase }, { on := 9, ground := Ground.phase }, { on := 10, ground := Ground.phase }, { on := 11, ground := Ground.phase }, { on := 12, ground := Ground.phase }, { on := 13, ground := Ground.phase }, { on := 14, ground := Ground.phase }, { on := 15, ground := Ground.phase }, { on := 16, ground := Ground.phase }, { on := 17, ground := Ground.phase }, { on := 18, ground := Ground.phase }, { on := 19, ground := Ground.phase }, { on := 20, ground := Ground.phase }, { on := 21, ground := Ground.phase }, { on := 22, ground := Ground.phase }, { on := 23, ground := Ground.phase }, { on := 24, ground := Ground.phase }, { on := 25, ground := Ground.phase }, { on := 26, ground := Ground.phase }, { on := 27, ground := Ground.phase }], guard := none }) (v := ?_) rfl (by kernel_rfl) (by kernel_rfl) (by kernel_rfl) (fun _ _ _ h => h) (Or.inl ⟨by rfl, ?_⟩) (by assumption) ?_
  rotate_left
  · (intro wq hSw; (try dsimp only at hSw); go_simp; first | done | with_reducible rfl)
  try simp only [Act.put, List.setIfInBounds_toArray, List.set_cons_zero, List.set_cons_succ]
  refine wpAnyH_done (by kernel_rfl) ?_ _
  clear hHeld
  go_wp2_with fail
  go_ret
  exact ⟨rfl, HN6.out.trans hn4⟩
end Go.Proofs.YtinpbjknakncdaaDoor
