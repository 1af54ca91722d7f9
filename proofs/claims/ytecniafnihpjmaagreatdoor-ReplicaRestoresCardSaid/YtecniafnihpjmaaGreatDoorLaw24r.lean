/- ReplicaRestores: the walk. Printed by genRsL.py. -/
import Derived.Test.YtecniafnihpjmaaGreatDoorTk
import Derived.Test.YtecniafnihpjmaaGreatDoorRsL
import Derived.Test.YtecniafnihpjmaaGreatDoorMg14
import Derived.Test.YtecniafnihpjmaaGreatDoorRsK
namespace Go.Proofs.YtecniafnihpjmaaGreatDoor
open Go.RowKit Go.Lap C
set_option linter.unusedVariables false
set_option linter.unusedSimpArgs false
abbrev oLaw24r_0 : Oper := ⟨some 113, .call { callee := .value (.func 11), args := #[.tmp 112], argTypes := #[40] }, 40, "law.go:358", #[⟨5, .data⟩], none⟩
abbrev oLaw24r_1 : Oper := ⟨some 15, .alloc 36, 0, "law.go:358", #[], none⟩
abbrev oLaw24r_2 : Oper := ⟨some 16, .alloc 49, 0, "law.go:358", #[], none⟩
abbrev oLaw24r_3 : Oper := ⟨some 114, .call { callee := .value (.func 16), args := #[.tmp 107, .tmp 113], argTypes := #[36, 40] }, 50, "law.go:358", #[⟨0, .data⟩, ⟨6, .data⟩, ⟨6, .chain⟩], none⟩
abbrev oLaw24r_4 : Oper := ⟨some 106, .move (.tmp 114), 50, "law.go:358", #[⟨7, .data⟩], none⟩
abbrev oLaw24r_5 : Oper := ⟨some 115, .extract (.tmp 106) 0, 36, "law.go:358", #[⟨8, .data⟩], none⟩
abbrev oLaw24r_6 : Oper := ⟨some 116, .extract (.tmp 106) 1, 49, "law.go:358", #[⟨8, .data⟩, ⟨14, Ground.gcOnly Departure.lateStores⟩], none⟩
abbrev oLaw24r_7 : Oper := ⟨some 117, .extract (.tmp 106) 2, 42, "law.go:358", #[⟨8, .data⟩, ⟨15, Ground.gcOnly Departure.lateStores⟩], none⟩
abbrev oLaw24r_8 : Oper := ⟨none, .store 36 (.tmp 15) (.tmp 115), 0, "law.go:358", #[⟨12, .data⟩, ⟨9, .data⟩, ⟨7, .chain⟩, ⟨0, .phase⟩, ⟨1, .phase⟩, ⟨2, .phase⟩, ⟨3, .phase⟩, ⟨4, .phase⟩, ⟨5, .phase⟩, ⟨6, .phase⟩, ⟨7, .phase⟩, ⟨8, .phase⟩, ⟨9, .phase⟩, ⟨10, Ground.textOnly Departure.lateStores⟩, ⟨11, Ground.textOnly Departure.lateStores⟩, ⟨12, .phase⟩, ⟨13, .phase⟩], none⟩
abbrev oLaw24r_9 : Oper := ⟨none, .store 49 (.tmp 16) (.tmp 116), 0, "law.go:358", #[⟨13, .data⟩, ⟨10, .data⟩, ⟨14, .chain⟩, ⟨0, .phase⟩, ⟨1, .phase⟩, ⟨2, .phase⟩, ⟨3, .phase⟩, ⟨4, .phase⟩, ⟨5, .phase⟩, ⟨6, .phase⟩, ⟨7, .phase⟩, ⟨8, .phase⟩, ⟨9, .phase⟩, ⟨10, .phase⟩, ⟨11, Ground.textOnly Departure.lateStores⟩, ⟨12, .phase⟩, ⟨13, .phase⟩, ⟨14, .phase⟩], none⟩
abbrev oLaw24r_10 : Oper := ⟨some 17, .assign (.tmp 117), 42, "law.go:358", #[⟨11, .data⟩, ⟨15, .chain⟩, ⟨0, .phase⟩, ⟨1, .phase⟩, ⟨2, .phase⟩, ⟨3, .phase⟩, ⟨4, .phase⟩, ⟨5, .phase⟩, ⟨6, .phase⟩, ⟨7, .phase⟩, ⟨8, .phase⟩, ⟨9, .phase⟩, ⟨10, .phase⟩, ⟨11, .phase⟩, ⟨12, .phase⟩, ⟨13, .phase⟩, ⟨14, .phase⟩, ⟨15, .phase⟩], none⟩
abbrev oLaw24r_11 : Oper := ⟨some 140, .move (.tmp 12), 45, "law.go:365", #[], none⟩
abbrev oLaw24r_12 : Oper := ⟨some 142, .fieldAddr 36 (.tmp 9) 4, 0, "law.go:365", #[], none⟩
abbrev oLaw24r_13 : Oper := ⟨some 143, .load 22 (.tmp 142), 22, "law.go:365", #[⟨2, .data⟩], none⟩
abbrev oLaw24r_14 : Oper := ⟨some 141, .call { callee := .value (.func 19), args := #[.tmp 140], argTypes := #[45] }, 22, "law.go:365", #[⟨0, .data⟩], none⟩
abbrev oLaw24r_15 : Oper := ⟨some 144, .binOp .eql 22 (.tmp 141) (.tmp 143) 22, 4, "law.go:365", #[⟨1, .data⟩, ⟨3, .data⟩], none⟩
abbrev oLaw24r_16 : Oper := ⟨some 145, .move (.tmp 144), 4, "law.go:365", #[⟨4, .data⟩, ⟨1, .chain⟩], none⟩
abbrev oLaw24r_17 : Oper := ⟨some 146, .move (.tmp 20), 26, "law.go:365", #[⟨5, .guard⟩], some (5, true)⟩
abbrev oLaw24r_18 : Oper := ⟨some 147, .call { callee := .builtin .len, args := #[.tmp 146], argTypes := #[26] }, 3, "law.go:365", #[⟨6, .data⟩, ⟨5, .guard⟩], some (5, true)⟩
abbrev oLaw24r_19 : Oper := ⟨some 148, .fieldAddr 36 (.tmp 9) 3, 0, "law.go:365", #[⟨5, .guard⟩], some (5, true)⟩
abbrev oLaw24r_20 : Oper := ⟨some 149, .load 26 (.tmp 148), 26, "law.go:365", #[⟨8, .data⟩, ⟨5, .guard⟩], some (5, true)⟩
abbrev oLaw24r_21 : Oper := ⟨some 150, .call { callee := .builtin .len, args := #[.tmp 149], argTypes := #[26] }, 3, "law.go:365", #[⟨9, .data⟩, ⟨5, .guard⟩], some (5, true)⟩
abbrev oLaw24r_22 : Oper := ⟨some 151, .binOp .eql 3 (.tmp 147) (.tmp 150) 3, 4, "law.go:365", #[⟨7, .data⟩, ⟨10, .data⟩, ⟨5, .guard⟩], some (5, true)⟩
abbrev oLaw24r_23 : Oper := ⟨some 152, .pick (.tmp 145) (.tmp 151) (.const (.bool false)), 4, "law.go:365", #[⟨5, .data⟩, ⟨11, .data⟩], none⟩
abbrev oLaw24r_24 : Oper := ⟨some 153, .move (.tmp 152), 4, "law.go:365", #[⟨12, .data⟩, ⟨5, .chain⟩], none⟩
abbrev oLaw24r_25 : Oper := ⟨some 154, .move (.tmp 20), 26, "law.go:365", #[⟨13, .guard⟩], some (13, true)⟩
abbrev oLaw24r_26 : Oper := ⟨some 155, .fieldAddr 36 (.tmp 9) 3, 0, "law.go:365", #[⟨13, .guard⟩], some (13, true)⟩
abbrev oLaw24r_27 : Oper := ⟨some 156, .load 26 (.tmp 155), 26, "law.go:365", #[⟨15, .data⟩, ⟨13, .guard⟩], some (13, true)⟩
abbrev oLaw24r_28 : Oper := ⟨some 157, .call { callee := .value (.func 20), args := #[.tmp 154, .tmp 156], argTypes := #[26, 26] }, 4, "law.go:365", #[⟨14, .data⟩, ⟨16, .data⟩, ⟨13, .chain⟩, ⟨13, .guard⟩], some (13, true)⟩
abbrev oLaw24r_29 : Oper := ⟨some 158, .pick (.tmp 153) (.tmp 157) (.const (.bool false)), 4, "law.go:365", #[⟨13, .data⟩, ⟨17, .data⟩], none⟩
abbrev oLaw24r_30 : Oper := ⟨some 159, .move (.tmp 158), 4, "law.go:365", #[⟨18, .data⟩, ⟨17, .chain⟩], none⟩
abbrev oLaw24r_31 : Oper := ⟨some 160, .move (.tmp 12), 45, "law.go:365", #[⟨19, .guard⟩], some (19, true)⟩
abbrev oLaw24r_32 : Oper := ⟨some 162, .fieldAddr 36 (.tmp 9) 5, 0, "law.go:365", #[⟨19, .guard⟩], some (19, true)⟩
abbrev oLaw24r_33 : Oper := ⟨some 163, .load 34 (.tmp 162), 34, "law.go:365", #[⟨22, .data⟩, ⟨19, .guard⟩], some (19, true)⟩
abbrev oLaw24r_34 : Oper := ⟨some 161, .call { callee := .value (.func 22), args := #[.tmp 160], argTypes := #[45] }, 34, "law.go:365", #[⟨20, .data⟩, ⟨19, .chain⟩, ⟨19, .guard⟩], some (19, true)⟩
abbrev oLaw24r_35 : Oper := ⟨some 164, .call { callee := .value (.func 21), args := #[.tmp 161, .tmp 163], argTypes := #[34, 34] }, 4, "law.go:365", #[⟨21, .data⟩, ⟨23, .data⟩, ⟨21, .chain⟩, ⟨19, .guard⟩], some (19, true)⟩
abbrev oLaw24r_36 : Oper := ⟨some 165, .pick (.tmp 159) (.tmp 164) (.const (.bool false)), 4, "law.go:365", #[⟨19, .data⟩, ⟨24, .data⟩], none⟩
abbrev oLaw24r_37 : Oper := ⟨some 6, .assign (.tmp 165), 4, "law.go:365", #[⟨25, .data⟩, ⟨24, .chain⟩, ⟨0, .phase⟩, ⟨1, .phase⟩, ⟨2, .phase⟩, ⟨3, .phase⟩, ⟨4, .phase⟩, ⟨5, .phase⟩, ⟨6, .phase⟩, ⟨7, .phase⟩, ⟨8, .phase⟩, ⟨9, .phase⟩, ⟨10, .phase⟩, ⟨11, .phase⟩, ⟨12, .phase⟩, ⟨13, .phase⟩, ⟨14, .phase⟩, ⟨15, .phase⟩, ⟨16, .phase⟩, ⟨17, .phase⟩, ⟨18, .phase⟩, ⟨19, .phase⟩, ⟨20, .phase⟩, ⟨21, .phase⟩, ⟨22, .phase⟩, ⟨23, .phase⟩, ⟨24, .phase⟩, ⟨25, .phase⟩], none⟩
section
variable {w w' W wr : World}
theorem set4 {α : Type} (a b c d v : α) (l : List α) (n : Nat) : (a :: b :: c :: d :: l).set (n + 4) v = a :: b :: c :: d :: l.set n v := rfl
theorem set16 {α : Type} (a1 a2 a3 a4 a5 a6 a7 a8 a9 a10 a11 a12 a13 a14 a15 a16 v : α) (l : List α) (n : Nat) :
    (a1 :: a2 :: a3 :: a4 :: a5 :: a6 :: a7 :: a8 :: a9 :: a10 :: a11 :: a12 :: a13 :: a14 :: a15 :: a16 :: l).set (n + 16) v = a1 :: a2 :: a3 :: a4 :: a5 :: a6 :: a7 :: a8 :: a9 :: a10 :: a11 :: a12 :: a13 :: a14 :: a15 :: a16 :: l.set n v := rfl
theorem RrV.cells_form {y : RrV} {x : Rpl} {w : World} {B : Nat} (h : RrAt w B y x) : ∃ (la : Nat) (L : List SdV) (cA : Option Addr) (cc : Nat) (sA : Option Addr) (sc : Nat) (tA : Option Addr) (tc : Nat) (lA : Option Addr) (lc : Nat) (oA : Option Addr) (oc : Nat), y = ⟨x.id, x.cf.e, .slice cA x.cf.ms.length cc, ⟨la, L, .slice sA L.length sc, .slice tA L.length tc⟩, .slice lA x.l.length lc, x.cl, .slice oA x.out.length oc⟩ := h.form
set_option maxRecDepth 100000 in
set_option maxHeartbeats 16000000 in
theorem replicaRestores_walk (id : Int) (cf : Cfg) (cv : Value) (l0 l1 : List BtV) (v0 v1 : Value) (w : World) (hce : cf.e < big) (hcs : SlIn w 1 iEnc cv cf.ms) (hl0 : SlIn w 4 BtV.enc v0 l0) (hl1 : SlIn w 4 BtV.enc v1 l1) (hk0 : ∀ p ∈ l0, BvOk w p) (hk1 : ∀ p ∈ l1, BvOk w p) (hm0 : l0.length ≤ maxLen) (hm1 : l1.length ≤ maxLen) (hmc : cf.ms.length ≤ maxLen) :
    Calls Tryz.prog 3 #[.int .i64 id, .agg #[.int .u64 (cf.e : Int), cv], .agg #[v0, v1]] w fun e w' => e = .returned (.bool true) ∧ New w w' := by
  obtain ⟨ep, ms⟩ := cf
  obtain ⟨cA, cc, rfl⟩ := hcs.form
  obtain ⟨vA, vc, rfl⟩ := hl0.form
  obtain ⟨uA, uc, rfl⟩ := hl1.form
  dsimp only at hce hcs hmc ⊢
  have hN := ((New.refl w).alloc (.cells #[.int .u64 (ep : Int), .slice cA ms.length cc] 25)).alloc (.cells #[.slice vA l0.length vc, .slice uA l1.length uc] 27)
  have h1 := (Blk.mk_new (w) 25 #[.int .u64 (ep : Int), .slice cA ms.length cc]).alloc (.cells #[.slice vA l0.length vc, .slice uA l1.length uc] 27)
  have h2 := Blk.mk_new (w.alloc (.cells #[.int .u64 (ep : Int), .slice cA ms.length cc] 25)) 27 #[.slice vA l0.length vc, .slice uA l1.length uc]
  simp only [World.size_alloc] at h2
  have HN := Lib.hid hN
  have H1 := Lib.hid h1
  have H2 := Lib.hid h2
  clear hN h1 h2
  have HCS := Lib.hid hcs
  have HL0 := Lib.hid hl0
  have HL1 := Lib.hid hl1
  have HK0 := Lib.hid hk0
  have HK1 := Lib.hid hk1
  have HCE := Lib.hid hce
  have hM0 : l0.length ≤ 9223372036854775807 := by unfold maxLen at hm0; omega
  have hMc : ms.length ≤ 9223372036854775807 := by unfold maxLen at hmc; omega
  clear hcs hl0 hl1 hk0 hk1 hce hm0 hmc
  go_enter Tryz.func3, Tryz.ntmps3
  go_upto_region 1 with fail
  generalize (w.alloc (.cells #[.int .u64 (ep : Int), .slice cA ms.length cc] 25)).alloc (.cells #[.slice vA l0.length vc, .slice uA l1.length uc] 27) = W at *
  obtain ⟨q0, q1, q2, qz⟩ := Blk2R H1.out
  obtain ⟨p0, p1, p2, pz⟩ := Blk2R H2.out
  by_cases hm20 : 20 < ms.length
  · have hb1 : (20 : Int) < (ms.length : Int) := by omega
    go_wp2_with fail
    refine (awake24 W).mono ?_
    rintro e w1 ⟨rfl, hn1⟩
    go_wp2_with fail
    go_ret
    exact ⟨rfl, HN.out.trans hn1⟩
  have hb1 : ¬ (20 : Int) < (ms.length : Int) := by omega
  by_cases hl20 : 20 < l0.length
  · have hb2 : (20 : Int) < (l0.length : Int) := by omega
    go_wp2_with fail
    refine (awake24 W).mono ?_
    rintro e w1 ⟨rfl, hn1⟩
    go_wp2_with fail
    go_ret
    exact ⟨rfl, HN.out.trans hn1⟩
  have hb2 : ¬ (20 : Int) < (l0.length : Int) := by omega
  have HM20 : Hid (ms.length ≤ 20) := Lib.hid (by omega)
  have HL20 : Hid (l0.length ≤ 20) := Lib.hid (by omega)
  go_upto_region 3 with fail
  clear hm20 hl20 hM0 hMc hb1 hb2
  go_upto_region 4 with fail
  have hna := (New.refl W).alloc (.cells #[] 40)
  have hrow := Row.fresh (base := W.heap.size) W 40 BtV.enc 4 (Nat.le_refl _)
  have HRW : Hid (BtRow (W.alloc (.cells #[] 40)) W.heap.size (.slice (some ⟨W.heap.size, 0, none⟩) 0 0) []) := Lib.hid ⟨[], rfl, hrow, fun _ h => by cases h⟩
  have HN1 := Lib.hid hna
  have H11 := Lib.hid (H1.out.new hna)
  have H21 := Lib.hid (H2.out.new hna)
  clear hna hrow q0 q1 q2 qz p0 p1 p2 pz
  generalize W.alloc (.cells #[] 40) = w1 at *
  generalize (.slice (some ⟨W.heap.size, 0, none⟩) 0 0 : Value) = v70 at HRW ⊢
  obtain ⟨q0, q1, q2, qz⟩ := Blk2R H11.out
  obtain ⟨p0, p1, p2, pz⟩ := Blk2R H21.out
  go_wp2_with fail
  refine (C.refCheck_any ep _ ms w1 (by have := HM20.out; omega) (HCS.out.new (HN.out.trans HN1.out))).mono ?_
  rintro e w2 ⟨rfl, hn2⟩
  have HN2 := Lib.hid (HN1.out.trans hn2)
  have H12 := Lib.hid (H11.out.new hn2)
  have H22 := Lib.hid (H21.out.new hn2)
  have HRW2 := Lib.hid (HRW.out.new hn2)
  have HOK : Hid (chkC ⟨ep, ms⟩ = okR ⟨ep, ms⟩ []) := Lib.hid (by unfold okR; simp)
  clear hn2 q0 q1 q2 qz p0 p1 p2 pz
  generalize chkC ⟨ep, ms⟩ = okc at *
  obtain ⟨q0, q1, q2, qz⟩ := Blk2R H12.out
  obtain ⟨p0, p1, p2, pz⟩ := Blk2R H22.out
  go_wp2_with fail
  refine (rrnew id ⟨ep, ms⟩ (HCS.out.new (HN.out.trans HN2.out)) (by have := HM20.out; dsimp only; omega) HCE.out).mono ?_
  rintro e w3 ⟨y, rfl, hy, hn3, hyf⟩
  have hxn : ldR id ⟨ep, ms⟩ (cutA (l0.take 0)) = Rpl.new_ id ⟨ep, ms⟩ := rfl
  generalize Rpl.new_ id ⟨ep, ms⟩ = x at hy hxn
  obtain ⟨id2, ⟨ep2, ms2⟩, j, l, cl, out⟩ := x
  obtain ⟨la, L, cA2, cc2, sA, sc, tA, tc, lA, lc, oA, oc, rfl⟩ := RrV.cells_form hy
  dsimp only [RrV.val, RrV.cells] at hy hyf ⊢
  go_upto_region 6 with fail
  have hna := (New.refl w3).alloc (.cells #[.int .i64 id2, .int .u64 (ep2 : Int), .slice cA2 ms2.length cc2, .int .u64 0, .int .u64 (la : Int), .slice sA L.length sc, .slice tA L.length tc, .slice lA l.length lc, .int .u64 (cl : Int), .slice oA out.length oc] 36)
  have HBX := Lib.hid (Blk.mk_new w3 36 #[.int .i64 id2, .int .u64 (ep2 : Int), .slice cA2 ms2.length cc2, .int .u64 0, .int .u64 (la : Int), .slice sA L.length sc, .slice tA L.length tc, .slice lA l.length lc, .int .u64 (cl : Int), .slice oA out.length oc])
  have HN4 := Lib.hid ((HN2.out.trans hn3).trans hna)
  have h01 : W.heap.size ≤ w3.heap.size := (HN2.out.trans hn3).size
  have h00 := HN.out.size
  have h02 : ∀ k, RrF (⟨id2, ep2, .slice cA2 ms2.length cc2, ⟨la, L, .slice sA L.length sc, .slice tA L.length tc⟩, .slice lA l.length lc, cl, .slice oA out.length oc⟩ : RrV) k → k < w.heap.size := fun k hk => cvF.lt HCS.out (hyf k hk)
  have HLR : Hid (LR1 W (w3.alloc (.cells #[.int .i64 id2, .int .u64 (ep2 : Int), .slice cA2 ms2.length cc2, .int .u64 0, .int .u64 (la : Int), .slice sA L.length sc, .slice tA L.length tc, .slice lA l.length lc, .int .u64 (cl : Int), .slice oA out.length oc] 36)) w3.heap.size id ⟨ep, ms⟩ (.slice cA ms.length cc) l0 0 v70 okc (⟨id2, ep2, .slice cA2 ms2.length cc2, ⟨la, L, .slice sA L.length sc, .slice tA L.length tc⟩, .slice lA l.length lc, cl, .slice oA out.length oc⟩ : RrV)) := Lib.hid ⟨Nat.zero_le _, HRW2.out.new (hn3.trans hna), HOK.out, by rw [hxn]; exact hy.new hna, HBX.out, h01, fun k hk e => by have := h02 k hk; omega, fun k hk e => by have h03 := h02 k hk; have h04 := (HRW2.out.lt k e).1; omega, fun k hk => .inl (hyf k hk), HN4.out⟩
  have H14 := Lib.hid (H12.out.new (hn3.trans hna))
  have H24 := Lib.hid (H22.out.new (hn3.trans hna))
  clear q0 q1 q2 qz p0 p1 p2 pz hy hyf hn3 hna h00 h01 h02 hxn
  generalize w3.alloc (.cells #[.int .i64 id2, .int .u64 (ep2 : Int), .slice cA2 ms2.length cc2, .int .u64 0, .int .u64 (la : Int), .slice sA L.length sc, .slice tA L.length tc, .slice lA l.length lc, .int .u64 (cl : Int), .slice oA out.length oc] 36) = w4 at *
  generalize w3.heap.size = g9 at HBX HLR ⊢
  clear HRW HRW2 HBX HOK
  go_wp2_with fail
  go_loopw [7, 8, 10] (fun u7 u8 u10 wr => ∃ (i : Nat) (ok : Bool) (y : RrV), u10 = .int .i64 (i : Int) ∧ u8 = .bool ok ∧ LR1 W wr g9 id ⟨ep, ms⟩ (.slice cA ms.length cc) l0 i u7 ok y) (fun _ _ u10 _ => l0.length - (intOf u10).toNat)
  case atStart => exact ⟨0, okc, _, rfl, rfl, HLR.out⟩
  case round =>
    obtain ⟨i, ok, y, rfl, rfl, hrel⟩ := hrel
    clear HLR
    have hil := hrel.il
    have hi0 : (0 : Int) ≤ (i : Int) := by omega
    obtain ⟨A7, c7, rfl⟩ := hrel.row.shape
    have hry := hrel.rr
    have hryx : ∃ x, x = ldR id ⟨ep, ms⟩ (cutA (l0.take i)) := ⟨_, rfl⟩
    obtain ⟨x, hx⟩ := hryx
    rw [← hx] at hry
    obtain ⟨id2, ⟨ep2, ms2⟩, j, l, cl, out⟩ := x
    obtain ⟨la, L, cA2, cc2, sA, sc, tA, tc, lA, lc, oA, oc, rfl⟩ := RrV.cells_form hry
    dsimp only at hry hrel
    have HX := Lib.hid hx
    have HRY := Lib.hid hry
    have HRL := Lib.hid hrel
    have H1R := Lib.hid (H1.out.new hrel.nw)
    have H2R := Lib.hid (H2.out.new hrel.nw)
    have HNR := Lib.hid (HN.out.trans hrel.nw)
    have hn7 : (cutA (l0.take i)).length = i := by unfold cutA; rw [List.length_map, List.length_take]; omega
    rw [hn7] at hrel HRL ⊢
    have HN7 := Lib.hid hn7
    obtain ⟨q0, q1, q2, qz⟩ := Blk2R H1R.out
    obtain ⟨p0, p1, p2, pz⟩ := Blk2R H2R.out
    clear hx hry hrel hn7
    by_cases hlt : i < l0.length
    · have hlt2 : (i : Int) < (l0.length : Int) := by omega
      obtain ⟨p, hp⟩ : ∃ p, l0[i]? = some p := ⟨_, List.getElem?_eq_getElem hlt⟩
      obtain ⟨gq, oq, capq, hv, hgq, e0, e1, e2, e3⟩ := bv_at HL0.out hp HNR.out
      cases hv
      have HP := Lib.hid hp
      have HBO := Lib.hid (HK0.out p (List.mem_of_getElem? hp))
      obtain ⟨⟨bc, br, bs, bl⟩, bA, bcap⟩ := p
      dsimp only at e0 e1 e2 e3
      clear hp
      go_wp2_with fail
      refine (few_any ⟨bc, br, bs, bl⟩ (HBO.out.sl.new HNR.out) HBO.out.ll).mono ?_
      rintro e wa ⟨A3, n3, rfl, hts, hna⟩
      dsimp only [batV]
      have HTS := Lib.hid hts
      have HNA := Lib.hid hna
      have H1A := Lib.hid (H1R.out.new hna)
      have H2A := Lib.hid (H2R.out.new hna)
      have HCL : Hid ((Btc.cut ⟨bc, br, bs, bl⟩).l.length ≤ 1000) := Lib.hid (by have := cutL_len bl; show (cutL bl).length ≤ 1000; omega)
      clear hts hna e0 e1 e2 e3 q0 q1 q2 qz p0 p1 p2 pz
      obtain ⟨q0, q1, q2, qz⟩ := Blk2R H1A.out
      obtain ⟨p0, p1, p2, pz⟩ := Blk2R H2A.out
      go_upto_region 10 with fail
      have hn4 := (New.refl wa).alloc (.cells #[.int .u64 (bc : Int), .int .u64 (br : Int), .int .u64 (bs : Int), .slice A3 (Btc.cut ⟨bc, br, bs, bl⟩).l.length n3] 40)
      have HB4 := Lib.hid (Blk.mk_new wa 40 #[.int .u64 (bc : Int), .int .u64 (br : Int), .int .u64 (bs : Int), .slice A3 (Btc.cut ⟨bc, br, bs, bl⟩).l.length n3])
      have HNB := Lib.hid (HNA.out.trans hn4)
      have HBT : Hid (BtAt (wa.alloc (.cells #[.int .u64 (bc : Int), .int .u64 (br : Int), .int .u64 (bs : Int), .slice A3 (Btc.cut ⟨bc, br, bs, bl⟩).l.length n3] 40)) (⟨Btc.cut ⟨bc, br, bs, bl⟩, A3, n3⟩ : BtV)) := Lib.hid ⟨HTS.out.new hn4, ⟨HBO.out.c, HBO.out.r, HBO.out.s, HCL.out⟩⟩
      have HGB : Hid (wr.heap.size ≤ wa.heap.size) := Lib.hid HNA.out.size
      clear hn4 q0 q1 q2 qz p0 p1 p2 pz
      generalize wa.alloc (.cells #[.int .u64 (bc : Int), .int .u64 (br : Int), .int .u64 (bs : Int), .slice A3 (Btc.cut ⟨bc, br, bs, bl⟩).l.length n3] 40) = wb at *
      generalize wa.heap.size = gb at HB4 HGB ⊢
      obtain ⟨s0, s1, s2, s3, s4, sz⟩ := Blk4R HB4.out
      obtain ⟨ps, hps, hrw, hall⟩ := HRL.out.row
      have hps2 : ps.length ≤ 20 := by have h1 := HN7.out; have h2 := HL20.out; rw [← hps, List.length_map] at h1; omega
      have HPS := Lib.hid hps
      have HRW := Lib.hid hrw
      have HAL := Lib.hid hall
      have HO := Lib.hid ((hrw.new HNB.out).new ((New.refl wb).alloc (.cells #[.int .u64 (bc : Int), .int .u64 (br : Int), .int .u64 (bs : Int), .slice A3 (Btc.cut ⟨bc, br, bs, bl⟩).l.length n3] 40)))
      have HM1 : Hid (ps.length + [(⟨Btc.cut ⟨bc, br, bs, bl⟩, A3, n3⟩ : BtV)].length ≤ maxLen) := Lib.hid (by simp; unfold maxLen; omega)
      have HM2 : Hid ((ps.length + [(⟨Btc.cut ⟨bc, br, bs, bl⟩, A3, n3⟩ : BtV)].length) * 48 ≤ 140737488355328) := Lib.hid (by simp; omega)
      have HNC : Hid (New wr (wb.alloc (.cells #[.int .u64 (bc : Int), .int .u64 (br : Int), .int .u64 (bs : Int), .slice A3 (Btc.cut ⟨bc, br, bs, bl⟩).l.length n3] 40))) := Lib.hid (HNB.out.alloc _)
      clear hps hrw hall hps2
      go_upto_region 11 with (first
        | (at_builtin; refine wpList_appR (m := [(⟨Btc.cut ⟨bc, br, bs, bl⟩, A3, n3⟩ : BtV)]) btTy BtV.encOk rfl (.tmp 51) (.tmp 53) rfl rfl rfl HO.out (SlIn.one (Blk.mk_new wb 40 #[.int .u64 (bc : Int), .int .u64 (br : Int), .int .u64 (bs : Int), .slice A3 (Btc.cut ⟨bc, br, bs, bl⟩).l.length n3]) BtV.encOk rfl) HM1.out HM2.out (Nat.le_trans HRL.out.nw.size HNC.out.size) ?_; intro v8 w8 h8 hg8 hv8; obtain ⟨A8, n8, c8, rfl⟩ := h8.shp; have HR8 := Lib.hid h8; have HG8 := Lib.hid hg8; have HV8 := Lib.hid hv8; clear h8 hg8 hv8))
      have hown : Upd (fun k => (Value.slice A7 i c7).ownBlock = some k) (wb.alloc (.cells #[.int .u64 (bc : Int), .int .u64 (br : Int), .int .u64 (bs : Int), .slice A3 (Btc.cut ⟨bc, br, bs, bl⟩).l.length n3] 40)) w8 := (Upd.refl _ _).grown HG8.out (fun k _ e => e)
      have hoff : Off (wb.alloc (.cells #[.int .u64 (bc : Int), .int .u64 (br : Int), .int .u64 (bs : Int), .slice A3 (Btc.cut ⟨bc, br, bs, bl⟩).l.length n3] 40)) 97 (fun k => (Value.slice A7 i c7).ownBlock = some k) := Off.row HO.out (by decide)
      have HNW8 : Hid (New W w8) := Lib.hid ((HRL.out.nw.trans HNC.out).grown HG8.out (fun k hk => (HRL.out.row.lt k hk).1))
      have HB8 := Lib.hid ((HB4.out.alloc (.cells #[.int .u64 (bc : Int), .int .u64 (br : Int), .int .u64 (bs : Int), .slice A3 (Btc.cut ⟨bc, br, bs, bl⟩).l.length n3] 40)).grown HG8.out (fun e => by have := (HRL.out.row.lt _ e.symm).2; have := HGB.out; omega))
      have HX8 := Lib.hid ((HRL.out.bx.new HNC.out).grown HG8.out (fun e => HRW.out.ne_blk HRL.out.bx (by decide) e.symm))
      have HRY8 := Lib.hid ((HRY.out.new HNC.out).upd hown (fun k hk e => HRL.out.nl k hk e) hoff)
      have HBT8 := Lib.hid ((HBT.out.new ((New.refl wb).alloc (.cells #[.int .u64 (bc : Int), .int .u64 (br : Int), .int .u64 (bs : Int), .slice A3 (Btc.cut ⟨bc, br, bs, bl⟩).l.length n3] 40))).upd hown hoff)
      have HAL8 : Hid (BtRow w8 W.heap.size (.slice A8 n8 c8) (cutA (l0.take i) ++ [Btc.cut ⟨bc, br, bs, bl⟩])) := Lib.hid ⟨ps ++ [(⟨Btc.cut ⟨bc, br, bs, bl⟩, A3, n3⟩ : BtV)], by rw [List.map_append, HPS.out]; rfl, HR8.out, fun p hp => (List.mem_append.1 hp).elim (fun hp => ((HAL.out p hp).new HNC.out).upd hown hoff) (fun hp => by rw [List.mem_singleton.1 hp]; exact HBT8.out)⟩
      clear hown hoff s0 s1 s2 s3 s4 sz
      generalize hwd : wb.alloc (.cells #[.int .u64 (bc : Int), .int .u64 (br : Int), .int .u64 (bs : Int), .slice A3 (Btc.cut ⟨bc, br, bs, bl⟩).l.length n3] 40) = wd at HNC HG8 HV8
      clear hwd
      have H18 := Lib.hid (H1.out.new HNW8.out)
      have H28 := Lib.hid (H2.out.new HNW8.out)
      obtain ⟨s0, s1, s2, s3, s4, sz⟩ := Blk4R HB8.out
      go_cut [8] (fun u8 wx => u8 = .bool (ok && decide (chk (Btc.cut ⟨bc, br, bs, bl⟩).l = 0)) ∧ New w8 wx)
      case first =>
        cases ok
        · go_wp2_with fail
          go_meet
          exact ⟨rfl, New.refl _⟩
        · go_wp2_with fail
          refine (refCheck_any bc br bs (.slice A3 (Btc.cut ⟨bc, br, bs, bl⟩).l.length n3) (Btc.cut ⟨bc, br, bs, bl⟩).l w8 (by have := HCL.out; omega) HBT8.out.sl.slIn).mono ?_
          rintro e w9 ⟨rfl, hn9⟩
          have HN9 := Lib.hid hn9
          clear hn9
          go_wp2_with fail
          go_meet
          exact ⟨by rw [Bool.true_and]; rfl, HN9.out⟩
      case rest =>
        obtain ⟨rfl, hn9⟩ := hcut
        have HN9 := Lib.hid hn9
        have HX9 := Lib.hid (HX8.out.new hn9)
        have HB9 := Lib.hid (HB8.out.new hn9)
        clear hn9 s0 s1 s2 s3 s4 sz
        obtain ⟨s0, s1, s2, s3, s4, sz⟩ := Blk4R HB9.out
        dsimp only [RrV.cells] at HX9
        obtain ⟨r0, r1, r2, r3, r4, r5, r6, r7, r8, r9, r10, rz⟩ := Blk10R HX9.out
        go_wp2_with fail
        refine (rrloaded (y := (⟨id2, ep2, .slice cA2 ms2.length cc2, ⟨la, L, .slice sA L.length sc, .slice tA L.length tc⟩, .slice lA l.length lc, cl, .slice oA out.length oc⟩ : RrV)) (b := (⟨Btc.cut ⟨bc, br, bs, bl⟩, A3, n3⟩ : BtV)) (HRY8.out.new HN9.out) (HBT8.out.new HN9.out) (by have := HL20.out; omega)).mono ?_
        rintro e w6 h6
        obtain ⟨id6, ep6, ms6, j6, l6, cl6, out6, la6, L6, cA6, cc6, sA6, sc6, tA6, tc6, lA6, lc6, oA6, oc6, hx6, rfl, hr6, hn6, hf6⟩ := h6.form
        have HX6 := Lib.hid hx6
        have HR6 := Lib.hid hr6
        have HF6 := Lib.hid hf6
        have HN6 := Lib.hid (HN9.out.trans hn6)
        have H96 := Lib.hid (HX9.out.new hn6)
        have HS9 := Lib.hid HN9.out.size
        clear h6 hx6 hr6 hf6 hn6 r0 r1 r2 r3 r4 r5 r6 r7 r8 r9 r10 rz s0 s1 s2 s3 s4 sz
        obtain ⟨q0, q1, q2, q3, q4, q5, q6, q7, q8, q9, q10, qz⟩ := Blk10R H96.out
        have hl20 := HL20.out
        go_wp2_with fail
        go_roundw
        case rel =>
          exact ⟨i + 1, _, (⟨id6, ep6, .slice cA6 ms6.length cc6, ⟨la6, L6, .slice sA6 L6.length sc6, .slice tA6 L6.length tc6⟩, .slice lA6 l6.length lc6, cl6, .slice oA6 out6.length oc6⟩ : RrV), by go_num, rfl, HRL.out.next HP.out HNC.out HAL8.out HG8.out HV8.out rfl HN6.out (by rw [← HX.out, HX6.out]; exact HR6.out) (fun k hk => (HF6.out k hk).imp (fun h => h) (fun h => Nat.le_trans HS9.out h)) (((((((((((Upd.refl _ w6).setIn 0 _).setIn 1 _).setIn 2 _).setIn 3 _).setIn 4 _).setIn 5 _).setIn 6 _).setIn 7 _).setIn 8 _).setIn 9 _) (Blk.set10 (.int .i64 id6) (.int .u64 (ep6 : Int)) (.slice cA6 ms6.length cc6) (.int .u64 0) (.int .u64 (la6 : Int)) (.slice sA6 L6.length sc6) (.slice tA6 L6.length tc6) (.slice lA6 l6.length lc6) (.int .u64 (cl6 : Int)) (.slice oA6 out6.length oc6) H96.out) hlt⟩
        case measure => simp [intOf]; omega
    · obtain rfl : i = l0.length := by omega
      have hlt2 : ¬ ((l0.length : Nat) : Int) < (l0.length : Int) := by omega
      have HLS : Hid (cutA (l0.take l0.length) = cutA l0) := Lib.hid (by rw [List.take_length])
      have hl20 := HL20.out
      have hrow0 := HRL.out.row
      have hok0 := HRL.out.okE
      rw [HLS.out] at hrow0 hok0
      have HRO := Lib.hid hrow0
      have HOK := Lib.hid hok0
      have hcl0 : (cutA l0).length = l0.length := by unfold cutA; rw [List.length_map]
      have HCL0 := Lib.hid hcl0
      clear hrow0 hok0 hcl0
      go_wp2_with fail
      refine (rrestore id ⟨ep, ms⟩ (HCS.out.new HNR.out) (by have := HM20.out; dsimp only; omega) HCE.out (BtRow.lower HRO.out (Nat.zero_le _)) (by rw [HCL0.out]; omega)).mono ?_
      rintro e w2 hp
      rw [restO_ld id ⟨ep, ms⟩ _ (by rw [HCL0.out]; omega), ← HOK.out, HCL0.out] at hp
      cases ok with
      | false =>
        rw [if_neg Bool.false_ne_true] at hp
        obtain ⟨rfl, hn2⟩ := hp
        have HN2 := Lib.hid (HNR.out.trans hn2)
        clear hn2 q0 q1 q2 qz p0 p1 p2 pz
        go_wp2_with fail
        refine (awake24 w2).mono ?_
        rintro e w3 ⟨rfl, hn3⟩
        have HN3 := Lib.hid (HN2.out.trans hn3)
        clear hn3
        go_wp2_with fail
        go_ret
        exact ⟨rfl, HN3.out⟩
      | true =>
        rw [if_pos rfl] at hp
        obtain ⟨rp, L9, rfl, hra, hge, hn2⟩ := hp
        have HRA := Lib.hid hra
        have HGE := Lib.hid hge
        have HN2 := Lib.hid hn2
        have H12 := Lib.hid (H1R.out.new hn2)
        have H22 := Lib.hid (H2R.out.new hn2)
        clear hra hge hn2 q0 q1 q2 qz p0 p1 p2 pz
        go_wp2_with fail
        refine (awake24 w2).mono ?_
        rintro e w3 ⟨rfl, hn3⟩
        have HN3 := Lib.hid (HN2.out.trans hn3)
        have HRA3 := Lib.hid (HRA.out.new hn3)
        have H13 := Lib.hid (H12.out.new hn3)
        have H23 := Lib.hid (H22.out.new hn3)
        have HX3 := Lib.hid (HRL.out.bx.new HN3.out)
        clear hn3
        obtain ⟨q0, q1, q2, qz⟩ := Blk2R H13.out
        obtain ⟨p0, p1, p2, pz⟩ := Blk2R H23.out
        go_upto_region 18 with fail
        go_upto_region 19 with (first
          | (go_at_call 15; refine (refPlace_any ep _ ms id w3 (by have := HM20.out; omega) (HCS.out.new (HNR.out.trans HN3.out))).mono ?_; rintro e w4 ⟨rfl, hn4⟩; generalize hpl : placeC ms id = pl at *; have HPL := Lib.hid hpl; have HN4 := Lib.hid (HN3.out.trans hn4); have HRA4 := Lib.hid (HRA3.out.new hn4); clear hpl hn4))
        clear q0 q1 q2 qz p0 p1 p2 pz
        have H14 := Lib.hid (H1R.out.new HN4.out)
        have H24 := Lib.hid (H2R.out.new HN4.out)
        have HX4 := Lib.hid (HRL.out.bx.new HN4.out)
        obtain ⟨q0, q1, q2, qz⟩ := Blk2R H14.out
        obtain ⟨pb, hpb⟩ : ∃ pb : Bool, pb = decide (0 ≤ pl ∧ pl = (ms.length : Int) - 1) := ⟨_, rfl⟩
        have HPB := Lib.hid hpb
        have hm20 := HM20.out
        have hwl : IntKind.i64.wrap ((ms.length : Int) - 1) = (ms.length : Int) - 1 := by rw [IntWalk.i64_in _ (by omega)]
        clear hpb
        go_cut [90] (fun s90 wx => s90 = .bool pb ∧ wx = w4)
        case first =>
          by_cases hp0 : 0 ≤ pl
          · by_cases hp1 : pl = (ms.length : Int) - 1
            · have hpt : pb = true := by rw [HPB.out]; exact decide_eq_true ⟨hp0, hp1⟩
              have hpe : (pl == (ms.length : Int) - 1) = true := by simpa using hp1
              clear hp1
              go_wp2_with fail
              go_meet
              exact ⟨by rw [hpt], rfl⟩
            · have hpt : pb = false := by rw [HPB.out]; exact decide_eq_false (fun h => hp1 h.2)
              have hpe : (pl == (ms.length : Int) - 1) = false := by simpa using hp1
              clear hp1
              go_wp2_with fail
              go_meet
              exact ⟨by rw [hpt], rfl⟩
          · have hpt : pb = false := by rw [HPB.out]; exact decide_eq_false (fun h => hp0 h.1)
            go_wp2_with fail
            go_meet
            exact ⟨by rw [hpt], rfl⟩
        case rest =>
          obtain ⟨rfl, hwc⟩ := hcut
          subst wc
          clear hwl
          go_upto_if 90 with fail
          dsimp only [RrV.cells] at HX4
          obtain ⟨r0, r1, r2, r3, r4, r5, r6, r7, r8, r9, r10, rz⟩ := Blk10R HX4.out
          have hX2 : (⟨id2, ⟨ep2, ms2⟩, j, l, cl, out⟩ : Rpl) = ldR id ⟨ep, ms⟩ (cutA l0) := by rw [← HLS.out]; exact HX.out
          have hK := ld_keep id ⟨ep, ms⟩ (cutA l0)
          have hro : restO id ⟨ep, ms⟩ (cutA l0) = some (ldR id ⟨ep, ms⟩ (cutA l0)) := by rw [restO_ld id ⟨ep, ms⟩ _ (by rw [HCL0.out]; omega), ← HOK.out]; rfl
          have hll : (ldR id ⟨ep, ms⟩ (cutA l0)).l.length = l0.length := by rw [restO_l hro, HCL0.out]
          have hq : placeC (ldR id ⟨ep, ms⟩ (cutA l0)).cf.ms (ldR id ⟨ep, ms⟩ (cutA l0)).id = pl := by rw [hK.1, hK.2.1]; exact HPL.out
          have hq2 : (ldR id ⟨ep, ms⟩ (cutA l0)).cf.ms.length = ms.length := by rw [hK.2.1]
          have hc0 : cl = (ldR id ⟨ep, ms⟩ (cutA l0)).cl := by rw [← hX2]
          have HF0 : Hid (pb = false → (ldR id ⟨ep, ms⟩ (cutA l0)).fin_ = { ldR id ⟨ep, ms⟩ (cutA l0) with cl := cl }) := Lib.hid (fun h => by rw [fin_no (by rw [hq, hq2]; exact of_decide_eq_false (HPB.out.symm.trans h)), hc0])
          have HF1 : Hid (pb = true → (ldR id ⟨ep, ms⟩ (cutA l0)).fin_ = { ldR id ⟨ep, ms⟩ (cutA l0) with cl := l0.length }) := Lib.hid (fun h => by have hd := of_decide_eq_true (HPB.out.symm.trans h); rw [fin_yes (by rw [hq]; exact hd.1) (by rw [hq, hq2]; exact hd.2), hll])
          have HC0 : Hid (cl ≤ 20) := Lib.hid (by rw [hc0, hK.2.2.1]; omega)
          clear hX2 hK hro hll hq hq2 hc0 q0 q1 q2 qz
          go_cut [] (fun wx => ∃ c9, LR2 W wx g9 rp 0 { (⟨id2, ep2, .slice cA2 ms2.length cc2, ⟨la, L, .slice sA L.length sc, .slice tA L.length tc⟩, .slice lA l.length lc, cl, .slice oA out.length oc⟩ : RrV) with cl := c9 } L9 (ldR id ⟨ep, ms⟩ (cutA l0)).fin_)
          case first =>
            cases pb
            · go_wp2_with fail
              go_meet
              exact ⟨cl, HRL.out.two HL20.out HRA4.out HGE.out HN4.out (HF0.out (by first | rfl | trivial)) HC0.out (Upd.refl _ _) HX4.out⟩
            · go_wp2_with fail
              go_meet
              exact ⟨l0.length, HRL.out.two HL20.out HRA4.out HGE.out HN4.out (HF1.out (by first | rfl | trivial)) HL20.out ((Upd.refl _ w4).setIn 8 (.int .u64 (l0.length : Int))) (HX4.out.set_ 8 (.int .u64 (l0.length : Int)))⟩
          case rest =>
            obtain ⟨c9, hl2⟩ := hcut
            have HL2 := Lib.hid hl2
            clear hl2 HF0 HF1 HC0 HX4 HRA4 HRA3 HRA HGE HN4 HN3 HN2 H12 H13 H14 H22 H23 H24 HX3 HRO HX HRY HRL H1R H2R HNR r0 r1 r2 r3 r4 r5 r6 r7 r8 r9 r10 rz
            obtain ⟨wo, hwo⟩ : ∃ wo, wo = wr := ⟨_, rfl⟩
            clear hwo
            go_wp2_with fail
            go_loopw [14] (fun u14 wr => ∃ (k : Nat) (y : RrV) (L : RpL) (x : Rpl), u14 = .int .i64 (k : Int) ∧ LR2 W wr g9 rp k y L x) (fun u14 _ => 20 - (intOf u14).toNat)
            case atStart => exact ⟨0, _, _, _, rfl, HL2.out⟩
            case round =>
              obtain ⟨k, y, L5p, x, rfl, hrel⟩ := hrel
              clear HL2
              have hk20 := hrel.il
              have hk0 : (0 : Int) ≤ (k : Int) := by omega
              have hry := hrel.rr
              obtain ⟨id5, ⟨ep5, ms5⟩, j5, l5, cl5, out5⟩ := x
              obtain ⟨la5, L5, cA5, cc5, sA5, sc5, tA5, tc5, lA5, lc5, oA5, oc5, rfl⟩ := RrV.cells_form hry
              dsimp only at hry hrel
              have HRY := Lib.hid hry
              have HRL := Lib.hid hrel
              have H2R := Lib.hid (H2.out.new hrel.nw)
              have HNR := Lib.hid (HN.out.trans hrel.nw)
              obtain ⟨p0, p1, p2, pz⟩ := Blk2R H2R.out
              clear hry hrel
              by_cases hlt : k < l1.length
              · have hlt2 : (k : Int) < (l1.length : Int) := by omega
                by_cases hlt3 : k < 20
                · have hlt4 : (k : Int) < (20 : Int) := by omega
                  obtain ⟨p, hp⟩ : ∃ p, l1[k]? = some p := ⟨_, List.getElem?_eq_getElem hlt⟩
                  obtain ⟨gq, oq, capq, hv, hgq, e0, e1, e2, e3⟩ := bv_at HL1.out hp HNR.out
                  cases hv
                  have HBO := Lib.hid (HK1.out p (List.mem_of_getElem? hp))
                  obtain ⟨⟨bc, br, bs, bl⟩, bA, bcap⟩ := p
                  dsimp only at e0 e1 e2 e3
                  have HCL : Hid ((Btc.cut ⟨bc, br, bs, bl⟩).l.length ≤ 1000) := Lib.hid (by have := cutL_len bl; show (cutL bl).length ≤ 1000; omega)
                  have HGQ : Hid (gq < wr.heap.size) := Lib.hid (Nat.lt_of_lt_of_le hgq HNR.out.size)
                  have HG9 : Hid (g9 < wr.heap.size) := Lib.hid HRL.out.bx.lt
                  have HGP : Hid (w.heap.size + 1 < wr.heap.size) := Lib.hid H2R.out.lt
                  have HPK := Lib.hid hp
                  clear hp hgq
                  obtain ⟨sr, hsr⟩ : ∃ sr, (⟨id5, ⟨ep5, ms5⟩, j5, l5, cl5, out5⟩ : Rpl).submit (Btc.cut ⟨bc, br, bs, bl⟩) = sr := ⟨_, rfl⟩
                  obtain ⟨⟨id6, ⟨ep6, ms6⟩, j6, l6, cl6, out6⟩, vd, er⟩ := sr
                  have HSR := Lib.hid hsr
                  clear hsr
                  have hbx := HRL.out.bx
                  dsimp only [RrV.cells] at hbx
                  have HBX5 := Lib.hid hbx
                  clear hbx
                  obtain ⟨q0, q1, q2, q3, q4, q5, q6, q7, q8, q9, q10, qz⟩ := Blk10R HBX5.out
                  go_upto_region 24 with fail
                  go_cut [15, 16, 17] (fun s15 s16 s17 wx => SubR wr (300 + 20 * k) (⟨id5, ep5, .slice cA5 ms5.length cc5, ⟨la5, L5, .slice sA5 L5.length sc5, .slice tA5 L5.length tc5⟩, .slice lA5 l5.length lc5, cl5, .slice oA5 out5.length oc5⟩ : RrV) ((⟨id6, ⟨ep6, ms6⟩, j6, l6, cl6, out6⟩ : Rpl), vd, er) s15 s16 s17 wx)
                  case first =>
                    have HS24 : Hid (∀ w', New wr w' → ((w'.cell? ⟨g9, 0, none⟩ = some (.int .i64 id5) ∧ w'.cell? ⟨g9, 1, none⟩ = some (.int .u64 (ep5 : Int)) ∧ w'.cell? ⟨g9, 2, none⟩ = some (.slice cA5 ms5.length cc5) ∧ w'.cell? ⟨g9, 3, none⟩ = some (.int .u64 0) ∧ w'.cell? ⟨g9, 4, none⟩ = some (.int .u64 (la5 : Int)) ∧ w'.cell? ⟨g9, 5, none⟩ = some (.slice sA5 L5.length sc5) ∧ w'.cell? ⟨g9, 6, none⟩ = some (.slice tA5 L5.length tc5) ∧ w'.cell? ⟨g9, 7, none⟩ = some (.slice lA5 l5.length lc5) ∧ w'.cell? ⟨g9, 8, none⟩ = some (.int .u64 (cl5 : Int)) ∧ w'.cell? ⟨g9, 9, none⟩ = some (.slice oA5 out5.length oc5)) ∧ w'.cell? ⟨w.heap.size + 1, 1, none⟩ = some (.slice (some ⟨gq, oq, none⟩) l1.length uc) ∧ w'.cell? ⟨gq, oq + k * 4, none⟩ = some (.int .u64 (bc : Int)) ∧ w'.cell? ⟨gq, oq + k * 4 + 1, none⟩ = some (.int .u64 (br : Int)) ∧ w'.cell? ⟨gq, oq + k * 4 + 2, none⟩ = some (.int .u64 (bs : Int)) ∧ w'.cell? ⟨gq, oq + k * 4 + 3, none⟩ = some (.slice bA bl.length bcap))) := Lib.hid (fun w' hn => ⟨⟨(HBX5.out.new hn).cell 0, (HBX5.out.new hn).cell 1, (HBX5.out.new hn).cell 2, (HBX5.out.new hn).cell 3, (HBX5.out.new hn).cell 4, (HBX5.out.new hn).cell 5, (HBX5.out.new hn).cell 6, (HBX5.out.new hn).cell 7, (HBX5.out.new hn).cell 8, (HBX5.out.new hn).cell 9⟩, (H2R.out.new hn).cell 1, (hn.cells.1 gq _ HGQ.out).trans e0, (hn.cells.1 gq _ HGQ.out).trans e1, (hn.cells.1 gq _ HGQ.out).trans e2, (hn.cells.1 gq _ HGQ.out).trans e3⟩)
                    refine wp_region_held_drew (S := fun w' => (w'.cell? ⟨g9, 0, none⟩ = some (.int .i64 id5) ∧ w'.cell? ⟨g9, 1, none⟩ = some (.int .u64 (ep5 : Int)) ∧ w'.cell? ⟨g9, 2, none⟩ = some (.slice cA5 ms5.length cc5) ∧ w'.cell? ⟨g9, 3, none⟩ = some (.int .u64 0) ∧ w'.cell? ⟨g9, 4, none⟩ = some (.int .u64 (la5 : Int)) ∧ w'.cell? ⟨g9, 5, none⟩ = some (.slice sA5 L5.length sc5) ∧ w'.cell? ⟨g9, 6, none⟩ = some (.slice tA5 L5.length tc5) ∧ w'.cell? ⟨g9, 7, none⟩ = some (.slice lA5 l5.length lc5) ∧ w'.cell? ⟨g9, 8, none⟩ = some (.int .u64 (cl5 : Int)) ∧ w'.cell? ⟨g9, 9, none⟩ = some (.slice oA5 out5.length oc5)) ∧ w'.cell? ⟨w.heap.size + 1, 1, none⟩ = some (.slice (some ⟨gq, oq, none⟩) l1.length uc) ∧ w'.cell? ⟨gq, oq + k * 4, none⟩ = some (.int .u64 (bc : Int)) ∧ w'.cell? ⟨gq, oq + k * 4 + 1, none⟩ = some (.int .u64 (br : Int)) ∧ w'.cell? ⟨gq, oq + k * 4 + 2, none⟩ = some (.int .u64 (bs : Int)) ∧ w'.cell? ⟨gq, oq + k * 4 + 3, none⟩ = some (.slice bA bl.length bcap)) (by kernel_rfl) (HS24.out _ (New.refl wr).drew) (fun hHeld => ?_)
                    have HN0 := Lib.hid (New.refl wr).drew
                    generalize wr.drew = w0 at *
                    refine tkH (i := 0) (oi := ⟨some 107, .load 36 (.tmp 9), 36, "law.go:358", #[], none⟩) (v := ?_) (.inl ⟨by rfl, ?_⟩) ?_
                    rotate_left
                    · (intro wq hSw; (try dsimp only at hSw); go_simp; first | done | with_reducible rfl)
                    try simp only [Act.put, sA, sZ, sS]
                    refine tkH (i := 1) (oi := ⟨some 108, .indexAddr 27 (.tmp 5) (.const (.int .i64 1)), 0, "law.go:358", #[], none⟩) (v := ?_) (.inl ⟨by rfl, ?_⟩) ?_
                    rotate_left
                    · (intro wq hSw; (try dsimp only at hSw); go_simp; first | done | with_reducible rfl)
                    try simp only [Act.put, sA, sZ, sS]
                    refine tkH (i := 2) (oi := ⟨some 109, .load 26 (.tmp 108), 26, "law.go:358", #[⟨1, .data⟩], none⟩) (v := ?_) (.inl ⟨by rfl, ?_⟩) ?_
                    rotate_left
                    · (intro wq hSw; (try dsimp only at hSw); go_simp; first | done | with_reducible rfl)
                    try simp only [Act.put, sA, sZ, sS]
                    refine tkH (i := 3) (oi := ⟨some 110, .move (.tmp 14), 3, "law.go:358", #[], none⟩) (v := ?_) (.inl ⟨by rfl, ?_⟩) ?_
                    rotate_left
                    · (intro wq hSw; (try dsimp only at hSw); go_simp; first | done | with_reducible rfl)
                    try simp only [Act.put, sA, sZ, sS]
                    refine tkH (i := 4) (oi := ⟨some 111, .indexAddr 26 (.tmp 109) (.tmp 110), 0, "law.go:358", #[⟨2, .data⟩, ⟨3, .data⟩], none⟩) (v := ?_) (.inl ⟨by rfl, ?_⟩) ?_
                    rotate_left
                    · (intro wq hSw; (try dsimp only at hSw); go_simp; first | done | with_reducible rfl)
                    try simp only [Act.put, sA, sZ, sS]
                    refine tkH (i := 5) (oi := ⟨some 112, .load 40 (.tmp 111), 40, "law.go:358", #[⟨4, .data⟩], none⟩) (v := ?_) (.inl ⟨by rfl, ?_⟩) ?_
                    rotate_left
                    · (intro wq hSw; (try dsimp only at hSw); go_simp; first | done | with_reducible rfl)
                    try simp only [Act.put, sA, sZ, sS]
                    refine wpAnyH_ready (rs := [6, 12, 13]) (by kernel_rfl) (by simp) ?_
                    refine AllReadyH.cons (o := oLaw24r_0) rfl (fun K hK => ?_) (AllReadyH.cons (o := oLaw24r_1) rfl (fun K hK => ?_) (AllReadyH.cons (o := oLaw24r_2) rfl (fun K hK => ?_) AllReadyH.nil))
                    · go_simp
                      refine (few_any ⟨bc, br, bs, bl⟩ (HBO.out.sl.new (HNR.out.trans HN0.out)) HBO.out.ll).mono ?_
                      rintro e w1 hfw
                      obtain ⟨A3, n3, rfl, hts, hna⟩ := hfw.form
                      clear hfw
                      have HT1 := Lib.hid hts
                      have HN1 := Lib.hid (HN0.out.trans hna)
                      clear hts hna
                      refine hK.out _ _ ?_ (fun hHeld => ?_)
                      · exact HS24.out _ HN1.out
                      clear hK K
                      try simp only [Act.put, sA, sZ, sS]
                      refine wpAnyH_ready (rs := [7, 12, 13]) (by kernel_rfl) (by simp) ?_
                      refine AllReadyH.cons (o := oLaw24r_3) rfl (fun K hK => ?_) (AllReadyH.cons (o := oLaw24r_1) rfl (fun K hK => ?_) (AllReadyH.cons (o := oLaw24r_2) rfl (fun K hK => ?_) AllReadyH.nil))
                      · go_simp
                        have hcall := rrsubmit (y := (⟨id5, ep5, .slice cA5 ms5.length cc5, ⟨la5, L5, .slice sA5 L5.length sc5, .slice tA5 L5.length tc5⟩, .slice lA5 l5.length lc5, cl5, .slice oA5 out5.length oc5⟩ : RrV)) (HRY.out.new HN1.out) (b := (⟨Btc.cut ⟨bc, br, bs, bl⟩, A3, n3⟩ : BtV)) ⟨HT1.out, ⟨HBO.out.c, HBO.out.r, HBO.out.s, HCL.out⟩⟩ (by omega)
                        rw [HSR.out] at hcall
                        refine hcall.mono ?_
                        clear hcall
                        rintro e w2 h6
                        obtain ⟨la6, L6, cA6, cc6, sA6, sc6, tA6, tc6, lA6, lc6, oA6, oc6, rfl, hr6, hn6, hf6⟩ := h6.form
                        clear h6
                        have HR2 := Lib.hid hr6
                        have HF2 : Hid (∀ k, RrF (⟨id6, ep6, .slice cA6 ms6.length cc6, ⟨la6, L6, .slice sA6 L6.length sc6, .slice tA6 L6.length tc6⟩, .slice lA6 l6.length lc6, cl6, .slice oA6 out6.length oc6⟩ : RrV) k → RrF (⟨id5, ep5, .slice cA5 ms5.length cc5, ⟨la5, L5, .slice sA5 L5.length sc5, .slice tA5 L5.length tc5⟩, .slice lA5 l5.length lc5, cl5, .slice oA5 out5.length oc5⟩ : RrV) k ∨ wr.heap.size ≤ k) := Lib.hid (fun k hk => (hf6 k hk).imp (fun h => h) (fun h => Nat.le_trans HN1.out.size h))
                        have HN2 := Lib.hid (HN1.out.trans hn6)
                        clear hr6 hn6 hf6
                        refine hK.out _ _ ?_ (fun hHeld => ?_)
                        · exact HS24.out _ HN2.out
                        clear hK K
                        try simp only [Act.put, sA, sZ, sS]
                        refine tkH (i := 8) (oi := oLaw24r_4) (v := ?_) (.inl ⟨by rfl, ?_⟩) ?_
                        rotate_left
                        · (intro wq hSw; (try dsimp only at hSw); go_simp; first | done | with_reducible rfl)
                        try simp only [Act.put, sA, sZ, sS]
                        refine tkH (i := 9) (oi := oLaw24r_5) (v := ?_) (.inl ⟨by rfl, ?_⟩) ?_
                        rotate_left
                        · (intro wq hSw; (try dsimp only at hSw); go_simp; first | done | with_reducible rfl)
                        try simp only [Act.put, sA, sZ, sS]
                        refine tkH (i := 10) (oi := oLaw24r_6) (v := ?_) (.inl ⟨by rfl, ?_⟩) ?_
                        rotate_left
                        · (intro wq hSw; (try dsimp only at hSw); go_simp; first | done | with_reducible rfl)
                        try simp only [Act.put, sA, sZ, sS]
                        refine tkH (i := 11) (oi := oLaw24r_7) (v := ?_) (.inl ⟨by rfl, ?_⟩) ?_
                        rotate_left
                        · (intro wq hSw; (try dsimp only at hSw); go_simp; first | done | with_reducible rfl)
                        try simp only [Act.put, sA, sZ, sS]
                        refine wpAnyH_ready (rs := [12, 13]) (by kernel_rfl) (by simp) ?_
                        refine AllReadyH.cons (o := oLaw24r_1) rfl (fun K hK => ?_) (AllReadyH.cons (o := oLaw24r_2) rfl (fun K hK => ?_) AllReadyH.nil)
                        · go_simp
                          have HN3 := Lib.hid (HN2.out.alloc (.cells #[.int .i64 0, .int .u64 0, .slice none 0 0, .int .u64 0, .int .u64 0, .slice none 0 0, .slice none 0 0, .slice none 0 0, .int .u64 0, .slice none 0 0] 36))
                          have HP15_3 := Lib.hid (Blk.mk_new w2 36 #[.int .i64 0, .int .u64 0, .slice none 0 0, .int .u64 0, .int .u64 0, .slice none 0 0, .slice none 0 0, .slice none 0 0, .int .u64 0, .slice none 0 0])
                          have HA15_3 := Lib.hid (HN2.out.size)
                          have HR3 := Lib.hid (HR2.out.new ((New.refl w2).alloc (.cells #[.int .i64 0, .int .u64 0, .slice none 0 0, .int .u64 0, .int .u64 0, .slice none 0 0, .slice none 0 0, .slice none 0 0, .int .u64 0, .slice none 0 0] 36)))
                          have HQ15_3 : Hid (∀ k, RrF (⟨id6, ep6, .slice cA6 ms6.length cc6, ⟨la6, L6, .slice sA6 L6.length sc6, .slice tA6 L6.length tc6⟩, .slice lA6 l6.length lc6, cl6, .slice oA6 out6.length oc6⟩ : RrV) k → k ≠ w2.heap.size) := Lib.hid (fun k hk e => by have h1 := HR2.out.lt k hk; omega)
                          generalize w2.alloc (.cells #[.int .i64 0, .int .u64 0, .slice none 0 0, .int .u64 0, .int .u64 0, .slice none 0 0, .slice none 0 0, .slice none 0 0, .int .u64 0, .slice none 0 0] 36) = w3 at *
                          refine hK.out _ _ ?_ (fun hHeld => ?_)
                          · exact HS24.out _ HN3.out
                          clear hK K
                          try simp only [Act.put, sA, sZ, sS]
                          refine wpAnyH_ready (rs := [13]) (by kernel_rfl) (by simp) ?_
                          refine AllReadyH.cons (o := oLaw24r_2) rfl (fun K hK => ?_) AllReadyH.nil
                          go_simp
                          have HN4 := Lib.hid (HN3.out.alloc (.cells #[.int .u64 0, .int .i64 0] 49))
                          have HP16_4 := Lib.hid (Blk.mk_new w3 49 #[.int .u64 0, .int .i64 0])
                          have HA16_4 := Lib.hid (HN3.out.size)
                          have HR4 := Lib.hid (HR3.out.new ((New.refl w3).alloc (.cells #[.int .u64 0, .int .i64 0] 49)))
                          have HQ16_4 : Hid (∀ k, RrF (⟨id6, ep6, .slice cA6 ms6.length cc6, ⟨la6, L6, .slice sA6 L6.length sc6, .slice tA6 L6.length tc6⟩, .slice lA6 l6.length lc6, cl6, .slice oA6 out6.length oc6⟩ : RrV) k → k ≠ w3.heap.size) := Lib.hid (fun k hk e => by have h1 := HR3.out.lt k hk; omega)
                          have HP15_4 := Lib.hid (HP15_3.out.alloc (.cells #[.int .u64 0, .int .i64 0] 49))
                          have HD_4 : Hid (w2.heap.size ≠ w3.heap.size) := Lib.hid (Nat.ne_of_lt HP15_3.out.lt)
                          generalize w3.alloc (.cells #[.int .u64 0, .int .i64 0] 49) = w4 at *
                          refine hK.out _ _ ?_ (fun hHeld => ?_)
                          · exact HS24.out _ HN4.out
                          clear hK K
                          try simp only [Act.put, sA, sZ, sS]
                          refine wpAnyH_ready (rs := [14]) (by kernel_rfl) (by simp) ?_
                          refine AllReadyH.cons (o := oLaw24r_8) rfl (fun K hK => ?_) AllReadyH.nil
                          have hy := Blk10R HP15_4.out
                          have z0 := hy.1
                          have z1 := hy.2.1
                          have z2 := hy.2.2.1
                          have z3 := hy.2.2.2.1
                          have z4 := hy.2.2.2.2.1
                          have z5 := hy.2.2.2.2.2.1
                          have z6 := hy.2.2.2.2.2.2.1
                          have z7 := hy.2.2.2.2.2.2.2.1
                          have z8 := hy.2.2.2.2.2.2.2.2.1
                          have z9 := hy.2.2.2.2.2.2.2.2.2.1
                          have z10 := hy.2.2.2.2.2.2.2.2.2.2.1
                          have zz := hy.2.2.2.2.2.2.2.2.2.2.2
                          clear hy
                          go_simp
                          have hu5 : Upd (· = w2.heap.size) w4 ((((((((((w4.setCell ⟨w2.heap.size, 0, none⟩ (.int .i64 id6)).setCell ⟨w2.heap.size, 1, none⟩ (.int .u64 (ep6 : Int))).setCell ⟨w2.heap.size, 2, none⟩ (.slice cA6 ms6.length cc6)).setCell ⟨w2.heap.size, 3, none⟩ (.int .u64 0)).setCell ⟨w2.heap.size, 4, none⟩ (.int .u64 (la6 : Int))).setCell ⟨w2.heap.size, 5, none⟩ (.slice sA6 L6.length sc6)).setCell ⟨w2.heap.size, 6, none⟩ (.slice tA6 L6.length tc6)).setCell ⟨w2.heap.size, 7, none⟩ (.slice lA6 l6.length lc6)).setCell ⟨w2.heap.size, 8, none⟩ (.int .u64 (cl6 : Int))).setCell ⟨w2.heap.size, 9, none⟩ (.slice oA6 out6.length oc6)) := ((((((((((Upd.refl _ w4).setIn 0 _).setIn 1 _).setIn 2 _).setIn 3 _).setIn 4 _).setIn 5 _).setIn 6 _).setIn 7 _).setIn 8 _).setIn 9 _
                          have HP15_5 := Lib.hid (Blk.set10 (.int .i64 id6) (.int .u64 (ep6 : Int)) (.slice cA6 ms6.length cc6) (.int .u64 0) (.int .u64 (la6 : Int)) (.slice sA6 L6.length sc6) (.slice tA6 L6.length tc6) (.slice lA6 l6.length lc6) (.int .u64 (cl6 : Int)) (.slice oA6 out6.length oc6) HP15_4.out)
                          have HN5 := Lib.hid (HN4.out.upd hu5 (fun i e => by rw [e]; exact HA15_3.out))
                          have HR5 := Lib.hid (HR4.out.box HP15_4.out hu5 HQ15_3.out (by decide))
                          have HP16_5 := Lib.hid (HP16_4.out.upd hu5 (HD_4.out.symm))
                          clear hu5 z0 z1 z2 z3 z4 z5 z6 z7 z8 z9 z10 zz
                          generalize ((((((((((w4.setCell ⟨w2.heap.size, 0, none⟩ (.int .i64 id6)).setCell ⟨w2.heap.size, 1, none⟩ (.int .u64 (ep6 : Int))).setCell ⟨w2.heap.size, 2, none⟩ (.slice cA6 ms6.length cc6)).setCell ⟨w2.heap.size, 3, none⟩ (.int .u64 0)).setCell ⟨w2.heap.size, 4, none⟩ (.int .u64 (la6 : Int))).setCell ⟨w2.heap.size, 5, none⟩ (.slice sA6 L6.length sc6)).setCell ⟨w2.heap.size, 6, none⟩ (.slice tA6 L6.length tc6)).setCell ⟨w2.heap.size, 7, none⟩ (.slice lA6 l6.length lc6)).setCell ⟨w2.heap.size, 8, none⟩ (.int .u64 (cl6 : Int))).setCell ⟨w2.heap.size, 9, none⟩ (.slice oA6 out6.length oc6)) = w5 at *
                          refine hK.out _ _ ?_ (fun hHeld => ?_)
                          · exact HS24.out _ HN5.out
                          clear hK K
                          try simp only [Act.put, sA, sZ, sS]
                          refine wpAnyH_ready (rs := [15]) (by kernel_rfl) (by simp) ?_
                          refine AllReadyH.cons (o := oLaw24r_9) rfl (fun K hK => ?_) AllReadyH.nil
                          have hy := Blk2R HP16_5.out
                          have z0 := hy.1
                          have z1 := hy.2.1
                          have z2 := hy.2.2.1
                          have zz := hy.2.2.2
                          clear hy
                          go_simp
                          have hu6 : Upd (· = w3.heap.size) w5 ((w5.setCell ⟨w3.heap.size, 0, none⟩ (.int .u64 (vd.t : Int))).setCell ⟨w3.heap.size, 1, none⟩ (.int .i64 vd.e)) := ((Upd.refl _ w5).setIn 0 _).setIn 1 _
                          have HP16_6 := Lib.hid ((HP16_5.out.set_ 0 (.int .u64 (vd.t : Int))).set_ 1 (.int .i64 vd.e))
                          have HN6 := Lib.hid (HN5.out.upd hu6 (fun i e => by rw [e]; exact HA16_4.out))
                          have HR6 := Lib.hid (HR5.out.box HP16_5.out hu6 HQ16_4.out (by decide))
                          have HP15_6 := Lib.hid (HP15_5.out.upd hu6 (HD_4.out))
                          clear hu6 z0 z1 z2 zz
                          generalize ((w5.setCell ⟨w3.heap.size, 0, none⟩ (.int .u64 (vd.t : Int))).setCell ⟨w3.heap.size, 1, none⟩ (.int .i64 vd.e)) = w6 at *
                          refine hK.out _ _ ?_ (fun hHeld => ?_)
                          · exact HS24.out _ HN6.out
                          clear hK K
                          try simp only [Act.put, sA, sZ, sS]
                          refine tkH (i := 16) (oi := oLaw24r_10) (v := ?_) (.inl ⟨by rfl, ?_⟩) ?_
                          rotate_left
                          · (intro wq hSw; (try dsimp only at hSw); go_simp; first | done | with_reducible rfl)
                          try simp only [Act.put, sA, sZ, sS]
                          refine wpAnyH_done (by kernel_rfl) ?_ _
                          clear hHeld
                          go_wp2_with fail
                          go_meet
                          exact ⟨w2.heap.size, w3.heap.size, (⟨id6, ep6, .slice cA6 ms6.length cc6, ⟨la6, L6, .slice sA6 L6.length sc6, .slice tA6 L6.length tc6⟩, .slice lA6 l6.length lc6, cl6, .slice oA6 out6.length oc6⟩ : RrV), rfl, rfl, rfl, HP15_6.out, HP16_6.out, HR6.out, HF2.out, HN6.out, HA15_3.out, HA16_4.out⟩
                        · go_simp
                          have HN7 := Lib.hid (HN2.out.alloc (.cells #[.int .u64 0, .int .i64 0] 49))
                          have HP16_7 := Lib.hid (Blk.mk_new w2 49 #[.int .u64 0, .int .i64 0])
                          have HA16_7 := Lib.hid (HN2.out.size)
                          have HR7 := Lib.hid (HR2.out.new ((New.refl w2).alloc (.cells #[.int .u64 0, .int .i64 0] 49)))
                          have HQ16_7 : Hid (∀ k, RrF (⟨id6, ep6, .slice cA6 ms6.length cc6, ⟨la6, L6, .slice sA6 L6.length sc6, .slice tA6 L6.length tc6⟩, .slice lA6 l6.length lc6, cl6, .slice oA6 out6.length oc6⟩ : RrV) k → k ≠ w2.heap.size) := Lib.hid (fun k hk e => by have h1 := HR2.out.lt k hk; omega)
                          generalize w2.alloc (.cells #[.int .u64 0, .int .i64 0] 49) = w7 at *
                          refine hK.out _ _ ?_ (fun hHeld => ?_)
                          · exact HS24.out _ HN7.out
                          clear hK K
                          try simp only [Act.put, sA, sZ, sS]
                          refine wpAnyH_ready (rs := [12]) (by kernel_rfl) (by simp) ?_
                          refine AllReadyH.cons (o := oLaw24r_1) rfl (fun K hK => ?_) AllReadyH.nil
                          go_simp
                          have HN8 := Lib.hid (HN7.out.alloc (.cells #[.int .i64 0, .int .u64 0, .slice none 0 0, .int .u64 0, .int .u64 0, .slice none 0 0, .slice none 0 0, .slice none 0 0, .int .u64 0, .slice none 0 0] 36))
                          have HP15_8 := Lib.hid (Blk.mk_new w7 36 #[.int .i64 0, .int .u64 0, .slice none 0 0, .int .u64 0, .int .u64 0, .slice none 0 0, .slice none 0 0, .slice none 0 0, .int .u64 0, .slice none 0 0])
                          have HA15_8 := Lib.hid (HN7.out.size)
                          have HR8 := Lib.hid (HR7.out.new ((New.refl w7).alloc (.cells #[.int .i64 0, .int .u64 0, .slice none 0 0, .int .u64 0, .int .u64 0, .slice none 0 0, .slice none 0 0, .slice none 0 0, .int .u64 0, .slice none 0 0] 36)))
                          have HQ15_8 : Hid (∀ k, RrF (⟨id6, ep6, .slice cA6 ms6.length cc6, ⟨la6, L6, .slice sA6 L6.length sc6, .slice tA6 L6.length tc6⟩, .slice lA6 l6.length lc6, cl6, .slice oA6 out6.length oc6⟩ : RrV) k → k ≠ w7.heap.size) := Lib.hid (fun k hk e => by have h1 := HR7.out.lt k hk; omega)
                          have HP16_8 := Lib.hid (HP16_7.out.alloc (.cells #[.int .i64 0, .int .u64 0, .slice none 0 0, .int .u64 0, .int .u64 0, .slice none 0 0, .slice none 0 0, .slice none 0 0, .int .u64 0, .slice none 0 0] 36))
                          have HD_8 : Hid (w2.heap.size ≠ w7.heap.size) := Lib.hid (Nat.ne_of_lt HP16_7.out.lt)
                          generalize w7.alloc (.cells #[.int .i64 0, .int .u64 0, .slice none 0 0, .int .u64 0, .int .u64 0, .slice none 0 0, .slice none 0 0, .slice none 0 0, .int .u64 0, .slice none 0 0] 36) = w8 at *
                          refine hK.out _ _ ?_ (fun hHeld => ?_)
                          · exact HS24.out _ HN8.out
                          clear hK K
                          try simp only [Act.put, sA, sZ, sS]
                          refine wpAnyH_ready (rs := [14]) (by kernel_rfl) (by simp) ?_
                          refine AllReadyH.cons (o := oLaw24r_8) rfl (fun K hK => ?_) AllReadyH.nil
                          have hy := Blk10R HP15_8.out
                          have z0 := hy.1
                          have z1 := hy.2.1
                          have z2 := hy.2.2.1
                          have z3 := hy.2.2.2.1
                          have z4 := hy.2.2.2.2.1
                          have z5 := hy.2.2.2.2.2.1
                          have z6 := hy.2.2.2.2.2.2.1
                          have z7 := hy.2.2.2.2.2.2.2.1
                          have z8 := hy.2.2.2.2.2.2.2.2.1
                          have z9 := hy.2.2.2.2.2.2.2.2.2.1
                          have z10 := hy.2.2.2.2.2.2.2.2.2.2.1
                          have zz := hy.2.2.2.2.2.2.2.2.2.2.2
                          clear hy
                          go_simp
                          have hu9 : Upd (· = w7.heap.size) w8 ((((((((((w8.setCell ⟨w7.heap.size, 0, none⟩ (.int .i64 id6)).setCell ⟨w7.heap.size, 1, none⟩ (.int .u64 (ep6 : Int))).setCell ⟨w7.heap.size, 2, none⟩ (.slice cA6 ms6.length cc6)).setCell ⟨w7.heap.size, 3, none⟩ (.int .u64 0)).setCell ⟨w7.heap.size, 4, none⟩ (.int .u64 (la6 : Int))).setCell ⟨w7.heap.size, 5, none⟩ (.slice sA6 L6.length sc6)).setCell ⟨w7.heap.size, 6, none⟩ (.slice tA6 L6.length tc6)).setCell ⟨w7.heap.size, 7, none⟩ (.slice lA6 l6.length lc6)).setCell ⟨w7.heap.size, 8, none⟩ (.int .u64 (cl6 : Int))).setCell ⟨w7.heap.size, 9, none⟩ (.slice oA6 out6.length oc6)) := ((((((((((Upd.refl _ w8).setIn 0 _).setIn 1 _).setIn 2 _).setIn 3 _).setIn 4 _).setIn 5 _).setIn 6 _).setIn 7 _).setIn 8 _).setIn 9 _
                          have HP15_9 := Lib.hid (Blk.set10 (.int .i64 id6) (.int .u64 (ep6 : Int)) (.slice cA6 ms6.length cc6) (.int .u64 0) (.int .u64 (la6 : Int)) (.slice sA6 L6.length sc6) (.slice tA6 L6.length tc6) (.slice lA6 l6.length lc6) (.int .u64 (cl6 : Int)) (.slice oA6 out6.length oc6) HP15_8.out)
                          have HN9 := Lib.hid (HN8.out.upd hu9 (fun i e => by rw [e]; exact HA15_8.out))
                          have HR9 := Lib.hid (HR8.out.box HP15_8.out hu9 HQ15_8.out (by decide))
                          have HP16_9 := Lib.hid (HP16_8.out.upd hu9 (HD_8.out))
                          clear hu9 z0 z1 z2 z3 z4 z5 z6 z7 z8 z9 z10 zz
                          generalize ((((((((((w8.setCell ⟨w7.heap.size, 0, none⟩ (.int .i64 id6)).setCell ⟨w7.heap.size, 1, none⟩ (.int .u64 (ep6 : Int))).setCell ⟨w7.heap.size, 2, none⟩ (.slice cA6 ms6.length cc6)).setCell ⟨w7.heap.size, 3, none⟩ (.int .u64 0)).setCell ⟨w7.heap.size, 4, none⟩ (.int .u64 (la6 : Int))).setCell ⟨w7.heap.size, 5, none⟩ (.slice sA6 L6.length sc6)).setCell ⟨w7.heap.size, 6, none⟩ (.slice tA6 L6.length tc6)).setCell ⟨w7.heap.size, 7, none⟩ (.slice lA6 l6.length lc6)).setCell ⟨w7.heap.size, 8, none⟩ (.int .u64 (cl6 : Int))).setCell ⟨w7.heap.size, 9, none⟩ (.slice oA6 out6.length oc6)) = w9 at *
                          refine hK.out _ _ ?_ (fun hHeld => ?_)
                          · exact HS24.out _ HN9.out
                          clear hK K
                          try simp only [Act.put, sA, sZ, sS]
                          refine wpAnyH_ready (rs := [15]) (by kernel_rfl) (by simp) ?_
                          refine AllReadyH.cons (o := oLaw24r_9) rfl (fun K hK => ?_) AllReadyH.nil
                          have hy := Blk2R HP16_9.out
                          have z0 := hy.1
                          have z1 := hy.2.1
                          have z2 := hy.2.2.1
                          have zz := hy.2.2.2
                          clear hy
                          go_simp
                          have hu10 : Upd (· = w2.heap.size) w9 ((w9.setCell ⟨w2.heap.size, 0, none⟩ (.int .u64 (vd.t : Int))).setCell ⟨w2.heap.size, 1, none⟩ (.int .i64 vd.e)) := ((Upd.refl _ w9).setIn 0 _).setIn 1 _
                          have HP16_10 := Lib.hid ((HP16_9.out.set_ 0 (.int .u64 (vd.t : Int))).set_ 1 (.int .i64 vd.e))
                          have HN10 := Lib.hid (HN9.out.upd hu10 (fun i e => by rw [e]; exact HA16_7.out))
                          have HR10 := Lib.hid (HR9.out.box HP16_9.out hu10 HQ16_7.out (by decide))
                          have HP15_10 := Lib.hid (HP15_9.out.upd hu10 (HD_8.out.symm))
                          clear hu10 z0 z1 z2 zz
                          generalize ((w9.setCell ⟨w2.heap.size, 0, none⟩ (.int .u64 (vd.t : Int))).setCell ⟨w2.heap.size, 1, none⟩ (.int .i64 vd.e)) = w10 at *
                          refine hK.out _ _ ?_ (fun hHeld => ?_)
                          · exact HS24.out _ HN10.out
                          clear hK K
                          try simp only [Act.put, sA, sZ, sS]
                          refine tkH (i := 16) (oi := oLaw24r_10) (v := ?_) (.inl ⟨by rfl, ?_⟩) ?_
                          rotate_left
                          · (intro wq hSw; (try dsimp only at hSw); go_simp; first | done | with_reducible rfl)
                          try simp only [Act.put, sA, sZ, sS]
                          refine wpAnyH_done (by kernel_rfl) ?_ _
                          clear hHeld
                          go_wp2_with fail
                          go_meet
                          exact ⟨w7.heap.size, w2.heap.size, (⟨id6, ep6, .slice cA6 ms6.length cc6, ⟨la6, L6, .slice sA6 L6.length sc6, .slice tA6 L6.length tc6⟩, .slice lA6 l6.length lc6, cl6, .slice oA6 out6.length oc6⟩ : RrV), rfl, rfl, rfl, HP15_10.out, HP16_10.out, HR10.out, HF2.out, HN10.out, HA15_8.out, HA16_7.out⟩
                      · go_simp
                        have HN11 := Lib.hid (HN1.out.alloc (.cells #[.int .i64 0, .int .u64 0, .slice none 0 0, .int .u64 0, .int .u64 0, .slice none 0 0, .slice none 0 0, .slice none 0 0, .int .u64 0, .slice none 0 0] 36))
                        have HP15_11 := Lib.hid (Blk.mk_new w1 36 #[.int .i64 0, .int .u64 0, .slice none 0 0, .int .u64 0, .int .u64 0, .slice none 0 0, .slice none 0 0, .slice none 0 0, .int .u64 0, .slice none 0 0])
                        have HA15_11 := Lib.hid (HN1.out.size)
                        have HT11 := Lib.hid (HT1.out.new ((New.refl w1).alloc (.cells #[.int .i64 0, .int .u64 0, .slice none 0 0, .int .u64 0, .int .u64 0, .slice none 0 0, .slice none 0 0, .slice none 0 0, .int .u64 0, .slice none 0 0] 36)))
                        generalize w1.alloc (.cells #[.int .i64 0, .int .u64 0, .slice none 0 0, .int .u64 0, .int .u64 0, .slice none 0 0, .slice none 0 0, .slice none 0 0, .int .u64 0, .slice none 0 0] 36) = w11 at *
                        refine hK.out _ _ ?_ (fun hHeld => ?_)
                        · exact HS24.out _ HN11.out
                        clear hK K
                        try simp only [Act.put, sA, sZ, sS]
                        refine wpAnyH_ready (rs := [7, 13]) (by kernel_rfl) (by simp) ?_
                        refine AllReadyH.cons (o := oLaw24r_3) rfl (fun K hK => ?_) (AllReadyH.cons (o := oLaw24r_2) rfl (fun K hK => ?_) AllReadyH.nil)
                        · go_simp
                          have hcall := rrsubmit (y := (⟨id5, ep5, .slice cA5 ms5.length cc5, ⟨la5, L5, .slice sA5 L5.length sc5, .slice tA5 L5.length tc5⟩, .slice lA5 l5.length lc5, cl5, .slice oA5 out5.length oc5⟩ : RrV)) (HRY.out.new HN11.out) (b := (⟨Btc.cut ⟨bc, br, bs, bl⟩, A3, n3⟩ : BtV)) ⟨HT11.out, ⟨HBO.out.c, HBO.out.r, HBO.out.s, HCL.out⟩⟩ (by omega)
                          rw [HSR.out] at hcall
                          refine hcall.mono ?_
                          clear hcall
                          rintro e w12 h6
                          obtain ⟨la6, L6, cA6, cc6, sA6, sc6, tA6, tc6, lA6, lc6, oA6, oc6, rfl, hr6, hn6, hf6⟩ := h6.form
                          clear h6
                          have HR12 := Lib.hid hr6
                          have HF12 : Hid (∀ k, RrF (⟨id6, ep6, .slice cA6 ms6.length cc6, ⟨la6, L6, .slice sA6 L6.length sc6, .slice tA6 L6.length tc6⟩, .slice lA6 l6.length lc6, cl6, .slice oA6 out6.length oc6⟩ : RrV) k → RrF (⟨id5, ep5, .slice cA5 ms5.length cc5, ⟨la5, L5, .slice sA5 L5.length sc5, .slice tA5 L5.length tc5⟩, .slice lA5 l5.length lc5, cl5, .slice oA5 out5.length oc5⟩ : RrV) k ∨ wr.heap.size ≤ k) := Lib.hid (fun k hk => (hf6 k hk).imp (fun h => h) (fun h => Nat.le_trans HN11.out.size h))
                          have HN12 := Lib.hid (HN11.out.trans hn6)
                          have HP15_12 := Lib.hid (HP15_11.out.new hn6)
                          have HQ15_12 : Hid (∀ k, RrF (⟨id6, ep6, .slice cA6 ms6.length cc6, ⟨la6, L6, .slice sA6 L6.length sc6, .slice tA6 L6.length tc6⟩, .slice lA6 l6.length lc6, cl6, .slice oA6 out6.length oc6⟩ : RrV) k → k ≠ w1.heap.size) := Lib.hid (fun k hk e => (hf6 k hk).elim (fun h => by have h1 := HRY.out.lt k h; have h2 := HA15_11.out; omega) (fun h => by have h1 := HP15_11.out.lt; omega))
                          clear hr6 hn6 hf6
                          refine hK.out _ _ ?_ (fun hHeld => ?_)
                          · exact HS24.out _ HN12.out
                          clear hK K
                          try simp only [Act.put, sA, sZ, sS]
                          refine tkH (i := 8) (oi := oLaw24r_4) (v := ?_) (.inl ⟨by rfl, ?_⟩) ?_
                          rotate_left
                          · (intro wq hSw; (try dsimp only at hSw); go_simp; first | done | with_reducible rfl)
                          try simp only [Act.put, sA, sZ, sS]
                          refine tkH (i := 9) (oi := oLaw24r_5) (v := ?_) (.inl ⟨by rfl, ?_⟩) ?_
                          rotate_left
                          · (intro wq hSw; (try dsimp only at hSw); go_simp; first | done | with_reducible rfl)
                          try simp only [Act.put, sA, sZ, sS]
                          refine tkH (i := 10) (oi := oLaw24r_6) (v := ?_) (.inl ⟨by rfl, ?_⟩) ?_
                          rotate_left
                          · (intro wq hSw; (try dsimp only at hSw); go_simp; first | done | with_reducible rfl)
                          try simp only [Act.put, sA, sZ, sS]
                          refine tkH (i := 11) (oi := oLaw24r_7) (v := ?_) (.inl ⟨by rfl, ?_⟩) ?_
                          rotate_left
                          · (intro wq hSw; (try dsimp only at hSw); go_simp; first | done | with_reducible rfl)
                          try simp only [Act.put, sA, sZ, sS]
                          refine wpAnyH_ready (rs := [13]) (by kernel_rfl) (by simp) ?_
                          refine AllReadyH.cons (o := oLaw24r_2) rfl (fun K hK => ?_) AllReadyH.nil
                          go_simp
                          have HN13 := Lib.hid (HN12.out.alloc (.cells #[.int .u64 0, .int .i64 0] 49))
                          have HP16_13 := Lib.hid (Blk.mk_new w12 49 #[.int .u64 0, .int .i64 0])
                          have HA16_13 := Lib.hid (HN12.out.size)
                          have HR13 := Lib.hid (HR12.out.new ((New.refl w12).alloc (.cells #[.int .u64 0, .int .i64 0] 49)))
                          have HQ16_13 : Hid (∀ k, RrF (⟨id6, ep6, .slice cA6 ms6.length cc6, ⟨la6, L6, .slice sA6 L6.length sc6, .slice tA6 L6.length tc6⟩, .slice lA6 l6.length lc6, cl6, .slice oA6 out6.length oc6⟩ : RrV) k → k ≠ w12.heap.size) := Lib.hid (fun k hk e => by have h1 := HR12.out.lt k hk; omega)
                          have HP15_13 := Lib.hid (HP15_12.out.alloc (.cells #[.int .u64 0, .int .i64 0] 49))
                          have HD_13 : Hid (w1.heap.size ≠ w12.heap.size) := Lib.hid (Nat.ne_of_lt HP15_12.out.lt)
                          generalize w12.alloc (.cells #[.int .u64 0, .int .i64 0] 49) = w13 at *
                          refine hK.out _ _ ?_ (fun hHeld => ?_)
                          · exact HS24.out _ HN13.out
                          clear hK K
                          try simp only [Act.put, sA, sZ, sS]
                          refine wpAnyH_ready (rs := [14]) (by kernel_rfl) (by simp) ?_
                          refine AllReadyH.cons (o := oLaw24r_8) rfl (fun K hK => ?_) AllReadyH.nil
                          have hy := Blk10R HP15_13.out
                          have z0 := hy.1
                          have z1 := hy.2.1
                          have z2 := hy.2.2.1
                          have z3 := hy.2.2.2.1
                          have z4 := hy.2.2.2.2.1
                          have z5 := hy.2.2.2.2.2.1
                          have z6 := hy.2.2.2.2.2.2.1
                          have z7 := hy.2.2.2.2.2.2.2.1
                          have z8 := hy.2.2.2.2.2.2.2.2.1
                          have z9 := hy.2.2.2.2.2.2.2.2.2.1
                          have z10 := hy.2.2.2.2.2.2.2.2.2.2.1
                          have zz := hy.2.2.2.2.2.2.2.2.2.2.2
                          clear hy
                          go_simp
                          have hu14 : Upd (· = w1.heap.size) w13 ((((((((((w13.setCell ⟨w1.heap.size, 0, none⟩ (.int .i64 id6)).setCell ⟨w1.heap.size, 1, none⟩ (.int .u64 (ep6 : Int))).setCell ⟨w1.heap.size, 2, none⟩ (.slice cA6 ms6.length cc6)).setCell ⟨w1.heap.size, 3, none⟩ (.int .u64 0)).setCell ⟨w1.heap.size, 4, none⟩ (.int .u64 (la6 : Int))).setCell ⟨w1.heap.size, 5, none⟩ (.slice sA6 L6.length sc6)).setCell ⟨w1.heap.size, 6, none⟩ (.slice tA6 L6.length tc6)).setCell ⟨w1.heap.size, 7, none⟩ (.slice lA6 l6.length lc6)).setCell ⟨w1.heap.size, 8, none⟩ (.int .u64 (cl6 : Int))).setCell ⟨w1.heap.size, 9, none⟩ (.slice oA6 out6.length oc6)) := ((((((((((Upd.refl _ w13).setIn 0 _).setIn 1 _).setIn 2 _).setIn 3 _).setIn 4 _).setIn 5 _).setIn 6 _).setIn 7 _).setIn 8 _).setIn 9 _
                          have HP15_14 := Lib.hid (Blk.set10 (.int .i64 id6) (.int .u64 (ep6 : Int)) (.slice cA6 ms6.length cc6) (.int .u64 0) (.int .u64 (la6 : Int)) (.slice sA6 L6.length sc6) (.slice tA6 L6.length tc6) (.slice lA6 l6.length lc6) (.int .u64 (cl6 : Int)) (.slice oA6 out6.length oc6) HP15_13.out)
                          have HN14 := Lib.hid (HN13.out.upd hu14 (fun i e => by rw [e]; exact HA15_11.out))
                          have HR14 := Lib.hid (HR13.out.box HP15_13.out hu14 HQ15_12.out (by decide))
                          have HP16_14 := Lib.hid (HP16_13.out.upd hu14 (HD_13.out.symm))
                          clear hu14 z0 z1 z2 z3 z4 z5 z6 z7 z8 z9 z10 zz
                          generalize ((((((((((w13.setCell ⟨w1.heap.size, 0, none⟩ (.int .i64 id6)).setCell ⟨w1.heap.size, 1, none⟩ (.int .u64 (ep6 : Int))).setCell ⟨w1.heap.size, 2, none⟩ (.slice cA6 ms6.length cc6)).setCell ⟨w1.heap.size, 3, none⟩ (.int .u64 0)).setCell ⟨w1.heap.size, 4, none⟩ (.int .u64 (la6 : Int))).setCell ⟨w1.heap.size, 5, none⟩ (.slice sA6 L6.length sc6)).setCell ⟨w1.heap.size, 6, none⟩ (.slice tA6 L6.length tc6)).setCell ⟨w1.heap.size, 7, none⟩ (.slice lA6 l6.length lc6)).setCell ⟨w1.heap.size, 8, none⟩ (.int .u64 (cl6 : Int))).setCell ⟨w1.heap.size, 9, none⟩ (.slice oA6 out6.length oc6)) = w14 at *
                          refine hK.out _ _ ?_ (fun hHeld => ?_)
                          · exact HS24.out _ HN14.out
                          clear hK K
                          try simp only [Act.put, sA, sZ, sS]
                          refine wpAnyH_ready (rs := [15]) (by kernel_rfl) (by simp) ?_
                          refine AllReadyH.cons (o := oLaw24r_9) rfl (fun K hK => ?_) AllReadyH.nil
                          have hy := Blk2R HP16_14.out
                          have z0 := hy.1
                          have z1 := hy.2.1
                          have z2 := hy.2.2.1
                          have zz := hy.2.2.2
                          clear hy
                          go_simp
                          have hu15 : Upd (· = w12.heap.size) w14 ((w14.setCell ⟨w12.heap.size, 0, none⟩ (.int .u64 (vd.t : Int))).setCell ⟨w12.heap.size, 1, none⟩ (.int .i64 vd.e)) := ((Upd.refl _ w14).setIn 0 _).setIn 1 _
                          have HP16_15 := Lib.hid ((HP16_14.out.set_ 0 (.int .u64 (vd.t : Int))).set_ 1 (.int .i64 vd.e))
                          have HN15 := Lib.hid (HN14.out.upd hu15 (fun i e => by rw [e]; exact HA16_13.out))
                          have HR15 := Lib.hid (HR14.out.box HP16_14.out hu15 HQ16_13.out (by decide))
                          have HP15_15 := Lib.hid (HP15_14.out.upd hu15 (HD_13.out))
                          clear hu15 z0 z1 z2 zz
                          generalize ((w14.setCell ⟨w12.heap.size, 0, none⟩ (.int .u64 (vd.t : Int))).setCell ⟨w12.heap.size, 1, none⟩ (.int .i64 vd.e)) = w15 at *
                          refine hK.out _ _ ?_ (fun hHeld => ?_)
                          · exact HS24.out _ HN15.out
                          clear hK K
                          try simp only [Act.put, sA, sZ, sS]
                          refine tkH (i := 16) (oi := oLaw24r_10) (v := ?_) (.inl ⟨by rfl, ?_⟩) ?_
                          rotate_left
                          · (intro wq hSw; (try dsimp only at hSw); go_simp; first | done | with_reducible rfl)
                          try simp only [Act.put, sA, sZ, sS]
                          refine wpAnyH_done (by kernel_rfl) ?_ _
                          clear hHeld
                          go_wp2_with fail
                          go_meet
                          exact ⟨w1.heap.size, w12.heap.size, (⟨id6, ep6, .slice cA6 ms6.length cc6, ⟨la6, L6, .slice sA6 L6.length sc6, .slice tA6 L6.length tc6⟩, .slice lA6 l6.length lc6, cl6, .slice oA6 out6.length oc6⟩ : RrV), rfl, rfl, rfl, HP15_15.out, HP16_15.out, HR15.out, HF12.out, HN15.out, HA15_11.out, HA16_13.out⟩
                        · go_simp
                          have HN16 := Lib.hid (HN11.out.alloc (.cells #[.int .u64 0, .int .i64 0] 49))
                          have HP16_16 := Lib.hid (Blk.mk_new w11 49 #[.int .u64 0, .int .i64 0])
                          have HA16_16 := Lib.hid (HN11.out.size)
                          have HT16 := Lib.hid (HT11.out.new ((New.refl w11).alloc (.cells #[.int .u64 0, .int .i64 0] 49)))
                          have HP15_16 := Lib.hid (HP15_11.out.alloc (.cells #[.int .u64 0, .int .i64 0] 49))
                          have HD_16 : Hid (w1.heap.size ≠ w11.heap.size) := Lib.hid (Nat.ne_of_lt HP15_11.out.lt)
                          generalize w11.alloc (.cells #[.int .u64 0, .int .i64 0] 49) = w16 at *
                          refine hK.out _ _ ?_ (fun hHeld => ?_)
                          · exact HS24.out _ HN16.out
                          clear hK K
                          try simp only [Act.put, sA, sZ, sS]
                          refine wpAnyH_ready (rs := [7]) (by kernel_rfl) (by simp) ?_
                          refine AllReadyH.cons (o := oLaw24r_3) rfl (fun K hK => ?_) AllReadyH.nil
                          go_simp
                          have hcall := rrsubmit (y := (⟨id5, ep5, .slice cA5 ms5.length cc5, ⟨la5, L5, .slice sA5 L5.length sc5, .slice tA5 L5.length tc5⟩, .slice lA5 l5.length lc5, cl5, .slice oA5 out5.length oc5⟩ : RrV)) (HRY.out.new HN16.out) (b := (⟨Btc.cut ⟨bc, br, bs, bl⟩, A3, n3⟩ : BtV)) ⟨HT16.out, ⟨HBO.out.c, HBO.out.r, HBO.out.s, HCL.out⟩⟩ (by omega)
                          rw [HSR.out] at hcall
                          refine hcall.mono ?_
                          clear hcall
                          rintro e w17 h6
                          obtain ⟨la6, L6, cA6, cc6, sA6, sc6, tA6, tc6, lA6, lc6, oA6, oc6, rfl, hr6, hn6, hf6⟩ := h6.form
                          clear h6
                          have HR17 := Lib.hid hr6
                          have HF17 : Hid (∀ k, RrF (⟨id6, ep6, .slice cA6 ms6.length cc6, ⟨la6, L6, .slice sA6 L6.length sc6, .slice tA6 L6.length tc6⟩, .slice lA6 l6.length lc6, cl6, .slice oA6 out6.length oc6⟩ : RrV) k → RrF (⟨id5, ep5, .slice cA5 ms5.length cc5, ⟨la5, L5, .slice sA5 L5.length sc5, .slice tA5 L5.length tc5⟩, .slice lA5 l5.length lc5, cl5, .slice oA5 out5.length oc5⟩ : RrV) k ∨ wr.heap.size ≤ k) := Lib.hid (fun k hk => (hf6 k hk).imp (fun h => h) (fun h => Nat.le_trans HN16.out.size h))
                          have HN17 := Lib.hid (HN16.out.trans hn6)
                          have HP15_17 := Lib.hid (HP15_16.out.new hn6)
                          have HQ15_17 : Hid (∀ k, RrF (⟨id6, ep6, .slice cA6 ms6.length cc6, ⟨la6, L6, .slice sA6 L6.length sc6, .slice tA6 L6.length tc6⟩, .slice lA6 l6.length lc6, cl6, .slice oA6 out6.length oc6⟩ : RrV) k → k ≠ w1.heap.size) := Lib.hid (fun k hk e => (hf6 k hk).elim (fun h => by have h1 := HRY.out.lt k h; have h2 := HA15_11.out; omega) (fun h => by have h1 := HP15_16.out.lt; omega))
                          have HP16_17 := Lib.hid (HP16_16.out.new hn6)
                          have HQ16_17 : Hid (∀ k, RrF (⟨id6, ep6, .slice cA6 ms6.length cc6, ⟨la6, L6, .slice sA6 L6.length sc6, .slice tA6 L6.length tc6⟩, .slice lA6 l6.length lc6, cl6, .slice oA6 out6.length oc6⟩ : RrV) k → k ≠ w11.heap.size) := Lib.hid (fun k hk e => (hf6 k hk).elim (fun h => by have h1 := HRY.out.lt k h; have h2 := HA16_16.out; omega) (fun h => by have h1 := HP16_16.out.lt; omega))
                          clear hr6 hn6 hf6
                          refine hK.out _ _ ?_ (fun hHeld => ?_)
                          · exact HS24.out _ HN17.out
                          clear hK K
                          try simp only [Act.put, sA, sZ, sS]
                          refine tkH (i := 8) (oi := oLaw24r_4) (v := ?_) (.inl ⟨by rfl, ?_⟩) ?_
                          rotate_left
                          · (intro wq hSw; (try dsimp only at hSw); go_simp; first | done | with_reducible rfl)
                          try simp only [Act.put, sA, sZ, sS]
                          refine tkH (i := 9) (oi := oLaw24r_5) (v := ?_) (.inl ⟨by rfl, ?_⟩) ?_
                          rotate_left
                          · (intro wq hSw; (try dsimp only at hSw); go_simp; first | done | with_reducible rfl)
                          try simp only [Act.put, sA, sZ, sS]
                          refine tkH (i := 10) (oi := oLaw24r_6) (v := ?_) (.inl ⟨by rfl, ?_⟩) ?_
                          rotate_left
                          · (intro wq hSw; (try dsimp only at hSw); go_simp; first | done | with_reducible rfl)
                          try simp only [Act.put, sA, sZ, sS]
                          refine tkH (i := 11) (oi := oLaw24r_7) (v := ?_) (.inl ⟨by rfl, ?_⟩) ?_
                          rotate_left
                          · (intro wq hSw; (try dsimp only at hSw); go_simp; first | done | with_reducible rfl)
                          try simp only [Act.put, sA, sZ, sS]
                          refine wpAnyH_ready (rs := [14]) (by kernel_rfl) (by simp) ?_
                          refine AllReadyH.cons (o := oLaw24r_8) rfl (fun K hK => ?_) AllReadyH.nil
                          have hy := Blk10R HP15_17.out
                          have z0 := hy.1
                          have z1 := hy.2.1
                          have z2 := hy.2.2.1
                          have z3 := hy.2.2.2.1
                          have z4 := hy.2.2.2.2.1
                          have z5 := hy.2.2.2.2.2.1
                          have z6 := hy.2.2.2.2.2.2.1
                          have z7 := hy.2.2.2.2.2.2.2.1
                          have z8 := hy.2.2.2.2.2.2.2.2.1
                          have z9 := hy.2.2.2.2.2.2.2.2.2.1
                          have z10 := hy.2.2.2.2.2.2.2.2.2.2.1
                          have zz := hy.2.2.2.2.2.2.2.2.2.2.2
                          clear hy
                          go_simp
                          have hu18 : Upd (· = w1.heap.size) w17 ((((((((((w17.setCell ⟨w1.heap.size, 0, none⟩ (.int .i64 id6)).setCell ⟨w1.heap.size, 1, none⟩ (.int .u64 (ep6 : Int))).setCell ⟨w1.heap.size, 2, none⟩ (.slice cA6 ms6.length cc6)).setCell ⟨w1.heap.size, 3, none⟩ (.int .u64 0)).setCell ⟨w1.heap.size, 4, none⟩ (.int .u64 (la6 : Int))).setCell ⟨w1.heap.size, 5, none⟩ (.slice sA6 L6.length sc6)).setCell ⟨w1.heap.size, 6, none⟩ (.slice tA6 L6.length tc6)).setCell ⟨w1.heap.size, 7, none⟩ (.slice lA6 l6.length lc6)).setCell ⟨w1.heap.size, 8, none⟩ (.int .u64 (cl6 : Int))).setCell ⟨w1.heap.size, 9, none⟩ (.slice oA6 out6.length oc6)) := ((((((((((Upd.refl _ w17).setIn 0 _).setIn 1 _).setIn 2 _).setIn 3 _).setIn 4 _).setIn 5 _).setIn 6 _).setIn 7 _).setIn 8 _).setIn 9 _
                          have HP15_18 := Lib.hid (Blk.set10 (.int .i64 id6) (.int .u64 (ep6 : Int)) (.slice cA6 ms6.length cc6) (.int .u64 0) (.int .u64 (la6 : Int)) (.slice sA6 L6.length sc6) (.slice tA6 L6.length tc6) (.slice lA6 l6.length lc6) (.int .u64 (cl6 : Int)) (.slice oA6 out6.length oc6) HP15_17.out)
                          have HN18 := Lib.hid (HN17.out.upd hu18 (fun i e => by rw [e]; exact HA15_11.out))
                          have HR18 := Lib.hid (HR17.out.box HP15_17.out hu18 HQ15_17.out (by decide))
                          have HP16_18 := Lib.hid (HP16_17.out.upd hu18 (HD_16.out.symm))
                          clear hu18 z0 z1 z2 z3 z4 z5 z6 z7 z8 z9 z10 zz
                          generalize ((((((((((w17.setCell ⟨w1.heap.size, 0, none⟩ (.int .i64 id6)).setCell ⟨w1.heap.size, 1, none⟩ (.int .u64 (ep6 : Int))).setCell ⟨w1.heap.size, 2, none⟩ (.slice cA6 ms6.length cc6)).setCell ⟨w1.heap.size, 3, none⟩ (.int .u64 0)).setCell ⟨w1.heap.size, 4, none⟩ (.int .u64 (la6 : Int))).setCell ⟨w1.heap.size, 5, none⟩ (.slice sA6 L6.length sc6)).setCell ⟨w1.heap.size, 6, none⟩ (.slice tA6 L6.length tc6)).setCell ⟨w1.heap.size, 7, none⟩ (.slice lA6 l6.length lc6)).setCell ⟨w1.heap.size, 8, none⟩ (.int .u64 (cl6 : Int))).setCell ⟨w1.heap.size, 9, none⟩ (.slice oA6 out6.length oc6)) = w18 at *
                          refine hK.out _ _ ?_ (fun hHeld => ?_)
                          · exact HS24.out _ HN18.out
                          clear hK K
                          try simp only [Act.put, sA, sZ, sS]
                          refine wpAnyH_ready (rs := [15]) (by kernel_rfl) (by simp) ?_
                          refine AllReadyH.cons (o := oLaw24r_9) rfl (fun K hK => ?_) AllReadyH.nil
                          have hy := Blk2R HP16_18.out
                          have z0 := hy.1
                          have z1 := hy.2.1
                          have z2 := hy.2.2.1
                          have zz := hy.2.2.2
                          clear hy
                          go_simp
                          have hu19 : Upd (· = w11.heap.size) w18 ((w18.setCell ⟨w11.heap.size, 0, none⟩ (.int .u64 (vd.t : Int))).setCell ⟨w11.heap.size, 1, none⟩ (.int .i64 vd.e)) := ((Upd.refl _ w18).setIn 0 _).setIn 1 _
                          have HP16_19 := Lib.hid ((HP16_18.out.set_ 0 (.int .u64 (vd.t : Int))).set_ 1 (.int .i64 vd.e))
                          have HN19 := Lib.hid (HN18.out.upd hu19 (fun i e => by rw [e]; exact HA16_16.out))
                          have HR19 := Lib.hid (HR18.out.box HP16_18.out hu19 HQ16_17.out (by decide))
                          have HP15_19 := Lib.hid (HP15_18.out.upd hu19 (HD_16.out))
                          clear hu19 z0 z1 z2 zz
                          generalize ((w18.setCell ⟨w11.heap.size, 0, none⟩ (.int .u64 (vd.t : Int))).setCell ⟨w11.heap.size, 1, none⟩ (.int .i64 vd.e)) = w19 at *
                          refine hK.out _ _ ?_ (fun hHeld => ?_)
                          · exact HS24.out _ HN19.out
                          clear hK K
                          try simp only [Act.put, sA, sZ, sS]
                          refine tkH (i := 16) (oi := oLaw24r_10) (v := ?_) (.inl ⟨by rfl, ?_⟩) ?_
                          rotate_left
                          · (intro wq hSw; (try dsimp only at hSw); go_simp; first | done | with_reducible rfl)
                          try simp only [Act.put, sA, sZ, sS]
                          refine wpAnyH_done (by kernel_rfl) ?_ _
                          clear hHeld
                          go_wp2_with fail
                          go_meet
                          exact ⟨w1.heap.size, w11.heap.size, (⟨id6, ep6, .slice cA6 ms6.length cc6, ⟨la6, L6, .slice sA6 L6.length sc6, .slice tA6 L6.length tc6⟩, .slice lA6 l6.length lc6, cl6, .slice oA6 out6.length oc6⟩ : RrV), rfl, rfl, rfl, HP15_19.out, HP16_19.out, HR19.out, HF17.out, HN19.out, HA15_11.out, HA16_16.out⟩
                      · go_simp
                        have HN20 := Lib.hid (HN1.out.alloc (.cells #[.int .u64 0, .int .i64 0] 49))
                        have HP16_20 := Lib.hid (Blk.mk_new w1 49 #[.int .u64 0, .int .i64 0])
                        have HA16_20 := Lib.hid (HN1.out.size)
                        have HT20 := Lib.hid (HT1.out.new ((New.refl w1).alloc (.cells #[.int .u64 0, .int .i64 0] 49)))
                        generalize w1.alloc (.cells #[.int .u64 0, .int .i64 0] 49) = w20 at *
                        refine hK.out _ _ ?_ (fun hHeld => ?_)
                        · exact HS24.out _ HN20.out
                        clear hK K
                        try simp only [Act.put, sA, sZ, sS]
                        refine wpAnyH_ready (rs := [7, 12]) (by kernel_rfl) (by simp) ?_
                        refine AllReadyH.cons (o := oLaw24r_3) rfl (fun K hK => ?_) (AllReadyH.cons (o := oLaw24r_1) rfl (fun K hK => ?_) AllReadyH.nil)
                        · go_simp
                          have hcall := rrsubmit (y := (⟨id5, ep5, .slice cA5 ms5.length cc5, ⟨la5, L5, .slice sA5 L5.length sc5, .slice tA5 L5.length tc5⟩, .slice lA5 l5.length lc5, cl5, .slice oA5 out5.length oc5⟩ : RrV)) (HRY.out.new HN20.out) (b := (⟨Btc.cut ⟨bc, br, bs, bl⟩, A3, n3⟩ : BtV)) ⟨HT20.out, ⟨HBO.out.c, HBO.out.r, HBO.out.s, HCL.out⟩⟩ (by omega)
                          rw [HSR.out] at hcall
                          refine hcall.mono ?_
                          clear hcall
                          rintro e w21 h6
                          obtain ⟨la6, L6, cA6, cc6, sA6, sc6, tA6, tc6, lA6, lc6, oA6, oc6, rfl, hr6, hn6, hf6⟩ := h6.form
                          clear h6
                          have HR21 := Lib.hid hr6
                          have HF21 : Hid (∀ k, RrF (⟨id6, ep6, .slice cA6 ms6.length cc6, ⟨la6, L6, .slice sA6 L6.length sc6, .slice tA6 L6.length tc6⟩, .slice lA6 l6.length lc6, cl6, .slice oA6 out6.length oc6⟩ : RrV) k → RrF (⟨id5, ep5, .slice cA5 ms5.length cc5, ⟨la5, L5, .slice sA5 L5.length sc5, .slice tA5 L5.length tc5⟩, .slice lA5 l5.length lc5, cl5, .slice oA5 out5.length oc5⟩ : RrV) k ∨ wr.heap.size ≤ k) := Lib.hid (fun k hk => (hf6 k hk).imp (fun h => h) (fun h => Nat.le_trans HN20.out.size h))
                          have HN21 := Lib.hid (HN20.out.trans hn6)
                          have HP16_21 := Lib.hid (HP16_20.out.new hn6)
                          have HQ16_21 : Hid (∀ k, RrF (⟨id6, ep6, .slice cA6 ms6.length cc6, ⟨la6, L6, .slice sA6 L6.length sc6, .slice tA6 L6.length tc6⟩, .slice lA6 l6.length lc6, cl6, .slice oA6 out6.length oc6⟩ : RrV) k → k ≠ w1.heap.size) := Lib.hid (fun k hk e => (hf6 k hk).elim (fun h => by have h1 := HRY.out.lt k h; have h2 := HA16_20.out; omega) (fun h => by have h1 := HP16_20.out.lt; omega))
                          clear hr6 hn6 hf6
                          refine hK.out _ _ ?_ (fun hHeld => ?_)
                          · exact HS24.out _ HN21.out
                          clear hK K
                          try simp only [Act.put, sA, sZ, sS]
                          refine tkH (i := 8) (oi := oLaw24r_4) (v := ?_) (.inl ⟨by rfl, ?_⟩) ?_
                          rotate_left
                          · (intro wq hSw; (try dsimp only at hSw); go_simp; first | done | with_reducible rfl)
                          try simp only [Act.put, sA, sZ, sS]
                          refine tkH (i := 9) (oi := oLaw24r_5) (v := ?_) (.inl ⟨by rfl, ?_⟩) ?_
                          rotate_left
                          · (intro wq hSw; (try dsimp only at hSw); go_simp; first | done | with_reducible rfl)
                          try simp only [Act.put, sA, sZ, sS]
                          refine tkH (i := 10) (oi := oLaw24r_6) (v := ?_) (.inl ⟨by rfl, ?_⟩) ?_
                          rotate_left
                          · (intro wq hSw; (try dsimp only at hSw); go_simp; first | done | with_reducible rfl)
                          try simp only [Act.put, sA, sZ, sS]
                          refine tkH (i := 11) (oi := oLaw24r_7) (v := ?_) (.inl ⟨by rfl, ?_⟩) ?_
                          rotate_left
                          · (intro wq hSw; (try dsimp only at hSw); go_simp; first | done | with_reducible rfl)
                          try simp only [Act.put, sA, sZ, sS]
                          refine wpAnyH_ready (rs := [12]) (by kernel_rfl) (by simp) ?_
                          refine AllReadyH.cons (o := oLaw24r_1) rfl (fun K hK => ?_) AllReadyH.nil
                          go_simp
                          have HN22 := Lib.hid (HN21.out.alloc (.cells #[.int .i64 0, .int .u64 0, .slice none 0 0, .int .u64 0, .int .u64 0, .slice none 0 0, .slice none 0 0, .slice none 0 0, .int .u64 0, .slice none 0 0] 36))
                          have HP15_22 := Lib.hid (Blk.mk_new w21 36 #[.int .i64 0, .int .u64 0, .slice none 0 0, .int .u64 0, .int .u64 0, .slice none 0 0, .slice none 0 0, .slice none 0 0, .int .u64 0, .slice none 0 0])
                          have HA15_22 := Lib.hid (HN21.out.size)
                          have HR22 := Lib.hid (HR21.out.new ((New.refl w21).alloc (.cells #[.int .i64 0, .int .u64 0, .slice none 0 0, .int .u64 0, .int .u64 0, .slice none 0 0, .slice none 0 0, .slice none 0 0, .int .u64 0, .slice none 0 0] 36)))
                          have HQ15_22 : Hid (∀ k, RrF (⟨id6, ep6, .slice cA6 ms6.length cc6, ⟨la6, L6, .slice sA6 L6.length sc6, .slice tA6 L6.length tc6⟩, .slice lA6 l6.length lc6, cl6, .slice oA6 out6.length oc6⟩ : RrV) k → k ≠ w21.heap.size) := Lib.hid (fun k hk e => by have h1 := HR21.out.lt k hk; omega)
                          have HP16_22 := Lib.hid (HP16_21.out.alloc (.cells #[.int .i64 0, .int .u64 0, .slice none 0 0, .int .u64 0, .int .u64 0, .slice none 0 0, .slice none 0 0, .slice none 0 0, .int .u64 0, .slice none 0 0] 36))
                          have HD_22 : Hid (w1.heap.size ≠ w21.heap.size) := Lib.hid (Nat.ne_of_lt HP16_21.out.lt)
                          generalize w21.alloc (.cells #[.int .i64 0, .int .u64 0, .slice none 0 0, .int .u64 0, .int .u64 0, .slice none 0 0, .slice none 0 0, .slice none 0 0, .int .u64 0, .slice none 0 0] 36) = w22 at *
                          refine hK.out _ _ ?_ (fun hHeld => ?_)
                          · exact HS24.out _ HN22.out
                          clear hK K
                          try simp only [Act.put, sA, sZ, sS]
                          refine wpAnyH_ready (rs := [14]) (by kernel_rfl) (by simp) ?_
                          refine AllReadyH.cons (o := oLaw24r_8) rfl (fun K hK => ?_) AllReadyH.nil
                          have hy := Blk10R HP15_22.out
                          have z0 := hy.1
                          have z1 := hy.2.1
                          have z2 := hy.2.2.1
                          have z3 := hy.2.2.2.1
                          have z4 := hy.2.2.2.2.1
                          have z5 := hy.2.2.2.2.2.1
                          have z6 := hy.2.2.2.2.2.2.1
                          have z7 := hy.2.2.2.2.2.2.2.1
                          have z8 := hy.2.2.2.2.2.2.2.2.1
                          have z9 := hy.2.2.2.2.2.2.2.2.2.1
                          have z10 := hy.2.2.2.2.2.2.2.2.2.2.1
                          have zz := hy.2.2.2.2.2.2.2.2.2.2.2
                          clear hy
                          go_simp
                          have hu23 : Upd (· = w21.heap.size) w22 ((((((((((w22.setCell ⟨w21.heap.size, 0, none⟩ (.int .i64 id6)).setCell ⟨w21.heap.size, 1, none⟩ (.int .u64 (ep6 : Int))).setCell ⟨w21.heap.size, 2, none⟩ (.slice cA6 ms6.length cc6)).setCell ⟨w21.heap.size, 3, none⟩ (.int .u64 0)).setCell ⟨w21.heap.size, 4, none⟩ (.int .u64 (la6 : Int))).setCell ⟨w21.heap.size, 5, none⟩ (.slice sA6 L6.length sc6)).setCell ⟨w21.heap.size, 6, none⟩ (.slice tA6 L6.length tc6)).setCell ⟨w21.heap.size, 7, none⟩ (.slice lA6 l6.length lc6)).setCell ⟨w21.heap.size, 8, none⟩ (.int .u64 (cl6 : Int))).setCell ⟨w21.heap.size, 9, none⟩ (.slice oA6 out6.length oc6)) := ((((((((((Upd.refl _ w22).setIn 0 _).setIn 1 _).setIn 2 _).setIn 3 _).setIn 4 _).setIn 5 _).setIn 6 _).setIn 7 _).setIn 8 _).setIn 9 _
                          have HP15_23 := Lib.hid (Blk.set10 (.int .i64 id6) (.int .u64 (ep6 : Int)) (.slice cA6 ms6.length cc6) (.int .u64 0) (.int .u64 (la6 : Int)) (.slice sA6 L6.length sc6) (.slice tA6 L6.length tc6) (.slice lA6 l6.length lc6) (.int .u64 (cl6 : Int)) (.slice oA6 out6.length oc6) HP15_22.out)
                          have HN23 := Lib.hid (HN22.out.upd hu23 (fun i e => by rw [e]; exact HA15_22.out))
                          have HR23 := Lib.hid (HR22.out.box HP15_22.out hu23 HQ15_22.out (by decide))
                          have HP16_23 := Lib.hid (HP16_22.out.upd hu23 (HD_22.out))
                          clear hu23 z0 z1 z2 z3 z4 z5 z6 z7 z8 z9 z10 zz
                          generalize ((((((((((w22.setCell ⟨w21.heap.size, 0, none⟩ (.int .i64 id6)).setCell ⟨w21.heap.size, 1, none⟩ (.int .u64 (ep6 : Int))).setCell ⟨w21.heap.size, 2, none⟩ (.slice cA6 ms6.length cc6)).setCell ⟨w21.heap.size, 3, none⟩ (.int .u64 0)).setCell ⟨w21.heap.size, 4, none⟩ (.int .u64 (la6 : Int))).setCell ⟨w21.heap.size, 5, none⟩ (.slice sA6 L6.length sc6)).setCell ⟨w21.heap.size, 6, none⟩ (.slice tA6 L6.length tc6)).setCell ⟨w21.heap.size, 7, none⟩ (.slice lA6 l6.length lc6)).setCell ⟨w21.heap.size, 8, none⟩ (.int .u64 (cl6 : Int))).setCell ⟨w21.heap.size, 9, none⟩ (.slice oA6 out6.length oc6)) = w23 at *
                          refine hK.out _ _ ?_ (fun hHeld => ?_)
                          · exact HS24.out _ HN23.out
                          clear hK K
                          try simp only [Act.put, sA, sZ, sS]
                          refine wpAnyH_ready (rs := [15]) (by kernel_rfl) (by simp) ?_
                          refine AllReadyH.cons (o := oLaw24r_9) rfl (fun K hK => ?_) AllReadyH.nil
                          have hy := Blk2R HP16_23.out
                          have z0 := hy.1
                          have z1 := hy.2.1
                          have z2 := hy.2.2.1
                          have zz := hy.2.2.2
                          clear hy
                          go_simp
                          have hu24 : Upd (· = w1.heap.size) w23 ((w23.setCell ⟨w1.heap.size, 0, none⟩ (.int .u64 (vd.t : Int))).setCell ⟨w1.heap.size, 1, none⟩ (.int .i64 vd.e)) := ((Upd.refl _ w23).setIn 0 _).setIn 1 _
                          have HP16_24 := Lib.hid ((HP16_23.out.set_ 0 (.int .u64 (vd.t : Int))).set_ 1 (.int .i64 vd.e))
                          have HN24 := Lib.hid (HN23.out.upd hu24 (fun i e => by rw [e]; exact HA16_20.out))
                          have HR24 := Lib.hid (HR23.out.box HP16_23.out hu24 HQ16_21.out (by decide))
                          have HP15_24 := Lib.hid (HP15_23.out.upd hu24 (HD_22.out.symm))
                          clear hu24 z0 z1 z2 zz
                          generalize ((w23.setCell ⟨w1.heap.size, 0, none⟩ (.int .u64 (vd.t : Int))).setCell ⟨w1.heap.size, 1, none⟩ (.int .i64 vd.e)) = w24 at *
                          refine hK.out _ _ ?_ (fun hHeld => ?_)
                          · exact HS24.out _ HN24.out
                          clear hK K
                          try simp only [Act.put, sA, sZ, sS]
                          refine tkH (i := 16) (oi := oLaw24r_10) (v := ?_) (.inl ⟨by rfl, ?_⟩) ?_
                          rotate_left
                          · (intro wq hSw; (try dsimp only at hSw); go_simp; first | done | with_reducible rfl)
                          try simp only [Act.put, sA, sZ, sS]
                          refine wpAnyH_done (by kernel_rfl) ?_ _
                          clear hHeld
                          go_wp2_with fail
                          go_meet
                          exact ⟨w21.heap.size, w1.heap.size, (⟨id6, ep6, .slice cA6 ms6.length cc6, ⟨la6, L6, .slice sA6 L6.length sc6, .slice tA6 L6.length tc6⟩, .slice lA6 l6.length lc6, cl6, .slice oA6 out6.length oc6⟩ : RrV), rfl, rfl, rfl, HP15_24.out, HP16_24.out, HR24.out, HF21.out, HN24.out, HA15_22.out, HA16_20.out⟩
                        · go_simp
                          have HN25 := Lib.hid (HN20.out.alloc (.cells #[.int .i64 0, .int .u64 0, .slice none 0 0, .int .u64 0, .int .u64 0, .slice none 0 0, .slice none 0 0, .slice none 0 0, .int .u64 0, .slice none 0 0] 36))
                          have HP15_25 := Lib.hid (Blk.mk_new w20 36 #[.int .i64 0, .int .u64 0, .slice none 0 0, .int .u64 0, .int .u64 0, .slice none 0 0, .slice none 0 0, .slice none 0 0, .int .u64 0, .slice none 0 0])
                          have HA15_25 := Lib.hid (HN20.out.size)
                          have HT25 := Lib.hid (HT20.out.new ((New.refl w20).alloc (.cells #[.int .i64 0, .int .u64 0, .slice none 0 0, .int .u64 0, .int .u64 0, .slice none 0 0, .slice none 0 0, .slice none 0 0, .int .u64 0, .slice none 0 0] 36)))
                          have HP16_25 := Lib.hid (HP16_20.out.alloc (.cells #[.int .i64 0, .int .u64 0, .slice none 0 0, .int .u64 0, .int .u64 0, .slice none 0 0, .slice none 0 0, .slice none 0 0, .int .u64 0, .slice none 0 0] 36))
                          have HD_25 : Hid (w1.heap.size ≠ w20.heap.size) := Lib.hid (Nat.ne_of_lt HP16_20.out.lt)
                          generalize w20.alloc (.cells #[.int .i64 0, .int .u64 0, .slice none 0 0, .int .u64 0, .int .u64 0, .slice none 0 0, .slice none 0 0, .slice none 0 0, .int .u64 0, .slice none 0 0] 36) = w25 at *
                          refine hK.out _ _ ?_ (fun hHeld => ?_)
                          · exact HS24.out _ HN25.out
                          clear hK K
                          try simp only [Act.put, sA, sZ, sS]
                          refine wpAnyH_ready (rs := [7]) (by kernel_rfl) (by simp) ?_
                          refine AllReadyH.cons (o := oLaw24r_3) rfl (fun K hK => ?_) AllReadyH.nil
                          go_simp
                          have hcall := rrsubmit (y := (⟨id5, ep5, .slice cA5 ms5.length cc5, ⟨la5, L5, .slice sA5 L5.length sc5, .slice tA5 L5.length tc5⟩, .slice lA5 l5.length lc5, cl5, .slice oA5 out5.length oc5⟩ : RrV)) (HRY.out.new HN25.out) (b := (⟨Btc.cut ⟨bc, br, bs, bl⟩, A3, n3⟩ : BtV)) ⟨HT25.out, ⟨HBO.out.c, HBO.out.r, HBO.out.s, HCL.out⟩⟩ (by omega)
                          rw [HSR.out] at hcall
                          refine hcall.mono ?_
                          clear hcall
                          rintro e w26 h6
                          obtain ⟨la6, L6, cA6, cc6, sA6, sc6, tA6, tc6, lA6, lc6, oA6, oc6, rfl, hr6, hn6, hf6⟩ := h6.form
                          clear h6
                          have HR26 := Lib.hid hr6
                          have HF26 : Hid (∀ k, RrF (⟨id6, ep6, .slice cA6 ms6.length cc6, ⟨la6, L6, .slice sA6 L6.length sc6, .slice tA6 L6.length tc6⟩, .slice lA6 l6.length lc6, cl6, .slice oA6 out6.length oc6⟩ : RrV) k → RrF (⟨id5, ep5, .slice cA5 ms5.length cc5, ⟨la5, L5, .slice sA5 L5.length sc5, .slice tA5 L5.length tc5⟩, .slice lA5 l5.length lc5, cl5, .slice oA5 out5.length oc5⟩ : RrV) k ∨ wr.heap.size ≤ k) := Lib.hid (fun k hk => (hf6 k hk).imp (fun h => h) (fun h => Nat.le_trans HN25.out.size h))
                          have HN26 := Lib.hid (HN25.out.trans hn6)
                          have HP15_26 := Lib.hid (HP15_25.out.new hn6)
                          have HQ15_26 : Hid (∀ k, RrF (⟨id6, ep6, .slice cA6 ms6.length cc6, ⟨la6, L6, .slice sA6 L6.length sc6, .slice tA6 L6.length tc6⟩, .slice lA6 l6.length lc6, cl6, .slice oA6 out6.length oc6⟩ : RrV) k → k ≠ w20.heap.size) := Lib.hid (fun k hk e => (hf6 k hk).elim (fun h => by have h1 := HRY.out.lt k h; have h2 := HA15_25.out; omega) (fun h => by have h1 := HP15_25.out.lt; omega))
                          have HP16_26 := Lib.hid (HP16_25.out.new hn6)
                          have HQ16_26 : Hid (∀ k, RrF (⟨id6, ep6, .slice cA6 ms6.length cc6, ⟨la6, L6, .slice sA6 L6.length sc6, .slice tA6 L6.length tc6⟩, .slice lA6 l6.length lc6, cl6, .slice oA6 out6.length oc6⟩ : RrV) k → k ≠ w1.heap.size) := Lib.hid (fun k hk e => (hf6 k hk).elim (fun h => by have h1 := HRY.out.lt k h; have h2 := HA16_20.out; omega) (fun h => by have h1 := HP16_25.out.lt; omega))
                          clear hr6 hn6 hf6
                          refine hK.out _ _ ?_ (fun hHeld => ?_)
                          · exact HS24.out _ HN26.out
                          clear hK K
                          try simp only [Act.put, sA, sZ, sS]
                          refine tkH (i := 8) (oi := oLaw24r_4) (v := ?_) (.inl ⟨by rfl, ?_⟩) ?_
                          rotate_left
                          · (intro wq hSw; (try dsimp only at hSw); go_simp; first | done | with_reducible rfl)
                          try simp only [Act.put, sA, sZ, sS]
                          refine tkH (i := 9) (oi := oLaw24r_5) (v := ?_) (.inl ⟨by rfl, ?_⟩) ?_
                          rotate_left
                          · (intro wq hSw; (try dsimp only at hSw); go_simp; first | done | with_reducible rfl)
                          try simp only [Act.put, sA, sZ, sS]
                          refine tkH (i := 10) (oi := oLaw24r_6) (v := ?_) (.inl ⟨by rfl, ?_⟩) ?_
                          rotate_left
                          · (intro wq hSw; (try dsimp only at hSw); go_simp; first | done | with_reducible rfl)
                          try simp only [Act.put, sA, sZ, sS]
                          refine tkH (i := 11) (oi := oLaw24r_7) (v := ?_) (.inl ⟨by rfl, ?_⟩) ?_
                          rotate_left
                          · (intro wq hSw; (try dsimp only at hSw); go_simp; first | done | with_reducible rfl)
                          try simp only [Act.put, sA, sZ, sS]
                          refine wpAnyH_ready (rs := [14]) (by kernel_rfl) (by simp) ?_
                          refine AllReadyH.cons (o := oLaw24r_8) rfl (fun K hK => ?_) AllReadyH.nil
                          have hy := Blk10R HP15_26.out
                          have z0 := hy.1
                          have z1 := hy.2.1
                          have z2 := hy.2.2.1
                          have z3 := hy.2.2.2.1
                          have z4 := hy.2.2.2.2.1
                          have z5 := hy.2.2.2.2.2.1
                          have z6 := hy.2.2.2.2.2.2.1
                          have z7 := hy.2.2.2.2.2.2.2.1
                          have z8 := hy.2.2.2.2.2.2.2.2.1
                          have z9 := hy.2.2.2.2.2.2.2.2.2.1
                          have z10 := hy.2.2.2.2.2.2.2.2.2.2.1
                          have zz := hy.2.2.2.2.2.2.2.2.2.2.2
                          clear hy
                          go_simp
                          have hu27 : Upd (· = w20.heap.size) w26 ((((((((((w26.setCell ⟨w20.heap.size, 0, none⟩ (.int .i64 id6)).setCell ⟨w20.heap.size, 1, none⟩ (.int .u64 (ep6 : Int))).setCell ⟨w20.heap.size, 2, none⟩ (.slice cA6 ms6.length cc6)).setCell ⟨w20.heap.size, 3, none⟩ (.int .u64 0)).setCell ⟨w20.heap.size, 4, none⟩ (.int .u64 (la6 : Int))).setCell ⟨w20.heap.size, 5, none⟩ (.slice sA6 L6.length sc6)).setCell ⟨w20.heap.size, 6, none⟩ (.slice tA6 L6.length tc6)).setCell ⟨w20.heap.size, 7, none⟩ (.slice lA6 l6.length lc6)).setCell ⟨w20.heap.size, 8, none⟩ (.int .u64 (cl6 : Int))).setCell ⟨w20.heap.size, 9, none⟩ (.slice oA6 out6.length oc6)) := ((((((((((Upd.refl _ w26).setIn 0 _).setIn 1 _).setIn 2 _).setIn 3 _).setIn 4 _).setIn 5 _).setIn 6 _).setIn 7 _).setIn 8 _).setIn 9 _
                          have HP15_27 := Lib.hid (Blk.set10 (.int .i64 id6) (.int .u64 (ep6 : Int)) (.slice cA6 ms6.length cc6) (.int .u64 0) (.int .u64 (la6 : Int)) (.slice sA6 L6.length sc6) (.slice tA6 L6.length tc6) (.slice lA6 l6.length lc6) (.int .u64 (cl6 : Int)) (.slice oA6 out6.length oc6) HP15_26.out)
                          have HN27 := Lib.hid (HN26.out.upd hu27 (fun i e => by rw [e]; exact HA15_25.out))
                          have HR27 := Lib.hid (HR26.out.box HP15_26.out hu27 HQ15_26.out (by decide))
                          have HP16_27 := Lib.hid (HP16_26.out.upd hu27 (HD_25.out))
                          clear hu27 z0 z1 z2 z3 z4 z5 z6 z7 z8 z9 z10 zz
                          generalize ((((((((((w26.setCell ⟨w20.heap.size, 0, none⟩ (.int .i64 id6)).setCell ⟨w20.heap.size, 1, none⟩ (.int .u64 (ep6 : Int))).setCell ⟨w20.heap.size, 2, none⟩ (.slice cA6 ms6.length cc6)).setCell ⟨w20.heap.size, 3, none⟩ (.int .u64 0)).setCell ⟨w20.heap.size, 4, none⟩ (.int .u64 (la6 : Int))).setCell ⟨w20.heap.size, 5, none⟩ (.slice sA6 L6.length sc6)).setCell ⟨w20.heap.size, 6, none⟩ (.slice tA6 L6.length tc6)).setCell ⟨w20.heap.size, 7, none⟩ (.slice lA6 l6.length lc6)).setCell ⟨w20.heap.size, 8, none⟩ (.int .u64 (cl6 : Int))).setCell ⟨w20.heap.size, 9, none⟩ (.slice oA6 out6.length oc6)) = w27 at *
                          refine hK.out _ _ ?_ (fun hHeld => ?_)
                          · exact HS24.out _ HN27.out
                          clear hK K
                          try simp only [Act.put, sA, sZ, sS]
                          refine wpAnyH_ready (rs := [15]) (by kernel_rfl) (by simp) ?_
                          refine AllReadyH.cons (o := oLaw24r_9) rfl (fun K hK => ?_) AllReadyH.nil
                          have hy := Blk2R HP16_27.out
                          have z0 := hy.1
                          have z1 := hy.2.1
                          have z2 := hy.2.2.1
                          have zz := hy.2.2.2
                          clear hy
                          go_simp
                          have hu28 : Upd (· = w1.heap.size) w27 ((w27.setCell ⟨w1.heap.size, 0, none⟩ (.int .u64 (vd.t : Int))).setCell ⟨w1.heap.size, 1, none⟩ (.int .i64 vd.e)) := ((Upd.refl _ w27).setIn 0 _).setIn 1 _
                          have HP16_28 := Lib.hid ((HP16_27.out.set_ 0 (.int .u64 (vd.t : Int))).set_ 1 (.int .i64 vd.e))
                          have HN28 := Lib.hid (HN27.out.upd hu28 (fun i e => by rw [e]; exact HA16_20.out))
                          have HR28 := Lib.hid (HR27.out.box HP16_27.out hu28 HQ16_26.out (by decide))
                          have HP15_28 := Lib.hid (HP15_27.out.upd hu28 (HD_25.out.symm))
                          clear hu28 z0 z1 z2 zz
                          generalize ((w27.setCell ⟨w1.heap.size, 0, none⟩ (.int .u64 (vd.t : Int))).setCell ⟨w1.heap.size, 1, none⟩ (.int .i64 vd.e)) = w28 at *
                          refine hK.out _ _ ?_ (fun hHeld => ?_)
                          · exact HS24.out _ HN28.out
                          clear hK K
                          try simp only [Act.put, sA, sZ, sS]
                          refine tkH (i := 16) (oi := oLaw24r_10) (v := ?_) (.inl ⟨by rfl, ?_⟩) ?_
                          rotate_left
                          · (intro wq hSw; (try dsimp only at hSw); go_simp; first | done | with_reducible rfl)
                          try simp only [Act.put, sA, sZ, sS]
                          refine wpAnyH_done (by kernel_rfl) ?_ _
                          clear hHeld
                          go_wp2_with fail
                          go_meet
                          exact ⟨w20.heap.size, w1.heap.size, (⟨id6, ep6, .slice cA6 ms6.length cc6, ⟨la6, L6, .slice sA6 L6.length sc6, .slice tA6 L6.length tc6⟩, .slice lA6 l6.length lc6, cl6, .slice oA6 out6.length oc6⟩ : RrV), rfl, rfl, rfl, HP15_28.out, HP16_28.out, HR28.out, HF26.out, HN28.out, HA15_25.out, HA16_20.out⟩
                    · go_simp
                      have HN29 := Lib.hid (HN0.out.alloc (.cells #[.int .i64 0, .int .u64 0, .slice none 0 0, .int .u64 0, .int .u64 0, .slice none 0 0, .slice none 0 0, .slice none 0 0, .int .u64 0, .slice none 0 0] 36))
                      have HP15_29 := Lib.hid (Blk.mk_new w0 36 #[.int .i64 0, .int .u64 0, .slice none 0 0, .int .u64 0, .int .u64 0, .slice none 0 0, .slice none 0 0, .slice none 0 0, .int .u64 0, .slice none 0 0])
                      have HA15_29 := Lib.hid (HN0.out.size)
                      generalize w0.alloc (.cells #[.int .i64 0, .int .u64 0, .slice none 0 0, .int .u64 0, .int .u64 0, .slice none 0 0, .slice none 0 0, .slice none 0 0, .int .u64 0, .slice none 0 0] 36) = w29 at *
                      refine hK.out _ _ ?_ (fun hHeld => ?_)
                      · exact HS24.out _ HN29.out
                      clear hK K
                      try simp only [Act.put, sA, sZ, sS]
                      refine wpAnyH_ready (rs := [6, 13]) (by kernel_rfl) (by simp) ?_
                      refine AllReadyH.cons (o := oLaw24r_0) rfl (fun K hK => ?_) (AllReadyH.cons (o := oLaw24r_2) rfl (fun K hK => ?_) AllReadyH.nil)
                      · go_simp
                        refine (few_any ⟨bc, br, bs, bl⟩ (HBO.out.sl.new (HNR.out.trans HN29.out)) HBO.out.ll).mono ?_
                        rintro e w30 hfw
                        obtain ⟨A3, n3, rfl, hts, hna⟩ := hfw.form
                        clear hfw
                        have HT30 := Lib.hid hts
                        have HN30 := Lib.hid (HN29.out.trans hna)
                        have HP15_30 := Lib.hid (HP15_29.out.new hna)
                        clear hts hna
                        refine hK.out _ _ ?_ (fun hHeld => ?_)
                        · exact HS24.out _ HN30.out
                        clear hK K
                        try simp only [Act.put, sA, sZ, sS]
                        refine wpAnyH_ready (rs := [7, 13]) (by kernel_rfl) (by simp) ?_
                        refine AllReadyH.cons (o := oLaw24r_3) rfl (fun K hK => ?_) (AllReadyH.cons (o := oLaw24r_2) rfl (fun K hK => ?_) AllReadyH.nil)
                        · go_simp
                          have hcall := rrsubmit (y := (⟨id5, ep5, .slice cA5 ms5.length cc5, ⟨la5, L5, .slice sA5 L5.length sc5, .slice tA5 L5.length tc5⟩, .slice lA5 l5.length lc5, cl5, .slice oA5 out5.length oc5⟩ : RrV)) (HRY.out.new HN30.out) (b := (⟨Btc.cut ⟨bc, br, bs, bl⟩, A3, n3⟩ : BtV)) ⟨HT30.out, ⟨HBO.out.c, HBO.out.r, HBO.out.s, HCL.out⟩⟩ (by omega)
                          rw [HSR.out] at hcall
                          refine hcall.mono ?_
                          clear hcall
                          rintro e w31 h6
                          obtain ⟨la6, L6, cA6, cc6, sA6, sc6, tA6, tc6, lA6, lc6, oA6, oc6, rfl, hr6, hn6, hf6⟩ := h6.form
                          clear h6
                          have HR31 := Lib.hid hr6
                          have HF31 : Hid (∀ k, RrF (⟨id6, ep6, .slice cA6 ms6.length cc6, ⟨la6, L6, .slice sA6 L6.length sc6, .slice tA6 L6.length tc6⟩, .slice lA6 l6.length lc6, cl6, .slice oA6 out6.length oc6⟩ : RrV) k → RrF (⟨id5, ep5, .slice cA5 ms5.length cc5, ⟨la5, L5, .slice sA5 L5.length sc5, .slice tA5 L5.length tc5⟩, .slice lA5 l5.length lc5, cl5, .slice oA5 out5.length oc5⟩ : RrV) k ∨ wr.heap.size ≤ k) := Lib.hid (fun k hk => (hf6 k hk).imp (fun h => h) (fun h => Nat.le_trans HN30.out.size h))
                          have HN31 := Lib.hid (HN30.out.trans hn6)
                          have HP15_31 := Lib.hid (HP15_30.out.new hn6)
                          have HQ15_31 : Hid (∀ k, RrF (⟨id6, ep6, .slice cA6 ms6.length cc6, ⟨la6, L6, .slice sA6 L6.length sc6, .slice tA6 L6.length tc6⟩, .slice lA6 l6.length lc6, cl6, .slice oA6 out6.length oc6⟩ : RrV) k → k ≠ w0.heap.size) := Lib.hid (fun k hk e => (hf6 k hk).elim (fun h => by have h1 := HRY.out.lt k h; have h2 := HA15_29.out; omega) (fun h => by have h1 := HP15_30.out.lt; omega))
                          clear hr6 hn6 hf6
                          refine hK.out _ _ ?_ (fun hHeld => ?_)
                          · exact HS24.out _ HN31.out
                          clear hK K
                          try simp only [Act.put, sA, sZ, sS]
                          refine tkH (i := 8) (oi := oLaw24r_4) (v := ?_) (.inl ⟨by rfl, ?_⟩) ?_
                          rotate_left
                          · (intro wq hSw; (try dsimp only at hSw); go_simp; first | done | with_reducible rfl)
                          try simp only [Act.put, sA, sZ, sS]
                          refine tkH (i := 9) (oi := oLaw24r_5) (v := ?_) (.inl ⟨by rfl, ?_⟩) ?_
                          rotate_left
                          · (intro wq hSw; (try dsimp only at hSw); go_simp; first | done | with_reducible rfl)
                          try simp only [Act.put, sA, sZ, sS]
                          refine tkH (i := 10) (oi := oLaw24r_6) (v := ?_) (.inl ⟨by rfl, ?_⟩) ?_
                          rotate_left
                          · (intro wq hSw; (try dsimp only at hSw); go_simp; first | done | with_reducible rfl)
                          try simp only [Act.put, sA, sZ, sS]
                          refine tkH (i := 11) (oi := oLaw24r_7) (v := ?_) (.inl ⟨by rfl, ?_⟩) ?_
                          rotate_left
                          · (intro wq hSw; (try dsimp only at hSw); go_simp; first | done | with_reducible rfl)
                          try simp only [Act.put, sA, sZ, sS]
                          refine wpAnyH_ready (rs := [13]) (by kernel_rfl) (by simp) ?_
                          refine AllReadyH.cons (o := oLaw24r_2) rfl (fun K hK => ?_) AllReadyH.nil
                          go_simp
                          have HN32 := Lib.hid (HN31.out.alloc (.cells #[.int .u64 0, .int .i64 0] 49))
                          have HP16_32 := Lib.hid (Blk.mk_new w31 49 #[.int .u64 0, .int .i64 0])
                          have HA16_32 := Lib.hid (HN31.out.size)
                          have HR32 := Lib.hid (HR31.out.new ((New.refl w31).alloc (.cells #[.int .u64 0, .int .i64 0] 49)))
                          have HQ16_32 : Hid (∀ k, RrF (⟨id6, ep6, .slice cA6 ms6.length cc6, ⟨la6, L6, .slice sA6 L6.length sc6, .slice tA6 L6.length tc6⟩, .slice lA6 l6.length lc6, cl6, .slice oA6 out6.length oc6⟩ : RrV) k → k ≠ w31.heap.size) := Lib.hid (fun k hk e => by have h1 := HR31.out.lt k hk; omega)
                          have HP15_32 := Lib.hid (HP15_31.out.alloc (.cells #[.int .u64 0, .int .i64 0] 49))
                          have HD_32 : Hid (w0.heap.size ≠ w31.heap.size) := Lib.hid (Nat.ne_of_lt HP15_31.out.lt)
                          generalize w31.alloc (.cells #[.int .u64 0, .int .i64 0] 49) = w32 at *
                          refine hK.out _ _ ?_ (fun hHeld => ?_)
                          · exact HS24.out _ HN32.out
                          clear hK K
                          try simp only [Act.put, sA, sZ, sS]
                          refine wpAnyH_ready (rs := [14]) (by kernel_rfl) (by simp) ?_
                          refine AllReadyH.cons (o := oLaw24r_8) rfl (fun K hK => ?_) AllReadyH.nil
                          have hy := Blk10R HP15_32.out
                          have z0 := hy.1
                          have z1 := hy.2.1
                          have z2 := hy.2.2.1
                          have z3 := hy.2.2.2.1
                          have z4 := hy.2.2.2.2.1
                          have z5 := hy.2.2.2.2.2.1
                          have z6 := hy.2.2.2.2.2.2.1
                          have z7 := hy.2.2.2.2.2.2.2.1
                          have z8 := hy.2.2.2.2.2.2.2.2.1
                          have z9 := hy.2.2.2.2.2.2.2.2.2.1
                          have z10 := hy.2.2.2.2.2.2.2.2.2.2.1
                          have zz := hy.2.2.2.2.2.2.2.2.2.2.2
                          clear hy
                          go_simp
                          have hu33 : Upd (· = w0.heap.size) w32 ((((((((((w32.setCell ⟨w0.heap.size, 0, none⟩ (.int .i64 id6)).setCell ⟨w0.heap.size, 1, none⟩ (.int .u64 (ep6 : Int))).setCell ⟨w0.heap.size, 2, none⟩ (.slice cA6 ms6.length cc6)).setCell ⟨w0.heap.size, 3, none⟩ (.int .u64 0)).setCell ⟨w0.heap.size, 4, none⟩ (.int .u64 (la6 : Int))).setCell ⟨w0.heap.size, 5, none⟩ (.slice sA6 L6.length sc6)).setCell ⟨w0.heap.size, 6, none⟩ (.slice tA6 L6.length tc6)).setCell ⟨w0.heap.size, 7, none⟩ (.slice lA6 l6.length lc6)).setCell ⟨w0.heap.size, 8, none⟩ (.int .u64 (cl6 : Int))).setCell ⟨w0.heap.size, 9, none⟩ (.slice oA6 out6.length oc6)) := ((((((((((Upd.refl _ w32).setIn 0 _).setIn 1 _).setIn 2 _).setIn 3 _).setIn 4 _).setIn 5 _).setIn 6 _).setIn 7 _).setIn 8 _).setIn 9 _
                          have HP15_33 := Lib.hid (Blk.set10 (.int .i64 id6) (.int .u64 (ep6 : Int)) (.slice cA6 ms6.length cc6) (.int .u64 0) (.int .u64 (la6 : Int)) (.slice sA6 L6.length sc6) (.slice tA6 L6.length tc6) (.slice lA6 l6.length lc6) (.int .u64 (cl6 : Int)) (.slice oA6 out6.length oc6) HP15_32.out)
                          have HN33 := Lib.hid (HN32.out.upd hu33 (fun i e => by rw [e]; exact HA15_29.out))
                          have HR33 := Lib.hid (HR32.out.box HP15_32.out hu33 HQ15_31.out (by decide))
                          have HP16_33 := Lib.hid (HP16_32.out.upd hu33 (HD_32.out.symm))
                          clear hu33 z0 z1 z2 z3 z4 z5 z6 z7 z8 z9 z10 zz
                          generalize ((((((((((w32.setCell ⟨w0.heap.size, 0, none⟩ (.int .i64 id6)).setCell ⟨w0.heap.size, 1, none⟩ (.int .u64 (ep6 : Int))).setCell ⟨w0.heap.size, 2, none⟩ (.slice cA6 ms6.length cc6)).setCell ⟨w0.heap.size, 3, none⟩ (.int .u64 0)).setCell ⟨w0.heap.size, 4, none⟩ (.int .u64 (la6 : Int))).setCell ⟨w0.heap.size, 5, none⟩ (.slice sA6 L6.length sc6)).setCell ⟨w0.heap.size, 6, none⟩ (.slice tA6 L6.length tc6)).setCell ⟨w0.heap.size, 7, none⟩ (.slice lA6 l6.length lc6)).setCell ⟨w0.heap.size, 8, none⟩ (.int .u64 (cl6 : Int))).setCell ⟨w0.heap.size, 9, none⟩ (.slice oA6 out6.length oc6)) = w33 at *
                          refine hK.out _ _ ?_ (fun hHeld => ?_)
                          · exact HS24.out _ HN33.out
                          clear hK K
                          try simp only [Act.put, sA, sZ, sS]
                          refine wpAnyH_ready (rs := [15]) (by kernel_rfl) (by simp) ?_
                          refine AllReadyH.cons (o := oLaw24r_9) rfl (fun K hK => ?_) AllReadyH.nil
                          have hy := Blk2R HP16_33.out
                          have z0 := hy.1
                          have z1 := hy.2.1
                          have z2 := hy.2.2.1
                          have zz := hy.2.2.2
                          clear hy
                          go_simp
                          have hu34 : Upd (· = w31.heap.size) w33 ((w33.setCell ⟨w31.heap.size, 0, none⟩ (.int .u64 (vd.t : Int))).setCell ⟨w31.heap.size, 1, none⟩ (.int .i64 vd.e)) := ((Upd.refl _ w33).setIn 0 _).setIn 1 _
                          have HP16_34 := Lib.hid ((HP16_33.out.set_ 0 (.int .u64 (vd.t : Int))).set_ 1 (.int .i64 vd.e))
                          have HN34 := Lib.hid (HN33.out.upd hu34 (fun i e => by rw [e]; exact HA16_32.out))
                          have HR34 := Lib.hid (HR33.out.box HP16_33.out hu34 HQ16_32.out (by decide))
                          have HP15_34 := Lib.hid (HP15_33.out.upd hu34 (HD_32.out))
                          clear hu34 z0 z1 z2 zz
                          generalize ((w33.setCell ⟨w31.heap.size, 0, none⟩ (.int .u64 (vd.t : Int))).setCell ⟨w31.heap.size, 1, none⟩ (.int .i64 vd.e)) = w34 at *
                          refine hK.out _ _ ?_ (fun hHeld => ?_)
                          · exact HS24.out _ HN34.out
                          clear hK K
                          try simp only [Act.put, sA, sZ, sS]
                          refine tkH (i := 16) (oi := oLaw24r_10) (v := ?_) (.inl ⟨by rfl, ?_⟩) ?_
                          rotate_left
                          · (intro wq hSw; (try dsimp only at hSw); go_simp; first | done | with_reducible rfl)
                          try simp only [Act.put, sA, sZ, sS]
                          refine wpAnyH_done (by kernel_rfl) ?_ _
                          clear hHeld
                          go_wp2_with fail
                          go_meet
                          exact ⟨w0.heap.size, w31.heap.size, (⟨id6, ep6, .slice cA6 ms6.length cc6, ⟨la6, L6, .slice sA6 L6.length sc6, .slice tA6 L6.length tc6⟩, .slice lA6 l6.length lc6, cl6, .slice oA6 out6.length oc6⟩ : RrV), rfl, rfl, rfl, HP15_34.out, HP16_34.out, HR34.out, HF31.out, HN34.out, HA15_29.out, HA16_32.out⟩
                        · go_simp
                          have HN35 := Lib.hid (HN30.out.alloc (.cells #[.int .u64 0, .int .i64 0] 49))
                          have HP16_35 := Lib.hid (Blk.mk_new w30 49 #[.int .u64 0, .int .i64 0])
                          have HA16_35 := Lib.hid (HN30.out.size)
                          have HT35 := Lib.hid (HT30.out.new ((New.refl w30).alloc (.cells #[.int .u64 0, .int .i64 0] 49)))
                          have HP15_35 := Lib.hid (HP15_30.out.alloc (.cells #[.int .u64 0, .int .i64 0] 49))
                          have HD_35 : Hid (w0.heap.size ≠ w30.heap.size) := Lib.hid (Nat.ne_of_lt HP15_30.out.lt)
                          generalize w30.alloc (.cells #[.int .u64 0, .int .i64 0] 49) = w35 at *
                          refine hK.out _ _ ?_ (fun hHeld => ?_)
                          · exact HS24.out _ HN35.out
                          clear hK K
                          try simp only [Act.put, sA, sZ, sS]
                          refine wpAnyH_ready (rs := [7]) (by kernel_rfl) (by simp) ?_
                          refine AllReadyH.cons (o := oLaw24r_3) rfl (fun K hK => ?_) AllReadyH.nil
                          go_simp
                          have hcall := rrsubmit (y := (⟨id5, ep5, .slice cA5 ms5.length cc5, ⟨la5, L5, .slice sA5 L5.length sc5, .slice tA5 L5.length tc5⟩, .slice lA5 l5.length lc5, cl5, .slice oA5 out5.length oc5⟩ : RrV)) (HRY.out.new HN35.out) (b := (⟨Btc.cut ⟨bc, br, bs, bl⟩, A3, n3⟩ : BtV)) ⟨HT35.out, ⟨HBO.out.c, HBO.out.r, HBO.out.s, HCL.out⟩⟩ (by omega)
                          rw [HSR.out] at hcall
                          refine hcall.mono ?_
                          clear hcall
                          rintro e w36 h6
                          obtain ⟨la6, L6, cA6, cc6, sA6, sc6, tA6, tc6, lA6, lc6, oA6, oc6, rfl, hr6, hn6, hf6⟩ := h6.form
                          clear h6
                          have HR36 := Lib.hid hr6
                          have HF36 : Hid (∀ k, RrF (⟨id6, ep6, .slice cA6 ms6.length cc6, ⟨la6, L6, .slice sA6 L6.length sc6, .slice tA6 L6.length tc6⟩, .slice lA6 l6.length lc6, cl6, .slice oA6 out6.length oc6⟩ : RrV) k → RrF (⟨id5, ep5, .slice cA5 ms5.length cc5, ⟨la5, L5, .slice sA5 L5.length sc5, .slice tA5 L5.length tc5⟩, .slice lA5 l5.length lc5, cl5, .slice oA5 out5.length oc5⟩ : RrV) k ∨ wr.heap.size ≤ k) := Lib.hid (fun k hk => (hf6 k hk).imp (fun h => h) (fun h => Nat.le_trans HN35.out.size h))
                          have HN36 := Lib.hid (HN35.out.trans hn6)
                          have HP15_36 := Lib.hid (HP15_35.out.new hn6)
                          have HQ15_36 : Hid (∀ k, RrF (⟨id6, ep6, .slice cA6 ms6.length cc6, ⟨la6, L6, .slice sA6 L6.length sc6, .slice tA6 L6.length tc6⟩, .slice lA6 l6.length lc6, cl6, .slice oA6 out6.length oc6⟩ : RrV) k → k ≠ w0.heap.size) := Lib.hid (fun k hk e => (hf6 k hk).elim (fun h => by have h1 := HRY.out.lt k h; have h2 := HA15_29.out; omega) (fun h => by have h1 := HP15_35.out.lt; omega))
                          have HP16_36 := Lib.hid (HP16_35.out.new hn6)
                          have HQ16_36 : Hid (∀ k, RrF (⟨id6, ep6, .slice cA6 ms6.length cc6, ⟨la6, L6, .slice sA6 L6.length sc6, .slice tA6 L6.length tc6⟩, .slice lA6 l6.length lc6, cl6, .slice oA6 out6.length oc6⟩ : RrV) k → k ≠ w30.heap.size) := Lib.hid (fun k hk e => (hf6 k hk).elim (fun h => by have h1 := HRY.out.lt k h; have h2 := HA16_35.out; omega) (fun h => by have h1 := HP16_35.out.lt; omega))
                          clear hr6 hn6 hf6
                          refine hK.out _ _ ?_ (fun hHeld => ?_)
                          · exact HS24.out _ HN36.out
                          clear hK K
                          try simp only [Act.put, sA, sZ, sS]
                          refine tkH (i := 8) (oi := oLaw24r_4) (v := ?_) (.inl ⟨by rfl, ?_⟩) ?_
                          rotate_left
                          · (intro wq hSw; (try dsimp only at hSw); go_simp; first | done | with_reducible rfl)
                          try simp only [Act.put, sA, sZ, sS]
                          refine tkH (i := 9) (oi := oLaw24r_5) (v := ?_) (.inl ⟨by rfl, ?_⟩) ?_
                          rotate_left
                          · (intro wq hSw; (try dsimp only at hSw); go_simp; first | done | with_reducible rfl)
                          try simp only [Act.put, sA, sZ, sS]
                          refine tkH (i := 10) (oi := oLaw24r_6) (v := ?_) (.inl ⟨by rfl, ?_⟩) ?_
                          rotate_left
                          · (intro wq hSw; (try dsimp only at hSw); go_simp; first | done | with_reducible rfl)
                          try simp only [Act.put, sA, sZ, sS]
                          refine tkH (i := 11) (oi := oLaw24r_7) (v := ?_) (.inl ⟨by rfl, ?_⟩) ?_
                          rotate_left
                          · (intro wq hSw; (try dsimp only at hSw); go_simp; first | done | with_reducible rfl)
                          try simp only [Act.put, sA, sZ, sS]
                          refine wpAnyH_ready (rs := [14]) (by kernel_rfl) (by simp) ?_
                          refine AllReadyH.cons (o := oLaw24r_8) rfl (fun K hK => ?_) AllReadyH.nil
                          have hy := Blk10R HP15_36.out
                          have z0 := hy.1
                          have z1 := hy.2.1
                          have z2 := hy.2.2.1
                          have z3 := hy.2.2.2.1
                          have z4 := hy.2.2.2.2.1
                          have z5 := hy.2.2.2.2.2.1
                          have z6 := hy.2.2.2.2.2.2.1
                          have z7 := hy.2.2.2.2.2.2.2.1
                          have z8 := hy.2.2.2.2.2.2.2.2.1
                          have z9 := hy.2.2.2.2.2.2.2.2.2.1
                          have z10 := hy.2.2.2.2.2.2.2.2.2.2.1
                          have zz := hy.2.2.2.2.2.2.2.2.2.2.2
                          clear hy
                          go_simp
                          have hu37 : Upd (· = w0.heap.size) w36 ((((((((((w36.setCell ⟨w0.heap.size, 0, none⟩ (.int .i64 id6)).setCell ⟨w0.heap.size, 1, none⟩ (.int .u64 (ep6 : Int))).setCell ⟨w0.heap.size, 2, none⟩ (.slice cA6 ms6.length cc6)).setCell ⟨w0.heap.size, 3, none⟩ (.int .u64 0)).setCell ⟨w0.heap.size, 4, none⟩ (.int .u64 (la6 : Int))).setCell ⟨w0.heap.size, 5, none⟩ (.slice sA6 L6.length sc6)).setCell ⟨w0.heap.size, 6, none⟩ (.slice tA6 L6.length tc6)).setCell ⟨w0.heap.size, 7, none⟩ (.slice lA6 l6.length lc6)).setCell ⟨w0.heap.size, 8, none⟩ (.int .u64 (cl6 : Int))).setCell ⟨w0.heap.size, 9, none⟩ (.slice oA6 out6.length oc6)) := ((((((((((Upd.refl _ w36).setIn 0 _).setIn 1 _).setIn 2 _).setIn 3 _).setIn 4 _).setIn 5 _).setIn 6 _).setIn 7 _).setIn 8 _).setIn 9 _
                          have HP15_37 := Lib.hid (Blk.set10 (.int .i64 id6) (.int .u64 (ep6 : Int)) (.slice cA6 ms6.length cc6) (.int .u64 0) (.int .u64 (la6 : Int)) (.slice sA6 L6.length sc6) (.slice tA6 L6.length tc6) (.slice lA6 l6.length lc6) (.int .u64 (cl6 : Int)) (.slice oA6 out6.length oc6) HP15_36.out)
                          have HN37 := Lib.hid (HN36.out.upd hu37 (fun i e => by rw [e]; exact HA15_29.out))
                          have HR37 := Lib.hid (HR36.out.box HP15_36.out hu37 HQ15_36.out (by decide))
                          have HP16_37 := Lib.hid (HP16_36.out.upd hu37 (HD_35.out.symm))
                          clear hu37 z0 z1 z2 z3 z4 z5 z6 z7 z8 z9 z10 zz
                          generalize ((((((((((w36.setCell ⟨w0.heap.size, 0, none⟩ (.int .i64 id6)).setCell ⟨w0.heap.size, 1, none⟩ (.int .u64 (ep6 : Int))).setCell ⟨w0.heap.size, 2, none⟩ (.slice cA6 ms6.length cc6)).setCell ⟨w0.heap.size, 3, none⟩ (.int .u64 0)).setCell ⟨w0.heap.size, 4, none⟩ (.int .u64 (la6 : Int))).setCell ⟨w0.heap.size, 5, none⟩ (.slice sA6 L6.length sc6)).setCell ⟨w0.heap.size, 6, none⟩ (.slice tA6 L6.length tc6)).setCell ⟨w0.heap.size, 7, none⟩ (.slice lA6 l6.length lc6)).setCell ⟨w0.heap.size, 8, none⟩ (.int .u64 (cl6 : Int))).setCell ⟨w0.heap.size, 9, none⟩ (.slice oA6 out6.length oc6)) = w37 at *
                          refine hK.out _ _ ?_ (fun hHeld => ?_)
                          · exact HS24.out _ HN37.out
                          clear hK K
                          try simp only [Act.put, sA, sZ, sS]
                          refine wpAnyH_ready (rs := [15]) (by kernel_rfl) (by simp) ?_
                          refine AllReadyH.cons (o := oLaw24r_9) rfl (fun K hK => ?_) AllReadyH.nil
                          have hy := Blk2R HP16_37.out
                          have z0 := hy.1
                          have z1 := hy.2.1
                          have z2 := hy.2.2.1
                          have zz := hy.2.2.2
                          clear hy
                          go_simp
                          have hu38 : Upd (· = w30.heap.size) w37 ((w37.setCell ⟨w30.heap.size, 0, none⟩ (.int .u64 (vd.t : Int))).setCell ⟨w30.heap.size, 1, none⟩ (.int .i64 vd.e)) := ((Upd.refl _ w37).setIn 0 _).setIn 1 _
                          have HP16_38 := Lib.hid ((HP16_37.out.set_ 0 (.int .u64 (vd.t : Int))).set_ 1 (.int .i64 vd.e))
                          have HN38 := Lib.hid (HN37.out.upd hu38 (fun i e => by rw [e]; exact HA16_35.out))
                          have HR38 := Lib.hid (HR37.out.box HP16_37.out hu38 HQ16_36.out (by decide))
                          have HP15_38 := Lib.hid (HP15_37.out.upd hu38 (HD_35.out))
                          clear hu38 z0 z1 z2 zz
                          generalize ((w37.setCell ⟨w30.heap.size, 0, none⟩ (.int .u64 (vd.t : Int))).setCell ⟨w30.heap.size, 1, none⟩ (.int .i64 vd.e)) = w38 at *
                          refine hK.out _ _ ?_ (fun hHeld => ?_)
                          · exact HS24.out _ HN38.out
                          clear hK K
                          try simp only [Act.put, sA, sZ, sS]
                          refine tkH (i := 16) (oi := oLaw24r_10) (v := ?_) (.inl ⟨by rfl, ?_⟩) ?_
                          rotate_left
                          · (intro wq hSw; (try dsimp only at hSw); go_simp; first | done | with_reducible rfl)
                          try simp only [Act.put, sA, sZ, sS]
                          refine wpAnyH_done (by kernel_rfl) ?_ _
                          clear hHeld
                          go_wp2_with fail
                          go_meet
                          exact ⟨w0.heap.size, w30.heap.size, (⟨id6, ep6, .slice cA6 ms6.length cc6, ⟨la6, L6, .slice sA6 L6.length sc6, .slice tA6 L6.length tc6⟩, .slice lA6 l6.length lc6, cl6, .slice oA6 out6.length oc6⟩ : RrV), rfl, rfl, rfl, HP15_38.out, HP16_38.out, HR38.out, HF36.out, HN38.out, HA15_29.out, HA16_35.out⟩
                      · go_simp
                        have HN39 := Lib.hid (HN29.out.alloc (.cells #[.int .u64 0, .int .i64 0] 49))
                        have HP16_39 := Lib.hid (Blk.mk_new w29 49 #[.int .u64 0, .int .i64 0])
                        have HA16_39 := Lib.hid (HN29.out.size)
                        have HP15_39 := Lib.hid (HP15_29.out.alloc (.cells #[.int .u64 0, .int .i64 0] 49))
                        have HD_39 : Hid (w0.heap.size ≠ w29.heap.size) := Lib.hid (Nat.ne_of_lt HP15_29.out.lt)
                        generalize w29.alloc (.cells #[.int .u64 0, .int .i64 0] 49) = w39 at *
                        refine hK.out _ _ ?_ (fun hHeld => ?_)
                        · exact HS24.out _ HN39.out
                        clear hK K
                        try simp only [Act.put, sA, sZ, sS]
                        refine wpAnyH_ready (rs := [6]) (by kernel_rfl) (by simp) ?_
                        refine AllReadyH.cons (o := oLaw24r_0) rfl (fun K hK => ?_) AllReadyH.nil
                        go_simp
                        refine (few_any ⟨bc, br, bs, bl⟩ (HBO.out.sl.new (HNR.out.trans HN39.out)) HBO.out.ll).mono ?_
                        rintro e w40 hfw
                        obtain ⟨A3, n3, rfl, hts, hna⟩ := hfw.form
                        clear hfw
                        have HT40 := Lib.hid hts
                        have HN40 := Lib.hid (HN39.out.trans hna)
                        have HP15_40 := Lib.hid (HP15_39.out.new hna)
                        have HP16_40 := Lib.hid (HP16_39.out.new hna)
                        clear hts hna
                        refine hK.out _ _ ?_ (fun hHeld => ?_)
                        · exact HS24.out _ HN40.out
                        clear hK K
                        try simp only [Act.put, sA, sZ, sS]
                        refine wpAnyH_ready (rs := [7]) (by kernel_rfl) (by simp) ?_
                        refine AllReadyH.cons (o := oLaw24r_3) rfl (fun K hK => ?_) AllReadyH.nil
                        go_simp
                        have hcall := rrsubmit (y := (⟨id5, ep5, .slice cA5 ms5.length cc5, ⟨la5, L5, .slice sA5 L5.length sc5, .slice tA5 L5.length tc5⟩, .slice lA5 l5.length lc5, cl5, .slice oA5 out5.length oc5⟩ : RrV)) (HRY.out.new HN40.out) (b := (⟨Btc.cut ⟨bc, br, bs, bl⟩, A3, n3⟩ : BtV)) ⟨HT40.out, ⟨HBO.out.c, HBO.out.r, HBO.out.s, HCL.out⟩⟩ (by omega)
                        rw [HSR.out] at hcall
                        refine hcall.mono ?_
                        clear hcall
                        rintro e w41 h6
                        obtain ⟨la6, L6, cA6, cc6, sA6, sc6, tA6, tc6, lA6, lc6, oA6, oc6, rfl, hr6, hn6, hf6⟩ := h6.form
                        clear h6
                        have HR41 := Lib.hid hr6
                        have HF41 : Hid (∀ k, RrF (⟨id6, ep6, .slice cA6 ms6.length cc6, ⟨la6, L6, .slice sA6 L6.length sc6, .slice tA6 L6.length tc6⟩, .slice lA6 l6.length lc6, cl6, .slice oA6 out6.length oc6⟩ : RrV) k → RrF (⟨id5, ep5, .slice cA5 ms5.length cc5, ⟨la5, L5, .slice sA5 L5.length sc5, .slice tA5 L5.length tc5⟩, .slice lA5 l5.length lc5, cl5, .slice oA5 out5.length oc5⟩ : RrV) k ∨ wr.heap.size ≤ k) := Lib.hid (fun k hk => (hf6 k hk).imp (fun h => h) (fun h => Nat.le_trans HN40.out.size h))
                        have HN41 := Lib.hid (HN40.out.trans hn6)
                        have HP15_41 := Lib.hid (HP15_40.out.new hn6)
                        have HQ15_41 : Hid (∀ k, RrF (⟨id6, ep6, .slice cA6 ms6.length cc6, ⟨la6, L6, .slice sA6 L6.length sc6, .slice tA6 L6.length tc6⟩, .slice lA6 l6.length lc6, cl6, .slice oA6 out6.length oc6⟩ : RrV) k → k ≠ w0.heap.size) := Lib.hid (fun k hk e => (hf6 k hk).elim (fun h => by have h1 := HRY.out.lt k h; have h2 := HA15_29.out; omega) (fun h => by have h1 := HP15_40.out.lt; omega))
                        have HP16_41 := Lib.hid (HP16_40.out.new hn6)
                        have HQ16_41 : Hid (∀ k, RrF (⟨id6, ep6, .slice cA6 ms6.length cc6, ⟨la6, L6, .slice sA6 L6.length sc6, .slice tA6 L6.length tc6⟩, .slice lA6 l6.length lc6, cl6, .slice oA6 out6.length oc6⟩ : RrV) k → k ≠ w29.heap.size) := Lib.hid (fun k hk e => (hf6 k hk).elim (fun h => by have h1 := HRY.out.lt k h; have h2 := HA16_39.out; omega) (fun h => by have h1 := HP16_40.out.lt; omega))
                        clear hr6 hn6 hf6
                        refine hK.out _ _ ?_ (fun hHeld => ?_)
                        · exact HS24.out _ HN41.out
                        clear hK K
                        try simp only [Act.put, sA, sZ, sS]
                        refine tkH (i := 8) (oi := oLaw24r_4) (v := ?_) (.inl ⟨by rfl, ?_⟩) ?_
                        rotate_left
                        · (intro wq hSw; (try dsimp only at hSw); go_simp; first | done | with_reducible rfl)
                        try simp only [Act.put, sA, sZ, sS]
                        refine tkH (i := 9) (oi := oLaw24r_5) (v := ?_) (.inl ⟨by rfl, ?_⟩) ?_
                        rotate_left
                        · (intro wq hSw; (try dsimp only at hSw); go_simp; first | done | with_reducible rfl)
                        try simp only [Act.put, sA, sZ, sS]
                        refine tkH (i := 10) (oi := oLaw24r_6) (v := ?_) (.inl ⟨by rfl, ?_⟩) ?_
                        rotate_left
                        · (intro wq hSw; (try dsimp only at hSw); go_simp; first | done | with_reducible rfl)
                        try simp only [Act.put, sA, sZ, sS]
                        refine tkH (i := 11) (oi := oLaw24r_7) (v := ?_) (.inl ⟨by rfl, ?_⟩) ?_
                        rotate_left
                        · (intro wq hSw; (try dsimp only at hSw); go_simp; first | done | with_reducible rfl)
                        try simp only [Act.put, sA, sZ, sS]
                        refine wpAnyH_ready (rs := [14]) (by kernel_rfl) (by simp) ?_
                        refine AllReadyH.cons (o := oLaw24r_8) rfl (fun K hK => ?_) AllReadyH.nil
                        have hy := Blk10R HP15_41.out
                        have z0 := hy.1
                        have z1 := hy.2.1
                        have z2 := hy.2.2.1
                        have z3 := hy.2.2.2.1
                        have z4 := hy.2.2.2.2.1
                        have z5 := hy.2.2.2.2.2.1
                        have z6 := hy.2.2.2.2.2.2.1
                        have z7 := hy.2.2.2.2.2.2.2.1
                        have z8 := hy.2.2.2.2.2.2.2.2.1
                        have z9 := hy.2.2.2.2.2.2.2.2.2.1
                        have z10 := hy.2.2.2.2.2.2.2.2.2.2.1
                        have zz := hy.2.2.2.2.2.2.2.2.2.2.2
                        clear hy
                        go_simp
                        have hu42 : Upd (· = w0.heap.size) w41 ((((((((((w41.setCell ⟨w0.heap.size, 0, none⟩ (.int .i64 id6)).setCell ⟨w0.heap.size, 1, none⟩ (.int .u64 (ep6 : Int))).setCell ⟨w0.heap.size, 2, none⟩ (.slice cA6 ms6.length cc6)).setCell ⟨w0.heap.size, 3, none⟩ (.int .u64 0)).setCell ⟨w0.heap.size, 4, none⟩ (.int .u64 (la6 : Int))).setCell ⟨w0.heap.size, 5, none⟩ (.slice sA6 L6.length sc6)).setCell ⟨w0.heap.size, 6, none⟩ (.slice tA6 L6.length tc6)).setCell ⟨w0.heap.size, 7, none⟩ (.slice lA6 l6.length lc6)).setCell ⟨w0.heap.size, 8, none⟩ (.int .u64 (cl6 : Int))).setCell ⟨w0.heap.size, 9, none⟩ (.slice oA6 out6.length oc6)) := ((((((((((Upd.refl _ w41).setIn 0 _).setIn 1 _).setIn 2 _).setIn 3 _).setIn 4 _).setIn 5 _).setIn 6 _).setIn 7 _).setIn 8 _).setIn 9 _
                        have HP15_42 := Lib.hid (Blk.set10 (.int .i64 id6) (.int .u64 (ep6 : Int)) (.slice cA6 ms6.length cc6) (.int .u64 0) (.int .u64 (la6 : Int)) (.slice sA6 L6.length sc6) (.slice tA6 L6.length tc6) (.slice lA6 l6.length lc6) (.int .u64 (cl6 : Int)) (.slice oA6 out6.length oc6) HP15_41.out)
                        have HN42 := Lib.hid (HN41.out.upd hu42 (fun i e => by rw [e]; exact HA15_29.out))
                        have HR42 := Lib.hid (HR41.out.box HP15_41.out hu42 HQ15_41.out (by decide))
                        have HP16_42 := Lib.hid (HP16_41.out.upd hu42 (HD_39.out.symm))
                        clear hu42 z0 z1 z2 z3 z4 z5 z6 z7 z8 z9 z10 zz
                        generalize ((((((((((w41.setCell ⟨w0.heap.size, 0, none⟩ (.int .i64 id6)).setCell ⟨w0.heap.size, 1, none⟩ (.int .u64 (ep6 : Int))).setCell ⟨w0.heap.size, 2, none⟩ (.slice cA6 ms6.length cc6)).setCell ⟨w0.heap.size, 3, none⟩ (.int .u64 0)).setCell ⟨w0.heap.size, 4, none⟩ (.int .u64 (la6 : Int))).setCell ⟨w0.heap.size, 5, none⟩ (.slice sA6 L6.length sc6)).setCell ⟨w0.heap.size, 6, none⟩ (.slice tA6 L6.length tc6)).setCell ⟨w0.heap.size, 7, none⟩ (.slice lA6 l6.length lc6)).setCell ⟨w0.heap.size, 8, none⟩ (.int .u64 (cl6 : Int))).setCell ⟨w0.heap.size, 9, none⟩ (.slice oA6 out6.length oc6)) = w42 at *
                        refine hK.out _ _ ?_ (fun hHeld => ?_)
                        · exact HS24.out _ HN42.out
                        clear hK K
                        try simp only [Act.put, sA, sZ, sS]
                        refine wpAnyH_ready (rs := [15]) (by kernel_rfl) (by simp) ?_
                        refine AllReadyH.cons (o := oLaw24r_9) rfl (fun K hK => ?_) AllReadyH.nil
                        have hy := Blk2R HP16_42.out
                        have z0 := hy.1
                        have z1 := hy.2.1
                        have z2 := hy.2.2.1
                        have zz := hy.2.2.2
                        clear hy
                        go_simp
                        have hu43 : Upd (· = w29.heap.size) w42 ((w42.setCell ⟨w29.heap.size, 0, none⟩ (.int .u64 (vd.t : Int))).setCell ⟨w29.heap.size, 1, none⟩ (.int .i64 vd.e)) := ((Upd.refl _ w42).setIn 0 _).setIn 1 _
                        have HP16_43 := Lib.hid ((HP16_42.out.set_ 0 (.int .u64 (vd.t : Int))).set_ 1 (.int .i64 vd.e))
                        have HN43 := Lib.hid (HN42.out.upd hu43 (fun i e => by rw [e]; exact HA16_39.out))
                        have HR43 := Lib.hid (HR42.out.box HP16_42.out hu43 HQ16_41.out (by decide))
                        have HP15_43 := Lib.hid (HP15_42.out.upd hu43 (HD_39.out))
                        clear hu43 z0 z1 z2 zz
                        generalize ((w42.setCell ⟨w29.heap.size, 0, none⟩ (.int .u64 (vd.t : Int))).setCell ⟨w29.heap.size, 1, none⟩ (.int .i64 vd.e)) = w43 at *
                        refine hK.out _ _ ?_ (fun hHeld => ?_)
                        · exact HS24.out _ HN43.out
                        clear hK K
                        try simp only [Act.put, sA, sZ, sS]
                        refine tkH (i := 16) (oi := oLaw24r_10) (v := ?_) (.inl ⟨by rfl, ?_⟩) ?_
                        rotate_left
                        · (intro wq hSw; (try dsimp only at hSw); go_simp; first | done | with_reducible rfl)
                        try simp only [Act.put, sA, sZ, sS]
                        refine wpAnyH_done (by kernel_rfl) ?_ _
                        clear hHeld
                        go_wp2_with fail
                        go_meet
                        exact ⟨w0.heap.size, w29.heap.size, (⟨id6, ep6, .slice cA6 ms6.length cc6, ⟨la6, L6, .slice sA6 L6.length sc6, .slice tA6 L6.length tc6⟩, .slice lA6 l6.length lc6, cl6, .slice oA6 out6.length oc6⟩ : RrV), rfl, rfl, rfl, HP15_43.out, HP16_43.out, HR43.out, HF41.out, HN43.out, HA15_29.out, HA16_39.out⟩
                    · go_simp
                      have HN44 := Lib.hid (HN0.out.alloc (.cells #[.int .u64 0, .int .i64 0] 49))
                      have HP16_44 := Lib.hid (Blk.mk_new w0 49 #[.int .u64 0, .int .i64 0])
                      have HA16_44 := Lib.hid (HN0.out.size)
                      generalize w0.alloc (.cells #[.int .u64 0, .int .i64 0] 49) = w44 at *
                      refine hK.out _ _ ?_ (fun hHeld => ?_)
                      · exact HS24.out _ HN44.out
                      clear hK K
                      try simp only [Act.put, sA, sZ, sS]
                      refine wpAnyH_ready (rs := [6, 12]) (by kernel_rfl) (by simp) ?_
                      refine AllReadyH.cons (o := oLaw24r_0) rfl (fun K hK => ?_) (AllReadyH.cons (o := oLaw24r_1) rfl (fun K hK => ?_) AllReadyH.nil)
                      · go_simp
                        refine (few_any ⟨bc, br, bs, bl⟩ (HBO.out.sl.new (HNR.out.trans HN44.out)) HBO.out.ll).mono ?_
                        rintro e w45 hfw
                        obtain ⟨A3, n3, rfl, hts, hna⟩ := hfw.form
                        clear hfw
                        have HT45 := Lib.hid hts
                        have HN45 := Lib.hid (HN44.out.trans hna)
                        have HP16_45 := Lib.hid (HP16_44.out.new hna)
                        clear hts hna
                        refine hK.out _ _ ?_ (fun hHeld => ?_)
                        · exact HS24.out _ HN45.out
                        clear hK K
                        try simp only [Act.put, sA, sZ, sS]
                        refine wpAnyH_ready (rs := [7, 12]) (by kernel_rfl) (by simp) ?_
                        refine AllReadyH.cons (o := oLaw24r_3) rfl (fun K hK => ?_) (AllReadyH.cons (o := oLaw24r_1) rfl (fun K hK => ?_) AllReadyH.nil)
                        · go_simp
                          have hcall := rrsubmit (y := (⟨id5, ep5, .slice cA5 ms5.length cc5, ⟨la5, L5, .slice sA5 L5.length sc5, .slice tA5 L5.length tc5⟩, .slice lA5 l5.length lc5, cl5, .slice oA5 out5.length oc5⟩ : RrV)) (HRY.out.new HN45.out) (b := (⟨Btc.cut ⟨bc, br, bs, bl⟩, A3, n3⟩ : BtV)) ⟨HT45.out, ⟨HBO.out.c, HBO.out.r, HBO.out.s, HCL.out⟩⟩ (by omega)
                          rw [HSR.out] at hcall
                          refine hcall.mono ?_
                          clear hcall
                          rintro e w46 h6
                          obtain ⟨la6, L6, cA6, cc6, sA6, sc6, tA6, tc6, lA6, lc6, oA6, oc6, rfl, hr6, hn6, hf6⟩ := h6.form
                          clear h6
                          have HR46 := Lib.hid hr6
                          have HF46 : Hid (∀ k, RrF (⟨id6, ep6, .slice cA6 ms6.length cc6, ⟨la6, L6, .slice sA6 L6.length sc6, .slice tA6 L6.length tc6⟩, .slice lA6 l6.length lc6, cl6, .slice oA6 out6.length oc6⟩ : RrV) k → RrF (⟨id5, ep5, .slice cA5 ms5.length cc5, ⟨la5, L5, .slice sA5 L5.length sc5, .slice tA5 L5.length tc5⟩, .slice lA5 l5.length lc5, cl5, .slice oA5 out5.length oc5⟩ : RrV) k ∨ wr.heap.size ≤ k) := Lib.hid (fun k hk => (hf6 k hk).imp (fun h => h) (fun h => Nat.le_trans HN45.out.size h))
                          have HN46 := Lib.hid (HN45.out.trans hn6)
                          have HP16_46 := Lib.hid (HP16_45.out.new hn6)
                          have HQ16_46 : Hid (∀ k, RrF (⟨id6, ep6, .slice cA6 ms6.length cc6, ⟨la6, L6, .slice sA6 L6.length sc6, .slice tA6 L6.length tc6⟩, .slice lA6 l6.length lc6, cl6, .slice oA6 out6.length oc6⟩ : RrV) k → k ≠ w0.heap.size) := Lib.hid (fun k hk e => (hf6 k hk).elim (fun h => by have h1 := HRY.out.lt k h; have h2 := HA16_44.out; omega) (fun h => by have h1 := HP16_45.out.lt; omega))
                          clear hr6 hn6 hf6
                          refine hK.out _ _ ?_ (fun hHeld => ?_)
                          · exact HS24.out _ HN46.out
                          clear hK K
                          try simp only [Act.put, sA, sZ, sS]
                          refine tkH (i := 8) (oi := oLaw24r_4) (v := ?_) (.inl ⟨by rfl, ?_⟩) ?_
                          rotate_left
                          · (intro wq hSw; (try dsimp only at hSw); go_simp; first | done | with_reducible rfl)
                          try simp only [Act.put, sA, sZ, sS]
                          refine tkH (i := 9) (oi := oLaw24r_5) (v := ?_) (.inl ⟨by rfl, ?_⟩) ?_
                          rotate_left
                          · (intro wq hSw; (try dsimp only at hSw); go_simp; first | done | with_reducible rfl)
                          try simp only [Act.put, sA, sZ, sS]
                          refine tkH (i := 10) (oi := oLaw24r_6) (v := ?_) (.inl ⟨by rfl, ?_⟩) ?_
                          rotate_left
                          · (intro wq hSw; (try dsimp only at hSw); go_simp; first | done | with_reducible rfl)
                          try simp only [Act.put, sA, sZ, sS]
                          refine tkH (i := 11) (oi := oLaw24r_7) (v := ?_) (.inl ⟨by rfl, ?_⟩) ?_
                          rotate_left
                          · (intro wq hSw; (try dsimp only at hSw); go_simp; first | done | with_reducible rfl)
                          try simp only [Act.put, sA, sZ, sS]
                          refine wpAnyH_ready (rs := [12]) (by kernel_rfl) (by simp) ?_
                          refine AllReadyH.cons (o := oLaw24r_1) rfl (fun K hK => ?_) AllReadyH.nil
                          go_simp
                          have HN47 := Lib.hid (HN46.out.alloc (.cells #[.int .i64 0, .int .u64 0, .slice none 0 0, .int .u64 0, .int .u64 0, .slice none 0 0, .slice none 0 0, .slice none 0 0, .int .u64 0, .slice none 0 0] 36))
                          have HP15_47 := Lib.hid (Blk.mk_new w46 36 #[.int .i64 0, .int .u64 0, .slice none 0 0, .int .u64 0, .int .u64 0, .slice none 0 0, .slice none 0 0, .slice none 0 0, .int .u64 0, .slice none 0 0])
                          have HA15_47 := Lib.hid (HN46.out.size)
                          have HR47 := Lib.hid (HR46.out.new ((New.refl w46).alloc (.cells #[.int .i64 0, .int .u64 0, .slice none 0 0, .int .u64 0, .int .u64 0, .slice none 0 0, .slice none 0 0, .slice none 0 0, .int .u64 0, .slice none 0 0] 36)))
                          have HQ15_47 : Hid (∀ k, RrF (⟨id6, ep6, .slice cA6 ms6.length cc6, ⟨la6, L6, .slice sA6 L6.length sc6, .slice tA6 L6.length tc6⟩, .slice lA6 l6.length lc6, cl6, .slice oA6 out6.length oc6⟩ : RrV) k → k ≠ w46.heap.size) := Lib.hid (fun k hk e => by have h1 := HR46.out.lt k hk; omega)
                          have HP16_47 := Lib.hid (HP16_46.out.alloc (.cells #[.int .i64 0, .int .u64 0, .slice none 0 0, .int .u64 0, .int .u64 0, .slice none 0 0, .slice none 0 0, .slice none 0 0, .int .u64 0, .slice none 0 0] 36))
                          have HD_47 : Hid (w0.heap.size ≠ w46.heap.size) := Lib.hid (Nat.ne_of_lt HP16_46.out.lt)
                          generalize w46.alloc (.cells #[.int .i64 0, .int .u64 0, .slice none 0 0, .int .u64 0, .int .u64 0, .slice none 0 0, .slice none 0 0, .slice none 0 0, .int .u64 0, .slice none 0 0] 36) = w47 at *
                          refine hK.out _ _ ?_ (fun hHeld => ?_)
                          · exact HS24.out _ HN47.out
                          clear hK K
                          try simp only [Act.put, sA, sZ, sS]
                          refine wpAnyH_ready (rs := [14]) (by kernel_rfl) (by simp) ?_
                          refine AllReadyH.cons (o := oLaw24r_8) rfl (fun K hK => ?_) AllReadyH.nil
                          have hy := Blk10R HP15_47.out
                          have z0 := hy.1
                          have z1 := hy.2.1
                          have z2 := hy.2.2.1
                          have z3 := hy.2.2.2.1
                          have z4 := hy.2.2.2.2.1
                          have z5 := hy.2.2.2.2.2.1
                          have z6 := hy.2.2.2.2.2.2.1
                          have z7 := hy.2.2.2.2.2.2.2.1
                          have z8 := hy.2.2.2.2.2.2.2.2.1
                          have z9 := hy.2.2.2.2.2.2.2.2.2.1
                          have z10 := hy.2.2.2.2.2.2.2.2.2.2.1
                          have zz := hy.2.2.2.2.2.2.2.2.2.2.2
                          clear hy
                          go_simp
                          have hu48 : Upd (· = w46.heap.size) w47 ((((((((((w47.setCell ⟨w46.heap.size, 0, none⟩ (.int .i64 id6)).setCell ⟨w46.heap.size, 1, none⟩ (.int .u64 (ep6 : Int))).setCell ⟨w46.heap.size, 2, none⟩ (.slice cA6 ms6.length cc6)).setCell ⟨w46.heap.size, 3, none⟩ (.int .u64 0)).setCell ⟨w46.heap.size, 4, none⟩ (.int .u64 (la6 : Int))).setCell ⟨w46.heap.size, 5, none⟩ (.slice sA6 L6.length sc6)).setCell ⟨w46.heap.size, 6, none⟩ (.slice tA6 L6.length tc6)).setCell ⟨w46.heap.size, 7, none⟩ (.slice lA6 l6.length lc6)).setCell ⟨w46.heap.size, 8, none⟩ (.int .u64 (cl6 : Int))).setCell ⟨w46.heap.size, 9, none⟩ (.slice oA6 out6.length oc6)) := ((((((((((Upd.refl _ w47).setIn 0 _).setIn 1 _).setIn 2 _).setIn 3 _).setIn 4 _).setIn 5 _).setIn 6 _).setIn 7 _).setIn 8 _).setIn 9 _
                          have HP15_48 := Lib.hid (Blk.set10 (.int .i64 id6) (.int .u64 (ep6 : Int)) (.slice cA6 ms6.length cc6) (.int .u64 0) (.int .u64 (la6 : Int)) (.slice sA6 L6.length sc6) (.slice tA6 L6.length tc6) (.slice lA6 l6.length lc6) (.int .u64 (cl6 : Int)) (.slice oA6 out6.length oc6) HP15_47.out)
                          have HN48 := Lib.hid (HN47.out.upd hu48 (fun i e => by rw [e]; exact HA15_47.out))
                          have HR48 := Lib.hid (HR47.out.box HP15_47.out hu48 HQ15_47.out (by decide))
                          have HP16_48 := Lib.hid (HP16_47.out.upd hu48 (HD_47.out))
                          clear hu48 z0 z1 z2 z3 z4 z5 z6 z7 z8 z9 z10 zz
                          generalize ((((((((((w47.setCell ⟨w46.heap.size, 0, none⟩ (.int .i64 id6)).setCell ⟨w46.heap.size, 1, none⟩ (.int .u64 (ep6 : Int))).setCell ⟨w46.heap.size, 2, none⟩ (.slice cA6 ms6.length cc6)).setCell ⟨w46.heap.size, 3, none⟩ (.int .u64 0)).setCell ⟨w46.heap.size, 4, none⟩ (.int .u64 (la6 : Int))).setCell ⟨w46.heap.size, 5, none⟩ (.slice sA6 L6.length sc6)).setCell ⟨w46.heap.size, 6, none⟩ (.slice tA6 L6.length tc6)).setCell ⟨w46.heap.size, 7, none⟩ (.slice lA6 l6.length lc6)).setCell ⟨w46.heap.size, 8, none⟩ (.int .u64 (cl6 : Int))).setCell ⟨w46.heap.size, 9, none⟩ (.slice oA6 out6.length oc6)) = w48 at *
                          refine hK.out _ _ ?_ (fun hHeld => ?_)
                          · exact HS24.out _ HN48.out
                          clear hK K
                          try simp only [Act.put, sA, sZ, sS]
                          refine wpAnyH_ready (rs := [15]) (by kernel_rfl) (by simp) ?_
                          refine AllReadyH.cons (o := oLaw24r_9) rfl (fun K hK => ?_) AllReadyH.nil
                          have hy := Blk2R HP16_48.out
                          have z0 := hy.1
                          have z1 := hy.2.1
                          have z2 := hy.2.2.1
                          have zz := hy.2.2.2
                          clear hy
                          go_simp
                          have hu49 : Upd (· = w0.heap.size) w48 ((w48.setCell ⟨w0.heap.size, 0, none⟩ (.int .u64 (vd.t : Int))).setCell ⟨w0.heap.size, 1, none⟩ (.int .i64 vd.e)) := ((Upd.refl _ w48).setIn 0 _).setIn 1 _
                          have HP16_49 := Lib.hid ((HP16_48.out.set_ 0 (.int .u64 (vd.t : Int))).set_ 1 (.int .i64 vd.e))
                          have HN49 := Lib.hid (HN48.out.upd hu49 (fun i e => by rw [e]; exact HA16_44.out))
                          have HR49 := Lib.hid (HR48.out.box HP16_48.out hu49 HQ16_46.out (by decide))
                          have HP15_49 := Lib.hid (HP15_48.out.upd hu49 (HD_47.out.symm))
                          clear hu49 z0 z1 z2 zz
                          generalize ((w48.setCell ⟨w0.heap.size, 0, none⟩ (.int .u64 (vd.t : Int))).setCell ⟨w0.heap.size, 1, none⟩ (.int .i64 vd.e)) = w49 at *
                          refine hK.out _ _ ?_ (fun hHeld => ?_)
                          · exact HS24.out _ HN49.out
                          clear hK K
                          try simp only [Act.put, sA, sZ, sS]
                          refine tkH (i := 16) (oi := oLaw24r_10) (v := ?_) (.inl ⟨by rfl, ?_⟩) ?_
                          rotate_left
                          · (intro wq hSw; (try dsimp only at hSw); go_simp; first | done | with_reducible rfl)
                          try simp only [Act.put, sA, sZ, sS]
                          refine wpAnyH_done (by kernel_rfl) ?_ _
                          clear hHeld
                          go_wp2_with fail
                          go_meet
                          exact ⟨w46.heap.size, w0.heap.size, (⟨id6, ep6, .slice cA6 ms6.length cc6, ⟨la6, L6, .slice sA6 L6.length sc6, .slice tA6 L6.length tc6⟩, .slice lA6 l6.length lc6, cl6, .slice oA6 out6.length oc6⟩ : RrV), rfl, rfl, rfl, HP15_49.out, HP16_49.out, HR49.out, HF46.out, HN49.out, HA15_47.out, HA16_44.out⟩
                        · go_simp
                          have HN50 := Lib.hid (HN45.out.alloc (.cells #[.int .i64 0, .int .u64 0, .slice none 0 0, .int .u64 0, .int .u64 0, .slice none 0 0, .slice none 0 0, .slice none 0 0, .int .u64 0, .slice none 0 0] 36))
                          have HP15_50 := Lib.hid (Blk.mk_new w45 36 #[.int .i64 0, .int .u64 0, .slice none 0 0, .int .u64 0, .int .u64 0, .slice none 0 0, .slice none 0 0, .slice none 0 0, .int .u64 0, .slice none 0 0])
                          have HA15_50 := Lib.hid (HN45.out.size)
                          have HT50 := Lib.hid (HT45.out.new ((New.refl w45).alloc (.cells #[.int .i64 0, .int .u64 0, .slice none 0 0, .int .u64 0, .int .u64 0, .slice none 0 0, .slice none 0 0, .slice none 0 0, .int .u64 0, .slice none 0 0] 36)))
                          have HP16_50 := Lib.hid (HP16_45.out.alloc (.cells #[.int .i64 0, .int .u64 0, .slice none 0 0, .int .u64 0, .int .u64 0, .slice none 0 0, .slice none 0 0, .slice none 0 0, .int .u64 0, .slice none 0 0] 36))
                          have HD_50 : Hid (w0.heap.size ≠ w45.heap.size) := Lib.hid (Nat.ne_of_lt HP16_45.out.lt)
                          generalize w45.alloc (.cells #[.int .i64 0, .int .u64 0, .slice none 0 0, .int .u64 0, .int .u64 0, .slice none 0 0, .slice none 0 0, .slice none 0 0, .int .u64 0, .slice none 0 0] 36) = w50 at *
                          refine hK.out _ _ ?_ (fun hHeld => ?_)
                          · exact HS24.out _ HN50.out
                          clear hK K
                          try simp only [Act.put, sA, sZ, sS]
                          refine wpAnyH_ready (rs := [7]) (by kernel_rfl) (by simp) ?_
                          refine AllReadyH.cons (o := oLaw24r_3) rfl (fun K hK => ?_) AllReadyH.nil
                          go_simp
                          have hcall := rrsubmit (y := (⟨id5, ep5, .slice cA5 ms5.length cc5, ⟨la5, L5, .slice sA5 L5.length sc5, .slice tA5 L5.length tc5⟩, .slice lA5 l5.length lc5, cl5, .slice oA5 out5.length oc5⟩ : RrV)) (HRY.out.new HN50.out) (b := (⟨Btc.cut ⟨bc, br, bs, bl⟩, A3, n3⟩ : BtV)) ⟨HT50.out, ⟨HBO.out.c, HBO.out.r, HBO.out.s, HCL.out⟩⟩ (by omega)
                          rw [HSR.out] at hcall
                          refine hcall.mono ?_
                          clear hcall
                          rintro e w51 h6
                          obtain ⟨la6, L6, cA6, cc6, sA6, sc6, tA6, tc6, lA6, lc6, oA6, oc6, rfl, hr6, hn6, hf6⟩ := h6.form
                          clear h6
                          have HR51 := Lib.hid hr6
                          have HF51 : Hid (∀ k, RrF (⟨id6, ep6, .slice cA6 ms6.length cc6, ⟨la6, L6, .slice sA6 L6.length sc6, .slice tA6 L6.length tc6⟩, .slice lA6 l6.length lc6, cl6, .slice oA6 out6.length oc6⟩ : RrV) k → RrF (⟨id5, ep5, .slice cA5 ms5.length cc5, ⟨la5, L5, .slice sA5 L5.length sc5, .slice tA5 L5.length tc5⟩, .slice lA5 l5.length lc5, cl5, .slice oA5 out5.length oc5⟩ : RrV) k ∨ wr.heap.size ≤ k) := Lib.hid (fun k hk => (hf6 k hk).imp (fun h => h) (fun h => Nat.le_trans HN50.out.size h))
                          have HN51 := Lib.hid (HN50.out.trans hn6)
                          have HP15_51 := Lib.hid (HP15_50.out.new hn6)
                          have HQ15_51 : Hid (∀ k, RrF (⟨id6, ep6, .slice cA6 ms6.length cc6, ⟨la6, L6, .slice sA6 L6.length sc6, .slice tA6 L6.length tc6⟩, .slice lA6 l6.length lc6, cl6, .slice oA6 out6.length oc6⟩ : RrV) k → k ≠ w45.heap.size) := Lib.hid (fun k hk e => (hf6 k hk).elim (fun h => by have h1 := HRY.out.lt k h; have h2 := HA15_50.out; omega) (fun h => by have h1 := HP15_50.out.lt; omega))
                          have HP16_51 := Lib.hid (HP16_50.out.new hn6)
                          have HQ16_51 : Hid (∀ k, RrF (⟨id6, ep6, .slice cA6 ms6.length cc6, ⟨la6, L6, .slice sA6 L6.length sc6, .slice tA6 L6.length tc6⟩, .slice lA6 l6.length lc6, cl6, .slice oA6 out6.length oc6⟩ : RrV) k → k ≠ w0.heap.size) := Lib.hid (fun k hk e => (hf6 k hk).elim (fun h => by have h1 := HRY.out.lt k h; have h2 := HA16_44.out; omega) (fun h => by have h1 := HP16_50.out.lt; omega))
                          clear hr6 hn6 hf6
                          refine hK.out _ _ ?_ (fun hHeld => ?_)
                          · exact HS24.out _ HN51.out
                          clear hK K
                          try simp only [Act.put, sA, sZ, sS]
                          refine tkH (i := 8) (oi := oLaw24r_4) (v := ?_) (.inl ⟨by rfl, ?_⟩) ?_
                          rotate_left
                          · (intro wq hSw; (try dsimp only at hSw); go_simp; first | done | with_reducible rfl)
                          try simp only [Act.put, sA, sZ, sS]
                          refine tkH (i := 9) (oi := oLaw24r_5) (v := ?_) (.inl ⟨by rfl, ?_⟩) ?_
                          rotate_left
                          · (intro wq hSw; (try dsimp only at hSw); go_simp; first | done | with_reducible rfl)
                          try simp only [Act.put, sA, sZ, sS]
                          refine tkH (i := 10) (oi := oLaw24r_6) (v := ?_) (.inl ⟨by rfl, ?_⟩) ?_
                          rotate_left
                          · (intro wq hSw; (try dsimp only at hSw); go_simp; first | done | with_reducible rfl)
                          try simp only [Act.put, sA, sZ, sS]
                          refine tkH (i := 11) (oi := oLaw24r_7) (v := ?_) (.inl ⟨by rfl, ?_⟩) ?_
                          rotate_left
                          · (intro wq hSw; (try dsimp only at hSw); go_simp; first | done | with_reducible rfl)
                          try simp only [Act.put, sA, sZ, sS]
                          refine wpAnyH_ready (rs := [14]) (by kernel_rfl) (by simp) ?_
                          refine AllReadyH.cons (o := oLaw24r_8) rfl (fun K hK => ?_) AllReadyH.nil
                          have hy := Blk10R HP15_51.out
                          have z0 := hy.1
                          have z1 := hy.2.1
                          have z2 := hy.2.2.1
                          have z3 := hy.2.2.2.1
                          have z4 := hy.2.2.2.2.1
                          have z5 := hy.2.2.2.2.2.1
                          have z6 := hy.2.2.2.2.2.2.1
                          have z7 := hy.2.2.2.2.2.2.2.1
                          have z8 := hy.2.2.2.2.2.2.2.2.1
                          have z9 := hy.2.2.2.2.2.2.2.2.2.1
                          have z10 := hy.2.2.2.2.2.2.2.2.2.2.1
                          have zz := hy.2.2.2.2.2.2.2.2.2.2.2
                          clear hy
                          go_simp
                          have hu52 : Upd (· = w45.heap.size) w51 ((((((((((w51.setCell ⟨w45.heap.size, 0, none⟩ (.int .i64 id6)).setCell ⟨w45.heap.size, 1, none⟩ (.int .u64 (ep6 : Int))).setCell ⟨w45.heap.size, 2, none⟩ (.slice cA6 ms6.length cc6)).setCell ⟨w45.heap.size, 3, none⟩ (.int .u64 0)).setCell ⟨w45.heap.size, 4, none⟩ (.int .u64 (la6 : Int))).setCell ⟨w45.heap.size, 5, none⟩ (.slice sA6 L6.length sc6)).setCell ⟨w45.heap.size, 6, none⟩ (.slice tA6 L6.length tc6)).setCell ⟨w45.heap.size, 7, none⟩ (.slice lA6 l6.length lc6)).setCell ⟨w45.heap.size, 8, none⟩ (.int .u64 (cl6 : Int))).setCell ⟨w45.heap.size, 9, none⟩ (.slice oA6 out6.length oc6)) := ((((((((((Upd.refl _ w51).setIn 0 _).setIn 1 _).setIn 2 _).setIn 3 _).setIn 4 _).setIn 5 _).setIn 6 _).setIn 7 _).setIn 8 _).setIn 9 _
                          have HP15_52 := Lib.hid (Blk.set10 (.int .i64 id6) (.int .u64 (ep6 : Int)) (.slice cA6 ms6.length cc6) (.int .u64 0) (.int .u64 (la6 : Int)) (.slice sA6 L6.length sc6) (.slice tA6 L6.length tc6) (.slice lA6 l6.length lc6) (.int .u64 (cl6 : Int)) (.slice oA6 out6.length oc6) HP15_51.out)
                          have HN52 := Lib.hid (HN51.out.upd hu52 (fun i e => by rw [e]; exact HA15_50.out))
                          have HR52 := Lib.hid (HR51.out.box HP15_51.out hu52 HQ15_51.out (by decide))
                          have HP16_52 := Lib.hid (HP16_51.out.upd hu52 (HD_50.out))
                          clear hu52 z0 z1 z2 z3 z4 z5 z6 z7 z8 z9 z10 zz
                          generalize ((((((((((w51.setCell ⟨w45.heap.size, 0, none⟩ (.int .i64 id6)).setCell ⟨w45.heap.size, 1, none⟩ (.int .u64 (ep6 : Int))).setCell ⟨w45.heap.size, 2, none⟩ (.slice cA6 ms6.length cc6)).setCell ⟨w45.heap.size, 3, none⟩ (.int .u64 0)).setCell ⟨w45.heap.size, 4, none⟩ (.int .u64 (la6 : Int))).setCell ⟨w45.heap.size, 5, none⟩ (.slice sA6 L6.length sc6)).setCell ⟨w45.heap.size, 6, none⟩ (.slice tA6 L6.length tc6)).setCell ⟨w45.heap.size, 7, none⟩ (.slice lA6 l6.length lc6)).setCell ⟨w45.heap.size, 8, none⟩ (.int .u64 (cl6 : Int))).setCell ⟨w45.heap.size, 9, none⟩ (.slice oA6 out6.length oc6)) = w52 at *
                          refine hK.out _ _ ?_ (fun hHeld => ?_)
                          · exact HS24.out _ HN52.out
                          clear hK K
                          try simp only [Act.put, sA, sZ, sS]
                          refine wpAnyH_ready (rs := [15]) (by kernel_rfl) (by simp) ?_
                          refine AllReadyH.cons (o := oLaw24r_9) rfl (fun K hK => ?_) AllReadyH.nil
                          have hy := Blk2R HP16_52.out
                          have z0 := hy.1
                          have z1 := hy.2.1
                          have z2 := hy.2.2.1
                          have zz := hy.2.2.2
                          clear hy
                          go_simp
                          have hu53 : Upd (· = w0.heap.size) w52 ((w52.setCell ⟨w0.heap.size, 0, none⟩ (.int .u64 (vd.t : Int))).setCell ⟨w0.heap.size, 1, none⟩ (.int .i64 vd.e)) := ((Upd.refl _ w52).setIn 0 _).setIn 1 _
                          have HP16_53 := Lib.hid ((HP16_52.out.set_ 0 (.int .u64 (vd.t : Int))).set_ 1 (.int .i64 vd.e))
                          have HN53 := Lib.hid (HN52.out.upd hu53 (fun i e => by rw [e]; exact HA16_44.out))
                          have HR53 := Lib.hid (HR52.out.box HP16_52.out hu53 HQ16_51.out (by decide))
                          have HP15_53 := Lib.hid (HP15_52.out.upd hu53 (HD_50.out.symm))
                          clear hu53 z0 z1 z2 zz
                          generalize ((w52.setCell ⟨w0.heap.size, 0, none⟩ (.int .u64 (vd.t : Int))).setCell ⟨w0.heap.size, 1, none⟩ (.int .i64 vd.e)) = w53 at *
                          refine hK.out _ _ ?_ (fun hHeld => ?_)
                          · exact HS24.out _ HN53.out
                          clear hK K
                          try simp only [Act.put, sA, sZ, sS]
                          refine tkH (i := 16) (oi := oLaw24r_10) (v := ?_) (.inl ⟨by rfl, ?_⟩) ?_
                          rotate_left
                          · (intro wq hSw; (try dsimp only at hSw); go_simp; first | done | with_reducible rfl)
                          try simp only [Act.put, sA, sZ, sS]
                          refine wpAnyH_done (by kernel_rfl) ?_ _
                          clear hHeld
                          go_wp2_with fail
                          go_meet
                          exact ⟨w45.heap.size, w0.heap.size, (⟨id6, ep6, .slice cA6 ms6.length cc6, ⟨la6, L6, .slice sA6 L6.length sc6, .slice tA6 L6.length tc6⟩, .slice lA6 l6.length lc6, cl6, .slice oA6 out6.length oc6⟩ : RrV), rfl, rfl, rfl, HP15_53.out, HP16_53.out, HR53.out, HF51.out, HN53.out, HA15_50.out, HA16_44.out⟩
                      · go_simp
                        have HN54 := Lib.hid (HN44.out.alloc (.cells #[.int .i64 0, .int .u64 0, .slice none 0 0, .int .u64 0, .int .u64 0, .slice none 0 0, .slice none 0 0, .slice none 0 0, .int .u64 0, .slice none 0 0] 36))
                        have HP15_54 := Lib.hid (Blk.mk_new w44 36 #[.int .i64 0, .int .u64 0, .slice none 0 0, .int .u64 0, .int .u64 0, .slice none 0 0, .slice none 0 0, .slice none 0 0, .int .u64 0, .slice none 0 0])
                        have HA15_54 := Lib.hid (HN44.out.size)
                        have HP16_54 := Lib.hid (HP16_44.out.alloc (.cells #[.int .i64 0, .int .u64 0, .slice none 0 0, .int .u64 0, .int .u64 0, .slice none 0 0, .slice none 0 0, .slice none 0 0, .int .u64 0, .slice none 0 0] 36))
                        have HD_54 : Hid (w0.heap.size ≠ w44.heap.size) := Lib.hid (Nat.ne_of_lt HP16_44.out.lt)
                        generalize w44.alloc (.cells #[.int .i64 0, .int .u64 0, .slice none 0 0, .int .u64 0, .int .u64 0, .slice none 0 0, .slice none 0 0, .slice none 0 0, .int .u64 0, .slice none 0 0] 36) = w54 at *
                        refine hK.out _ _ ?_ (fun hHeld => ?_)
                        · exact HS24.out _ HN54.out
                        clear hK K
                        try simp only [Act.put, sA, sZ, sS]
                        refine wpAnyH_ready (rs := [6]) (by kernel_rfl) (by simp) ?_
                        refine AllReadyH.cons (o := oLaw24r_0) rfl (fun K hK => ?_) AllReadyH.nil
                        go_simp
                        refine (few_any ⟨bc, br, bs, bl⟩ (HBO.out.sl.new (HNR.out.trans HN54.out)) HBO.out.ll).mono ?_
                        rintro e w55 hfw
                        obtain ⟨A3, n3, rfl, hts, hna⟩ := hfw.form
                        clear hfw
                        have HT55 := Lib.hid hts
                        have HN55 := Lib.hid (HN54.out.trans hna)
                        have HP15_55 := Lib.hid (HP15_54.out.new hna)
                        have HP16_55 := Lib.hid (HP16_54.out.new hna)
                        clear hts hna
                        refine hK.out _ _ ?_ (fun hHeld => ?_)
                        · exact HS24.out _ HN55.out
                        clear hK K
                        try simp only [Act.put, sA, sZ, sS]
                        refine wpAnyH_ready (rs := [7]) (by kernel_rfl) (by simp) ?_
                        refine AllReadyH.cons (o := oLaw24r_3) rfl (fun K hK => ?_) AllReadyH.nil
                        go_simp
                        have hcall := rrsubmit (y := (⟨id5, ep5, .slice cA5 ms5.length cc5, ⟨la5, L5, .slice sA5 L5.length sc5, .slice tA5 L5.length tc5⟩, .slice lA5 l5.length lc5, cl5, .slice oA5 out5.length oc5⟩ : RrV)) (HRY.out.new HN55.out) (b := (⟨Btc.cut ⟨bc, br, bs, bl⟩, A3, n3⟩ : BtV)) ⟨HT55.out, ⟨HBO.out.c, HBO.out.r, HBO.out.s, HCL.out⟩⟩ (by omega)
                        rw [HSR.out] at hcall
                        refine hcall.mono ?_
                        clear hcall
                        rintro e w56 h6
                        obtain ⟨la6, L6, cA6, cc6, sA6, sc6, tA6, tc6, lA6, lc6, oA6, oc6, rfl, hr6, hn6, hf6⟩ := h6.form
                        clear h6
                        have HR56 := Lib.hid hr6
                        have HF56 : Hid (∀ k, RrF (⟨id6, ep6, .slice cA6 ms6.length cc6, ⟨la6, L6, .slice sA6 L6.length sc6, .slice tA6 L6.length tc6⟩, .slice lA6 l6.length lc6, cl6, .slice oA6 out6.length oc6⟩ : RrV) k → RrF (⟨id5, ep5, .slice cA5 ms5.length cc5, ⟨la5, L5, .slice sA5 L5.length sc5, .slice tA5 L5.length tc5⟩, .slice lA5 l5.length lc5, cl5, .slice oA5 out5.length oc5⟩ : RrV) k ∨ wr.heap.size ≤ k) := Lib.hid (fun k hk => (hf6 k hk).imp (fun h => h) (fun h => Nat.le_trans HN55.out.size h))
                        have HN56 := Lib.hid (HN55.out.trans hn6)
                        have HP15_56 := Lib.hid (HP15_55.out.new hn6)
                        have HQ15_56 : Hid (∀ k, RrF (⟨id6, ep6, .slice cA6 ms6.length cc6, ⟨la6, L6, .slice sA6 L6.length sc6, .slice tA6 L6.length tc6⟩, .slice lA6 l6.length lc6, cl6, .slice oA6 out6.length oc6⟩ : RrV) k → k ≠ w44.heap.size) := Lib.hid (fun k hk e => (hf6 k hk).elim (fun h => by have h1 := HRY.out.lt k h; have h2 := HA15_54.out; omega) (fun h => by have h1 := HP15_55.out.lt; omega))
                        have HP16_56 := Lib.hid (HP16_55.out.new hn6)
                        have HQ16_56 : Hid (∀ k, RrF (⟨id6, ep6, .slice cA6 ms6.length cc6, ⟨la6, L6, .slice sA6 L6.length sc6, .slice tA6 L6.length tc6⟩, .slice lA6 l6.length lc6, cl6, .slice oA6 out6.length oc6⟩ : RrV) k → k ≠ w0.heap.size) := Lib.hid (fun k hk e => (hf6 k hk).elim (fun h => by have h1 := HRY.out.lt k h; have h2 := HA16_44.out; omega) (fun h => by have h1 := HP16_55.out.lt; omega))
                        clear hr6 hn6 hf6
                        refine hK.out _ _ ?_ (fun hHeld => ?_)
                        · exact HS24.out _ HN56.out
                        clear hK K
                        try simp only [Act.put, sA, sZ, sS]
                        refine tkH (i := 8) (oi := oLaw24r_4) (v := ?_) (.inl ⟨by rfl, ?_⟩) ?_
                        rotate_left
                        · (intro wq hSw; (try dsimp only at hSw); go_simp; first | done | with_reducible rfl)
                        try simp only [Act.put, sA, sZ, sS]
                        refine tkH (i := 9) (oi := oLaw24r_5) (v := ?_) (.inl ⟨by rfl, ?_⟩) ?_
                        rotate_left
                        · (intro wq hSw; (try dsimp only at hSw); go_simp; first | done | with_reducible rfl)
                        try simp only [Act.put, sA, sZ, sS]
                        refine tkH (i := 10) (oi := oLaw24r_6) (v := ?_) (.inl ⟨by rfl, ?_⟩) ?_
                        rotate_left
                        · (intro wq hSw; (try dsimp only at hSw); go_simp; first | done | with_reducible rfl)
                        try simp only [Act.put, sA, sZ, sS]
                        refine tkH (i := 11) (oi := oLaw24r_7) (v := ?_) (.inl ⟨by rfl, ?_⟩) ?_
                        rotate_left
                        · (intro wq hSw; (try dsimp only at hSw); go_simp; first | done | with_reducible rfl)
                        try simp only [Act.put, sA, sZ, sS]
                        refine wpAnyH_ready (rs := [14]) (by kernel_rfl) (by simp) ?_
                        refine AllReadyH.cons (o := oLaw24r_8) rfl (fun K hK => ?_) AllReadyH.nil
                        have hy := Blk10R HP15_56.out
                        have z0 := hy.1
                        have z1 := hy.2.1
                        have z2 := hy.2.2.1
                        have z3 := hy.2.2.2.1
                        have z4 := hy.2.2.2.2.1
                        have z5 := hy.2.2.2.2.2.1
                        have z6 := hy.2.2.2.2.2.2.1
                        have z7 := hy.2.2.2.2.2.2.2.1
                        have z8 := hy.2.2.2.2.2.2.2.2.1
                        have z9 := hy.2.2.2.2.2.2.2.2.2.1
                        have z10 := hy.2.2.2.2.2.2.2.2.2.2.1
                        have zz := hy.2.2.2.2.2.2.2.2.2.2.2
                        clear hy
                        go_simp
                        have hu57 : Upd (· = w44.heap.size) w56 ((((((((((w56.setCell ⟨w44.heap.size, 0, none⟩ (.int .i64 id6)).setCell ⟨w44.heap.size, 1, none⟩ (.int .u64 (ep6 : Int))).setCell ⟨w44.heap.size, 2, none⟩ (.slice cA6 ms6.length cc6)).setCell ⟨w44.heap.size, 3, none⟩ (.int .u64 0)).setCell ⟨w44.heap.size, 4, none⟩ (.int .u64 (la6 : Int))).setCell ⟨w44.heap.size, 5, none⟩ (.slice sA6 L6.length sc6)).setCell ⟨w44.heap.size, 6, none⟩ (.slice tA6 L6.length tc6)).setCell ⟨w44.heap.size, 7, none⟩ (.slice lA6 l6.length lc6)).setCell ⟨w44.heap.size, 8, none⟩ (.int .u64 (cl6 : Int))).setCell ⟨w44.heap.size, 9, none⟩ (.slice oA6 out6.length oc6)) := ((((((((((Upd.refl _ w56).setIn 0 _).setIn 1 _).setIn 2 _).setIn 3 _).setIn 4 _).setIn 5 _).setIn 6 _).setIn 7 _).setIn 8 _).setIn 9 _
                        have HP15_57 := Lib.hid (Blk.set10 (.int .i64 id6) (.int .u64 (ep6 : Int)) (.slice cA6 ms6.length cc6) (.int .u64 0) (.int .u64 (la6 : Int)) (.slice sA6 L6.length sc6) (.slice tA6 L6.length tc6) (.slice lA6 l6.length lc6) (.int .u64 (cl6 : Int)) (.slice oA6 out6.length oc6) HP15_56.out)
                        have HN57 := Lib.hid (HN56.out.upd hu57 (fun i e => by rw [e]; exact HA15_54.out))
                        have HR57 := Lib.hid (HR56.out.box HP15_56.out hu57 HQ15_56.out (by decide))
                        have HP16_57 := Lib.hid (HP16_56.out.upd hu57 (HD_54.out))
                        clear hu57 z0 z1 z2 z3 z4 z5 z6 z7 z8 z9 z10 zz
                        generalize ((((((((((w56.setCell ⟨w44.heap.size, 0, none⟩ (.int .i64 id6)).setCell ⟨w44.heap.size, 1, none⟩ (.int .u64 (ep6 : Int))).setCell ⟨w44.heap.size, 2, none⟩ (.slice cA6 ms6.length cc6)).setCell ⟨w44.heap.size, 3, none⟩ (.int .u64 0)).setCell ⟨w44.heap.size, 4, none⟩ (.int .u64 (la6 : Int))).setCell ⟨w44.heap.size, 5, none⟩ (.slice sA6 L6.length sc6)).setCell ⟨w44.heap.size, 6, none⟩ (.slice tA6 L6.length tc6)).setCell ⟨w44.heap.size, 7, none⟩ (.slice lA6 l6.length lc6)).setCell ⟨w44.heap.size, 8, none⟩ (.int .u64 (cl6 : Int))).setCell ⟨w44.heap.size, 9, none⟩ (.slice oA6 out6.length oc6)) = w57 at *
                        refine hK.out _ _ ?_ (fun hHeld => ?_)
                        · exact HS24.out _ HN57.out
                        clear hK K
                        try simp only [Act.put, sA, sZ, sS]
                        refine wpAnyH_ready (rs := [15]) (by kernel_rfl) (by simp) ?_
                        refine AllReadyH.cons (o := oLaw24r_9) rfl (fun K hK => ?_) AllReadyH.nil
                        have hy := Blk2R HP16_57.out
                        have z0 := hy.1
                        have z1 := hy.2.1
                        have z2 := hy.2.2.1
                        have zz := hy.2.2.2
                        clear hy
                        go_simp
                        have hu58 : Upd (· = w0.heap.size) w57 ((w57.setCell ⟨w0.heap.size, 0, none⟩ (.int .u64 (vd.t : Int))).setCell ⟨w0.heap.size, 1, none⟩ (.int .i64 vd.e)) := ((Upd.refl _ w57).setIn 0 _).setIn 1 _
                        have HP16_58 := Lib.hid ((HP16_57.out.set_ 0 (.int .u64 (vd.t : Int))).set_ 1 (.int .i64 vd.e))
                        have HN58 := Lib.hid (HN57.out.upd hu58 (fun i e => by rw [e]; exact HA16_44.out))
                        have HR58 := Lib.hid (HR57.out.box HP16_57.out hu58 HQ16_56.out (by decide))
                        have HP15_58 := Lib.hid (HP15_57.out.upd hu58 (HD_54.out.symm))
                        clear hu58 z0 z1 z2 zz
                        generalize ((w57.setCell ⟨w0.heap.size, 0, none⟩ (.int .u64 (vd.t : Int))).setCell ⟨w0.heap.size, 1, none⟩ (.int .i64 vd.e)) = w58 at *
                        refine hK.out _ _ ?_ (fun hHeld => ?_)
                        · exact HS24.out _ HN58.out
                        clear hK K
                        try simp only [Act.put, sA, sZ, sS]
                        refine tkH (i := 16) (oi := oLaw24r_10) (v := ?_) (.inl ⟨by rfl, ?_⟩) ?_
                        rotate_left
                        · (intro wq hSw; (try dsimp only at hSw); go_simp; first | done | with_reducible rfl)
                        try simp only [Act.put, sA, sZ, sS]
                        refine wpAnyH_done (by kernel_rfl) ?_ _
                        clear hHeld
                        go_wp2_with fail
                        go_meet
                        exact ⟨w44.heap.size, w0.heap.size, (⟨id6, ep6, .slice cA6 ms6.length cc6, ⟨la6, L6, .slice sA6 L6.length sc6, .slice tA6 L6.length tc6⟩, .slice lA6 l6.length lc6, cl6, .slice oA6 out6.length oc6⟩ : RrV), rfl, rfl, rfl, HP15_58.out, HP16_58.out, HR58.out, HF56.out, HN58.out, HA15_54.out, HA16_44.out⟩
                  case rest =>
                    obtain ⟨a15, a16, y6, rfl, rfl, rfl, hb15, hb16, hr6, hf6, hn6, ha15, ha16⟩ := hcut
                    dsimp only at hb16 hr6
                    obtain ⟨la6, L6, cA6, cc6, sA6, sc6, tA6, tc6, lA6, lc6, oA6, oc6, rfl⟩ := RrV.cells_form hr6
                    dsimp only [RrV.cells] at hb15 hr6 hf6
                    have HB15 := Lib.hid hb15
                    have HB16 := Lib.hid hb16
                    have HR6 := Lib.hid hr6
                    have HF6 := Lib.hid hf6
                    have HN6 := Lib.hid hn6
                    have HA15 := Lib.hid ha15
                    have HA16 := Lib.hid ha16
                    have HX6 := Lib.hid (HBX5.out.new hn6)
                    clear hb15 hb16 hr6 hf6 hn6 ha15 ha16 q0 q1 q2 q3 q4 q5 q6 q7 q8 q9 q10 qz p0 p1 p2 pz e0 e1 e2 e3
                    obtain ⟨r0, r1, r2, r3, r4, r5, r6, r7, r8, r9, r10, rz⟩ := Blk10R HB15.out
                    obtain ⟨q0, q1, q2, q3, q4, q5, q6, q7, q8, q9, q10, qz⟩ := Blk10R HX6.out
                    go_upto_region 26 with fail
                    have hu7 : Upd (· = g9) wc ((((((((((wc.setCell ⟨g9, 0, none⟩ (.int .i64 id6)).setCell ⟨g9, 1, none⟩ (.int .u64 (ep6 : Int))).setCell ⟨g9, 2, none⟩ (.slice cA6 ms6.length cc6)).setCell ⟨g9, 3, none⟩ (.int .u64 0)).setCell ⟨g9, 4, none⟩ (.int .u64 (la6 : Int))).setCell ⟨g9, 5, none⟩ (.slice sA6 L6.length sc6)).setCell ⟨g9, 6, none⟩ (.slice tA6 L6.length tc6)).setCell ⟨g9, 7, none⟩ (.slice lA6 l6.length lc6)).setCell ⟨g9, 8, none⟩ (.int .u64 (cl6 : Int))).setCell ⟨g9, 9, none⟩ (.slice oA6 out6.length oc6)) := ((((((((((Upd.refl _ wc).setIn 0 _).setIn 1 _).setIn 2 _).setIn 3 _).setIn 4 _).setIn 5 _).setIn 6 _).setIn 7 _).setIn 8 _).setIn 9 _
                    have HB7 := Lib.hid (Blk.set10 (.int .i64 id6) (.int .u64 (ep6 : Int)) (.slice cA6 ms6.length cc6) (.int .u64 0) (.int .u64 (la6 : Int)) (.slice sA6 L6.length sc6) (.slice tA6 L6.length tc6) (.slice lA6 l6.length lc6) (.int .u64 (cl6 : Int)) (.slice oA6 out6.length oc6) HX6.out)
                    have HU7 := Lib.hid hu7
                    have HN7 := Lib.hid ((HRL.out.nw.trans HN6.out).upd hu7 (fun j e => by rw [e]; exact HRL.out.gg))
                    have HB167 := Lib.hid (HB16.out.upd hu7 (by have := HG9.out; have := HA16.out; omega))
                    clear hu7 q0 q1 q2 q3 q4 q5 q6 q7 q8 q9 q10 qz r0 r1 r2 r3 r4 r5 r6 r7 r8 r9 r10 rz
                    generalize ((((((((((wc.setCell ⟨g9, 0, none⟩ (.int .i64 id6)).setCell ⟨g9, 1, none⟩ (.int .u64 (ep6 : Int))).setCell ⟨g9, 2, none⟩ (.slice cA6 ms6.length cc6)).setCell ⟨g9, 3, none⟩ (.int .u64 0)).setCell ⟨g9, 4, none⟩ (.int .u64 (la6 : Int))).setCell ⟨g9, 5, none⟩ (.slice sA6 L6.length sc6)).setCell ⟨g9, 6, none⟩ (.slice tA6 L6.length tc6)).setCell ⟨g9, 7, none⟩ (.slice lA6 l6.length lc6)).setCell ⟨g9, 8, none⟩ (.int .u64 (cl6 : Int))).setCell ⟨g9, 9, none⟩ (.slice oA6 out6.length oc6)) = w7 at *
                    have H27 := Lib.hid (H2.out.new HN7.out)
                    have HNW7 := Lib.hid (HN.out.trans HN7.out)
                    obtain ⟨p0, p1, p2, pz⟩ := Blk2R H27.out
                    obtain ⟨gq', oq', capq', hv', hgq', e0, e1, e2, e3⟩ := bv_at (p := ⟨⟨bc, br, bs, bl⟩, bA, bcap⟩) (k := k) HL1.out HPK.out HNW7.out
                    cases hv'
                    dsimp only at e0 e1 e2 e3
                    clear hgq'
                    go_wp2_with fail
                    refine (few_any ⟨bc, br, bs, bl⟩ (HBO.out.sl.new HNW7.out) HBO.out.ll).mono ?_
                    rintro e w8 ⟨A4, n4, rfl, hts, hn8⟩
                    dsimp only [batV]
                    have HBT8 : Hid (BtAt w8 (⟨Btc.cut ⟨bc, br, bs, bl⟩, A4, n4⟩ : BtV)) := Lib.hid ⟨hts, ⟨HBO.out.c, HBO.out.r, HBO.out.s, HCL.out⟩⟩
                    have HN8 := Lib.hid hn8
                    have HB168 := Lib.hid (HB167.out.new hn8)
                    have HRA8 : Hid (RpAt w8 rp (300 + 20 * k) L5p (⟨id5, ⟨ep5, ms5⟩, j5, l5, cl5, out5⟩ : Rpl)) := Lib.hid (((HRL.out.ra.new HN6.out).upd HU7.out (fun j hj e => HRL.out.nr (e ▸ hj)) (Off.blk HX6.out (by decide)) (Off.blk HX6.out (by decide))).new hn8)
                    clear hts hn8 e0 e1 e2 e3 p0 p1 p2 pz
                    go_wp2_with fail
                    have hcall := rsubmit HRA8.out HBT8.out (by omega)
                    rw [HSR.out] at hcall
                    refine hcall.mono ?_
                    clear hcall
                    rintro e w9 ⟨rfl, hp9⟩
                    have HP9 := Lib.hid hp9
                    have hu9 : Upd (RpF rp L5p) w8 w9 := (let ⟨_, _, _, h⟩ := hp9; h)
                    have HB169 := Lib.hid (HB168.out.upd hu9 (fun hk => by have := HRL.out.ra.lt _ hk; have := HA16.out; omega))
                    clear hp9 hu9
                    dsimp only
                    go_upto_region 27 with fail
                    have hn10 := (New.refl w9).alloc (.cells #[.int .u64 (vd.t : Int), .int .i64 vd.e] 49)
                    have HN10 := Lib.hid hn10
                    have HBV := Lib.hid (Blk.mk_new w9 49 #[.int .u64 (vd.t : Int), .int .i64 vd.e])
                    have HB1610 := Lib.hid (HB169.out.new hn10)
                    clear hn10
                    generalize w9.alloc (.cells #[.int .u64 (vd.t : Int), .int .i64 vd.e] 49) = w10 at *
                    obtain ⟨s0, s1, s2, sz⟩ := Blk2R HB1610.out
                    obtain ⟨t0, t1, t2, tz⟩ := Blk2R HBV.out
                    have hq1 : ((vd.t : Int) == (vd.t : Int)) = true := by simp
                    have hq2 : (vd.e == vd.e) = true := by simp
                    have hq3 : (er != er) = false := by simp
                    have HNX := Lib.hid (HRL.out.next hlt3 HN6.out HR6.out HF6.out HU7.out HB7.out HN8.out HP9.out HN10.out)
                    go_wp2_with fail
                    go_roundw
                    case rel =>
                      obtain ⟨L8, hnx⟩ := HNX.out
                      exact ⟨k + 1, _, L8, _, by go_num, hnx⟩
                    case measure => simp [intOf]; omega
                · have hlt4 : ¬ (k : Int) < (20 : Int) := by omega
                  go_wp2_with fail
                  refine (rlist HRL.out.ra (by omega)).mono ?_
                  rintro e w2 ⟨kv, rfl, hkr, hn2⟩
                  obtain ⟨kA, kc, rfl⟩ := hkr.shape
                  have HKR0 := Lib.hid ((BtRow.lower hkr (Nat.zero_le _)).new (New.refl w2).drew)
                  have HN0 := Lib.hid ((HRL.out.nw.trans hn2).drew)
                  have HRA0 := Lib.hid ((HRL.out.ra.new hn2).new (New.refl w2).drew)
                  have HRY0 := Lib.hid ((HRY.out.new hn2).new (New.refl w2).drew)
                  have hb := ((HRL.out.bx.new hn2).new (New.refl w2).drew)
                  dsimp only [RrV.cells] at hb
                  have HB0 := Lib.hid hb
                  clear hkr hn2 hb p0 p1 p2 pz
                  go_upto_region 30 with fail
                  refine wp_region_held_drew (S := fun w' => w'.cell? ⟨g9, 7, none⟩ = some (.slice lA5 l5.length lc5) ∧ w'.cell? ⟨g9, 8, none⟩ = some (.int .u64 (cl5 : Int)) ∧ w'.cell? ⟨g9, 9, none⟩ = some (.slice oA5 out5.length oc5)) (by kernel_rfl) (⟨HB0.out.cell 7, HB0.out.cell 8, HB0.out.cell 9⟩) (fun hHeld => ?_)
                  generalize w2.drew = w0 at *
                  refine tkH (i := 0) (oi := oLaw24r_11) (v := ?_) (.inl ⟨by rfl, ?_⟩) ?_
                  rotate_left
                  · (intro wq hSw; (try dsimp only at hSw); go_simp; first | done | with_reducible rfl)
                  try (simp only [Act.put, List.setIfInBounds_toArray, set16]; simp only [set4]; simp only [List.set_cons_zero])
                  refine tkH (i := 2) (oi := oLaw24r_12) (v := ?_) (.inl ⟨by rfl, ?_⟩) ?_
                  rotate_left
                  · (intro wq hSw; (try dsimp only at hSw); go_simp; first | done | with_reducible rfl)
                  try (simp only [Act.put, List.setIfInBounds_toArray, set16]; simp only [set4]; simp only [List.set_cons_succ, List.set_cons_zero])
                  refine tkH (i := 3) (oi := oLaw24r_13) (v := ?_) (.inl ⟨by rfl, ?_⟩) ?_
                  rotate_left
                  · (intro wq hSw; (try dsimp only at hSw); go_simp; first | done | with_reducible rfl)
                  try (simp only [Act.put, List.setIfInBounds_toArray, set16]; simp only [set4]; simp only [List.set_cons_succ, List.set_cons_zero])
                  refine wpAnyH_ready (rs := [1]) (by kernel_rfl) (by simp) ?_
                  refine AllReadyH.cons (o := oLaw24r_14) rfl (fun K hK => ?_) AllReadyH.nil
                  go_simp
                  refine (rclean HRA0.out).mono ?_
                  rintro e w3 ⟨rfl, hw3⟩
                  subst w3
                  refine hK.out _ _ ?_ (fun hHeld => ?_)
                  · exact ⟨HB0.out.cell 7, HB0.out.cell 8, HB0.out.cell 9⟩
                  clear hK K
                  try (simp only [Act.put, List.setIfInBounds_toArray, set16]; simp only [set4]; simp only [List.set_cons_succ, List.set_cons_zero])
                  refine tkH (i := 4) (oi := oLaw24r_15) (v := (.bool true)) (.inl ⟨by rfl, ?_⟩) ?_
                  · (intro wq hSw; (try dsimp only at hSw); go_simp; first | done | with_reducible rfl | simp)
                  try (simp only [Act.put, List.setIfInBounds_toArray, set16]; simp only [List.set_cons_zero])
                  refine tkH (i := 5) (oi := oLaw24r_16) (v := ?_) (.inl ⟨by rfl, ?_⟩) ?_
                  rotate_left
                  · (intro wq hSw; (try dsimp only at hSw); go_simp; first | done | with_reducible rfl)
                  try (simp only [Act.put, List.setIfInBounds_toArray, set16]; simp only [List.set_cons_succ, List.set_cons_zero])
                  refine tkH (i := 6) (oi := oLaw24r_17) (v := ?_) (.inl ⟨by rfl, ?_⟩) ?_
                  rotate_left
                  · (intro wq hSw; (try dsimp only at hSw); go_simp; first | done | with_reducible rfl)
                  try (simp only [Act.put, List.setIfInBounds_toArray, set16]; simp only [List.set_cons_succ, List.set_cons_zero])
                  refine tkH (i := 7) (oi := oLaw24r_18) (v := ?_) (.inl ⟨by rfl, ?_⟩) ?_
                  rotate_left
                  · (intro wq hSw; (try dsimp only at hSw); go_simp; first | done | with_reducible rfl)
                  try (simp only [Act.put, List.setIfInBounds_toArray, set16]; simp only [List.set_cons_succ, List.set_cons_zero])
                  refine tkH (i := 8) (oi := oLaw24r_19) (v := ?_) (.inl ⟨by rfl, ?_⟩) ?_
                  rotate_left
                  · (intro wq hSw; (try dsimp only at hSw); go_simp; first | done | with_reducible rfl)
                  try (simp only [Act.put, List.setIfInBounds_toArray, set16]; simp only [set4]; simp only [List.set_cons_zero])
                  refine tkH (i := 9) (oi := oLaw24r_20) (v := ?_) (.inl ⟨by rfl, ?_⟩) ?_
                  rotate_left
                  · (intro wq hSw; (try dsimp only at hSw); go_simp; first | done | with_reducible rfl)
                  try (simp only [Act.put, List.setIfInBounds_toArray, set16]; simp only [set4]; simp only [List.set_cons_succ, List.set_cons_zero])
                  refine tkH (i := 10) (oi := oLaw24r_21) (v := ?_) (.inl ⟨by rfl, ?_⟩) ?_
                  rotate_left
                  · (intro wq hSw; (try dsimp only at hSw); go_simp; first | done | with_reducible rfl)
                  try (simp only [Act.put, List.setIfInBounds_toArray, set16]; simp only [set4]; simp only [List.set_cons_succ, List.set_cons_zero])
                  refine tkH (i := 11) (oi := oLaw24r_22) (v := (.bool true)) (.inl ⟨by rfl, ?_⟩) ?_
                  · (intro wq hSw; (try dsimp only at hSw); go_simp; first | done | with_reducible rfl | simp)
                  try (simp only [Act.put, List.setIfInBounds_toArray, set16]; simp only [set4]; simp only [List.set_cons_succ, List.set_cons_zero])
                  refine tkH (i := 12) (oi := oLaw24r_23) (v := ?_) (.inl ⟨by rfl, ?_⟩) ?_
                  rotate_left
                  · (intro wq hSw; (try dsimp only at hSw); go_simp; first | done | with_reducible rfl)
                  try (simp only [Act.put, List.setIfInBounds_toArray, set16]; simp only [set4]; simp only [List.set_cons_zero])
                  refine tkH (i := 13) (oi := oLaw24r_24) (v := ?_) (.inl ⟨by rfl, ?_⟩) ?_
                  rotate_left
                  · (intro wq hSw; (try dsimp only at hSw); go_simp; first | done | with_reducible rfl)
                  try (simp only [Act.put, List.setIfInBounds_toArray, set16]; simp only [set4]; simp only [List.set_cons_succ, List.set_cons_zero])
                  refine tkH (i := 14) (oi := oLaw24r_25) (v := ?_) (.inl ⟨by rfl, ?_⟩) ?_
                  rotate_left
                  · (intro wq hSw; (try dsimp only at hSw); go_simp; first | done | with_reducible rfl)
                  try (simp only [Act.put, List.setIfInBounds_toArray, set16]; simp only [set4]; simp only [List.set_cons_succ, List.set_cons_zero])
                  refine tkH (i := 15) (oi := oLaw24r_26) (v := ?_) (.inl ⟨by rfl, ?_⟩) ?_
                  rotate_left
                  · (intro wq hSw; (try dsimp only at hSw); go_simp; first | done | with_reducible rfl)
                  try (simp only [Act.put, List.setIfInBounds_toArray, set16]; simp only [set4]; simp only [List.set_cons_succ, List.set_cons_zero])
                  refine tkH (i := 16) (oi := oLaw24r_27) (v := ?_) (.inl ⟨by rfl, ?_⟩) ?_
                  rotate_left
                  · (intro wq hSw; (try dsimp only at hSw); go_simp; first | done | with_reducible rfl)
                  try (simp only [Act.put, List.setIfInBounds_toArray, set16]; simp only [set4]; simp only [List.set_cons_zero])
                  refine wpAnyH_ready (rs := [17]) (by kernel_rfl) (by simp) ?_
                  refine AllReadyH.cons (o := oLaw24r_28) rfl (fun K hK => ?_) AllReadyH.nil
                  go_simp
                  refine (prefix_any HKR0.out HRY0.out.l (List.prefix_refl _) (Nat.le_trans HRY0.out.ll (by omega))).mono ?_
                  rintro e w4 ⟨rfl, hn4⟩
                  have HN4 := Lib.hid (HN0.out.trans hn4)
                  have HRA4 := Lib.hid (HRA0.out.new hn4)
                  have HRY4 := Lib.hid (HRY0.out.new hn4)
                  have HB4 := Lib.hid (HB0.out.new hn4)
                  clear hn4
                  refine hK.out _ _ ?_ (fun hHeld => ?_)
                  · exact ⟨HB4.out.cell 7, HB4.out.cell 8, HB4.out.cell 9⟩
                  clear hK K
                  try (simp only [Act.put, List.setIfInBounds_toArray, set16]; simp only [set4]; simp only [List.set_cons_succ, List.set_cons_zero])
                  refine tkH (i := 18) (oi := oLaw24r_29) (v := ?_) (.inl ⟨by rfl, ?_⟩) ?_
                  rotate_left
                  · (intro wq hSw; (try dsimp only at hSw); go_simp; first | done | with_reducible rfl)
                  try (simp only [Act.put, List.setIfInBounds_toArray, set16]; simp only [set4]; simp only [List.set_cons_succ, List.set_cons_zero])
                  refine tkH (i := 19) (oi := oLaw24r_30) (v := ?_) (.inl ⟨by rfl, ?_⟩) ?_
                  rotate_left
                  · (intro wq hSw; (try dsimp only at hSw); go_simp; first | done | with_reducible rfl)
                  try (simp only [Act.put, List.setIfInBounds_toArray, set16]; simp only [set4]; simp only [List.set_cons_succ, List.set_cons_zero])
                  refine tkH (i := 20) (oi := oLaw24r_31) (v := ?_) (.inl ⟨by rfl, ?_⟩) ?_
                  rotate_left
                  · (intro wq hSw; (try dsimp only at hSw); go_simp; first | done | with_reducible rfl)
                  try (simp only [Act.put, List.setIfInBounds_toArray, set16]; simp only [List.set_cons_zero])
                  refine tkH (i := 22) (oi := oLaw24r_32) (v := ?_) (.inl ⟨by rfl, ?_⟩) ?_
                  rotate_left
                  · (intro wq hSw; (try dsimp only at hSw); go_simp; first | done | with_reducible rfl)
                  try (simp only [Act.put, List.setIfInBounds_toArray, set16]; simp only [List.set_cons_succ, List.set_cons_zero])
                  refine tkH (i := 23) (oi := oLaw24r_33) (v := ?_) (.inl ⟨by rfl, ?_⟩) ?_
                  rotate_left
                  · (intro wq hSw; (try dsimp only at hSw); go_simp; first | done | with_reducible rfl)
                  try (simp only [Act.put, List.setIfInBounds_toArray, set16]; simp only [List.set_cons_succ, List.set_cons_zero])
                  refine wpAnyH_ready (rs := [21]) (by kernel_rfl) (by simp) ?_
                  refine AllReadyH.cons (o := oLaw24r_34) rfl (fun K hK => ?_) AllReadyH.nil
                  go_simp
                  refine (rout HRA4.out).mono ?_
                  rintro e w5 ⟨rfl, hra5, hu5, hnt5⟩
                  have HNT := Lib.hid hnt5
                  have HB5 := Lib.hid (HB4.out.upd hu5 (fun e => HRL.out.nr (.inl e)))
                  have HRY5 := Lib.hid (HRY4.out.upd hu5 (fun j hj e => HRL.out.dj j hj (.inl e)) (Off.blk HRA4.out.blk (by decide)))
                  have HN5 := Lib.hid (HN4.out.upd hu5 (fun j e => HRL.out.gp j (.inl e)))
                  clear hra5 hu5 hnt5
                  refine hK.out _ _ ?_ (fun hHeld => ?_)
                  · exact ⟨HB5.out.cell 7, HB5.out.cell 8, HB5.out.cell 9⟩
                  clear hK K
                  try (simp only [Act.put, List.setIfInBounds_toArray, set16]; simp only [List.set_cons_succ, List.set_cons_zero])
                  refine wpAnyH_ready (rs := [24]) (by kernel_rfl) (by simp) ?_
                  refine AllReadyH.cons (o := oLaw24r_35) rfl (fun K hK => ?_) AllReadyH.nil
                  go_simp
                  refine (samenotes HNT.out HRY5.out.out (Nat.le_trans HRY5.out.ol (by omega))).mono ?_
                  rintro e w6 ⟨rfl, hn6⟩
                  have HN6 := Lib.hid (HN5.out.trans hn6)
                  have HB6 := Lib.hid (HB5.out.new hn6)
                  clear hn6
                  refine hK.out _ _ ?_ (fun hHeld => ?_)
                  · exact ⟨HB6.out.cell 7, HB6.out.cell 8, HB6.out.cell 9⟩
                  clear hK K
                  try (simp only [Act.put, List.setIfInBounds_toArray, set16]; simp only [set4]; simp only [List.set_cons_zero])
                  refine tkH (i := 25) (oi := oLaw24r_36) (v := ?_) (.inl ⟨by rfl, ?_⟩) ?_
                  rotate_left
                  · (intro wq hSw; (try dsimp only at hSw); go_simp; first | done | with_reducible rfl)
                  try (simp only [Act.put, List.setIfInBounds_toArray, set16]; simp only [set4]; simp only [List.set_cons_succ, List.set_cons_zero])
                  refine tkH (i := 26) (oi := oLaw24r_37) (v := ?_) (.inl ⟨by rfl, ?_⟩) ?_
                  rotate_left
                  · (intro wq hSw; (try dsimp only at hSw); go_simp; first | done | with_reducible rfl)
                  try (simp only [Act.put, List.setIfInBounds_toArray, set4]; simp only [List.set_cons_succ, List.set_cons_zero])
                  refine wpAnyH_done (by kernel_rfl) ?_ _
                  clear hHeld
                  go_wp2_with fail
                  go_ret
                  exact ⟨rfl, HN.out.trans HN6.out⟩
              · have hlt2 : ¬ (k : Int) < (l1.length : Int) := by omega
                go_wp2_with fail
                refine (rlist HRL.out.ra (by omega)).mono ?_
                rintro e w2 ⟨kv, rfl, hkr, hn2⟩
                obtain ⟨kA, kc, rfl⟩ := hkr.shape
                have HKR0 := Lib.hid ((BtRow.lower hkr (Nat.zero_le _)).new (New.refl w2).drew)
                have HN0 := Lib.hid ((HRL.out.nw.trans hn2).drew)
                have HRA0 := Lib.hid ((HRL.out.ra.new hn2).new (New.refl w2).drew)
                have HRY0 := Lib.hid ((HRY.out.new hn2).new (New.refl w2).drew)
                have hb := ((HRL.out.bx.new hn2).new (New.refl w2).drew)
                dsimp only [RrV.cells] at hb
                have HB0 := Lib.hid hb
                clear hkr hn2 hb p0 p1 p2 pz
                go_upto_region 30 with fail
                refine wp_region_held_drew (S := fun w' => w'.cell? ⟨g9, 7, none⟩ = some (.slice lA5 l5.length lc5) ∧ w'.cell? ⟨g9, 8, none⟩ = some (.int .u64 (cl5 : Int)) ∧ w'.cell? ⟨g9, 9, none⟩ = some (.slice oA5 out5.length oc5)) (by kernel_rfl) (⟨HB0.out.cell 7, HB0.out.cell 8, HB0.out.cell 9⟩) (fun hHeld => ?_)
                generalize w2.drew = w0 at *
                refine tkH (i := 0) (oi := oLaw24r_11) (v := ?_) (.inl ⟨by rfl, ?_⟩) ?_
                rotate_left
                · (intro wq hSw; (try dsimp only at hSw); go_simp; first | done | with_reducible rfl)
                try (simp only [Act.put, List.setIfInBounds_toArray, set16]; simp only [set4]; simp only [List.set_cons_zero])
                refine tkH (i := 2) (oi := oLaw24r_12) (v := ?_) (.inl ⟨by rfl, ?_⟩) ?_
                rotate_left
                · (intro wq hSw; (try dsimp only at hSw); go_simp; first | done | with_reducible rfl)
                try (simp only [Act.put, List.setIfInBounds_toArray, set16]; simp only [set4]; simp only [List.set_cons_succ, List.set_cons_zero])
                refine tkH (i := 3) (oi := oLaw24r_13) (v := ?_) (.inl ⟨by rfl, ?_⟩) ?_
                rotate_left
                · (intro wq hSw; (try dsimp only at hSw); go_simp; first | done | with_reducible rfl)
                try (simp only [Act.put, List.setIfInBounds_toArray, set16]; simp only [set4]; simp only [List.set_cons_succ, List.set_cons_zero])
                refine wpAnyH_ready (rs := [1]) (by kernel_rfl) (by simp) ?_
                refine AllReadyH.cons (o := oLaw24r_14) rfl (fun K hK => ?_) AllReadyH.nil
                go_simp
                refine (rclean HRA0.out).mono ?_
                rintro e w3 ⟨rfl, hw3⟩
                subst w3
                refine hK.out _ _ ?_ (fun hHeld => ?_)
                · exact ⟨HB0.out.cell 7, HB0.out.cell 8, HB0.out.cell 9⟩
                clear hK K
                try (simp only [Act.put, List.setIfInBounds_toArray, set16]; simp only [set4]; simp only [List.set_cons_succ, List.set_cons_zero])
                refine tkH (i := 4) (oi := oLaw24r_15) (v := (.bool true)) (.inl ⟨by rfl, ?_⟩) ?_
                · (intro wq hSw; (try dsimp only at hSw); go_simp; first | done | with_reducible rfl | simp)
                try (simp only [Act.put, List.setIfInBounds_toArray, set16]; simp only [List.set_cons_zero])
                refine tkH (i := 5) (oi := oLaw24r_16) (v := ?_) (.inl ⟨by rfl, ?_⟩) ?_
                rotate_left
                · (intro wq hSw; (try dsimp only at hSw); go_simp; first | done | with_reducible rfl)
                try (simp only [Act.put, List.setIfInBounds_toArray, set16]; simp only [List.set_cons_succ, List.set_cons_zero])
                refine tkH (i := 6) (oi := oLaw24r_17) (v := ?_) (.inl ⟨by rfl, ?_⟩) ?_
                rotate_left
                · (intro wq hSw; (try dsimp only at hSw); go_simp; first | done | with_reducible rfl)
                try (simp only [Act.put, List.setIfInBounds_toArray, set16]; simp only [List.set_cons_succ, List.set_cons_zero])
                refine tkH (i := 7) (oi := oLaw24r_18) (v := ?_) (.inl ⟨by rfl, ?_⟩) ?_
                rotate_left
                · (intro wq hSw; (try dsimp only at hSw); go_simp; first | done | with_reducible rfl)
                try (simp only [Act.put, List.setIfInBounds_toArray, set16]; simp only [List.set_cons_succ, List.set_cons_zero])
                refine tkH (i := 8) (oi := oLaw24r_19) (v := ?_) (.inl ⟨by rfl, ?_⟩) ?_
                rotate_left
                · (intro wq hSw; (try dsimp only at hSw); go_simp; first | done | with_reducible rfl)
                try (simp only [Act.put, List.setIfInBounds_toArray, set16]; simp only [set4]; simp only [List.set_cons_zero])
                refine tkH (i := 9) (oi := oLaw24r_20) (v := ?_) (.inl ⟨by rfl, ?_⟩) ?_
                rotate_left
                · (intro wq hSw; (try dsimp only at hSw); go_simp; first | done | with_reducible rfl)
                try (simp only [Act.put, List.setIfInBounds_toArray, set16]; simp only [set4]; simp only [List.set_cons_succ, List.set_cons_zero])
                refine tkH (i := 10) (oi := oLaw24r_21) (v := ?_) (.inl ⟨by rfl, ?_⟩) ?_
                rotate_left
                · (intro wq hSw; (try dsimp only at hSw); go_simp; first | done | with_reducible rfl)
                try (simp only [Act.put, List.setIfInBounds_toArray, set16]; simp only [set4]; simp only [List.set_cons_succ, List.set_cons_zero])
                refine tkH (i := 11) (oi := oLaw24r_22) (v := (.bool true)) (.inl ⟨by rfl, ?_⟩) ?_
                · (intro wq hSw; (try dsimp only at hSw); go_simp; first | done | with_reducible rfl | simp)
                try (simp only [Act.put, List.setIfInBounds_toArray, set16]; simp only [set4]; simp only [List.set_cons_succ, List.set_cons_zero])
                refine tkH (i := 12) (oi := oLaw24r_23) (v := ?_) (.inl ⟨by rfl, ?_⟩) ?_
                rotate_left
                · (intro wq hSw; (try dsimp only at hSw); go_simp; first | done | with_reducible rfl)
                try (simp only [Act.put, List.setIfInBounds_toArray, set16]; simp only [set4]; simp only [List.set_cons_zero])
                refine tkH (i := 13) (oi := oLaw24r_24) (v := ?_) (.inl ⟨by rfl, ?_⟩) ?_
                rotate_left
                · (intro wq hSw; (try dsimp only at hSw); go_simp; first | done | with_reducible rfl)
                try (simp only [Act.put, List.setIfInBounds_toArray, set16]; simp only [set4]; simp only [List.set_cons_succ, List.set_cons_zero])
                refine tkH (i := 14) (oi := oLaw24r_25) (v := ?_) (.inl ⟨by rfl, ?_⟩) ?_
                rotate_left
                · (intro wq hSw; (try dsimp only at hSw); go_simp; first | done | with_reducible rfl)
                try (simp only [Act.put, List.setIfInBounds_toArray, set16]; simp only [set4]; simp only [List.set_cons_succ, List.set_cons_zero])
                refine tkH (i := 15) (oi := oLaw24r_26) (v := ?_) (.inl ⟨by rfl, ?_⟩) ?_
                rotate_left
                · (intro wq hSw; (try dsimp only at hSw); go_simp; first | done | with_reducible rfl)
                try (simp only [Act.put, List.setIfInBounds_toArray, set16]; simp only [set4]; simp only [List.set_cons_succ, List.set_cons_zero])
                refine tkH (i := 16) (oi := oLaw24r_27) (v := ?_) (.inl ⟨by rfl, ?_⟩) ?_
                rotate_left
                · (intro wq hSw; (try dsimp only at hSw); go_simp; first | done | with_reducible rfl)
                try (simp only [Act.put, List.setIfInBounds_toArray, set16]; simp only [set4]; simp only [List.set_cons_zero])
                refine wpAnyH_ready (rs := [17]) (by kernel_rfl) (by simp) ?_
                refine AllReadyH.cons (o := oLaw24r_28) rfl (fun K hK => ?_) AllReadyH.nil
                go_simp
                refine (prefix_any HKR0.out HRY0.out.l (List.prefix_refl _) (Nat.le_trans HRY0.out.ll (by omega))).mono ?_
                rintro e w4 ⟨rfl, hn4⟩
                have HN4 := Lib.hid (HN0.out.trans hn4)
                have HRA4 := Lib.hid (HRA0.out.new hn4)
                have HRY4 := Lib.hid (HRY0.out.new hn4)
                have HB4 := Lib.hid (HB0.out.new hn4)
                clear hn4
                refine hK.out _ _ ?_ (fun hHeld => ?_)
                · exact ⟨HB4.out.cell 7, HB4.out.cell 8, HB4.out.cell 9⟩
                clear hK K
                try (simp only [Act.put, List.setIfInBounds_toArray, set16]; simp only [set4]; simp only [List.set_cons_succ, List.set_cons_zero])
                refine tkH (i := 18) (oi := oLaw24r_29) (v := ?_) (.inl ⟨by rfl, ?_⟩) ?_
                rotate_left
                · (intro wq hSw; (try dsimp only at hSw); go_simp; first | done | with_reducible rfl)
                try (simp only [Act.put, List.setIfInBounds_toArray, set16]; simp only [set4]; simp only [List.set_cons_succ, List.set_cons_zero])
                refine tkH (i := 19) (oi := oLaw24r_30) (v := ?_) (.inl ⟨by rfl, ?_⟩) ?_
                rotate_left
                · (intro wq hSw; (try dsimp only at hSw); go_simp; first | done | with_reducible rfl)
                try (simp only [Act.put, List.setIfInBounds_toArray, set16]; simp only [set4]; simp only [List.set_cons_succ, List.set_cons_zero])
                refine tkH (i := 20) (oi := oLaw24r_31) (v := ?_) (.inl ⟨by rfl, ?_⟩) ?_
                rotate_left
                · (intro wq hSw; (try dsimp only at hSw); go_simp; first | done | with_reducible rfl)
                try (simp only [Act.put, List.setIfInBounds_toArray, set16]; simp only [List.set_cons_zero])
                refine tkH (i := 22) (oi := oLaw24r_32) (v := ?_) (.inl ⟨by rfl, ?_⟩) ?_
                rotate_left
                · (intro wq hSw; (try dsimp only at hSw); go_simp; first | done | with_reducible rfl)
                try (simp only [Act.put, List.setIfInBounds_toArray, set16]; simp only [List.set_cons_succ, List.set_cons_zero])
                refine tkH (i := 23) (oi := oLaw24r_33) (v := ?_) (.inl ⟨by rfl, ?_⟩) ?_
                rotate_left
                · (intro wq hSw; (try dsimp only at hSw); go_simp; first | done | with_reducible rfl)
                try (simp only [Act.put, List.setIfInBounds_toArray, set16]; simp only [List.set_cons_succ, List.set_cons_zero])
                refine wpAnyH_ready (rs := [21]) (by kernel_rfl) (by simp) ?_
                refine AllReadyH.cons (o := oLaw24r_34) rfl (fun K hK => ?_) AllReadyH.nil
                go_simp
                refine (rout HRA4.out).mono ?_
                rintro e w5 ⟨rfl, hra5, hu5, hnt5⟩
                have HNT := Lib.hid hnt5
                have HB5 := Lib.hid (HB4.out.upd hu5 (fun e => HRL.out.nr (.inl e)))
                have HRY5 := Lib.hid (HRY4.out.upd hu5 (fun j hj e => HRL.out.dj j hj (.inl e)) (Off.blk HRA4.out.blk (by decide)))
                have HN5 := Lib.hid (HN4.out.upd hu5 (fun j e => HRL.out.gp j (.inl e)))
                clear hra5 hu5 hnt5
                refine hK.out _ _ ?_ (fun hHeld => ?_)
                · exact ⟨HB5.out.cell 7, HB5.out.cell 8, HB5.out.cell 9⟩
                clear hK K
                try (simp only [Act.put, List.setIfInBounds_toArray, set16]; simp only [List.set_cons_succ, List.set_cons_zero])
                refine wpAnyH_ready (rs := [24]) (by kernel_rfl) (by simp) ?_
                refine AllReadyH.cons (o := oLaw24r_35) rfl (fun K hK => ?_) AllReadyH.nil
                go_simp
                refine (samenotes HNT.out HRY5.out.out (Nat.le_trans HRY5.out.ol (by omega))).mono ?_
                rintro e w6 ⟨rfl, hn6⟩
                have HN6 := Lib.hid (HN5.out.trans hn6)
                have HB6 := Lib.hid (HB5.out.new hn6)
                clear hn6
                refine hK.out _ _ ?_ (fun hHeld => ?_)
                · exact ⟨HB6.out.cell 7, HB6.out.cell 8, HB6.out.cell 9⟩
                clear hK K
                try (simp only [Act.put, List.setIfInBounds_toArray, set16]; simp only [set4]; simp only [List.set_cons_zero])
                refine tkH (i := 25) (oi := oLaw24r_36) (v := ?_) (.inl ⟨by rfl, ?_⟩) ?_
                rotate_left
                · (intro wq hSw; (try dsimp only at hSw); go_simp; first | done | with_reducible rfl)
                try (simp only [Act.put, List.setIfInBounds_toArray, set16]; simp only [set4]; simp only [List.set_cons_succ, List.set_cons_zero])
                refine tkH (i := 26) (oi := oLaw24r_37) (v := ?_) (.inl ⟨by rfl, ?_⟩) ?_
                rotate_left
                · (intro wq hSw; (try dsimp only at hSw); go_simp; first | done | with_reducible rfl)
                try (simp only [Act.put, List.setIfInBounds_toArray, set4]; simp only [List.set_cons_succ, List.set_cons_zero])
                refine wpAnyH_done (by kernel_rfl) ?_ _
                clear hHeld
                go_wp2_with fail
                go_ret
                exact ⟨rfl, HN.out.trans HN6.out⟩
end
end Go.Proofs.YtecniafnihpjmaaGreatDoor
