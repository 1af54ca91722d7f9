/- Chapter 24's reference: New, Loaded, added. Printed by genRsG.py. -/
import Derived.Test.YtecniafnihpjmaaGreatDoorTk
import Derived.Test.YtecniafnihpjmaaGreatDoorRsF
namespace Go.Proofs.YtecniafnihpjmaaGreatDoor
open Go.RowKit Go.Lap C
set_option linter.unusedVariables false
set_option linter.unusedSimpArgs false
section
variable {w w' W : World} {B : Nat} {y : RrV} {x : Rpl} {b : BtV}
theorem RrAt.box (h : RrAt w B y x) {g t : Nat} {cs : Array Value} (hb : Blk w g t cs) (hu : Upd (· = g) w w') (hf : ∀ k, RrF y k → k ≠ g) (h1 : t ≠ 97) : RrAt w' B y x := h.upd hu (fun k hk e => hf k hk e) (Off.blk hb h1)
theorem RrPost.form {e : Ending} {y0 : RrV} (h : RrPost w B y0 x e w') : ∃ (id : Int) (ep : Nat) (ms : List Int) (j : Jd) (l : List Btc) (cl : Nat) (out : List Nt) (la : Nat) (L : List SdV) (cA : Option Addr) (cc : Nat) (sA : Option Addr) (sc : Nat) (tA : Option Addr) (tc : Nat) (lA : Option Addr) (lc : Nat) (oA : Option Addr) (oc : Nat), x = ⟨id, ⟨ep, ms⟩, j, l, cl, out⟩ ∧ e = .returned (.agg #[.int .i64 id, .int .u64 (ep : Int), .slice cA ms.length cc, .int .u64 0, .int .u64 (la : Int), .slice sA L.length sc, .slice tA L.length tc, .slice lA l.length lc, .int .u64 (cl : Int), .slice oA out.length oc]) ∧
    RrAt w' B (⟨id, ep, .slice cA ms.length cc, ⟨la, L, .slice sA L.length sc, .slice tA L.length tc⟩, .slice lA l.length lc, cl, .slice oA out.length oc⟩ : RrV) (⟨id, ⟨ep, ms⟩, j, l, cl, out⟩ : Rpl) ∧ New w w' ∧ ∀ k, RrF (⟨id, ep, .slice cA ms.length cc, ⟨la, L, .slice sA L.length sc, .slice tA L.length tc⟩, .slice lA l.length lc, cl, .slice oA out.length oc⟩ : RrV) k → RrF y0 k ∨ w.heap.size ≤ k := by
  obtain ⟨y, rfl, h1, h2, h3⟩ := h
  obtain ⟨la, L, cA, cc, sA, sc, tA, tc, lA, lc, oA, oc, rfl⟩ := h1.form
  obtain ⟨id, ⟨ep, ms⟩, j, l, cl, out⟩ := x
  exact ⟨id, ep, ms, j, l, cl, out, la, L, cA, cc, sA, sc, tA, tc, lA, lc, oA, oc, rfl, rfl, h1, h2, h3⟩
/-- A batch more behind the list, in memory. -/
theorem RrAt.setL (h : RrAt w B y x) (hn : New w w') (hb : BtAt w' b) {ps : List BtV} (hps : ps.map BtV.b = x.l) (hok : ∀ p ∈ ps, BtAt w' p) {v : Value} {bs : Nat} (hr : Row w' bs 40 4 BtV.enc v (([] ++ ps) ++ [b])) : RrAt w' (B + 1) { y with lv := v } { x with l := x.l ++ [b.b] } := by
  rw [List.nil_append] at hr
  have hx := h.new hn
  exact { hx.mono (Nat.le_succ B) with
    l := ⟨ps ++ [b], by rw [List.map_append, hps]; rfl, hr.lower (Nat.zero_le _), fun p hp => (List.mem_append.1 hp).elim (hok p) (fun hp => by rw [List.mem_singleton.1 hp]; exact hb)⟩
    ll := by have := h.ll; dsimp only; rw [List.length_append, List.length_singleton]; omega }
set_option maxRecDepth 100000 in
set_option maxHeartbeats 4000000 in
theorem rrnew (id : Int) (c : Cfg) {cv : Value} (hc : SlIn w 1 iEnc cv c.ms) (h7 : c.ms.length ≤ 1000) (he : c.e < big) :
    Calls Tryz.prog 10 #[.int .i64 id, .agg #[.int .u64 (c.e : Int), cv]] w fun e w' => ∃ y : RrV, e = .returned y.val ∧ RrAt w' 0 y (Rpl.new_ id c) ∧ New w w' ∧ ∀ k, RrF y k → cvF cv k := by
  obtain ⟨ep, ms⟩ := c
  obtain ⟨cA, cc, rfl⟩ := hc.form
  dsimp only at *
  have hN := ((New.refl w).alloc (.cells #[.int .u64 (ep : Int), .slice cA ms.length cc] 25)).alloc (.cells #[.int .i64 0, .int .u64 0, .slice none 0 0, .int .u64 0, .int .u64 0, .slice none 0 0, .slice none 0 0, .slice none 0 0, .int .u64 0, .slice none 0 0] 36)
  have h1 := (Blk.mk_new (w) 25 #[.int .u64 (ep : Int), .slice cA ms.length cc]).alloc (.cells #[.int .i64 0, .int .u64 0, .slice none 0 0, .int .u64 0, .int .u64 0, .slice none 0 0, .slice none 0 0, .slice none 0 0, .int .u64 0, .slice none 0 0] 36)
  have h2 := Blk.mk_new (w.alloc (.cells #[.int .u64 (ep : Int), .slice cA ms.length cc] 25)) 36 #[.int .i64 0, .int .u64 0, .slice none 0 0, .int .u64 0, .int .u64 0, .slice none 0 0, .slice none 0 0, .slice none 0 0, .int .u64 0, .slice none 0 0]
  simp only [World.size_alloc] at h2
  have HN := Lib.hid hN
  have H1 := Lib.hid h1
  have H2 := Lib.hid h2
  clear hN h1 h2
  have HC := Lib.hid hc
  have HX : Hid (ms.length ≤ 1000 ∧ ep < big) := Lib.hid ⟨h7, he⟩
  clear hc h7 he
  go_enter Tryz.func10, Tryz.ntmps10
  go_upto_region 1 with fail
  generalize (w.alloc (.cells #[.int .u64 (ep : Int), .slice cA ms.length cc] 25)).alloc (.cells #[.int .i64 0, .int .u64 0, .slice none 0 0, .int .u64 0, .int .u64 0, .slice none 0 0, .slice none 0 0, .slice none 0 0, .int .u64 0, .slice none 0 0] 36) = W at *
  obtain ⟨p0, p1, p2, pz⟩ := Blk2R H1.out
  obtain ⟨r0, r1, r2, r3, r4, r5, r6, r7, r8, r9, r10, rz⟩ := Blk10R H2.out
  go_wp2_with fail
  have hu9 : Upd (· = w.heap.size + 1) W ((((((((((W.setCell ⟨w.heap.size + 1, 0, none⟩ (.int .i64 id)).setCell ⟨w.heap.size + 1, 1, none⟩ (.int .u64 (ep : Int))).setCell ⟨w.heap.size + 1, 2, none⟩ (.slice cA ms.length cc)).setCell ⟨w.heap.size + 1, 3, none⟩ (.int .u64 0)).setCell ⟨w.heap.size + 1, 4, none⟩ (.int .u64 0)).setCell ⟨w.heap.size + 1, 5, none⟩ (.slice none 0 0)).setCell ⟨w.heap.size + 1, 6, none⟩ (.slice none 0 0)).setCell ⟨w.heap.size + 1, 7, none⟩ (.slice none 0 0)).setCell ⟨w.heap.size + 1, 8, none⟩ (.int .u64 0)).setCell ⟨w.heap.size + 1, 9, none⟩ (.slice none 0 0)) := ((((((((((Upd.refl _ W).setIn 0 _).setIn 1 _).setIn 2 _).setIn 3 _).setIn 4 _).setIn 5 _).setIn 6 _).setIn 7 _).setIn 8 _).setIn 9 _
  have hn9 := HN.out.upd hu9 (fun i e => by omega)
  exact bodyPost_ret (v := .agg #[.int .i64 id, .int .u64 (ep : Int), .slice cA ms.length cc, .int .u64 0, .int .u64 0, .slice none 0 0, .slice none 0 0, .slice none 0 0, .int .u64 0, .slice none 0 0]) (by simp [results, Tryz.results10, go_sem, r1, r2, r3, r4, r5, r6, r7, r8, r9, r10]) rfl ⟨⟨id, ep, .slice cA ms.length cc, ⟨0, [], .slice none 0 0, .slice none 0 0⟩, .slice none 0 0, 0, .slice none 0 0⟩, rfl,
    { id := rfl, ep := rfl, cf := HC.out.new hn9, c7 := HX.out.1, ce := HX.out.2, jk := ⟨Row.nil _ _ _ _ _, Row.nil _ _ _ _ _, Nat.zero_le _, (fun _ h => by cases h), (by unfold big; dsimp only; omega)⟩, jr := ⟨rfl, fun _ => rfl, fun _ => rfl⟩, l := BtRow.nil _ _, cl := rfl, out := NtRow.nil _ _, ll := Nat.le_refl _, ol := Nat.le_refl _, cb := Nat.le_refl _, jl := Nat.le_refl _ }, hn9, fun k hk => by rcases hk with (h | h) | h | h | h <;> first | exact h | cases h⟩
/-- A batch taken as committed. -/
def Rpl.loaded (x : Rpl) (b : Btc) : Rpl := if (x.j.load b).2 = 0 then { x with j := (x.j.load b).1, l := x.l ++ [b] } else x
theorem Rpl.loaded_ok {b : Btc} (h : (x.j.load b).2 = 0) : x.loaded b = { x with j := (x.j.load b).1, l := x.l ++ [b] } := if_pos h
theorem Rpl.loaded_no {b : Btc} (h : ¬ (x.j.load b).2 = 0) : x.loaded b = x := if_neg h
set_option maxRecDepth 100000 in
set_option maxHeartbeats 8000000 in
theorem rrloaded (h : RrAt w B y x) (hb : BtAt w b) (hB : B ≤ 1000) :
    Calls Tryz.prog 13 #[y.val, b.val] w (RrPost w (B + 1) y (x.loaded b.b)) := by
  obtain ⟨id, ⟨ep, ms⟩, j, l, cl, out⟩ := x
  obtain ⟨la, L, cA, cc, sA, sc, tA, tc, lA, lc, oA, oc, rfl⟩ := h.form
  obtain ⟨⟨bc, br, bs, bl⟩, bA, bcap⟩ := b
  have HB := Lib.hid hb
  have HH := Lib.hid h
  obtain ⟨ps, hps, hrow, hok⟩ := h.l
  dsimp only [RrV.val, RrV.cells, BtV.val, BtV.sl, batV] at hps hrow hok ⊢
  have hpl : ps.length ≤ 1000 := by have := h.ll; rw [← hps, List.length_map] at this; omega
  have HPS := Lib.hid hps
  have HROW := Lib.hid hrow
  have HOK := Lib.hid hok
  have HM1 : Hid (([] : List BtV).length + ps.length ≤ maxLen) := Lib.hid (by simp; unfold maxLen; omega)
  have HM2 : Hid ((([] : List BtV).length + ps.length) * 48 ≤ 140737488355328) := Lib.hid (by simp; omega)
  have HM3 : Hid (∀ e : BtV, ([] ++ ps).length + [e].length ≤ maxLen) := Lib.hid (fun e => by simp; unfold maxLen; omega)
  have HM4 : Hid (∀ e : BtV, (([] ++ ps).length + [e].length) * 48 ≤ 140737488355328) := Lib.hid (fun e => by simp; omega)
  have HJL : Hid (L.length < 100000) := Lib.hid (by have := h.jl; dsimp only at this; omega)
  have hN := (((New.refl w).alloc (.cells #[.int .i64 id, .int .u64 (ep : Int), .slice cA ms.length cc, .int .u64 0, .int .u64 (la : Int), .slice sA L.length sc, .slice tA L.length tc, .slice lA l.length lc, .int .u64 (cl : Int), .slice oA out.length oc] 36)).alloc (.cells #[.int .u64 (bc : Int), .int .u64 (br : Int), .int .u64 (bs : Int), .slice bA bl.length bcap] 40)).alloc (.cells #[.int .i64 0, .int .u64 0, .slice none 0 0, .int .u64 0, .int .u64 0, .slice none 0 0, .slice none 0 0, .slice none 0 0, .int .u64 0, .slice none 0 0] 36)
  have h1 := ((Blk.mk_new (w) 36 #[.int .i64 id, .int .u64 (ep : Int), .slice cA ms.length cc, .int .u64 0, .int .u64 (la : Int), .slice sA L.length sc, .slice tA L.length tc, .slice lA l.length lc, .int .u64 (cl : Int), .slice oA out.length oc]).alloc (.cells #[.int .u64 (bc : Int), .int .u64 (br : Int), .int .u64 (bs : Int), .slice bA bl.length bcap] 40)).alloc (.cells #[.int .i64 0, .int .u64 0, .slice none 0 0, .int .u64 0, .int .u64 0, .slice none 0 0, .slice none 0 0, .slice none 0 0, .int .u64 0, .slice none 0 0] 36)
  have h2 := (Blk.mk_new (w.alloc (.cells #[.int .i64 id, .int .u64 (ep : Int), .slice cA ms.length cc, .int .u64 0, .int .u64 (la : Int), .slice sA L.length sc, .slice tA L.length tc, .slice lA l.length lc, .int .u64 (cl : Int), .slice oA out.length oc] 36)) 40 #[.int .u64 (bc : Int), .int .u64 (br : Int), .int .u64 (bs : Int), .slice bA bl.length bcap]).alloc (.cells #[.int .i64 0, .int .u64 0, .slice none 0 0, .int .u64 0, .int .u64 0, .slice none 0 0, .slice none 0 0, .slice none 0 0, .int .u64 0, .slice none 0 0] 36)
  have h3 := Blk.mk_new ((w.alloc (.cells #[.int .i64 id, .int .u64 (ep : Int), .slice cA ms.length cc, .int .u64 0, .int .u64 (la : Int), .slice sA L.length sc, .slice tA L.length tc, .slice lA l.length lc, .int .u64 (cl : Int), .slice oA out.length oc] 36)).alloc (.cells #[.int .u64 (bc : Int), .int .u64 (br : Int), .int .u64 (bs : Int), .slice bA bl.length bcap] 40)) 36 #[.int .i64 0, .int .u64 0, .slice none 0 0, .int .u64 0, .int .u64 0, .slice none 0 0, .slice none 0 0, .slice none 0 0, .int .u64 0, .slice none 0 0]
  simp only [World.size_alloc] at h2 h3
  have HN := Lib.hid hN
  have H1 := Lib.hid h1
  have H2 := Lib.hid h2
  have H3 := Lib.hid h3
  clear hN h1 h2 h3
  clear h hb hps hrow hok hpl
  go_enter Tryz.func13, Tryz.ntmps13
  go_upto_region 1 with fail
  generalize ((w.alloc (.cells #[.int .i64 id, .int .u64 (ep : Int), .slice cA ms.length cc, .int .u64 0, .int .u64 (la : Int), .slice sA L.length sc, .slice tA L.length tc, .slice lA l.length lc, .int .u64 (cl : Int), .slice oA out.length oc] 36)).alloc (.cells #[.int .u64 (bc : Int), .int .u64 (br : Int), .int .u64 (bs : Int), .slice bA bl.length bcap] 40)).alloc (.cells #[.int .i64 0, .int .u64 0, .slice none 0 0, .int .u64 0, .int .u64 0, .slice none 0 0, .slice none 0 0, .slice none 0 0, .int .u64 0, .slice none 0 0] 36) = W at *
  obtain ⟨q0, q1, q2, q3, q4, q5, q6, q7, q8, q9, q10, qz⟩ := Blk10R H1.out
  obtain ⟨p0, p1, p2, p3, p4, pz⟩ := Blk4R H2.out
  go_wp2_with fail
  refine (rload_any (x := ⟨la, L, .slice sA L.length sc, .slice tA L.length tc⟩) (j := j) (b := ⟨⟨bc, br, bs, bl⟩, bA, bcap⟩) (HH.out.jk.new HN.out) HH.out.jr (HB.out.new HN.out) HJL.out).mono ?_
  rintro e wB ⟨z, a, rfl, hzk, hzr, hzl, hnB, hzf⟩
  obtain ⟨zla, zL, zsv, ztv⟩ := z
  have hss := hzk.s.shape
  have hts := hzk.t.shape
  rw [List.length_map] at hts
  dsimp only at hss hts hzl hzr
  obtain ⟨zsA, zsc, rfl⟩ := hss
  obtain ⟨ztA, ztc, rfl⟩ := hts
  dsimp only [RjV.val]
  have HZK := Lib.hid hzk
  have HZR := Lib.hid hzr
  have HZL := Lib.hid hzl
  have HZF := Lib.hid hzf
  have HNB := Lib.hid hnB
  have HHX := Lib.hid (H1.out.new hnB)
  have HRX := Lib.hid (H3.out.new hnB)
  have HBX := Lib.hid (H2.out.new hnB)
  clear hzk hzr hzl hzf hnB q0 q1 q2 q3 q4 q5 q6 q7 q8 q9 q10 qz p0 p1 p2 p3 p4 pz
  obtain ⟨q0, q1, q2, q3, q4, q5, q6, q7, q8, q9, q10, qz⟩ := Blk10R HHX.out
  by_cases her : (j.load ⟨bc, br, bs, bl⟩).2 = 0
  case neg =>
    have hb1 : ((j.load ⟨bc, br, bs, bl⟩).2 == 0) = false := beq_eq_false_iff_ne.2 her
    have HE : Hid ((⟨id, ⟨ep, ms⟩, j, l, cl, out⟩ : Rpl).loaded ⟨bc, br, bs, bl⟩ = (⟨id, ⟨ep, ms⟩, j, l, cl, out⟩ : Rpl)) := Lib.hid (Rpl.loaded_no her)
    clear her
    generalize (j.load ⟨bc, br, bs, bl⟩).2 = er at *
    go_upto_region 5 with fail
    have hna := (New.refl wB).alloc (.cells #[.int .u64 0, .int .u64 (zla : Int), .slice zsA zL.length zsc, .slice ztA zL.length ztc] 33)
    have HNC := Lib.hid (HNB.out.trans hna)
    clear q0 q1 q2 q3 q4 q5 q6 q7 q8 q9 q10 qz
    have HHY := Lib.hid (HHX.out.new hna)
    have HRY := Lib.hid (HRX.out.new hna)
    clear hna
    generalize wB.alloc (.cells #[.int .u64 0, .int .u64 (zla : Int), .slice zsA zL.length zsc, .slice ztA zL.length ztc] 33) = wC at *
    obtain ⟨q0, q1, q2, q3, q4, q5, q6, q7, q8, q9, q10, qz⟩ := Blk10R HHY.out
    obtain ⟨r0, r1, r2, r3, r4, r5, r6, r7, r8, r9, r10, rz⟩ := Blk10R HRY.out
    go_wp2_with fail
    have hu9 : Upd (· = w.heap.size + 2) wC ((((((((((wC.setCell ⟨w.heap.size + 2, 0, none⟩ (.int .i64 id)).setCell ⟨w.heap.size + 2, 1, none⟩ (.int .u64 (ep : Int))).setCell ⟨w.heap.size + 2, 2, none⟩ (.slice cA ms.length cc)).setCell ⟨w.heap.size + 2, 3, none⟩ (.int .u64 0)).setCell ⟨w.heap.size + 2, 4, none⟩ (.int .u64 (la : Int))).setCell ⟨w.heap.size + 2, 5, none⟩ (.slice sA L.length sc)).setCell ⟨w.heap.size + 2, 6, none⟩ (.slice tA L.length tc)).setCell ⟨w.heap.size + 2, 7, none⟩ (.slice lA l.length lc)).setCell ⟨w.heap.size + 2, 8, none⟩ (.int .u64 (cl : Int))).setCell ⟨w.heap.size + 2, 9, none⟩ (.slice oA out.length oc)) := ((((((((((Upd.refl _ wC).setIn 0 _).setIn 1 _).setIn 2 _).setIn 3 _).setIn 4 _).setIn 5 _).setIn 6 _).setIn 7 _).setIn 8 _).setIn 9 _
    have hn9 := (New.trans HN.out HNC.out).upd hu9 (fun i e => by omega)
    exact bodyPost_ret (v := .agg #[.int .i64 id, .int .u64 (ep : Int), .slice cA ms.length cc, .int .u64 0, .int .u64 (la : Int), .slice sA L.length sc, .slice tA L.length tc, .slice lA l.length lc, .int .u64 (cl : Int), .slice oA out.length oc]) (by simp [results, Tryz.results13, go_sem, r1, r2, r3, r4, r5, r6, r7, r8, r9, r10]) rfl ⟨(⟨id, ep, .slice cA ms.length cc, ⟨la, L, .slice sA L.length sc, .slice tA L.length tc⟩, .slice lA l.length lc, cl, .slice oA out.length oc⟩ : RrV), rfl, by rw [HE.out]; exact (HH.out.new hn9).mono (Nat.le_succ B), hn9, fun k hk => .inl hk⟩
  have HE : Hid ((⟨id, ⟨ep, ms⟩, j, l, cl, out⟩ : Rpl).loaded ⟨bc, br, bs, bl⟩ = ⟨id, ⟨ep, ms⟩, (j.load ⟨bc, br, bs, bl⟩).1, l ++ [⟨bc, br, bs, bl⟩], cl, out⟩) := Lib.hid (Rpl.loaded_ok her)
  rw [her]
  have hz0 : ((0 : Int) == 0) = true := rfl
  clear her
  go_upto_region 3 with fail
  have hna := (New.refl wB).alloc (.cells #[.int .u64 0, .int .u64 (zla : Int), .slice zsA zL.length zsc, .slice ztA zL.length ztc] 33)
  have HJB := Lib.hid (Blk.mk_new wB 33 #[.int .u64 0, .int .u64 (zla : Int), .slice zsA zL.length zsc, .slice ztA zL.length ztc])
  have HNC := Lib.hid (HNB.out.trans hna)
  clear q0 q1 q2 q3 q4 q5 q6 q7 q8 q9 q10 qz
  have HHY := Lib.hid (HHX.out.new hna)
  have HRY := Lib.hid (HRX.out.new hna)
  have HBY := Lib.hid (HBX.out.new hna)
  have HG := Lib.hid hna.size
  have HGG : Hid (w.heap.size + 3 ≤ wB.heap.size) := Lib.hid (by have := HRX.out.lt; omega)
  have HZC := Lib.hid (HZK.out.new hna)
  clear hna
  generalize wB.alloc (.cells #[.int .u64 0, .int .u64 (zla : Int), .slice zsA zL.length zsc, .slice ztA zL.length ztc] 33) = wC at *
  generalize wB.heap.size = gj at HJB HGG ⊢
  obtain ⟨q0, q1, q2, q3, q4, q5, q6, q7, q8, q9, q10, qz⟩ := Blk10R HHY.out
  obtain ⟨s0, s1, s2, s3, s4, sz⟩ := Blk4R HJB.out
  go_upto_region 4 with fail
  have hu4 : Upd (· = w.heap.size) wC ((((wC.setCell ⟨w.heap.size, 3, none⟩ (.int .u64 0)).setCell ⟨w.heap.size, 4, none⟩ (.int .u64 (zla : Int))).setCell ⟨w.heap.size, 5, none⟩ (.slice zsA zL.length zsc)).setCell ⟨w.heap.size, 6, none⟩ (.slice ztA zL.length ztc)) := (((((Upd.refl _ wC)).setIn 3 _).setIn 4 _).setIn 5 _).setIn 6 _
  have HQJ := Lib.hid (((((HHY.out).set_ 3 (.int .u64 0)).set_ 4 (.int .u64 (zla : Int))).set_ 5 (.slice zsA zL.length zsc)).set_ 6 (.slice ztA zL.length ztc))
  have HRD := Lib.hid (HRY.out.upd hu4 (by omega))
  have HBD := Lib.hid (HBY.out.upd hu4 (by omega))
  have HND := Lib.hid ((New.trans HN.out HNC.out).upd hu4 (fun i e => by omega))
  have HZD := Lib.hid (HZC.out.upd hu4 (fun k hk e => by have h1 := HZF.out k hk; have h2 := HGG.out; have h3 := HH.out.jk.lt k; have h4 := HN.out.size; have h5 := HNB.out.size; have h6 := H3.out.lt; rcases h1 with h1 | h1 <;> first | (have := h3 h1; omega) | omega) (Off.blk HHY.out (by decide)))
  clear hu4 q0 q1 q2 q3 q4 q5 q6 q7 q8 q9 q10 qz s0 s1 s2 s3 s4 sz
  generalize ((((wC.setCell ⟨w.heap.size, 3, none⟩ (.int .u64 0)).setCell ⟨w.heap.size, 4, none⟩ (.int .u64 (zla : Int))).setCell ⟨w.heap.size, 5, none⟩ (.slice zsA zL.length zsc)).setCell ⟨w.heap.size, 6, none⟩ (.slice ztA zL.length ztc)) = wD at *
  have HSRC : Hid (SlIn wD 4 BtV.enc (.slice lA l.length lc) ps) := Lib.hid ((HROW.out.slIn BtV.encOk).new HND.out)
  have HK : Hid (∀ w', New wD w' → (w'.cell? ⟨w.heap.size, 7, none⟩ = some (.slice lA l.length lc) ∧ w'.cell? ⟨w.heap.size + 1, 0, none⟩ = some (.int .u64 (bc : Int)) ∧ w'.cell? ⟨w.heap.size + 1, 1, none⟩ = some (.int .u64 (br : Int)) ∧ w'.cell? ⟨w.heap.size + 1, 2, none⟩ = some (.int .u64 (bs : Int)) ∧ w'.cell? ⟨w.heap.size + 1, 3, none⟩ = some (.slice bA bl.length bcap))) := Lib.hid (fun w' hn => ⟨(HQJ.out.new hn).cell 7, (HBD.out.new hn).cell 0, (HBD.out.new hn).cell 1, (HBD.out.new hn).cell 2, (HBD.out.new hn).cell 3⟩)
  refine wp_region_z [8] (fun w' => w'.cell? ⟨w.heap.size, 7, none⟩ = some (.slice lA l.length lc) ∧ w'.cell? ⟨w.heap.size + 1, 0, none⟩ = some (.int .u64 (bc : Int)) ∧ w'.cell? ⟨w.heap.size + 1, 1, none⟩ = some (.int .u64 (br : Int)) ∧ w'.cell? ⟨w.heap.size + 1, 2, none⟩ = some (.int .u64 (bs : Int)) ∧ w'.cell? ⟨w.heap.size + 1, 3, none⟩ = some (.slice bA bl.length bcap)) (by kernel_rfl) (HK.out _ (New.refl wD).drew) (fun hHeld => ?_)
  have HN0 := Lib.hid (New.refl wD).drew
  generalize wD.drew = w0 at *
  refine tkZ (i := 1) (oi := ⟨some 21, .fieldAddr 36 (.tmp 2) 3, 0, "ref.go:30", #[], none⟩) (v := ?_) (.inl ⟨by rfl, ?_⟩) ?_
  rotate_left
  · (intro wq hSw; (try dsimp only at hSw); go_simp; first | done | with_reducible rfl)
  try simp only [Act.put, sA, sZ, sS]
  refine tkZ (i := 2) (oi := ⟨some 22, .load 26 (.tmp 21), 26, "ref.go:30", #[⟨1, .data⟩], none⟩) (v := ?_) (.inl ⟨by rfl, ?_⟩) ?_
  rotate_left
  · (intro wq hSw; (try dsimp only at hSw); go_simp; first | done | with_reducible rfl)
  try simp only [Act.put, sA, sZ, sS]
  refine tkZ (i := 4) (oi := ⟨some 24, .load 40 (.tmp 3), 40, "ref.go:30", #[], none⟩) (v := ?_) (.inl ⟨by rfl, ?_⟩) ?_
  rotate_left
  · (intro wq hSw; (try dsimp only at hSw); go_simp; first | done | with_reducible rfl)
  try simp only [Act.put, sA, sZ, sS]
  refine wpZ_ready (rs := [0, 5]) (by kernel_rfl) (by simp) ?_
  refine AllZ.cons (o := ⟨some 20, .buildSlice 26 0 #[], 26, "ref.go:30", #[], none⟩) rfl (fun K hK => ?_) (AllZ.cons (o := ⟨some 25, .buildSlice 26 1 #[(0, .tmp 24)], 26, "ref.go:30", #[⟨4, .data⟩], none⟩) rfl (fun K hK => ?_) AllZ.nil)
  · go_simp
    have HN1 := Lib.hid (HN0.out.alloc (.cells #[] 40))
    have HO1 := Lib.hid (Row.fresh (base := wD.heap.size) w0 40 BtV.enc 4 HN0.out.size)
    generalize w0.alloc (.cells #[] 40) = w1 at *
    refine hK.out _ _ ?_ (fun hHeld => ?_)
    · exact HK.out _ HN1.out
    clear hK K
    try simp only [Act.put, sA, sZ, sS]
    refine wpZ_ready (rs := [3, 5]) (by kernel_rfl) (by simp) ?_
    refine AllZ.cons (o := ⟨some 23, .call { callee := .builtin .append, args := #[.tmp 20, .tmp 22], argTypes := #[26, 26] }, 26, "ref.go:30", #[⟨0, .data⟩, ⟨2, .data⟩], none⟩) rfl (fun K hK => ?_) (AllZ.cons (o := ⟨some 25, .buildSlice 26 1 #[(0, .tmp 24)], 26, "ref.go:30", #[⟨4, .data⟩], none⟩) rfl (fun K hK => ?_) AllZ.nil)
    · refine step_appR  btTy BtV.encOk rfl (.tmp 20) (.tmp 22) rfl rfl rfl HO1.out (HSRC.out.new HN1.out) HM1.out HM2.out HN1.out.size ?_
      intro v2 w2 h2 hg2 hv2
      obtain ⟨A2, n2, c2, rfl⟩ := h2.shp
      have HN2 := Lib.hid (HN1.out.grown hg2 (fun k hk => (HO1.out.lt k hk).1))
      have HO2 := Lib.hid h2
      clear h2 hg2 hv2
      refine hK.out _ _ ?_ (fun hHeld => ?_)
      · exact HK.out _ HN2.out
      clear hK K
      try simp only [Act.put, sA, sZ, sS]
      refine wpZ_ready (rs := [5]) (by kernel_rfl) (by simp) ?_
      refine AllZ.cons (o := ⟨some 25, .buildSlice 26 1 #[(0, .tmp 24)], 26, "ref.go:30", #[⟨4, .data⟩], none⟩) rfl (fun K hK => ?_) AllZ.nil
      go_simp
      have HN3 := Lib.hid (HN2.out.alloc (.cells #[.int .u64 (bc : Int), .int .u64 (br : Int), .int .u64 (bs : Int), .slice bA bl.length bcap] 40))
      have HP3 := Lib.hid (Blk.mk_new w2 40 #[.int .u64 (bc : Int), .int .u64 (br : Int), .int .u64 (bs : Int), .slice bA bl.length bcap])
      have HO3 := Lib.hid (HO2.out.new ((New.refl _).alloc (.cells #[.int .u64 (bc : Int), .int .u64 (br : Int), .int .u64 (bs : Int), .slice bA bl.length bcap] 40)))
      have HD3 := Lib.hid (row_far HO2.out)
      generalize w2.alloc (.cells #[.int .u64 (bc : Int), .int .u64 (br : Int), .int .u64 (bs : Int), .slice bA bl.length bcap] 40) = w3 at *
      refine hK.out _ _ ?_ (fun hHeld => ?_)
      · exact HK.out _ HN3.out
      clear hK K
      try simp only [Act.put, sA, sZ, sS]
      refine wpZ_ready (rs := [6]) (by kernel_rfl) (by simp) ?_
      refine AllZ.cons (o := ⟨some 26, .call { callee := .builtin .append, args := #[.tmp 23, .tmp 25], argTypes := #[26, 26] }, 26, "ref.go:30", #[⟨3, .data⟩, ⟨5, .data⟩, ⟨3, .chain⟩], none⟩) rfl (fun K hK => ?_) AllZ.nil
      refine step_appR (m := [(⟨⟨bc, br, bs, bl⟩, bA, bcap⟩ : BtV)]) btTy BtV.encOk rfl (.tmp 23) (.tmp 25) rfl rfl rfl HO3.out (SlIn.one HP3.out BtV.encOk rfl) (HM3.out _) (HM4.out _) HN3.out.size ?_
      intro v4 w4 h4 hg4 hv4
      obtain ⟨A4, n4, c4, rfl⟩ := h4.shp
      have HN4 := Lib.hid (HN3.out.grown hg4 (fun k hk => (HO3.out.lt k hk).1))
      have HO4 := Lib.hid h4
      have HP4 := Lib.hid (HP3.out.grown hg4 (fun e => HD3.out _ e.symm rfl))
      have HD4 := Lib.hid (app_far HD3.out HP3.out.lt hv4)
      clear h4 hg4 hv4
      obtain ⟨z0, z1, z2, z3, z4, z5, z6, z7, z8, z9, z10, zz⟩ := Blk10R (HQJ.out.new HN4.out)
      refine hK.out _ _ ?_ (fun hHeld => ?_)
      · exact HK.out _ HN4.out
      clear hK K
      try simp only [Act.put, sA, sZ, sS]
      refine tkZ (i := 7) (oi := ⟨some 27, .fieldAddr 36 (.tmp 2) 3, 0, "ref.go:30", #[⟨0, .phase⟩, ⟨1, .phase⟩, ⟨2, .phase⟩, ⟨3, .phase⟩, ⟨4, .phase⟩, ⟨5, .phase⟩, ⟨6, .phase⟩], none⟩) (v := ?_) (.inl ⟨by rfl, ?_⟩) ?_
      rotate_left
      · (intro wq hSw; (try dsimp only at hSw); go_simp; first | done | with_reducible rfl)
      try simp only [Act.put, sA, sZ, sS]
      refine wpZ_ready (rs := [8]) (by kernel_rfl) (by simp) ?_
      refine AllZ.consZ (o := ⟨none, .store 26 (.tmp 27) (.tmp 26), 0, "ref.go:30", #[⟨7, .data⟩, ⟨6, .data⟩, ⟨6, .chain⟩, ⟨0, .phase⟩, ⟨1, .phase⟩, ⟨2, .phase⟩, ⟨3, .phase⟩, ⟨4, .phase⟩, ⟨5, .phase⟩, ⟨6, .phase⟩], none⟩) rfl (by kernel_rfl) (fun K hK => ?_) AllZ.nil
      go_simp
      refine hK.out _ _ ?_
      clear hK K
      try simp only [Act.put, sA, sZ, sS]
      refine wpZ_done (by kernel_rfl) ?_ _
      clear hHeld z0 z1 z2 z3 z4 z5 z6 z7 z8 z9 z10 zz
      have hu5 : Upd (· = w.heap.size) w4 (w4.setCell ⟨w.heap.size, 7, none⟩ (.slice A4 n4 c4)) := (Upd.refl _ w4).setIn 7 _
      have H15 := Lib.hid ((HQJ.out.new HN4.out).set_ 7 (.slice A4 n4 c4))
      have H35 := Lib.hid ((HRD.out.new HN4.out).upd hu5 (by omega))
      have HR5 := Lib.hid (HO4.out.upd hu5 (fun k hk e => by have := (HO4.out.lt k hk).1; have := HQJ.out.lt; omega))
      have HN5 := Lib.hid ((New.trans HND.out HN4.out).upd hu5 (fun i e => by omega))
      have HOWN : Hid (∀ k, (.slice A4 n4 c4 : Value).ownBlock = some k → w.heap.size + 3 ≤ k) := Lib.hid (fun k hk => by have := (HO4.out.lt k hk).1; have := HRD.out.lt; omega)
      have HZ5 := Lib.hid ((HZD.out.new HN4.out).upd hu5 (fun k hk e => by have h1 := HZF.out k hk; have h2 := HGG.out; have h3 := HH.out.jk.lt k; have h6 := H3.out.lt; have h5 := HNB.out.size; have h4 := HN.out.size; rcases h1 with h1 | h1 <;> first | (have := h3 h1; omega) | omega) (Off.blk (HQJ.out.new HN4.out) (by decide)))
      clear hu5
      generalize w4.setCell ⟨w.heap.size, 7, none⟩ (.slice A4 n4 c4) = w5 at *
      obtain ⟨q0, q1, q2, q3, q4, q5, q6, q7, q8, q9, q10, qz⟩ := Blk10R H15.out
      obtain ⟨r0, r1, r2, r3, r4, r5, r6, r7, r8, r9, r10, rz⟩ := Blk10R H35.out
      go_wp2_with fail
      have hu9 : Upd (· = w.heap.size + 2) w5 ((((((((((w5.setCell ⟨w.heap.size + 2, 0, none⟩ (.int .i64 id)).setCell ⟨w.heap.size + 2, 1, none⟩ (.int .u64 (ep : Int))).setCell ⟨w.heap.size + 2, 2, none⟩ (.slice cA ms.length cc)).setCell ⟨w.heap.size + 2, 3, none⟩ (.int .u64 0)).setCell ⟨w.heap.size + 2, 4, none⟩ (.int .u64 (zla : Int))).setCell ⟨w.heap.size + 2, 5, none⟩ (.slice zsA zL.length zsc)).setCell ⟨w.heap.size + 2, 6, none⟩ (.slice ztA zL.length ztc)).setCell ⟨w.heap.size + 2, 7, none⟩ (.slice A4 n4 c4)).setCell ⟨w.heap.size + 2, 8, none⟩ (.int .u64 (cl : Int))).setCell ⟨w.heap.size + 2, 9, none⟩ (.slice oA out.length oc)) := ((((((((((Upd.refl _ w5).setIn 0 _).setIn 1 _).setIn 2 _).setIn 3 _).setIn 4 _).setIn 5 _).setIn 6 _).setIn 7 _).setIn 8 _).setIn 9 _
      have hn9 := HN5.out.upd hu9 (fun i e => by omega)
      have hrn : Row _ 0 40 4 BtV.enc (.slice A4 n4 c4) (([] ++ ps) ++ [(⟨⟨bc, br, bs, bl⟩, bA, bcap⟩ : BtV)]) := (HR5.out.upd hu9 (fun k hk e => by have := HOWN.out k hk; omega)).lower (Nat.zero_le _)
      have hz9 := HZ5.out.upd hu9 (fun k hk e => by have h1 := HZF.out k hk; have h2 := HGG.out; have h3 := HH.out.jk.lt k; have h6 := H3.out.lt; have h5 := HNB.out.size; have h4 := HN.out.size; rcases h1 with h1 | h1 <;> first | (have := h3 h1; omega) | omega) (Off.blk H35.out (by decide))
      have hsl := HH.out.setL hn9 (HB.out.new hn9) HPS.out (fun p hp => (HOK.out p hp).new hn9) hrn
      exact bodyPost_ret (v := .agg #[.int .i64 id, .int .u64 (ep : Int), .slice cA ms.length cc, .int .u64 0, .int .u64 (zla : Int), .slice zsA zL.length zsc, .slice ztA zL.length ztc, .slice A4 n4 c4, .int .u64 (cl : Int), .slice oA out.length oc]) (by simp [results, Tryz.results13, go_sem, r1, r2, r3, r4, r5, r6, r7, r8, r9, r10]) rfl ⟨(⟨id, ep, .slice cA ms.length cc, ⟨zla, zL, .slice zsA zL.length zsc, .slice ztA zL.length ztc⟩, .slice A4 n4 c4, cl, .slice oA out.length oc⟩ : RrV), rfl, by
        rw [HE.out]
        exact { hsl with jk := hz9, jr := HZR.out, jl := by have h1 := HH.out.jl; have h2 := HZL.out; dsimp only at h1 ⊢; omega }, hn9, fun k hk => hk.elim (fun h => (HZF.out k h).elim (fun h => .inl (.inl h)) (fun h => .inr (by have h4 := HN.out.size; omega))) (fun h => h.elim (fun h => .inr (by have := HOWN.out k h; omega)) (fun h => .inl (.inr (.inr h))))⟩
    · go_simp
      have HN5 := Lib.hid (HN1.out.alloc (.cells #[.int .u64 (bc : Int), .int .u64 (br : Int), .int .u64 (bs : Int), .slice bA bl.length bcap] 40))
      have HP5 := Lib.hid (Blk.mk_new w1 40 #[.int .u64 (bc : Int), .int .u64 (br : Int), .int .u64 (bs : Int), .slice bA bl.length bcap])
      have HO5 := Lib.hid (HO1.out.new ((New.refl _).alloc (.cells #[.int .u64 (bc : Int), .int .u64 (br : Int), .int .u64 (bs : Int), .slice bA bl.length bcap] 40)))
      have HD5 := Lib.hid (row_far HO1.out)
      generalize w1.alloc (.cells #[.int .u64 (bc : Int), .int .u64 (br : Int), .int .u64 (bs : Int), .slice bA bl.length bcap] 40) = w5 at *
      refine hK.out _ _ ?_ (fun hHeld => ?_)
      · exact HK.out _ HN5.out
      clear hK K
      try simp only [Act.put, sA, sZ, sS]
      refine wpZ_ready (rs := [3]) (by kernel_rfl) (by simp) ?_
      refine AllZ.cons (o := ⟨some 23, .call { callee := .builtin .append, args := #[.tmp 20, .tmp 22], argTypes := #[26, 26] }, 26, "ref.go:30", #[⟨0, .data⟩, ⟨2, .data⟩], none⟩) rfl (fun K hK => ?_) AllZ.nil
      refine step_appR  btTy BtV.encOk rfl (.tmp 20) (.tmp 22) rfl rfl rfl HO5.out (HSRC.out.new HN5.out) HM1.out HM2.out HN5.out.size ?_
      intro v6 w6 h6 hg6 hv6
      obtain ⟨A6, n6, c6, rfl⟩ := h6.shp
      have HN6 := Lib.hid (HN5.out.grown hg6 (fun k hk => (HO5.out.lt k hk).1))
      have HO6 := Lib.hid h6
      have HP6 := Lib.hid (HP5.out.grown hg6 (fun e => HD5.out _ e.symm rfl))
      have HD6 := Lib.hid (app_far HD5.out HP5.out.lt hv6)
      clear h6 hg6 hv6
      refine hK.out _ _ ?_ (fun hHeld => ?_)
      · exact HK.out _ HN6.out
      clear hK K
      try simp only [Act.put, sA, sZ, sS]
      refine wpZ_ready (rs := [6]) (by kernel_rfl) (by simp) ?_
      refine AllZ.cons (o := ⟨some 26, .call { callee := .builtin .append, args := #[.tmp 23, .tmp 25], argTypes := #[26, 26] }, 26, "ref.go:30", #[⟨3, .data⟩, ⟨5, .data⟩, ⟨3, .chain⟩], none⟩) rfl (fun K hK => ?_) AllZ.nil
      refine step_appR (m := [(⟨⟨bc, br, bs, bl⟩, bA, bcap⟩ : BtV)]) btTy BtV.encOk rfl (.tmp 23) (.tmp 25) rfl rfl rfl HO6.out (SlIn.one HP6.out BtV.encOk rfl) (HM3.out _) (HM4.out _) HN6.out.size ?_
      intro v7 w7 h7 hg7 hv7
      obtain ⟨A7, n7, c7, rfl⟩ := h7.shp
      have HN7 := Lib.hid (HN6.out.grown hg7 (fun k hk => (HO6.out.lt k hk).1))
      have HO7 := Lib.hid h7
      have HP7 := Lib.hid (HP6.out.grown hg7 (fun e => HD6.out _ e.symm rfl))
      have HD7 := Lib.hid (app_far HD6.out HP6.out.lt hv7)
      clear h7 hg7 hv7
      obtain ⟨z0, z1, z2, z3, z4, z5, z6, z7, z8, z9, z10, zz⟩ := Blk10R (HQJ.out.new HN7.out)
      refine hK.out _ _ ?_ (fun hHeld => ?_)
      · exact HK.out _ HN7.out
      clear hK K
      try simp only [Act.put, sA, sZ, sS]
      refine tkZ (i := 7) (oi := ⟨some 27, .fieldAddr 36 (.tmp 2) 3, 0, "ref.go:30", #[⟨0, .phase⟩, ⟨1, .phase⟩, ⟨2, .phase⟩, ⟨3, .phase⟩, ⟨4, .phase⟩, ⟨5, .phase⟩, ⟨6, .phase⟩], none⟩) (v := ?_) (.inl ⟨by rfl, ?_⟩) ?_
      rotate_left
      · (intro wq hSw; (try dsimp only at hSw); go_simp; first | done | with_reducible rfl)
      try simp only [Act.put, sA, sZ, sS]
      refine wpZ_ready (rs := [8]) (by kernel_rfl) (by simp) ?_
      refine AllZ.consZ (o := ⟨none, .store 26 (.tmp 27) (.tmp 26), 0, "ref.go:30", #[⟨7, .data⟩, ⟨6, .data⟩, ⟨6, .chain⟩, ⟨0, .phase⟩, ⟨1, .phase⟩, ⟨2, .phase⟩, ⟨3, .phase⟩, ⟨4, .phase⟩, ⟨5, .phase⟩, ⟨6, .phase⟩], none⟩) rfl (by kernel_rfl) (fun K hK => ?_) AllZ.nil
      go_simp
      refine hK.out _ _ ?_
      clear hK K
      try simp only [Act.put, sA, sZ, sS]
      refine wpZ_done (by kernel_rfl) ?_ _
      clear hHeld z0 z1 z2 z3 z4 z5 z6 z7 z8 z9 z10 zz
      have hu5 : Upd (· = w.heap.size) w7 (w7.setCell ⟨w.heap.size, 7, none⟩ (.slice A7 n7 c7)) := (Upd.refl _ w7).setIn 7 _
      have H15 := Lib.hid ((HQJ.out.new HN7.out).set_ 7 (.slice A7 n7 c7))
      have H35 := Lib.hid ((HRD.out.new HN7.out).upd hu5 (by omega))
      have HR5 := Lib.hid (HO7.out.upd hu5 (fun k hk e => by have := (HO7.out.lt k hk).1; have := HQJ.out.lt; omega))
      have HN5 := Lib.hid ((New.trans HND.out HN7.out).upd hu5 (fun i e => by omega))
      have HOWN : Hid (∀ k, (.slice A7 n7 c7 : Value).ownBlock = some k → w.heap.size + 3 ≤ k) := Lib.hid (fun k hk => by have := (HO7.out.lt k hk).1; have := HRD.out.lt; omega)
      have HZ5 := Lib.hid ((HZD.out.new HN7.out).upd hu5 (fun k hk e => by have h1 := HZF.out k hk; have h2 := HGG.out; have h3 := HH.out.jk.lt k; have h6 := H3.out.lt; have h5 := HNB.out.size; have h4 := HN.out.size; rcases h1 with h1 | h1 <;> first | (have := h3 h1; omega) | omega) (Off.blk (HQJ.out.new HN7.out) (by decide)))
      clear hu5
      generalize w7.setCell ⟨w.heap.size, 7, none⟩ (.slice A7 n7 c7) = w5 at *
      obtain ⟨q0, q1, q2, q3, q4, q5, q6, q7, q8, q9, q10, qz⟩ := Blk10R H15.out
      obtain ⟨r0, r1, r2, r3, r4, r5, r6, r7, r8, r9, r10, rz⟩ := Blk10R H35.out
      go_wp2_with fail
      have hu9 : Upd (· = w.heap.size + 2) w5 ((((((((((w5.setCell ⟨w.heap.size + 2, 0, none⟩ (.int .i64 id)).setCell ⟨w.heap.size + 2, 1, none⟩ (.int .u64 (ep : Int))).setCell ⟨w.heap.size + 2, 2, none⟩ (.slice cA ms.length cc)).setCell ⟨w.heap.size + 2, 3, none⟩ (.int .u64 0)).setCell ⟨w.heap.size + 2, 4, none⟩ (.int .u64 (zla : Int))).setCell ⟨w.heap.size + 2, 5, none⟩ (.slice zsA zL.length zsc)).setCell ⟨w.heap.size + 2, 6, none⟩ (.slice ztA zL.length ztc)).setCell ⟨w.heap.size + 2, 7, none⟩ (.slice A7 n7 c7)).setCell ⟨w.heap.size + 2, 8, none⟩ (.int .u64 (cl : Int))).setCell ⟨w.heap.size + 2, 9, none⟩ (.slice oA out.length oc)) := ((((((((((Upd.refl _ w5).setIn 0 _).setIn 1 _).setIn 2 _).setIn 3 _).setIn 4 _).setIn 5 _).setIn 6 _).setIn 7 _).setIn 8 _).setIn 9 _
      have hn9 := HN5.out.upd hu9 (fun i e => by omega)
      have hrn : Row _ 0 40 4 BtV.enc (.slice A7 n7 c7) (([] ++ ps) ++ [(⟨⟨bc, br, bs, bl⟩, bA, bcap⟩ : BtV)]) := (HR5.out.upd hu9 (fun k hk e => by have := HOWN.out k hk; omega)).lower (Nat.zero_le _)
      have hz9 := HZ5.out.upd hu9 (fun k hk e => by have h1 := HZF.out k hk; have h2 := HGG.out; have h3 := HH.out.jk.lt k; have h6 := H3.out.lt; have h5 := HNB.out.size; have h4 := HN.out.size; rcases h1 with h1 | h1 <;> first | (have := h3 h1; omega) | omega) (Off.blk H35.out (by decide))
      have hsl := HH.out.setL hn9 (HB.out.new hn9) HPS.out (fun p hp => (HOK.out p hp).new hn9) hrn
      exact bodyPost_ret (v := .agg #[.int .i64 id, .int .u64 (ep : Int), .slice cA ms.length cc, .int .u64 0, .int .u64 (zla : Int), .slice zsA zL.length zsc, .slice ztA zL.length ztc, .slice A7 n7 c7, .int .u64 (cl : Int), .slice oA out.length oc]) (by simp [results, Tryz.results13, go_sem, r1, r2, r3, r4, r5, r6, r7, r8, r9, r10]) rfl ⟨(⟨id, ep, .slice cA ms.length cc, ⟨zla, zL, .slice zsA zL.length zsc, .slice ztA zL.length ztc⟩, .slice A7 n7 c7, cl, .slice oA out.length oc⟩ : RrV), rfl, by
        rw [HE.out]
        exact { hsl with jk := hz9, jr := HZR.out, jl := by have h1 := HH.out.jl; have h2 := HZL.out; dsimp only at h1 ⊢; omega }, hn9, fun k hk => hk.elim (fun h => (HZF.out k h).elim (fun h => .inl (.inl h)) (fun h => .inr (by have h4 := HN.out.size; omega))) (fun h => h.elim (fun h => .inr (by have := HOWN.out k h; omega)) (fun h => .inl (.inr (.inr h))))⟩
  · go_simp
    have HN8 := Lib.hid (HN0.out.alloc (.cells #[.int .u64 (bc : Int), .int .u64 (br : Int), .int .u64 (bs : Int), .slice bA bl.length bcap] 40))
    have HP8 := Lib.hid (Blk.mk_new w0 40 #[.int .u64 (bc : Int), .int .u64 (br : Int), .int .u64 (bs : Int), .slice bA bl.length bcap])
    generalize w0.alloc (.cells #[.int .u64 (bc : Int), .int .u64 (br : Int), .int .u64 (bs : Int), .slice bA bl.length bcap] 40) = w8 at *
    refine hK.out _ _ ?_ (fun hHeld => ?_)
    · exact HK.out _ HN8.out
    clear hK K
    try simp only [Act.put, sA, sZ, sS]
    refine wpZ_ready (rs := [0]) (by kernel_rfl) (by simp) ?_
    refine AllZ.cons (o := ⟨some 20, .buildSlice 26 0 #[], 26, "ref.go:30", #[], none⟩) rfl (fun K hK => ?_) AllZ.nil
    go_simp
    have HN9 := Lib.hid (HN8.out.alloc (.cells #[] 40))
    have HO9 := Lib.hid (Row.fresh (base := wD.heap.size) w8 40 BtV.enc 4 HN8.out.size)
    have HP9 := Lib.hid (HP8.out.alloc (.cells #[] 40))
    have HD9 := Lib.hid (fresh_far HP8.out.lt)
    generalize w8.alloc (.cells #[] 40) = w9 at *
    refine hK.out _ _ ?_ (fun hHeld => ?_)
    · exact HK.out _ HN9.out
    clear hK K
    try simp only [Act.put, sA, sZ, sS]
    refine wpZ_ready (rs := [3]) (by kernel_rfl) (by simp) ?_
    refine AllZ.cons (o := ⟨some 23, .call { callee := .builtin .append, args := #[.tmp 20, .tmp 22], argTypes := #[26, 26] }, 26, "ref.go:30", #[⟨0, .data⟩, ⟨2, .data⟩], none⟩) rfl (fun K hK => ?_) AllZ.nil
    refine step_appR  btTy BtV.encOk rfl (.tmp 20) (.tmp 22) rfl rfl rfl HO9.out (HSRC.out.new HN9.out) HM1.out HM2.out HN9.out.size ?_
    intro v10 w10 h10 hg10 hv10
    obtain ⟨A10, n10, c10, rfl⟩ := h10.shp
    have HN10 := Lib.hid (HN9.out.grown hg10 (fun k hk => (HO9.out.lt k hk).1))
    have HO10 := Lib.hid h10
    have HP10 := Lib.hid (HP9.out.grown hg10 (fun e => HD9.out _ e.symm rfl))
    have HD10 := Lib.hid (app_far HD9.out HP9.out.lt hv10)
    clear h10 hg10 hv10
    refine hK.out _ _ ?_ (fun hHeld => ?_)
    · exact HK.out _ HN10.out
    clear hK K
    try simp only [Act.put, sA, sZ, sS]
    refine wpZ_ready (rs := [6]) (by kernel_rfl) (by simp) ?_
    refine AllZ.cons (o := ⟨some 26, .call { callee := .builtin .append, args := #[.tmp 23, .tmp 25], argTypes := #[26, 26] }, 26, "ref.go:30", #[⟨3, .data⟩, ⟨5, .data⟩, ⟨3, .chain⟩], none⟩) rfl (fun K hK => ?_) AllZ.nil
    refine step_appR (m := [(⟨⟨bc, br, bs, bl⟩, bA, bcap⟩ : BtV)]) btTy BtV.encOk rfl (.tmp 23) (.tmp 25) rfl rfl rfl HO10.out (SlIn.one HP10.out BtV.encOk rfl) (HM3.out _) (HM4.out _) HN10.out.size ?_
    intro v11 w11 h11 hg11 hv11
    obtain ⟨A11, n11, c11, rfl⟩ := h11.shp
    have HN11 := Lib.hid (HN10.out.grown hg11 (fun k hk => (HO10.out.lt k hk).1))
    have HO11 := Lib.hid h11
    have HP11 := Lib.hid (HP10.out.grown hg11 (fun e => HD10.out _ e.symm rfl))
    have HD11 := Lib.hid (app_far HD10.out HP10.out.lt hv11)
    clear h11 hg11 hv11
    obtain ⟨z0, z1, z2, z3, z4, z5, z6, z7, z8, z9, z10, zz⟩ := Blk10R (HQJ.out.new HN11.out)
    refine hK.out _ _ ?_ (fun hHeld => ?_)
    · exact HK.out _ HN11.out
    clear hK K
    try simp only [Act.put, sA, sZ, sS]
    refine tkZ (i := 7) (oi := ⟨some 27, .fieldAddr 36 (.tmp 2) 3, 0, "ref.go:30", #[⟨0, .phase⟩, ⟨1, .phase⟩, ⟨2, .phase⟩, ⟨3, .phase⟩, ⟨4, .phase⟩, ⟨5, .phase⟩, ⟨6, .phase⟩], none⟩) (v := ?_) (.inl ⟨by rfl, ?_⟩) ?_
    rotate_left
    · (intro wq hSw; (try dsimp only at hSw); go_simp; first | done | with_reducible rfl)
    try simp only [Act.put, sA, sZ, sS]
    refine wpZ_ready (rs := [8]) (by kernel_rfl) (by simp) ?_
    refine AllZ.consZ (o := ⟨none, .store 26 (.tmp 27) (.tmp 26), 0, "ref.go:30", #[⟨7, .data⟩, ⟨6, .data⟩, ⟨6, .chain⟩, ⟨0, .phase⟩, ⟨1, .phase⟩, ⟨2, .phase⟩, ⟨3, .phase⟩, ⟨4, .phase⟩, ⟨5, .phase⟩, ⟨6, .phase⟩], none⟩) rfl (by kernel_rfl) (fun K hK => ?_) AllZ.nil
    go_simp
    refine hK.out _ _ ?_
    clear hK K
    try simp only [Act.put, sA, sZ, sS]
    refine wpZ_done (by kernel_rfl) ?_ _
    clear hHeld z0 z1 z2 z3 z4 z5 z6 z7 z8 z9 z10 zz
    have hu5 : Upd (· = w.heap.size) w11 (w11.setCell ⟨w.heap.size, 7, none⟩ (.slice A11 n11 c11)) := (Upd.refl _ w11).setIn 7 _
    have H15 := Lib.hid ((HQJ.out.new HN11.out).set_ 7 (.slice A11 n11 c11))
    have H35 := Lib.hid ((HRD.out.new HN11.out).upd hu5 (by omega))
    have HR5 := Lib.hid (HO11.out.upd hu5 (fun k hk e => by have := (HO11.out.lt k hk).1; have := HQJ.out.lt; omega))
    have HN5 := Lib.hid ((New.trans HND.out HN11.out).upd hu5 (fun i e => by omega))
    have HOWN : Hid (∀ k, (.slice A11 n11 c11 : Value).ownBlock = some k → w.heap.size + 3 ≤ k) := Lib.hid (fun k hk => by have := (HO11.out.lt k hk).1; have := HRD.out.lt; omega)
    have HZ5 := Lib.hid ((HZD.out.new HN11.out).upd hu5 (fun k hk e => by have h1 := HZF.out k hk; have h2 := HGG.out; have h3 := HH.out.jk.lt k; have h6 := H3.out.lt; have h5 := HNB.out.size; have h4 := HN.out.size; rcases h1 with h1 | h1 <;> first | (have := h3 h1; omega) | omega) (Off.blk (HQJ.out.new HN11.out) (by decide)))
    clear hu5
    generalize w11.setCell ⟨w.heap.size, 7, none⟩ (.slice A11 n11 c11) = w5 at *
    obtain ⟨q0, q1, q2, q3, q4, q5, q6, q7, q8, q9, q10, qz⟩ := Blk10R H15.out
    obtain ⟨r0, r1, r2, r3, r4, r5, r6, r7, r8, r9, r10, rz⟩ := Blk10R H35.out
    go_wp2_with fail
    have hu9 : Upd (· = w.heap.size + 2) w5 ((((((((((w5.setCell ⟨w.heap.size + 2, 0, none⟩ (.int .i64 id)).setCell ⟨w.heap.size + 2, 1, none⟩ (.int .u64 (ep : Int))).setCell ⟨w.heap.size + 2, 2, none⟩ (.slice cA ms.length cc)).setCell ⟨w.heap.size + 2, 3, none⟩ (.int .u64 0)).setCell ⟨w.heap.size + 2, 4, none⟩ (.int .u64 (zla : Int))).setCell ⟨w.heap.size + 2, 5, none⟩ (.slice zsA zL.length zsc)).setCell ⟨w.heap.size + 2, 6, none⟩ (.slice ztA zL.length ztc)).setCell ⟨w.heap.size + 2, 7, none⟩ (.slice A11 n11 c11)).setCell ⟨w.heap.size + 2, 8, none⟩ (.int .u64 (cl : Int))).setCell ⟨w.heap.size + 2, 9, none⟩ (.slice oA out.length oc)) := ((((((((((Upd.refl _ w5).setIn 0 _).setIn 1 _).setIn 2 _).setIn 3 _).setIn 4 _).setIn 5 _).setIn 6 _).setIn 7 _).setIn 8 _).setIn 9 _
    have hn9 := HN5.out.upd hu9 (fun i e => by omega)
    have hrn : Row _ 0 40 4 BtV.enc (.slice A11 n11 c11) (([] ++ ps) ++ [(⟨⟨bc, br, bs, bl⟩, bA, bcap⟩ : BtV)]) := (HR5.out.upd hu9 (fun k hk e => by have := HOWN.out k hk; omega)).lower (Nat.zero_le _)
    have hz9 := HZ5.out.upd hu9 (fun k hk e => by have h1 := HZF.out k hk; have h2 := HGG.out; have h3 := HH.out.jk.lt k; have h6 := H3.out.lt; have h5 := HNB.out.size; have h4 := HN.out.size; rcases h1 with h1 | h1 <;> first | (have := h3 h1; omega) | omega) (Off.blk H35.out (by decide))
    have hsl := HH.out.setL hn9 (HB.out.new hn9) HPS.out (fun p hp => (HOK.out p hp).new hn9) hrn
    exact bodyPost_ret (v := .agg #[.int .i64 id, .int .u64 (ep : Int), .slice cA ms.length cc, .int .u64 0, .int .u64 (zla : Int), .slice zsA zL.length zsc, .slice ztA zL.length ztc, .slice A11 n11 c11, .int .u64 (cl : Int), .slice oA out.length oc]) (by simp [results, Tryz.results13, go_sem, r1, r2, r3, r4, r5, r6, r7, r8, r9, r10]) rfl ⟨(⟨id, ep, .slice cA ms.length cc, ⟨zla, zL, .slice zsA zL.length zsc, .slice ztA zL.length ztc⟩, .slice A11 n11 c11, cl, .slice oA out.length oc⟩ : RrV), rfl, by
      rw [HE.out]
      exact { hsl with jk := hz9, jr := HZR.out, jl := by have h1 := HH.out.jl; have h2 := HZL.out; dsimp only at h1 ⊢; omega }, hn9, fun k hk => hk.elim (fun h => (HZF.out k h).elim (fun h => .inl (.inl h)) (fun h => .inr (by have h4 := HN.out.size; omega))) (fun h => h.elim (fun h => .inr (by have := HOWN.out k h; omega)) (fun h => .inl (.inr (.inr h))))⟩
end
end Go.Proofs.YtecniafnihpjmaaGreatDoor
