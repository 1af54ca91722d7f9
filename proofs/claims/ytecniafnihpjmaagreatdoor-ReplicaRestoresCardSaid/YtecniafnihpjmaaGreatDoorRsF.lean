/- Chapter 24's reference: a replica as ten cells; beside, send. Printed by genRsF.py. -/
import Derived.Test.YtecniafnihpjmaaGreatDoorTk
import Derived.Test.YtecniafnihpjmaaGreatDoorRsE
namespace Go.Proofs.YtecniafnihpjmaaGreatDoor
open Go.RowKit Go.Lap C
set_option linter.unusedVariables false
set_option linter.unusedSimpArgs false
structure RrV where
  id : Int
  ep : Nat
  cv : Value
  j : RjV
  lv : Value
  cl : Nat
  ov : Value
def RrV.cells (y : RrV) : Array Value := #[.int .i64 y.id, .int .u64 (y.ep : Int), y.cv, .int .u64 0, .int .u64 (y.j.la : Int), y.j.sv, y.j.tv, y.lv, .int .u64 (y.cl : Int), y.ov]
def RrV.val (y : RrV) : Value := .agg y.cells
/-- The reference's replica is the plain one. -/
structure RrAt (w : World) (B : Nat) (y : RrV) (x : Rpl) : Prop where
  id : y.id = x.id
  ep : y.ep = x.cf.e
  cf : SlIn w 1 iEnc y.cv x.cf.ms
  c7 : x.cf.ms.length ≤ 1000
  ce : x.cf.e < big
  jk : RkAt w y.j
  jr : JR y.j x.j
  l : BtRow w 0 y.lv x.l
  cl : y.cl = x.cl
  out : NtRow w 0 y.ov x.out
  ll : x.l.length ≤ B
  ol : x.out.length ≤ B
  cb : x.cl ≤ B
  jl : y.j.L.length ≤ B
/-- The block of a slice that is not empty. -/
def cvF (v : Value) (k : Nat) : Prop := ∃ off n c, v = .slice (some ⟨k, off, none⟩) (n + 1) c
def RrF (y : RrV) (k : Nat) : Prop := RjF y.j k ∨ y.lv.ownBlock = some k ∨ y.ov.ownBlock = some k ∨ cvF y.cv k
def besC (c : Cfg) (n d : Int) : Int × Bool := atC c.ms (placeC c.ms n) (placeC c.ms n + d)
theorem besC_next (c : Cfg) (n : Int) : besC c n 1 = nextC c n := rfl
theorem besC_bef (c : Cfg) (n : Int) : besC c n (-1) = befC c n := rfl
def Rpl.sndC (x : Rpl) (r : Int × Bool) (kd : Int) (t : Nat) (b : Btc) : Rpl := if r.2 = true then x.send r.1 kd t b else x
/-- A note to who stands so many places behind, if there is somebody. -/
def Rpl.sndR (x : Rpl) (d kd : Int) (t : Nat) (b : Btc) : Rpl := x.sndC (besC x.cf x.id d) kd t b
section
variable {w w' W : World} {B : Nat} {y : RrV} {x : Rpl} {b : BtV}
theorem cvF.lt {v : Value} {l : List Int} (h : SlIn w 1 iEnc v l) {k : Nat} (hk : cvF v k) : k < w.heap.size := by
  obtain ⟨off, n, c, rfl⟩ := hk
  obtain ⟨A, c', hv, _, hh⟩ := h
  injection hv with h1 h2 h3
  subst h1
  rcases hh with hh | ⟨b, o, hb, hlt, _⟩
  · rw [hh] at h2; cases h2
  · injection hb with hb; injection hb with hb; rw [hb]; exact hlt
theorem slIn_updC {v : Value} {l : List Int} {S : Nat → Prop} (h : SlIn w 1 iEnc v l) (hu : Upd S w w') (hS : ∀ k, cvF v k → ¬ S k) : SlIn w' 1 iEnc v l := by
  obtain ⟨A, c, rfl, hc, hh⟩ := h
  refine ⟨A, c, rfl, hc, ?_⟩
  rcases hh with hh | ⟨b, o, rfl, hlt, hcell⟩
  · exact .inl hh
  · cases l with
    | nil => exact .inl rfl
    | cons x l => exact .inr ⟨b, o, rfl, Nat.lt_of_lt_of_le hlt hu.size, fun k x hx j u hu2 => (keepR hu hlt (hS b ⟨o, _, c, rfl⟩) _).trans (hcell k x hx j u hu2)⟩
theorem RrAt.upd {S : Nat → Prop} (h : RrAt w B y x) (hu : Upd S w w') (hS : ∀ k, RrF y k → ¬ S k) (hW : Off w 97 S) : RrAt w' B y x :=
  { h with cf := slIn_updC h.cf hu (fun k hk => hS k (.inr (.inr (.inr hk)))), jk := h.jk.upd hu (fun k hk => hS k (.inl hk)) hW, l := h.l.upd hu (fun k hk => hS k (.inr (.inl hk))) hW, out := h.out.upd hu (fun k hk => hS k (.inr (.inr (.inl hk)))) hW }
theorem RrAt.new (h : RrAt w B y x) (hn : New w w') : RrAt w' B y x := h.upd (S := fun _ => False) (Upd.new hn) (fun _ _ h => h) (Off.no _ _)
theorem RrAt.lt (h : RrAt w B y x) : ∀ k, RrF y k → k < w.heap.size := fun k hk => hk.elim (h.jk.lt k) (fun h1 => h1.elim (fun h2 => (h.l.lt k h2).2) (fun h2 => h2.elim (fun h3 => (h.out.lt k h3).2) (fun h3 => h3.lt h.cf)))
theorem RrAt.mono {C : Nat} (h : RrAt w B y x) (hB : B ≤ C) : RrAt w C y x := { h with ll := Nat.le_trans h.ll hB, ol := Nat.le_trans h.ol hB, cb := Nat.le_trans h.cb hB, jl := Nat.le_trans h.jl hB }
theorem RrAt.form (h : RrAt w B y x) : ∃ la L cA cc sA sc tA tc lA lc oA oc, y = ⟨x.id, x.cf.e, .slice cA x.cf.ms.length cc, ⟨la, L, .slice sA L.length sc, .slice tA L.length tc⟩, .slice lA x.l.length lc, x.cl, .slice oA x.out.length oc⟩ := by
  obtain ⟨cA, cc, h1⟩ := h.cf.form
  obtain ⟨sA, sc, h2⟩ := h.jk.s.shape
  obtain ⟨tA, tc, h3⟩ := h.jk.t.shape
  obtain ⟨lA, lc, h4⟩ := h.l.shape
  obtain ⟨oA, oc, h5⟩ := h.out.shape
  rw [List.length_map] at h3
  have h6 := h.id
  have h7 := h.ep
  have h8 := h.cl
  obtain ⟨yid, yep, ycv, ⟨yla, yL, ysv, ytv⟩, ylv, ycl, yov⟩ := y
  dsimp only at h1 h2 h3 h4 h5 h6 h7 h8
  subst h1 h2 h3 h4 h5 h6 h7 h8
  exact ⟨yla, yL, cA, cc, sA, sc, tA, tc, lA, lc, oA, oc, rfl⟩
def RrPost (w : World) (B : Nat) (y0 : RrV) (x' : Rpl) (e : Ending) (w' : World) : Prop := ∃ y : RrV, e = .returned y.val ∧ RrAt w' B y x' ∧ New w w' ∧ ∀ k, RrF y k → RrF y0 k ∨ w.heap.size ≤ k
theorem Blk10R {w : World} {g t : Nat} {a0 a1 a2 a3 a4 a5 a6 a7 a8 a9 : Value} (h : Blk w g t #[a0, a1, a2, a3, a4, a5, a6, a7, a8, a9]) : g < w.heap.size ∧ w.cell? ⟨g, 0, none⟩ = some a0 ∧ w.cell? ⟨g, 1, none⟩ = some a1 ∧ w.cell? ⟨g, 2, none⟩ = some a2 ∧ w.cell? ⟨g, 3, none⟩ = some a3 ∧ w.cell? ⟨g, 4, none⟩ = some a4 ∧ w.cell? ⟨g, 5, none⟩ = some a5 ∧ w.cell? ⟨g, 6, none⟩ = some a6 ∧ w.cell? ⟨g, 7, none⟩ = some a7 ∧ w.cell? ⟨g, 8, none⟩ = some a8 ∧ w.cell? ⟨g, 9, none⟩ = some a9 ∧ (∀ i, w.frozen? ⟨g, i, none⟩ = false) := ⟨h.lt, h.cell 0, h.cell 1, h.cell 2, h.cell 3, h.cell 4, h.cell 5, h.cell 6, h.cell 7, h.cell 8, h.cell 9, h.frozen⟩
theorem place_bd (ms : List Int) (n : Int) : -1 ≤ placeC ms n ∧ placeC ms n < ms.length := by rcases place_cases ms n with ⟨_, h⟩ | ⟨k, hk, _, _, h⟩ <;> rw [h] <;> omega
set_option maxRecDepth 100000 in
set_option maxHeartbeats 4000000 in
theorem rbes (h : RrAt w B y x) (d : Int) (hd : d = 1 ∨ d = -1) :
    Calls Tryz.prog 79 #[y.val, .int .i64 d] w (AtPost w (besC x.cf x.id d)) := by
  obtain ⟨id, ⟨ep, ms⟩, j, l, cl, out⟩ := x
  obtain ⟨la, L, cA, cc, sA, sc, tA, tc, lA, lc, oA, oc, rfl⟩ := h.form
  have hs := h.cf
  have hml := h.c7
  dsimp only [RrV.val, RrV.cells, besC] at hs hml ⊢
  have hN := (New.refl w).alloc (.cells #[.int .i64 id, .int .u64 (ep : Int), .slice cA ms.length cc, .int .u64 0, .int .u64 (la : Int), .slice sA L.length sc, .slice tA L.length tc, .slice lA l.length lc, .int .u64 (cl : Int), .slice oA out.length oc] 36)
  have h1 := Blk.mk_new (w) 36 #[.int .i64 id, .int .u64 (ep : Int), .slice cA ms.length cc, .int .u64 0, .int .u64 (la : Int), .slice sA L.length sc, .slice tA L.length tc, .slice lA l.length lc, .int .u64 (cl : Int), .slice oA out.length oc]
  have HN := Lib.hid hN
  have H1 := Lib.hid h1
  clear hN h1
  have HS := Lib.hid (hs.new HN.out)
  have HPB := Lib.hid (place_bd ms id)
  have hd1 : -1 ≤ d := by omega
  have hd2 : d ≤ 1 := by omega
  clear hs h hd
  go_enter Tryz.func79, Tryz.ntmps79
  go_upto_region 1 with fail
  generalize w.alloc (.cells #[.int .i64 id, .int .u64 (ep : Int), .slice cA ms.length cc, .int .u64 0, .int .u64 (la : Int), .slice sA L.length sc, .slice tA L.length tc, .slice lA l.length lc, .int .u64 (cl : Int), .slice oA out.length oc] 36) = W at *
  obtain ⟨q0, q1, q2, q3, q4, q5, q6, q7, q8, q9, q10, qz⟩ := Blk10R H1.out
  go_wp2_with fail
  refine (refPlace_any ep _ ms id W (by omega) HS.out).mono ?_
  rintro e w2 ⟨rfl, hn2⟩
  clear q0 q1 q2 q3 q4 q5 q6 q7 q8 q9 q10 qz
  have H12 := Lib.hid (H1.out.new hn2)
  have HN2 := Lib.hid (HN.out.trans hn2)
  have HS2 := Lib.hid (HS.out.new hn2)
  clear hn2
  obtain ⟨q0, q1, q2, q3, q4, q5, q6, q7, q8, q9, q10, qz⟩ := Blk10R H12.out
  obtain ⟨hp1, hp2⟩ := HPB.out
  clear HPB
  generalize placeC ms id = i at *
  have hw : IntKind.i64.wrap (i + d) = i + d := by rw [IntWalk.i64_in _ (by omega)]
  by_cases h1 : i < 0
  · have HF := Lib.hid (at_no (ms := ms) (k := i + d) (.inl h1))
    go_wp2_with fail
    go_ret2
    exact AtPost.no HF.out HN2.out
  by_cases h2 : i + d < 0
  · have HF := Lib.hid (at_no (ms := ms) (i := i) (.inr (.inl h2)))
    go_wp2_with fail
    go_ret2
    exact AtPost.no HF.out HN2.out
  by_cases h3 : (ms.length : Int) ≤ i + d
  · have HF := Lib.hid (at_no (ms := ms) (i := i) (.inr (.inr h3)))
    go_wp2_with fail
    go_ret2
    exact AtPost.no HF.out HN2.out
  obtain ⟨m, hm⟩ : ∃ m : Nat, i + d = (m : Int) := ⟨(i + d).toNat, by omega⟩
  go_upto_region 4 with fail
  have hw2 : IntKind.i64.wrap (i + d) = (m : Int) := by rw [hw, hm]
  rw [hm] at h2 h3
  clear hw
  have hlt : m < ms.length := by omega
  have hlt2 : (m : Int) < (ms.length : Int) := by omega
  have hk0 : (0 : Int) ≤ (m : Int) := by omega
  obtain ⟨A', c', hv, _, hh⟩ := HS2.out
  cases hv
  rcases hh with rfl | ⟨b, off, rfl, hbb, hc⟩
  · simp at hlt
  obtain ⟨x, hx⟩ : ∃ x, ms[m]? = some x := ⟨_, List.getElem?_eq_getElem hlt⟩
  have e0 := SlIn.int_at hc hx
  have HF := Lib.hid (at_yes (i := i) (by omega) hx)
  have HMM := Lib.hid hm
  clear hc hx hm
  go_wp2_with fail
  go_ret2
  rw [HMM.out]
  exact AtPost.yes HF.out HN2.out
set_option maxRecDepth 100000 in
set_option maxHeartbeats 8000000 in
theorem rrsend (h : RrAt w B y x) (d kd : Int) (hd : d = 1 ∨ d = -1) (t : Nat) (hb : BtAt w b) (hB : B ≤ 1000000) :
    Calls Tryz.prog 80 #[y.val, .int .i64 d, .int .i64 kd, .int .u64 (t : Int), b.val] w (RrPost w (B + 1) y (x.sndR d kd t b.b)) := by
  obtain ⟨id, ⟨ep, ms⟩, j, l, cl, out⟩ := x
  obtain ⟨la, L, cA, cc, sA, sc, tA, tc, lA, lc, oA, oc, rfl⟩ := h.form
  obtain ⟨⟨bc, br, bs, bl⟩, bA, bcap⟩ := b
  have HB := Lib.hid hb
  have HH := Lib.hid h
  have hol := h.ol
  obtain ⟨ps, hps, hrow, hok⟩ := h.out
  dsimp only [RrV.val, RrV.cells, BtV.val, BtV.sl, batV] at hps hrow hok hol ⊢
  have hpl : ps.length = out.length := by rw [← hps, List.length_map]
  have HPS := Lib.hid hps
  have HROW := Lib.hid hrow
  have HOK := Lib.hid hok
  have HM1 : Hid (([] : List NtV).length + ps.length ≤ maxLen) := Lib.hid (by simp; unfold maxLen; omega)
  have HM2 : Hid ((([] : List NtV).length + ps.length) * 88 ≤ 140737488355328) := Lib.hid (by simp; omega)
  have HM3 : Hid (∀ e : NtV, ([] ++ ps).length + [e].length ≤ maxLen) := Lib.hid (fun e => by simp; unfold maxLen; omega)
  have HM4 : Hid (∀ e : NtV, (([] ++ ps).length + [e].length) * 88 ≤ 140737488355328) := Lib.hid (fun e => by simp; omega)
  have hN := (((New.refl w).alloc (.cells #[.int .i64 id, .int .u64 (ep : Int), .slice cA ms.length cc, .int .u64 0, .int .u64 (la : Int), .slice sA L.length sc, .slice tA L.length tc, .slice lA l.length lc, .int .u64 (cl : Int), .slice oA out.length oc] 36)).alloc (.cells #[.int .u64 (bc : Int), .int .u64 (br : Int), .int .u64 (bs : Int), .slice bA bl.length bcap] 40)).alloc (.cells #[.int .i64 0, .int .u64 0, .slice none 0 0, .int .u64 0, .int .u64 0, .slice none 0 0, .slice none 0 0, .slice none 0 0, .int .u64 0, .slice none 0 0] 36)
  have h1 := ((Blk.mk_new (w) 36 #[.int .i64 id, .int .u64 (ep : Int), .slice cA ms.length cc, .int .u64 0, .int .u64 (la : Int), .slice sA L.length sc, .slice tA L.length tc, .slice lA l.length lc, .int .u64 (cl : Int), .slice oA out.length oc]).alloc (.cells #[.int .u64 (bc : Int), .int .u64 (br : Int), .int .u64 (bs : Int), .slice bA bl.length bcap] 40)).alloc (.cells #[.int .i64 0, .int .u64 0, .slice none 0 0, .int .u64 0, .int .u64 0, .slice none 0 0, .slice none 0 0, .slice none 0 0, .int .u64 0, .slice none 0 0] 36)
  have h2 := (Blk.mk_new (w.alloc (.cells #[.int .i64 id, .int .u64 (ep : Int), .slice cA ms.length cc, .int .u64 0, .int .u64 (la : Int), .slice sA L.length sc, .slice tA L.length tc, .slice lA l.length lc, .int .u64 (cl : Int), .slice oA out.length oc] 36)) 40 #[.int .u64 (bc : Int), .int .u64 (br : Int), .int .u64 (bs : Int), .slice bA bl.length bcap]).alloc (.cells #[.int .i64 0, .int .u64 0, .slice none 0 0, .int .u64 0, .int .u64 0, .slice none 0 0, .slice none 0 0, .slice none 0 0, .int .u64 0, .slice none 0 0] 36)
  have h3 := Blk.mk_new ((w.alloc (.cells #[.int .i64 id, .int .u64 (ep : Int), .slice cA ms.length cc, .int .u64 0, .int .u64 (la : Int), .slice sA L.length sc, .slice tA L.length tc, .slice lA l.length lc, .int .u64 (cl : Int), .slice oA out.length oc] 36)).alloc (.cells #[.int .u64 (bc : Int), .int .u64 (br : Int), .int .u64 (bs : Int), .slice bA bl.length bcap] 40)) 36 #[.int .i64 0, .int .u64 0, .slice none 0 0, .int .u64 0, .int .u64 0, .slice none 0 0, .slice none 0 0, .slice none 0 0, .int .u64 0, .slice none 0 0]
  simp only [World.size_alloc] at h2 h3
  have HN := Lib.hid hN
  have H1 := Lib.hid h1
  have H2 := Lib.hid h2
  have H3 := Lib.hid h3
  clear hN h1 h2 h3
  have HHW := Lib.hid (h.new HN.out)
  have HD := Lib.hid hd
  clear h hb hol hps hrow hok hpl hd
  go_enter Tryz.func80, Tryz.ntmps80
  go_upto_region 1 with fail
  generalize ((w.alloc (.cells #[.int .i64 id, .int .u64 (ep : Int), .slice cA ms.length cc, .int .u64 0, .int .u64 (la : Int), .slice sA L.length sc, .slice tA L.length tc, .slice lA l.length lc, .int .u64 (cl : Int), .slice oA out.length oc] 36)).alloc (.cells #[.int .u64 (bc : Int), .int .u64 (br : Int), .int .u64 (bs : Int), .slice bA bl.length bcap] 40)).alloc (.cells #[.int .i64 0, .int .u64 0, .slice none 0 0, .int .u64 0, .int .u64 0, .slice none 0 0, .slice none 0 0, .slice none 0 0, .int .u64 0, .slice none 0 0] 36) = W at *
  obtain ⟨q0, q1, q2, q3, q4, q5, q6, q7, q8, q9, q10, qz⟩ := Blk10R H1.out
  go_wp2_with fail
  refine (rbes HHW.out d HD.out).mono ?_
  rintro e wB ⟨rfl, hn1⟩
  dsimp only at hn1 ⊢
  have HNB := Lib.hid hn1
  clear hn1 q0 q1 q2 q3 q4 q5 q6 q7 q8 q9 q10 qz
  generalize hbr : besC ⟨ep, ms⟩ id d = br0 at *
  obtain ⟨td, ok⟩ := br0
  have HBR := Lib.hid hbr
  clear hbr
  dsimp only
  have HHX := Lib.hid (H1.out.new HNB.out)
  have HRX := Lib.hid (H3.out.new HNB.out)
  obtain ⟨q0, q1, q2, q3, q4, q5, q6, q7, q8, q9, q10, qz⟩ := Blk10R HHX.out
  cases ok
  · obtain ⟨r0, r1, r2, r3, r4, r5, r6, r7, r8, r9, r10, rz⟩ := Blk10R HRX.out
    go_wp2_with fail
    have hu9 : Upd (· = w.heap.size + 2) wB ((((((((((wB.setCell ⟨w.heap.size + 2, 0, none⟩ (.int .i64 id)).setCell ⟨w.heap.size + 2, 1, none⟩ (.int .u64 (ep : Int))).setCell ⟨w.heap.size + 2, 2, none⟩ (.slice cA ms.length cc)).setCell ⟨w.heap.size + 2, 3, none⟩ (.int .u64 0)).setCell ⟨w.heap.size + 2, 4, none⟩ (.int .u64 (la : Int))).setCell ⟨w.heap.size + 2, 5, none⟩ (.slice sA L.length sc)).setCell ⟨w.heap.size + 2, 6, none⟩ (.slice tA L.length tc)).setCell ⟨w.heap.size + 2, 7, none⟩ (.slice lA l.length lc)).setCell ⟨w.heap.size + 2, 8, none⟩ (.int .u64 (cl : Int))).setCell ⟨w.heap.size + 2, 9, none⟩ (.slice oA out.length oc)) := ((((((((((Upd.refl _ wB).setIn 0 _).setIn 1 _).setIn 2 _).setIn 3 _).setIn 4 _).setIn 5 _).setIn 6 _).setIn 7 _).setIn 8 _).setIn 9 _
    have hn9 := (New.trans HN.out HNB.out).upd hu9 (fun i e => by omega)
    exact bodyPost_ret (v := .agg #[.int .i64 id, .int .u64 (ep : Int), .slice cA ms.length cc, .int .u64 0, .int .u64 (la : Int), .slice sA L.length sc, .slice tA L.length tc, .slice lA l.length lc, .int .u64 (cl : Int), .slice oA out.length oc]) (by simp [results, Tryz.results80, go_sem, r1, r2, r3, r4, r5, r6, r7, r8, r9, r10]) rfl ⟨(⟨id, ep, .slice cA ms.length cc, ⟨la, L, .slice sA L.length sc, .slice tA L.length tc⟩, .slice lA l.length lc, cl, .slice oA out.length oc⟩ : RrV), rfl, (HH.out.new hn9).mono (Nat.le_succ B) |> fun h => by rw [show (⟨id, ⟨ep, ms⟩, j, l, cl, out⟩ : Rpl).sndR d kd t ⟨bc, br, bs, bl⟩ = (⟨id, ⟨ep, ms⟩, j, l, cl, out⟩ : Rpl) by unfold Rpl.sndR Rpl.sndC; dsimp only; rw [HBR.out]; exact if_neg Bool.false_ne_true]; exact h, hn9, fun k hk => .inl hk⟩
  · go_upto_region 3 with fail
    clear q0 q1 q2 q3 q4 q5 q6 q7 q8 q9 q10 qz
    have HSRC : Hid (SlIn wB 9 NtV.enc (.slice oA out.length oc) ps) := Lib.hid ((HROW.out.slIn NtV.encOk).new (HN.out.trans HNB.out))
    have HK : Hid (∀ w', New wB w' → (w'.cell? ⟨w.heap.size, 0, none⟩ = some (.int .i64 id) ∧ w'.cell? ⟨w.heap.size, 1, none⟩ = some (.int .u64 (ep : Int)) ∧ w'.cell? ⟨w.heap.size, 9, none⟩ = some (.slice oA out.length oc) ∧ w'.cell? ⟨w.heap.size + 1, 0, none⟩ = some (.int .u64 (bc : Int)) ∧ w'.cell? ⟨w.heap.size + 1, 1, none⟩ = some (.int .u64 (br : Int)) ∧ w'.cell? ⟨w.heap.size + 1, 2, none⟩ = some (.int .u64 (bs : Int)) ∧ w'.cell? ⟨w.heap.size + 1, 3, none⟩ = some (.slice bA bl.length bcap))) := Lib.hid (fun w' hn => ⟨(HHX.out.new hn).cell 0, (HHX.out.new hn).cell 1, (HHX.out.new hn).cell 9, (H2.out.new (HNB.out.trans hn)).cell 0, (H2.out.new (HNB.out.trans hn)).cell 1, (H2.out.new (HNB.out.trans hn)).cell 2, (H2.out.new (HNB.out.trans hn)).cell 3⟩)
    refine wp_region_z [17] (fun w' => w'.cell? ⟨w.heap.size, 0, none⟩ = some (.int .i64 id) ∧ w'.cell? ⟨w.heap.size, 1, none⟩ = some (.int .u64 (ep : Int)) ∧ w'.cell? ⟨w.heap.size, 9, none⟩ = some (.slice oA out.length oc) ∧ w'.cell? ⟨w.heap.size + 1, 0, none⟩ = some (.int .u64 (bc : Int)) ∧ w'.cell? ⟨w.heap.size + 1, 1, none⟩ = some (.int .u64 (br : Int)) ∧ w'.cell? ⟨w.heap.size + 1, 2, none⟩ = some (.int .u64 (bs : Int)) ∧ w'.cell? ⟨w.heap.size + 1, 3, none⟩ = some (.slice bA bl.length bcap)) (by kernel_rfl) (HK.out _ (New.refl wB).drew) (fun hHeld => ?_)
    have HN0 := Lib.hid (New.refl wB).drew
    generalize wB.drew = w0 at *
    refine tkZ (i := 1) (oi := ⟨some 21, .fieldAddr 36 (.tmp 5) 5, 0, "ref.go:48", #[], none⟩) (v := ?_) (.inl ⟨by rfl, ?_⟩) ?_
    rotate_left
    · (intro wq hSw; (try dsimp only at hSw); go_simp; first | done | with_reducible rfl)
    try simp only [Act.put, sA, sZ, sS]
    refine tkZ (i := 2) (oi := ⟨some 22, .load 34 (.tmp 21), 34, "ref.go:48", #[⟨1, .data⟩], none⟩) (v := ?_) (.inl ⟨by rfl, ?_⟩) ?_
    rotate_left
    · (intro wq hSw; (try dsimp only at hSw); go_simp; first | done | with_reducible rfl)
    try simp only [Act.put, sA, sZ, sS]
    refine tkZ (i := 4) (oi := ⟨some 24, .move (.tmp 2), 3, "ref.go:48", #[], none⟩) (v := ?_) (.inl ⟨by rfl, ?_⟩) ?_
    rotate_left
    · (intro wq hSw; (try dsimp only at hSw); go_simp; first | done | with_reducible rfl)
    try simp only [Act.put, sA, sZ, sS]
    refine tkZ (i := 5) (oi := ⟨some 25, .fieldAddr 36 (.tmp 5) 0, 0, "ref.go:48", #[], none⟩) (v := ?_) (.inl ⟨by rfl, ?_⟩) ?_
    rotate_left
    · (intro wq hSw; (try dsimp only at hSw); go_simp; first | done | with_reducible rfl)
    try simp only [Act.put, sA, sZ, sS]
    refine tkZ (i := 6) (oi := ⟨some 26, .load 3 (.tmp 25), 3, "ref.go:48", #[⟨5, .data⟩], none⟩) (v := ?_) (.inl ⟨by rfl, ?_⟩) ?_
    rotate_left
    · (intro wq hSw; (try dsimp only at hSw); go_simp; first | done | with_reducible rfl)
    try simp only [Act.put, sA, sZ, sS]
    refine tkZ (i := 7) (oi := ⟨some 27, .move (.tmp 11), 3, "ref.go:48", #[], none⟩) (v := ?_) (.inl ⟨by rfl, ?_⟩) ?_
    rotate_left
    · (intro wq hSw; (try dsimp only at hSw); go_simp; first | done | with_reducible rfl)
    try simp only [Act.put, sA, sZ, sS]
    refine tkZ (i := 8) (oi := ⟨some 28, .fieldAddr 36 (.tmp 5) 1, 0, "ref.go:48", #[], none⟩) (v := ?_) (.inl ⟨by rfl, ?_⟩) ?_
    rotate_left
    · (intro wq hSw; (try dsimp only at hSw); go_simp; first | done | with_reducible rfl)
    try simp only [Act.put, sA, sZ, sS]
    refine tkZ (i := 9) (oi := ⟨some 29, .fieldAddr 25 (.tmp 28) 0, 0, "ref.go:48", #[⟨8, .data⟩], none⟩) (v := ?_) (.inl ⟨by rfl, ?_⟩) ?_
    rotate_left
    · (intro wq hSw; (try dsimp only at hSw); go_simp; first | done | with_reducible rfl)
    try simp only [Act.put, sA, sZ, sS]
    refine tkZ (i := 10) (oi := ⟨some 30, .load 22 (.tmp 29), 22, "ref.go:48", #[⟨9, .data⟩], none⟩) (v := ?_) (.inl ⟨by rfl, ?_⟩) ?_
    rotate_left
    · (intro wq hSw; (try dsimp only at hSw); go_simp; first | done | with_reducible rfl)
    try simp only [Act.put, sA, sZ, sS]
    refine tkZ (i := 11) (oi := ⟨some 31, .move (.tmp 3), 22, "ref.go:48", #[], none⟩) (v := ?_) (.inl ⟨by rfl, ?_⟩) ?_
    rotate_left
    · (intro wq hSw; (try dsimp only at hSw); go_simp; first | done | with_reducible rfl)
    try simp only [Act.put, sA, sZ, sS]
    refine tkZ (i := 12) (oi := ⟨some 32, .load 40 (.tmp 9), 40, "ref.go:48", #[], none⟩) (v := ?_) (.inl ⟨by rfl, ?_⟩) ?_
    rotate_left
    · (intro wq hSw; (try dsimp only at hSw); go_simp; first | done | with_reducible rfl)
    try simp only [Act.put, sA, sZ, sS]
    refine tkZ (i := 13) (oi := ⟨some 33, .build 93 #[(0, .tmp 24), (1, .tmp 26), (2, .tmp 27), (3, .tmp 30), (4, .tmp 31), (5, .tmp 32)], 93, "ref.go:48", #[⟨4, .data⟩, ⟨6, .data⟩, ⟨7, .data⟩, ⟨10, .data⟩, ⟨11, .data⟩, ⟨12, .data⟩], none⟩) (v := ?_) (.inl ⟨by rfl, ?_⟩) ?_
    rotate_left
    · (intro wq hSw; (try dsimp only at hSw); go_simp; first | done | with_reducible rfl)
    try simp only [Act.put, sA, sZ, sS]
    refine wpZ_ready (rs := [0, 14]) (by kernel_rfl) (by simp) ?_
    refine AllZ.cons (o := ⟨some 20, .buildSlice 34 0 #[], 34, "ref.go:48", #[], none⟩) rfl (fun K hK => ?_) (AllZ.cons (o := ⟨some 34, .buildSlice 34 1 #[(0, .tmp 33)], 34, "ref.go:48", #[⟨13, .data⟩], none⟩) rfl (fun K hK => ?_) AllZ.nil)
    · go_simp
      have HN1 := Lib.hid (HN0.out.alloc (.cells #[] 93))
      have HO1 := Lib.hid (Row.fresh (base := wB.heap.size) w0 93 NtV.enc 9 HN0.out.size)
      generalize w0.alloc (.cells #[] 93) = w1 at *
      refine hK.out _ _ ?_ (fun hHeld => ?_)
      · exact HK.out _ HN1.out
      clear hK K
      try simp only [Act.put, sA, sZ, sS]
      refine wpZ_ready (rs := [3, 14]) (by kernel_rfl) (by simp) ?_
      refine AllZ.cons (o := ⟨some 23, .call { callee := .builtin .append, args := #[.tmp 20, .tmp 22], argTypes := #[34, 34] }, 34, "ref.go:48", #[⟨0, .data⟩, ⟨2, .data⟩], none⟩) rfl (fun K hK => ?_) (AllZ.cons (o := ⟨some 34, .buildSlice 34 1 #[(0, .tmp 33)], 34, "ref.go:48", #[⟨13, .data⟩], none⟩) rfl (fun K hK => ?_) AllZ.nil)
      · refine step_appR  ntTy NtV.encOk rfl (.tmp 20) (.tmp 22) rfl rfl rfl HO1.out (HSRC.out.new HN1.out) HM1.out HM2.out HN1.out.size ?_
        intro v2 w2 h2 hg2 hv2
        obtain ⟨A2, n2, c2, rfl⟩ := h2.shp
        have HN2 := Lib.hid (HN1.out.grown hg2 (fun k hk => (HO1.out.lt k hk).1))
        have HO2 := Lib.hid h2
        clear h2 hg2 hv2
        refine hK.out _ _ ?_ (fun hHeld => ?_)
        · exact HK.out _ HN2.out
        clear hK K
        try simp only [Act.put, sA, sZ, sS]
        refine wpZ_ready (rs := [14]) (by kernel_rfl) (by simp) ?_
        refine AllZ.cons (o := ⟨some 34, .buildSlice 34 1 #[(0, .tmp 33)], 34, "ref.go:48", #[⟨13, .data⟩], none⟩) rfl (fun K hK => ?_) AllZ.nil
        go_simp
        have HN3 := Lib.hid (HN2.out.alloc (.cells #[.int .i64 kd, .int .i64 id, .int .i64 td, .int .u64 (ep : Int), .int .u64 (t : Int), .int .u64 (bc : Int), .int .u64 (br : Int), .int .u64 (bs : Int), .slice bA bl.length bcap] 93))
        have HP3 := Lib.hid (Blk.mk_new w2 93 #[.int .i64 kd, .int .i64 id, .int .i64 td, .int .u64 (ep : Int), .int .u64 (t : Int), .int .u64 (bc : Int), .int .u64 (br : Int), .int .u64 (bs : Int), .slice bA bl.length bcap])
        have HO3 := Lib.hid (HO2.out.new ((New.refl _).alloc (.cells #[.int .i64 kd, .int .i64 id, .int .i64 td, .int .u64 (ep : Int), .int .u64 (t : Int), .int .u64 (bc : Int), .int .u64 (br : Int), .int .u64 (bs : Int), .slice bA bl.length bcap] 93)))
        have HD3 := Lib.hid (row_far HO2.out)
        generalize w2.alloc (.cells #[.int .i64 kd, .int .i64 id, .int .i64 td, .int .u64 (ep : Int), .int .u64 (t : Int), .int .u64 (bc : Int), .int .u64 (br : Int), .int .u64 (bs : Int), .slice bA bl.length bcap] 93) = w3 at *
        refine hK.out _ _ ?_ (fun hHeld => ?_)
        · exact HK.out _ HN3.out
        clear hK K
        try simp only [Act.put, sA, sZ, sS]
        refine wpZ_ready (rs := [15]) (by kernel_rfl) (by simp) ?_
        refine AllZ.cons (o := ⟨some 35, .call { callee := .builtin .append, args := #[.tmp 23, .tmp 34], argTypes := #[34, 34] }, 34, "ref.go:48", #[⟨3, .data⟩, ⟨14, .data⟩, ⟨3, .chain⟩], none⟩) rfl (fun K hK => ?_) AllZ.nil
        refine step_appR (m := [(⟨kd, id, td, ep, t, ⟨⟨bc, br, bs, bl⟩, bA, bcap⟩⟩ : NtV)]) ntTy NtV.encOk rfl (.tmp 23) (.tmp 34) rfl rfl rfl HO3.out (SlIn.one HP3.out NtV.encOk rfl) (HM3.out _) (HM4.out _) HN3.out.size ?_
        intro v4 w4 h4 hg4 hv4
        obtain ⟨A4, n4, c4, rfl⟩ := h4.shp
        have HN4 := Lib.hid (HN3.out.grown hg4 (fun k hk => (HO3.out.lt k hk).1))
        have HO4 := Lib.hid h4
        have HP4 := Lib.hid (HP3.out.grown hg4 (fun e => HD3.out _ e.symm rfl))
        have HD4 := Lib.hid (app_far HD3.out HP3.out.lt hv4)
        clear h4 hg4 hv4
        obtain ⟨z0, z1, z2, z3, z4, z5, z6, z7, z8, z9, z10, zz⟩ := Blk10R (HHX.out.new HN4.out)
        refine hK.out _ _ ?_ (fun hHeld => ?_)
        · exact HK.out _ HN4.out
        clear hK K
        try simp only [Act.put, sA, sZ, sS]
        refine tkZ (i := 16) (oi := ⟨some 36, .fieldAddr 36 (.tmp 5) 5, 0, "ref.go:48", #[⟨0, .phase⟩, ⟨1, .phase⟩, ⟨2, .phase⟩, ⟨3, .phase⟩, ⟨4, .phase⟩, ⟨5, .phase⟩, ⟨6, .phase⟩, ⟨7, .phase⟩, ⟨8, .phase⟩, ⟨9, .phase⟩, ⟨10, .phase⟩, ⟨11, .phase⟩, ⟨12, .phase⟩, ⟨13, .phase⟩, ⟨14, .phase⟩, ⟨15, .phase⟩], none⟩) (v := ?_) (.inl ⟨by rfl, ?_⟩) ?_
        rotate_left
        · (intro wq hSw; (try dsimp only at hSw); go_simp; first | done | with_reducible rfl)
        try simp only [Act.put, sA, sZ, sS]
        refine wpZ_ready (rs := [17]) (by kernel_rfl) (by simp) ?_
        refine AllZ.consZ (o := ⟨none, .store 34 (.tmp 36) (.tmp 35), 0, "ref.go:48", #[⟨16, .data⟩, ⟨15, .data⟩, ⟨15, .chain⟩, ⟨0, .phase⟩, ⟨1, .phase⟩, ⟨2, .phase⟩, ⟨3, .phase⟩, ⟨4, .phase⟩, ⟨5, .phase⟩, ⟨6, .phase⟩, ⟨7, .phase⟩, ⟨8, .phase⟩, ⟨9, .phase⟩, ⟨10, .phase⟩, ⟨11, .phase⟩, ⟨12, .phase⟩, ⟨13, .phase⟩, ⟨14, .phase⟩, ⟨15, .phase⟩], none⟩) rfl (by kernel_rfl) (fun K hK => ?_) AllZ.nil
        go_simp
        refine hK.out _ _ ?_
        clear hK K
        try simp only [Act.put, sA, sZ, sS]
        refine wpZ_done (by kernel_rfl) ?_ _
        clear hHeld z0 z1 z2 z3 z4 z5 z6 z7 z8 z9 z10 zz
        have hu5 : Upd (· = w.heap.size) w4 (w4.setCell ⟨w.heap.size, 9, none⟩ (.slice A4 n4 c4)) := (Upd.refl _ w4).setIn 9 _
        have H15 := Lib.hid ((HHX.out.new HN4.out).set_ 9 (.slice A4 n4 c4))
        have H35 := Lib.hid ((HRX.out.new HN4.out).upd hu5 (by omega))
        have HR5 := Lib.hid (HO4.out.upd hu5 (fun k hk e => by have := (HO4.out.lt k hk).1; have := HHX.out.lt; omega))
        have HN5 := Lib.hid ((New.trans HN.out (HNB.out.trans HN4.out)).upd hu5 (fun i e => by omega))
        have HG5 : Hid (w.heap.size + 3 ≤ wB.heap.size) := Lib.hid (by have := HRX.out.lt; omega)
        have HOWN : Hid (∀ k, (.slice A4 n4 c4 : Value).ownBlock = some k → w.heap.size + 3 ≤ k) := Lib.hid (fun k hk => by have := (HO4.out.lt k hk).1; have := HG5.out; omega)
        clear hu5
        generalize w4.setCell ⟨w.heap.size, 9, none⟩ (.slice A4 n4 c4) = w5 at *
        obtain ⟨q0, q1, q2, q3, q4, q5, q6, q7, q8, q9, q10, qz⟩ := Blk10R H15.out
        obtain ⟨r0, r1, r2, r3, r4, r5, r6, r7, r8, r9, r10, rz⟩ := Blk10R H35.out
        go_wp2_with fail
        have hu9 : Upd (· = w.heap.size + 2) w5 ((((((((((w5.setCell ⟨w.heap.size + 2, 0, none⟩ (.int .i64 id)).setCell ⟨w.heap.size + 2, 1, none⟩ (.int .u64 (ep : Int))).setCell ⟨w.heap.size + 2, 2, none⟩ (.slice cA ms.length cc)).setCell ⟨w.heap.size + 2, 3, none⟩ (.int .u64 0)).setCell ⟨w.heap.size + 2, 4, none⟩ (.int .u64 (la : Int))).setCell ⟨w.heap.size + 2, 5, none⟩ (.slice sA L.length sc)).setCell ⟨w.heap.size + 2, 6, none⟩ (.slice tA L.length tc)).setCell ⟨w.heap.size + 2, 7, none⟩ (.slice lA l.length lc)).setCell ⟨w.heap.size + 2, 8, none⟩ (.int .u64 (cl : Int))).setCell ⟨w.heap.size + 2, 9, none⟩ (.slice A4 n4 c4)) := ((((((((((Upd.refl _ w5).setIn 0 _).setIn 1 _).setIn 2 _).setIn 3 _).setIn 4 _).setIn 5 _).setIn 6 _).setIn 7 _).setIn 8 _).setIn 9 _
        have hn9 := HN5.out.upd hu9 (fun i e => by omega)
        have hrn : Row _ 0 93 9 NtV.enc (.slice A4 n4 c4) (([] ++ ps) ++ [(⟨kd, id, td, ep, t, ⟨⟨bc, br, bs, bl⟩, bA, bcap⟩⟩ : NtV)]) := (HR5.out.upd hu9 (fun k hk e => by have := HOWN.out k hk; omega)).lower (Nat.zero_le _)
        rw [List.nil_append] at hrn
        have hho := HH.out.new hn9
        exact bodyPost_ret (v := .agg #[.int .i64 id, .int .u64 (ep : Int), .slice cA ms.length cc, .int .u64 0, .int .u64 (la : Int), .slice sA L.length sc, .slice tA L.length tc, .slice lA l.length lc, .int .u64 (cl : Int), .slice A4 n4 c4]) (by simp [results, Tryz.results80, go_sem, r1, r2, r3, r4, r5, r6, r7, r8, r9, r10]) rfl ⟨⟨id, ep, .slice cA ms.length cc, ⟨la, L, .slice sA L.length sc, .slice tA L.length tc⟩, .slice lA l.length lc, cl, .slice A4 n4 c4⟩, rfl, by
          rw [show (⟨id, ⟨ep, ms⟩, j, l, cl, out⟩ : Rpl).sndR d kd t ⟨bc, br, bs, bl⟩ = (⟨id, ⟨ep, ms⟩, j, l, cl, out⟩ : Rpl).send td kd t ⟨bc, br, bs, bl⟩ by unfold Rpl.sndR Rpl.sndC; dsimp only; rw [HBR.out]; exact if_pos rfl]
          exact { hho.mono (Nat.le_succ B) with out := ⟨ps ++ [(⟨kd, id, td, ep, t, ⟨⟨bc, br, bs, bl⟩, bA, bcap⟩⟩ : NtV)], by rw [List.map_append, HPS.out]; rfl, hrn, fun p hp => (List.mem_append.1 hp).elim (fun hp => (HOK.out p hp).new hn9) (fun hp => by rw [List.mem_singleton.1 hp]; exact HB.out.new hn9)⟩, ol := by have := HH.out.ol; dsimp only [Rpl.send] at this ⊢; rw [List.length_append, List.length_singleton]; omega }, hn9, fun k hk => hk.elim (fun h => .inl (.inl h)) (fun h => h.elim (fun h => .inl (.inr (.inl h))) (fun h => h.elim (fun h => .inr (by have := HOWN.out k h; omega)) (fun h => .inl (.inr (.inr (.inr h))))))⟩
      · go_simp
        have HN5 := Lib.hid (HN1.out.alloc (.cells #[.int .i64 kd, .int .i64 id, .int .i64 td, .int .u64 (ep : Int), .int .u64 (t : Int), .int .u64 (bc : Int), .int .u64 (br : Int), .int .u64 (bs : Int), .slice bA bl.length bcap] 93))
        have HP5 := Lib.hid (Blk.mk_new w1 93 #[.int .i64 kd, .int .i64 id, .int .i64 td, .int .u64 (ep : Int), .int .u64 (t : Int), .int .u64 (bc : Int), .int .u64 (br : Int), .int .u64 (bs : Int), .slice bA bl.length bcap])
        have HO5 := Lib.hid (HO1.out.new ((New.refl _).alloc (.cells #[.int .i64 kd, .int .i64 id, .int .i64 td, .int .u64 (ep : Int), .int .u64 (t : Int), .int .u64 (bc : Int), .int .u64 (br : Int), .int .u64 (bs : Int), .slice bA bl.length bcap] 93)))
        have HD5 := Lib.hid (row_far HO1.out)
        generalize w1.alloc (.cells #[.int .i64 kd, .int .i64 id, .int .i64 td, .int .u64 (ep : Int), .int .u64 (t : Int), .int .u64 (bc : Int), .int .u64 (br : Int), .int .u64 (bs : Int), .slice bA bl.length bcap] 93) = w5 at *
        refine hK.out _ _ ?_ (fun hHeld => ?_)
        · exact HK.out _ HN5.out
        clear hK K
        try simp only [Act.put, sA, sZ, sS]
        refine wpZ_ready (rs := [3]) (by kernel_rfl) (by simp) ?_
        refine AllZ.cons (o := ⟨some 23, .call { callee := .builtin .append, args := #[.tmp 20, .tmp 22], argTypes := #[34, 34] }, 34, "ref.go:48", #[⟨0, .data⟩, ⟨2, .data⟩], none⟩) rfl (fun K hK => ?_) AllZ.nil
        refine step_appR  ntTy NtV.encOk rfl (.tmp 20) (.tmp 22) rfl rfl rfl HO5.out (HSRC.out.new HN5.out) HM1.out HM2.out HN5.out.size ?_
        intro v6 w6 h6 hg6 hv6
        obtain ⟨A6, n6, c6, rfl⟩ := h6.shp
        have HN6 := Lib.hid (HN5.out.grown hg6 (fun k hk => (HO5.out.lt k hk).1))
        have HO6 := Lib.hid h6
        have HP6 := Lib.hid (HP5.out.grown hg6 (fun e => HD5.out _ e.symm rfl))
        have HD6 := Lib.hid (app_far HD5.out HP5.out.lt hv6)
        clear h6 hg6 hv6
        refine hK.out _ _ ?_ (fun hHeld => ?_)
        · exact HK.out _ HN6.out
        clear hK K
        try simp only [Act.put, sA, sZ, sS]
        refine wpZ_ready (rs := [15]) (by kernel_rfl) (by simp) ?_
        refine AllZ.cons (o := ⟨some 35, .call { callee := .builtin .append, args := #[.tmp 23, .tmp 34], argTypes := #[34, 34] }, 34, "ref.go:48", #[⟨3, .data⟩, ⟨14, .data⟩, ⟨3, .chain⟩], none⟩) rfl (fun K hK => ?_) AllZ.nil
        refine step_appR (m := [(⟨kd, id, td, ep, t, ⟨⟨bc, br, bs, bl⟩, bA, bcap⟩⟩ : NtV)]) ntTy NtV.encOk rfl (.tmp 23) (.tmp 34) rfl rfl rfl HO6.out (SlIn.one HP6.out NtV.encOk rfl) (HM3.out _) (HM4.out _) HN6.out.size ?_
        intro v7 w7 h7 hg7 hv7
        obtain ⟨A7, n7, c7, rfl⟩ := h7.shp
        have HN7 := Lib.hid (HN6.out.grown hg7 (fun k hk => (HO6.out.lt k hk).1))
        have HO7 := Lib.hid h7
        have HP7 := Lib.hid (HP6.out.grown hg7 (fun e => HD6.out _ e.symm rfl))
        have HD7 := Lib.hid (app_far HD6.out HP6.out.lt hv7)
        clear h7 hg7 hv7
        obtain ⟨z0, z1, z2, z3, z4, z5, z6, z7, z8, z9, z10, zz⟩ := Blk10R (HHX.out.new HN7.out)
        refine hK.out _ _ ?_ (fun hHeld => ?_)
        · exact HK.out _ HN7.out
        clear hK K
        try simp only [Act.put, sA, sZ, sS]
        refine tkZ (i := 16) (oi := ⟨some 36, .fieldAddr 36 (.tmp 5) 5, 0, "ref.go:48", #[⟨0, .phase⟩, ⟨1, .phase⟩, ⟨2, .phase⟩, ⟨3, .phase⟩, ⟨4, .phase⟩, ⟨5, .phase⟩, ⟨6, .phase⟩, ⟨7, .phase⟩, ⟨8, .phase⟩, ⟨9, .phase⟩, ⟨10, .phase⟩, ⟨11, .phase⟩, ⟨12, .phase⟩, ⟨13, .phase⟩, ⟨14, .phase⟩, ⟨15, .phase⟩], none⟩) (v := ?_) (.inl ⟨by rfl, ?_⟩) ?_
        rotate_left
        · (intro wq hSw; (try dsimp only at hSw); go_simp; first | done | with_reducible rfl)
        try simp only [Act.put, sA, sZ, sS]
        refine wpZ_ready (rs := [17]) (by kernel_rfl) (by simp) ?_
        refine AllZ.consZ (o := ⟨none, .store 34 (.tmp 36) (.tmp 35), 0, "ref.go:48", #[⟨16, .data⟩, ⟨15, .data⟩, ⟨15, .chain⟩, ⟨0, .phase⟩, ⟨1, .phase⟩, ⟨2, .phase⟩, ⟨3, .phase⟩, ⟨4, .phase⟩, ⟨5, .phase⟩, ⟨6, .phase⟩, ⟨7, .phase⟩, ⟨8, .phase⟩, ⟨9, .phase⟩, ⟨10, .phase⟩, ⟨11, .phase⟩, ⟨12, .phase⟩, ⟨13, .phase⟩, ⟨14, .phase⟩, ⟨15, .phase⟩], none⟩) rfl (by kernel_rfl) (fun K hK => ?_) AllZ.nil
        go_simp
        refine hK.out _ _ ?_
        clear hK K
        try simp only [Act.put, sA, sZ, sS]
        refine wpZ_done (by kernel_rfl) ?_ _
        clear hHeld z0 z1 z2 z3 z4 z5 z6 z7 z8 z9 z10 zz
        have hu5 : Upd (· = w.heap.size) w7 (w7.setCell ⟨w.heap.size, 9, none⟩ (.slice A7 n7 c7)) := (Upd.refl _ w7).setIn 9 _
        have H15 := Lib.hid ((HHX.out.new HN7.out).set_ 9 (.slice A7 n7 c7))
        have H35 := Lib.hid ((HRX.out.new HN7.out).upd hu5 (by omega))
        have HR5 := Lib.hid (HO7.out.upd hu5 (fun k hk e => by have := (HO7.out.lt k hk).1; have := HHX.out.lt; omega))
        have HN5 := Lib.hid ((New.trans HN.out (HNB.out.trans HN7.out)).upd hu5 (fun i e => by omega))
        have HG5 : Hid (w.heap.size + 3 ≤ wB.heap.size) := Lib.hid (by have := HRX.out.lt; omega)
        have HOWN : Hid (∀ k, (.slice A7 n7 c7 : Value).ownBlock = some k → w.heap.size + 3 ≤ k) := Lib.hid (fun k hk => by have := (HO7.out.lt k hk).1; have := HG5.out; omega)
        clear hu5
        generalize w7.setCell ⟨w.heap.size, 9, none⟩ (.slice A7 n7 c7) = w5 at *
        obtain ⟨q0, q1, q2, q3, q4, q5, q6, q7, q8, q9, q10, qz⟩ := Blk10R H15.out
        obtain ⟨r0, r1, r2, r3, r4, r5, r6, r7, r8, r9, r10, rz⟩ := Blk10R H35.out
        go_wp2_with fail
        have hu9 : Upd (· = w.heap.size + 2) w5 ((((((((((w5.setCell ⟨w.heap.size + 2, 0, none⟩ (.int .i64 id)).setCell ⟨w.heap.size + 2, 1, none⟩ (.int .u64 (ep : Int))).setCell ⟨w.heap.size + 2, 2, none⟩ (.slice cA ms.length cc)).setCell ⟨w.heap.size + 2, 3, none⟩ (.int .u64 0)).setCell ⟨w.heap.size + 2, 4, none⟩ (.int .u64 (la : Int))).setCell ⟨w.heap.size + 2, 5, none⟩ (.slice sA L.length sc)).setCell ⟨w.heap.size + 2, 6, none⟩ (.slice tA L.length tc)).setCell ⟨w.heap.size + 2, 7, none⟩ (.slice lA l.length lc)).setCell ⟨w.heap.size + 2, 8, none⟩ (.int .u64 (cl : Int))).setCell ⟨w.heap.size + 2, 9, none⟩ (.slice A7 n7 c7)) := ((((((((((Upd.refl _ w5).setIn 0 _).setIn 1 _).setIn 2 _).setIn 3 _).setIn 4 _).setIn 5 _).setIn 6 _).setIn 7 _).setIn 8 _).setIn 9 _
        have hn9 := HN5.out.upd hu9 (fun i e => by omega)
        have hrn : Row _ 0 93 9 NtV.enc (.slice A7 n7 c7) (([] ++ ps) ++ [(⟨kd, id, td, ep, t, ⟨⟨bc, br, bs, bl⟩, bA, bcap⟩⟩ : NtV)]) := (HR5.out.upd hu9 (fun k hk e => by have := HOWN.out k hk; omega)).lower (Nat.zero_le _)
        rw [List.nil_append] at hrn
        have hho := HH.out.new hn9
        exact bodyPost_ret (v := .agg #[.int .i64 id, .int .u64 (ep : Int), .slice cA ms.length cc, .int .u64 0, .int .u64 (la : Int), .slice sA L.length sc, .slice tA L.length tc, .slice lA l.length lc, .int .u64 (cl : Int), .slice A7 n7 c7]) (by simp [results, Tryz.results80, go_sem, r1, r2, r3, r4, r5, r6, r7, r8, r9, r10]) rfl ⟨⟨id, ep, .slice cA ms.length cc, ⟨la, L, .slice sA L.length sc, .slice tA L.length tc⟩, .slice lA l.length lc, cl, .slice A7 n7 c7⟩, rfl, by
          rw [show (⟨id, ⟨ep, ms⟩, j, l, cl, out⟩ : Rpl).sndR d kd t ⟨bc, br, bs, bl⟩ = (⟨id, ⟨ep, ms⟩, j, l, cl, out⟩ : Rpl).send td kd t ⟨bc, br, bs, bl⟩ by unfold Rpl.sndR Rpl.sndC; dsimp only; rw [HBR.out]; exact if_pos rfl]
          exact { hho.mono (Nat.le_succ B) with out := ⟨ps ++ [(⟨kd, id, td, ep, t, ⟨⟨bc, br, bs, bl⟩, bA, bcap⟩⟩ : NtV)], by rw [List.map_append, HPS.out]; rfl, hrn, fun p hp => (List.mem_append.1 hp).elim (fun hp => (HOK.out p hp).new hn9) (fun hp => by rw [List.mem_singleton.1 hp]; exact HB.out.new hn9)⟩, ol := by have := HH.out.ol; dsimp only [Rpl.send] at this ⊢; rw [List.length_append, List.length_singleton]; omega }, hn9, fun k hk => hk.elim (fun h => .inl (.inl h)) (fun h => h.elim (fun h => .inl (.inr (.inl h))) (fun h => h.elim (fun h => .inr (by have := HOWN.out k h; omega)) (fun h => .inl (.inr (.inr (.inr h))))))⟩
    · go_simp
      have HN8 := Lib.hid (HN0.out.alloc (.cells #[.int .i64 kd, .int .i64 id, .int .i64 td, .int .u64 (ep : Int), .int .u64 (t : Int), .int .u64 (bc : Int), .int .u64 (br : Int), .int .u64 (bs : Int), .slice bA bl.length bcap] 93))
      have HP8 := Lib.hid (Blk.mk_new w0 93 #[.int .i64 kd, .int .i64 id, .int .i64 td, .int .u64 (ep : Int), .int .u64 (t : Int), .int .u64 (bc : Int), .int .u64 (br : Int), .int .u64 (bs : Int), .slice bA bl.length bcap])
      generalize w0.alloc (.cells #[.int .i64 kd, .int .i64 id, .int .i64 td, .int .u64 (ep : Int), .int .u64 (t : Int), .int .u64 (bc : Int), .int .u64 (br : Int), .int .u64 (bs : Int), .slice bA bl.length bcap] 93) = w8 at *
      refine hK.out _ _ ?_ (fun hHeld => ?_)
      · exact HK.out _ HN8.out
      clear hK K
      try simp only [Act.put, sA, sZ, sS]
      refine wpZ_ready (rs := [0]) (by kernel_rfl) (by simp) ?_
      refine AllZ.cons (o := ⟨some 20, .buildSlice 34 0 #[], 34, "ref.go:48", #[], none⟩) rfl (fun K hK => ?_) AllZ.nil
      go_simp
      have HN9 := Lib.hid (HN8.out.alloc (.cells #[] 93))
      have HO9 := Lib.hid (Row.fresh (base := wB.heap.size) w8 93 NtV.enc 9 HN8.out.size)
      have HP9 := Lib.hid (HP8.out.alloc (.cells #[] 93))
      have HD9 := Lib.hid (fresh_far HP8.out.lt)
      generalize w8.alloc (.cells #[] 93) = w9 at *
      refine hK.out _ _ ?_ (fun hHeld => ?_)
      · exact HK.out _ HN9.out
      clear hK K
      try simp only [Act.put, sA, sZ, sS]
      refine wpZ_ready (rs := [3]) (by kernel_rfl) (by simp) ?_
      refine AllZ.cons (o := ⟨some 23, .call { callee := .builtin .append, args := #[.tmp 20, .tmp 22], argTypes := #[34, 34] }, 34, "ref.go:48", #[⟨0, .data⟩, ⟨2, .data⟩], none⟩) rfl (fun K hK => ?_) AllZ.nil
      refine step_appR  ntTy NtV.encOk rfl (.tmp 20) (.tmp 22) rfl rfl rfl HO9.out (HSRC.out.new HN9.out) HM1.out HM2.out HN9.out.size ?_
      intro v10 w10 h10 hg10 hv10
      obtain ⟨A10, n10, c10, rfl⟩ := h10.shp
      have HN10 := Lib.hid (HN9.out.grown hg10 (fun k hk => (HO9.out.lt k hk).1))
      have HO10 := Lib.hid h10
      have HP10 := Lib.hid (HP9.out.grown hg10 (fun e => HD9.out _ e.symm rfl))
      have HD10 := Lib.hid (app_far HD9.out HP9.out.lt hv10)
      clear h10 hg10 hv10
      refine hK.out _ _ ?_ (fun hHeld => ?_)
      · exact HK.out _ HN10.out
      clear hK K
      try simp only [Act.put, sA, sZ, sS]
      refine wpZ_ready (rs := [15]) (by kernel_rfl) (by simp) ?_
      refine AllZ.cons (o := ⟨some 35, .call { callee := .builtin .append, args := #[.tmp 23, .tmp 34], argTypes := #[34, 34] }, 34, "ref.go:48", #[⟨3, .data⟩, ⟨14, .data⟩, ⟨3, .chain⟩], none⟩) rfl (fun K hK => ?_) AllZ.nil
      refine step_appR (m := [(⟨kd, id, td, ep, t, ⟨⟨bc, br, bs, bl⟩, bA, bcap⟩⟩ : NtV)]) ntTy NtV.encOk rfl (.tmp 23) (.tmp 34) rfl rfl rfl HO10.out (SlIn.one HP10.out NtV.encOk rfl) (HM3.out _) (HM4.out _) HN10.out.size ?_
      intro v11 w11 h11 hg11 hv11
      obtain ⟨A11, n11, c11, rfl⟩ := h11.shp
      have HN11 := Lib.hid (HN10.out.grown hg11 (fun k hk => (HO10.out.lt k hk).1))
      have HO11 := Lib.hid h11
      have HP11 := Lib.hid (HP10.out.grown hg11 (fun e => HD10.out _ e.symm rfl))
      have HD11 := Lib.hid (app_far HD10.out HP10.out.lt hv11)
      clear h11 hg11 hv11
      obtain ⟨z0, z1, z2, z3, z4, z5, z6, z7, z8, z9, z10, zz⟩ := Blk10R (HHX.out.new HN11.out)
      refine hK.out _ _ ?_ (fun hHeld => ?_)
      · exact HK.out _ HN11.out
      clear hK K
      try simp only [Act.put, sA, sZ, sS]
      refine tkZ (i := 16) (oi := ⟨some 36, .fieldAddr 36 (.tmp 5) 5, 0, "ref.go:48", #[⟨0, .phase⟩, ⟨1, .phase⟩, ⟨2, .phase⟩, ⟨3, .phase⟩, ⟨4, .phase⟩, ⟨5, .phase⟩, ⟨6, .phase⟩, ⟨7, .phase⟩, ⟨8, .phase⟩, ⟨9, .phase⟩, ⟨10, .phase⟩, ⟨11, .phase⟩, ⟨12, .phase⟩, ⟨13, .phase⟩, ⟨14, .phase⟩, ⟨15, .phase⟩], none⟩) (v := ?_) (.inl ⟨by rfl, ?_⟩) ?_
      rotate_left
      · (intro wq hSw; (try dsimp only at hSw); go_simp; first | done | with_reducible rfl)
      try simp only [Act.put, sA, sZ, sS]
      refine wpZ_ready (rs := [17]) (by kernel_rfl) (by simp) ?_
      refine AllZ.consZ (o := ⟨none, .store 34 (.tmp 36) (.tmp 35), 0, "ref.go:48", #[⟨16, .data⟩, ⟨15, .data⟩, ⟨15, .chain⟩, ⟨0, .phase⟩, ⟨1, .phase⟩, ⟨2, .phase⟩, ⟨3, .phase⟩, ⟨4, .phase⟩, ⟨5, .phase⟩, ⟨6, .phase⟩, ⟨7, .phase⟩, ⟨8, .phase⟩, ⟨9, .phase⟩, ⟨10, .phase⟩, ⟨11, .phase⟩, ⟨12, .phase⟩, ⟨13, .phase⟩, ⟨14, .phase⟩, ⟨15, .phase⟩], none⟩) rfl (by kernel_rfl) (fun K hK => ?_) AllZ.nil
      go_simp
      refine hK.out _ _ ?_
      clear hK K
      try simp only [Act.put, sA, sZ, sS]
      refine wpZ_done (by kernel_rfl) ?_ _
      clear hHeld z0 z1 z2 z3 z4 z5 z6 z7 z8 z9 z10 zz
      have hu5 : Upd (· = w.heap.size) w11 (w11.setCell ⟨w.heap.size, 9, none⟩ (.slice A11 n11 c11)) := (Upd.refl _ w11).setIn 9 _
      have H15 := Lib.hid ((HHX.out.new HN11.out).set_ 9 (.slice A11 n11 c11))
      have H35 := Lib.hid ((HRX.out.new HN11.out).upd hu5 (by omega))
      have HR5 := Lib.hid (HO11.out.upd hu5 (fun k hk e => by have := (HO11.out.lt k hk).1; have := HHX.out.lt; omega))
      have HN5 := Lib.hid ((New.trans HN.out (HNB.out.trans HN11.out)).upd hu5 (fun i e => by omega))
      have HG5 : Hid (w.heap.size + 3 ≤ wB.heap.size) := Lib.hid (by have := HRX.out.lt; omega)
      have HOWN : Hid (∀ k, (.slice A11 n11 c11 : Value).ownBlock = some k → w.heap.size + 3 ≤ k) := Lib.hid (fun k hk => by have := (HO11.out.lt k hk).1; have := HG5.out; omega)
      clear hu5
      generalize w11.setCell ⟨w.heap.size, 9, none⟩ (.slice A11 n11 c11) = w5 at *
      obtain ⟨q0, q1, q2, q3, q4, q5, q6, q7, q8, q9, q10, qz⟩ := Blk10R H15.out
      obtain ⟨r0, r1, r2, r3, r4, r5, r6, r7, r8, r9, r10, rz⟩ := Blk10R H35.out
      go_wp2_with fail
      have hu9 : Upd (· = w.heap.size + 2) w5 ((((((((((w5.setCell ⟨w.heap.size + 2, 0, none⟩ (.int .i64 id)).setCell ⟨w.heap.size + 2, 1, none⟩ (.int .u64 (ep : Int))).setCell ⟨w.heap.size + 2, 2, none⟩ (.slice cA ms.length cc)).setCell ⟨w.heap.size + 2, 3, none⟩ (.int .u64 0)).setCell ⟨w.heap.size + 2, 4, none⟩ (.int .u64 (la : Int))).setCell ⟨w.heap.size + 2, 5, none⟩ (.slice sA L.length sc)).setCell ⟨w.heap.size + 2, 6, none⟩ (.slice tA L.length tc)).setCell ⟨w.heap.size + 2, 7, none⟩ (.slice lA l.length lc)).setCell ⟨w.heap.size + 2, 8, none⟩ (.int .u64 (cl : Int))).setCell ⟨w.heap.size + 2, 9, none⟩ (.slice A11 n11 c11)) := ((((((((((Upd.refl _ w5).setIn 0 _).setIn 1 _).setIn 2 _).setIn 3 _).setIn 4 _).setIn 5 _).setIn 6 _).setIn 7 _).setIn 8 _).setIn 9 _
      have hn9 := HN5.out.upd hu9 (fun i e => by omega)
      have hrn : Row _ 0 93 9 NtV.enc (.slice A11 n11 c11) (([] ++ ps) ++ [(⟨kd, id, td, ep, t, ⟨⟨bc, br, bs, bl⟩, bA, bcap⟩⟩ : NtV)]) := (HR5.out.upd hu9 (fun k hk e => by have := HOWN.out k hk; omega)).lower (Nat.zero_le _)
      rw [List.nil_append] at hrn
      have hho := HH.out.new hn9
      exact bodyPost_ret (v := .agg #[.int .i64 id, .int .u64 (ep : Int), .slice cA ms.length cc, .int .u64 0, .int .u64 (la : Int), .slice sA L.length sc, .slice tA L.length tc, .slice lA l.length lc, .int .u64 (cl : Int), .slice A11 n11 c11]) (by simp [results, Tryz.results80, go_sem, r1, r2, r3, r4, r5, r6, r7, r8, r9, r10]) rfl ⟨⟨id, ep, .slice cA ms.length cc, ⟨la, L, .slice sA L.length sc, .slice tA L.length tc⟩, .slice lA l.length lc, cl, .slice A11 n11 c11⟩, rfl, by
        rw [show (⟨id, ⟨ep, ms⟩, j, l, cl, out⟩ : Rpl).sndR d kd t ⟨bc, br, bs, bl⟩ = (⟨id, ⟨ep, ms⟩, j, l, cl, out⟩ : Rpl).send td kd t ⟨bc, br, bs, bl⟩ by unfold Rpl.sndR Rpl.sndC; dsimp only; rw [HBR.out]; exact if_pos rfl]
        exact { hho.mono (Nat.le_succ B) with out := ⟨ps ++ [(⟨kd, id, td, ep, t, ⟨⟨bc, br, bs, bl⟩, bA, bcap⟩⟩ : NtV)], by rw [List.map_append, HPS.out]; rfl, hrn, fun p hp => (List.mem_append.1 hp).elim (fun hp => (HOK.out p hp).new hn9) (fun hp => by rw [List.mem_singleton.1 hp]; exact HB.out.new hn9)⟩, ol := by have := HH.out.ol; dsimp only [Rpl.send] at this ⊢; rw [List.length_append, List.length_singleton]; omega }, hn9, fun k hk => hk.elim (fun h => .inl (.inl h)) (fun h => h.elim (fun h => .inl (.inr (.inl h))) (fun h => h.elim (fun h => .inr (by have := HOWN.out k h; omega)) (fun h => .inl (.inr (.inr (.inr h))))))⟩
end
end Go.Proofs.YtecniafnihpjmaaGreatDoor
