/- Chapter 22 (decree): an acceptance comes. Printed by genDg9.py. -/
import Derived.Test.YtghhcjpilcoblaaDg8
namespace Go.Proofs.Ytghhcjpilcoblaa
open Go.RowKit Go.Lap
set_option linter.unusedVariables false
section
variable {w w' w'' wa w2 : World} {S : Nat → Prop} {gp n B k : Nat} {L : GpL} {g : Gm}
theorem taken_no {x : Nod} {n : Nat} {fr : Int} {m : Msg} (h : x.mine m = false) : x.taken n fr m = (x, none) := by
  unfold Nod.taken
  cases hp : x.nw with
  | none => rfl
  | some p => have : mineP p m = false := by rw [← h]; unfold Nod.mine; rw [hp]
              simp [this]
theorem taken_not {x : Nod} {n : Nat} {fr : Int} {m : Msg} {p : Prs} (hp : x.nw = some p) (h : p.ch = false) : x.taken n fr m = (x, none) := by
  unfold Nod.taken
  rw [hp]
  dsimp only
  rw [if_pos (.inr h)]
theorem taken_few {x : Nod} {n : Nat} {fr : Int} {m : Msg} {p : Prs} (hp : x.nw = some p) (h1 : mineP p m = true) (h2 : p.ch = true) (h4 : ¬ quor n ≤ (addL p.by_ fr).length) : x.taken n fr m = ({ x with nw := some { p with by_ := addL p.by_ fr } }, none) := by
  unfold Nod.taken
  rw [hp]
  dsimp only
  rw [if_neg (by simp [h1, h2]), if_neg h4]
theorem taken_many {x : Nod} {n : Nat} {fr : Int} {m : Msg} {p : Prs} (hp : x.nw = some p) (h1 : mineP p m = true) (h2 : p.ch = true) (h4 : quor n ≤ (addL p.by_ fr).length) : x.taken n fr m = (({ x with nw := some { p with by_ := addL p.by_ fr } } : Nod).know p.s p.v, some (mLearn p.s p.v)) := by
  unfold Nod.taken
  rw [hp]
  dsimp only
  rw [if_neg (by simp [h1, h2]), if_pos h4]
theorem mLearn_good {s : Nat} {v : ByteArray} (h : s < 18446744073709551616) (hv : v.size ≤ 65536) : (mLearn s v).good := ⟨by show 5 ≤ 6; omega, h, by show 0 < 18446744073709551616; omega, by show 0 < 18446744073709551616; omega, hv, by show 0 < 18446744073709551616; omega, by show 0 < 18446744073709551616; omega, by show 0 ≤ 65536; omega⟩
set_option maxRecDepth 100000 in
set_option maxHeartbeats 8000000 in
theorem gtk_no (h : GpAt w gp n B L g) {i : Nat} (hi : i < n) (fr : Nat) (m : Msg) (hm : (g.nd i).mine m = false) :
    Calls Try.prog 66 #[.pointer (some ⟨gp, 0, none⟩), .pointer (some ⟨L.nb i, 0, none⟩), .int .i64 (fr : Int), m.val] w (PmPost w gp n B L g i (g.nd i, none) (othersOf n i)) := by
  obtain ⟨mk, ms, mr, mn, mv, mh, mhr, mhn, mhv⟩ := m
  have hN := (New.refl w).alloc (.cells #[.int .i64 (mk : Int), .int .u64 (ms : Int), .int .u64 (mr : Int), .int .u64 (mn : Int), .string mv, .bool mh, .int .u64 (mhr : Int), .int .u64 (mhn : Int), .string mhv] 107)
  have hM := Blk.mk_new w 107 #[.int .i64 (mk : Int), .int .u64 (ms : Int), .int .u64 (mr : Int), .int .u64 (mn : Int), .string mv, .bool mh, .int .u64 (mhr : Int), .int .u64 (mhn : Int), .string mhv]
  have HMI := Lib.hid (nmine ((h.nd i hi).new hN) ⟨mk, ms, mr, mn, mv, mh, mhr, mhn, mhv⟩)
  rw [hm] at HMI
  have HH := Lib.hid h
  have HN := Lib.hid hN
  clear h hN hM hm
  go_enter Try.func66, Try.ntmps66
  go_wp2_with fail
  refine HMI.out.mono ?_
  rintro e w1 ⟨rfl, hn1⟩
  have HN1 := Lib.hid (HN.out.trans hn1)
  clear hn1
  go_wp2_with fail
  go_end0
  exact PmPost.same HH.out HN1.out
set_option maxRecDepth 100000 in
set_option maxHeartbeats 8000000 in
theorem gtk_not (h : GpAt w gp n B L g) {i : Nat} (hi : i < n) (fr : Nat) (m : Msg) {p : Prs} (hp : (g.nd i).nw = some p) (hm : (g.nd i).mine m = true) (hc : p.ch = false) :
    Calls Try.prog 66 #[.pointer (some ⟨gp, 0, none⟩), .pointer (some ⟨L.nb i, 0, none⟩), .int .i64 (fr : Int), m.val] w (PmPost w gp n B L g i (g.nd i, none) (othersOf n i)) := by
  obtain ⟨mk, ms, mr, mn, mv, mh, mhr, mhn, mhv⟩ := m
  have hN := (New.refl w).alloc (.cells #[.int .i64 (mk : Int), .int .u64 (ms : Int), .int .u64 (mr : Int), .int .u64 (mn : Int), .string mv, .bool mh, .int .u64 (mhr : Int), .int .u64 (mhn : Int), .string mhv] 107)
  have hM := Blk.mk_new w 107 #[.int .i64 (mk : Int), .int .u64 (ms : Int), .int .u64 (mr : Int), .int .u64 (mn : Int), .string mv, .bool mh, .int .u64 (mhr : Int), .int .u64 (mhn : Int), .string mhv]
  have HMI := Lib.hid (nmine ((h.nd i hi).new hN) ⟨mk, ms, mr, mn, mv, mh, mhr, mhn, mhv⟩)
  rw [hm] at HMI
  have HH := Lib.hid h
  have HN := Lib.hid hN
  obtain ⟨P, hpw, hP⟩ := (h.nd i hi).prs hp
  clear h hN hm
  go_enter Try.func66, Try.ntmps66
  go_wp2_with fail
  refine HMI.out.mono ?_
  rintro e w1 ⟨rfl, hn1⟩
  have HN1 := Lib.hid (HN.out.trans hn1)
  have h1 := HH.out.new HN1.out
  have hx1 := h1.nd i hi
  have hP1 := hP.new HN1.out
  obtain ⟨g0, c0, c1, c2, c3, c4, c5, cz⟩ := Blk6F hx1.blk
  rw [hpw] at c5
  obtain ⟨q0, e0, e1, e2, e3, e4, e5, e6, e7, ez⟩ := Blk8F hP1.blk
  rw [hc] at e7
  clear h1 hx1 hP1 hn1 hM hP hp hc hpw
  go_wp2_with fail
  go_end0
  exact PmPost.same HH.out HN1.out
set_option maxRecDepth 100000 in
set_option maxHeartbeats 8000000 in
theorem gtk_few (h : GpAt w gp n B L g) {i : Nat} (hi : i < n) (fr : Nat) (m : Msg) {p : Prs} (hp : (g.nd i).nw = some p) (hm : (g.nd i).mine m = true) (hc : p.ch = true) (hfr : fr ≤ 1000) (hn7 : n ≤ 7) (hpk : PrsOk B p) (hB : B ≤ 100000000) (hq : ¬ quor n ≤ (addL p.by_ (fr : Int)).length) :
    Calls Try.prog 66 #[.pointer (some ⟨gp, 0, none⟩), .pointer (some ⟨L.nb i, 0, none⟩), .int .i64 (fr : Int), m.val] w (PmPost w gp n B L g i (({ g.nd i with nw := some { p with by_ := addL p.by_ (fr : Int) } } : Nod), none) (othersOf n i)) := by
  obtain ⟨mk, ms, mr, mn, mv, mh, mhr, mhn, mhv⟩ := m
  have hN := (New.refl w).alloc (.cells #[.int .i64 (mk : Int), .int .u64 (ms : Int), .int .u64 (mr : Int), .int .u64 (mn : Int), .string mv, .bool mh, .int .u64 (mhr : Int), .int .u64 (mhn : Int), .string mhv] 107)
  have hM := Blk.mk_new w 107 #[.int .i64 (mk : Int), .int .u64 (ms : Int), .int .u64 (mr : Int), .int .u64 (mn : Int), .string mv, .bool mh, .int .u64 (mhr : Int), .int .u64 (mhn : Int), .string mhv]
  have HMI := Lib.hid (nmine ((h.nd i hi).new hN) ⟨mk, ms, mr, mn, mv, mh, mhr, mhn, mhv⟩)
  rw [hm] at HMI
  have HH := Lib.hid h
  have HN := Lib.hid hN
  obtain ⟨P, hpw, hP⟩ := (h.nd i hi).prs hp
  have HPC := Lib.hid (show p.s < 18446744073709551616 ∧ p.v.size ≤ 65536 from ⟨by have := hpk.s; omega, by have := hpk.v; omega⟩)
  have hbl := hpk.bl
  have hfl : (addL p.by_ (fr : Int)).length ≤ p.by_.length + 1 := by rw [addL_len]; split <;> omega
  clear h hN hm hpk
  go_enter Try.func66, Try.ntmps66
  go_wp2_with fail
  refine HMI.out.mono ?_
  rintro e w1 ⟨rfl, hn1⟩
  have HN1 := Lib.hid (HN.out.trans hn1)
  have h1 := HH.out.new HN1.out
  have hx1 := h1.nd i hi
  have hP1 := hP.new HN1.out
  obtain ⟨g0, c0, c1, c2, c3, c4, c5, cz⟩ := Blk6F hx1.blk
  rw [hpw] at c5
  obtain ⟨q0, e0, e1, e2, e3, e4, e5, e6, e7, ez⟩ := Blk8F hP1.blk
  rw [hc] at e7
  have HFM := Lib.hid hP1.bm
  have HMX := Lib.hid (show p.by_.length < maxLen by unfold maxLen; omega)
  have HOKI := Lib.hid (show okI (fr : Int) from okI_lt (by omega) (by omega))
  have HX1 := Lib.hid hx1
  have HP1 := Lib.hid hP1
  have HH1 := Lib.hid h1
  have HPN := Lib.hid hp
  have HPW := Lib.hid hpw
  clear h1 hx1 hP1 hn1 hM hP hp hpw hc
  go_upto_region 4 with (at_mapUpdate; refine wpList_mp_put keyI64 rfl _ _ _ 102 4 rfl Try.underlying102 rfl HFM.out HMX.out (fr : Int) HOKI.out rfl _ rfl ?_; intro w5 hm5 hg5)
  have hu5 := growI hg5
  have hP5 := PrsAt.by_ HP1.out hm5 hu5
  have hX5 := HX1.out.setNw HPN.out HPW.out HP1.out hu5 (fun k _ e => .inr (.inl e)) (fun _ h => h) hP5 rfl
  have hU5 : Upd (L.Fn i) w1 w5 := hu5.mono fun k _ e => by rw [e]; exact HP1.out.f1.2.2
  have hG5 : Gro (L.Fn i) (L.Fn i) w1 w5 := fun k hk => .inl hk
  have hg7 := HH1.out.setNd hi hU5 hX5 hG5 (Nat.le_refl _)
  have HGR7 := Lib.hid (And.intro (ndGro (gp := gp) (n := n) (L := L) (l' := L.nl i) hi hG5) (show Upd (GpF gp n L) w1 w5 from hU5.mono fun k _ hk => .inr ⟨i, hi, hk⟩))
  clear g0 c0 c1 c2 c3 c4 c5 cz q0 e0 e1 e2 e3 e4 e5 e6 e7 ez hm5 hg5 hu5
  obtain ⟨q0, e0, e1, e2, e3, e4, e5, e6, e7, ez⟩ := Blk8F hP5.blk
  obtain ⟨gA, gc, hnv⟩ := hg7.nvs
  obtain ⟨g0, f0, f1, fz⟩ := hg7.facts
  dsimp only at hnv f0
  rw [hnv] at f0
  obtain ⟨qn, hqn⟩ : ∃ qn, (addL p.by_ (fr : Int)).length = qn := ⟨_, rfl⟩
  have hlen := fun ty => mpLenI (MpAt.new hP5.bm (New.refl w5).drew) Try.underlying102 ty
  dsimp only at hlen
  rw [hqn] at hlen
  rw [hqn] at hq
  have HP5 := Lib.hid hP5
  have HX5 := Lib.hid hX5
  have HG7 := Lib.hid hg7
  have HU5 := Lib.hid hU5
  have HQC := Lib.hid (quor_call n (by omega))
  clear hP5 hX5 hg7 hU5 hG5 hnv hqn hfl
  have hqi : ¬ ((quor n : Nat) : Int) ≤ (qn : Int) := by omega
  refine wp_region_held_drew (S := fun w' => w' = w5.drew) (by kernel_rfl) (rfl) (fun hHeld => ?_)
  refine wpAnyH_take (i := 0) (oi := { dst := some 32, op := Op.move (Operand.tmp 8), type := 98, pos := "decree.go:252", after := #[], guard := none }) (v := ?_) rfl (by kernel_rfl) (by kernel_rfl) (by kernel_rfl) (fun _ _ _ h => h) (Or.inl ⟨by rfl, ?_⟩) (by assumption) ?_
  rotate_left
  · (intro wq hSw; (try dsimp only at hSw); go_simp; first | done | with_reducible rfl)
  try simp only [Act.put, List.setIfInBounds_toArray, List.set_cons_zero, List.set_cons_succ]
  refine wpAnyH_take (i := 1) (oi := { dst := some 33, op := Op.nilCheck (Operand.tmp 32), type := 0, pos := "decree.go:252", after := #[{ on := 0, ground := Ground.data }], guard := none }) (v := ?_) rfl (by kernel_rfl) (by kernel_rfl) (by kernel_rfl) (fun _ _ _ h => h) (Or.inl ⟨by rfl, ?_⟩) (by assumption) ?_
  rotate_left
  · (intro wq hSw; (try dsimp only at hSw); go_simp; first | done | with_reducible rfl)
  try simp only [Act.put, List.setIfInBounds_toArray, List.set_cons_zero, List.set_cons_succ]
  refine wpAnyH_take (i := 2) (oi := { dst := some 34, op := Op.fieldAddr 104 (Operand.tmp 33) 4, type := 0, pos := "decree.go:252", after := #[{ on := 1, ground := Ground.data }], guard := none }) (v := ?_) rfl (by kernel_rfl) (by kernel_rfl) (by kernel_rfl) (fun _ _ _ h => h) (Or.inl ⟨by rfl, ?_⟩) (by assumption) ?_
  rotate_left
  · (intro wq hSw; (try dsimp only at hSw); go_simp; first | done | with_reducible rfl)
  try simp only [Act.put, List.setIfInBounds_toArray, List.set_cons_zero, List.set_cons_succ]
  refine wpAnyH_take (i := 3) (oi := { dst := some 35, op := Op.load 102 (Operand.tmp 34), type := 102, pos := "decree.go:252", after := #[{ on := 2, ground := Ground.data }], guard := none }) (v := ?_) rfl (by kernel_rfl) (by kernel_rfl) (by kernel_rfl) (fun _ _ _ h => h) (Or.inl ⟨by rfl, ?_⟩) (by assumption) ?_
  rotate_left
  · (intro wq hSw; (try dsimp only at hSw); go_simp; first | done | with_reducible rfl)
  try simp only [Act.put, List.setIfInBounds_toArray, List.set_cons_zero, List.set_cons_succ]
  refine wpAnyH_take (i := 4) (oi := { dst := some 36, op := Op.call { callee := Callee.builtin Builtin.len, args := #[Operand.tmp 35], argTypes := #[102] }, type := 3, pos := "decree.go:252", after := #[{ on := 3, ground := Ground.data }], guard := none }) (v := ?_) rfl (by kernel_rfl) (by kernel_rfl) (by kernel_rfl) (fun _ _ _ h => h) (Or.inl ⟨by rfl, ?_⟩) (by assumption) ?_
  rotate_left
  · (intro wq hSw; (try dsimp only at hSw); go_simp; first | done | with_reducible rfl)
  try simp only [Act.put, List.setIfInBounds_toArray, List.set_cons_zero, List.set_cons_succ]
  refine wpAnyH_take (i := 5) (oi := { dst := some 37, op := Op.move (Operand.tmp 0), type := 53, pos := "decree.go:252", after := #[], guard := none }) (v := ?_) rfl (by kernel_rfl) (by kernel_rfl) (by kernel_rfl) (fun _ _ _ h => h) (Or.inl ⟨by rfl, ?_⟩) (by assumption) ?_
  rotate_left
  · (intro wq hSw; (try dsimp only at hSw); go_simp; first | done | with_reducible rfl)
  try simp only [Act.put, List.setIfInBounds_toArray, List.set_cons_zero, List.set_cons_succ]
  refine wpAnyH_take (i := 6) (oi := { dst := some 38, op := Op.nilCheck (Operand.tmp 37), type := 0, pos := "decree.go:252", after := #[{ on := 5, ground := Ground.data }], guard := none }) (v := ?_) rfl (by kernel_rfl) (by kernel_rfl) (by kernel_rfl) (fun _ _ _ h => h) (Or.inl ⟨by rfl, ?_⟩) (by assumption) ?_
  rotate_left
  · (intro wq hSw; (try dsimp only at hSw); go_simp; first | done | with_reducible rfl)
  try simp only [Act.put, List.setIfInBounds_toArray, List.set_cons_zero, List.set_cons_succ]
  refine wpAnyH_take (i := 7) (oi := { dst := some 39, op := Op.fieldAddr 94 (Operand.tmp 38) 0, type := 0, pos := "decree.go:252", after := #[{ on := 6, ground := Ground.data }], guard := none }) (v := ?_) rfl (by kernel_rfl) (by kernel_rfl) (by kernel_rfl) (fun _ _ _ h => h) (Or.inl ⟨by rfl, ?_⟩) (by assumption) ?_
  rotate_left
  · (intro wq hSw; (try dsimp only at hSw); go_simp; first | done | with_reducible rfl)
  try simp only [Act.put, List.setIfInBounds_toArray, List.set_cons_zero, List.set_cons_succ]
  refine wpAnyH_take (i := 8) (oi := { dst := some 40, op := Op.load 92 (Operand.tmp 39), type := 92, pos := "decree.go:252", after := #[{ on := 7, ground := Ground.data }], guard := none }) (v := ?_) rfl (by kernel_rfl) (by kernel_rfl) (by kernel_rfl) (fun _ _ _ h => h) (Or.inl ⟨by rfl, ?_⟩) (by assumption) ?_
  rotate_left
  · (intro wq hSw; (try dsimp only at hSw); go_simp; first | done | with_reducible rfl)
  try simp only [Act.put, List.setIfInBounds_toArray, List.set_cons_zero, List.set_cons_succ]
  refine wpAnyH_take (i := 9) (oi := { dst := some 41, op := Op.call { callee := Callee.builtin Builtin.len, args := #[Operand.tmp 40], argTypes := #[92] }, type := 3, pos := "decree.go:252", after := #[{ on := 8, ground := Ground.data }], guard := none }) (v := ?_) rfl (by kernel_rfl) (by kernel_rfl) (by kernel_rfl) (fun _ _ _ h => h) (Or.inl ⟨by rfl, ?_⟩) (by assumption) ?_
  rotate_left
  · (intro wq hSw; (try dsimp only at hSw); go_simp; first | done | with_reducible rfl)
  try simp only [Act.put, List.setIfInBounds_toArray, List.set_cons_zero, List.set_cons_succ]
  refine wpAnyH_ready (rs := [10]) (by kernel_rfl) (by simp) ?_
  refine AllReadyH.cons (o := { dst := some 42, op := Op.call { callee := Callee.value (Operand.func 15), args := #[Operand.tmp 41], argTypes := #[3] }, type := 3, pos := "decree.go:252", after := #[{ on := 9, ground := Ground.data }, { on := 4, ground := Ground.chain }], guard := none }) rfl (fun K hK => ?_) AllReadyH.nil
  go_simp
  refine (HQC.out _).mono ?_
  rintro e wq ⟨rfl, hwq⟩
  subst wq
  refine hK.out _ _ ?_ (fun hHeld => ?_)
  · exact rfl
  clear hK K
  try simp only [Act.put, List.setIfInBounds_toArray, List.set_cons_zero, List.set_cons_succ]
  refine wpAnyH_take (i := 11) (oi := { dst := some 43, op := Op.binOp BinOp.geq 3 (Operand.tmp 36) (Operand.tmp 42) 3, type := 4, pos := "decree.go:252", after := #[{ on := 4, ground := Ground.data }, { on := 10, ground := Ground.data }], guard := none }) (v := .bool false) rfl (by kernel_rfl) (by kernel_rfl) (by kernel_rfl) (fun _ _ _ h => h) (Or.inl ⟨by rfl, ?_⟩) (by assumption) ?_
  · (intro wq hSw; (try dsimp only at hSw); go_simp; first | done | with_reducible rfl | (simp; omega))
  try simp only [Act.put, List.setIfInBounds_toArray, List.set_cons_zero, List.set_cons_succ]
  refine wpAnyH_done (by kernel_rfl) ?_ _
  clear hHeld hlen
  go_wp2_with fail
  go_end0
  refine ⟨rfl, ?_⟩
  exact GrPost.pre HN1.out ⟨_, HG7.out.new (New.refl w5).drew, HGR7.out.1, HGR7.out.2.drew⟩
set_option maxRecDepth 100000 in
set_option maxHeartbeats 8000000 in
theorem gtk_many (h : GpAt w gp n B L g) {i : Nat} (hi : i < n) (fr : Nat) (m : Msg) {p : Prs} (hp : (g.nd i).nw = some p) (hm : (g.nd i).mine m = true) (hc : p.ch = true) (hfr : fr ≤ 1000) (hn7 : n ≤ 7) (hpk : PrsOk B p) (hB : B ≤ 100000000) (hq : quor n ≤ (addL p.by_ (fr : Int)).length) (hpl2 : (g.nd i).pe.length ≤ 1000000000000) :
    Calls Try.prog 66 #[.pointer (some ⟨gp, 0, none⟩), .pointer (some ⟨L.nb i, 0, none⟩), .int .i64 (fr : Int), m.val] w (PmPost w gp n (B + 1) L g i ((({ g.nd i with nw := some { p with by_ := addL p.by_ (fr : Int) } } : Nod)).know p.s p.v, some (mLearn p.s p.v)) (othersOf n i)) := by
  have HPL2 := Lib.hid hpl2
  clear hpl2
  obtain ⟨mk, ms, mr, mn, mv, mh, mhr, mhn, mhv⟩ := m
  have hN := (New.refl w).alloc (.cells #[.int .i64 (mk : Int), .int .u64 (ms : Int), .int .u64 (mr : Int), .int .u64 (mn : Int), .string mv, .bool mh, .int .u64 (mhr : Int), .int .u64 (mhn : Int), .string mhv] 107)
  have hM := Blk.mk_new w 107 #[.int .i64 (mk : Int), .int .u64 (ms : Int), .int .u64 (mr : Int), .int .u64 (mn : Int), .string mv, .bool mh, .int .u64 (mhr : Int), .int .u64 (mhn : Int), .string mhv]
  have HMI := Lib.hid (nmine ((h.nd i hi).new hN) ⟨mk, ms, mr, mn, mv, mh, mhr, mhn, mhv⟩)
  rw [hm] at HMI
  have HH := Lib.hid h
  have HN := Lib.hid hN
  obtain ⟨P, hpw, hP⟩ := (h.nd i hi).prs hp
  have HPC := Lib.hid (show p.s < 18446744073709551616 ∧ p.v.size ≤ 65536 from ⟨by have := hpk.s; omega, by have := hpk.v; omega⟩)
  have hbl := hpk.bl
  have hfl : (addL p.by_ (fr : Int)).length ≤ p.by_.length + 1 := by rw [addL_len]; split <;> omega
  clear h hN hm hpk
  go_enter Try.func66, Try.ntmps66
  go_wp2_with fail
  refine HMI.out.mono ?_
  rintro e w1 ⟨rfl, hn1⟩
  have HN1 := Lib.hid (HN.out.trans hn1)
  have h1 := HH.out.new HN1.out
  have hx1 := h1.nd i hi
  have hP1 := hP.new HN1.out
  obtain ⟨g0, c0, c1, c2, c3, c4, c5, cz⟩ := Blk6F hx1.blk
  rw [hpw] at c5
  obtain ⟨q0, e0, e1, e2, e3, e4, e5, e6, e7, ez⟩ := Blk8F hP1.blk
  rw [hc] at e7
  have HFM := Lib.hid hP1.bm
  have HMX := Lib.hid (show p.by_.length < maxLen by unfold maxLen; omega)
  have HOKI := Lib.hid (show okI (fr : Int) from okI_lt (by omega) (by omega))
  have HX1 := Lib.hid hx1
  have HP1 := Lib.hid hP1
  have HH1 := Lib.hid h1
  have HPN := Lib.hid hp
  have HPW := Lib.hid hpw
  clear h1 hx1 hP1 hn1 hM hP hp hpw hc
  go_upto_region 4 with (at_mapUpdate; refine wpList_mp_put keyI64 rfl _ _ _ 102 4 rfl Try.underlying102 rfl HFM.out HMX.out (fr : Int) HOKI.out rfl _ rfl ?_; intro w5 hm5 hg5)
  have hu5 := growI hg5
  have hP5 := PrsAt.by_ HP1.out hm5 hu5
  have hX5 := HX1.out.setNw HPN.out HPW.out HP1.out hu5 (fun k _ e => .inr (.inl e)) (fun _ h => h) hP5 rfl
  have hU5 : Upd (L.Fn i) w1 w5 := hu5.mono fun k _ e => by rw [e]; exact HP1.out.f1.2.2
  have hG5 : Gro (L.Fn i) (L.Fn i) w1 w5 := fun k hk => .inl hk
  have hg7 := HH1.out.setNd hi hU5 hX5 hG5 (Nat.le_refl _)
  have HGR7 := Lib.hid (And.intro (ndGro (gp := gp) (n := n) (L := L) (l' := L.nl i) hi hG5) (show Upd (GpF gp n L) w1 w5 from hU5.mono fun k _ hk => .inr ⟨i, hi, hk⟩))
  clear g0 c0 c1 c2 c3 c4 c5 cz q0 e0 e1 e2 e3 e4 e5 e6 e7 ez hm5 hg5 hu5
  obtain ⟨q0, e0, e1, e2, e3, e4, e5, e6, e7, ez⟩ := Blk8F hP5.blk
  obtain ⟨gA, gc, hnv⟩ := hg7.nvs
  obtain ⟨g0, f0, f1, fz⟩ := hg7.facts
  dsimp only at hnv f0
  rw [hnv] at f0
  obtain ⟨qn, hqn⟩ : ∃ qn, (addL p.by_ (fr : Int)).length = qn := ⟨_, rfl⟩
  have hlen := fun ty => mpLenI (MpAt.new hP5.bm (New.refl w5).drew) Try.underlying102 ty
  dsimp only at hlen
  rw [hqn] at hlen
  rw [hqn] at hq
  have HP5 := Lib.hid hP5
  have HX5 := Lib.hid hX5
  have HG7 := Lib.hid hg7
  have HU5 := Lib.hid hU5
  have HQC := Lib.hid (quor_call n (by omega))
  clear hP5 hX5 hg7 hU5 hG5 hnv hqn hfl
  have hqi : ((quor n : Nat) : Int) ≤ (qn : Int) := by omega
  refine wp_region_held_drew (S := fun w' => w' = w5.drew) (by kernel_rfl) (rfl) (fun hHeld => ?_)
  refine wpAnyH_take (i := 0) (oi := { dst := some 32, op := Op.move (Operand.tmp 8), type := 98, pos := "decree.go:252", after := #[], guard := none }) (v := ?_) rfl (by kernel_rfl) (by kernel_rfl) (by kernel_rfl) (fun _ _ _ h => h) (Or.inl ⟨by rfl, ?_⟩) (by assumption) ?_
  rotate_left
  · (intro wq hSw; (try dsimp only at hSw); go_simp; first | done | with_reducible rfl)
  try simp only [Act.put, List.setIfInBounds_toArray, List.set_cons_zero, List.set_cons_succ]
  refine wpAnyH_take (i := 1) (oi := { dst := some 33, op := Op.nilCheck (Operand.tmp 32), type := 0, pos := "decree.go:252", after := #[{ on := 0, ground := Ground.data }], guard := none }) (v := ?_) rfl (by kernel_rfl) (by kernel_rfl) (by kernel_rfl) (fun _ _ _ h => h) (Or.inl ⟨by rfl, ?_⟩) (by assumption) ?_
  rotate_left
  · (intro wq hSw; (try dsimp only at hSw); go_simp; first | done | with_reducible rfl)
  try simp only [Act.put, List.setIfInBounds_toArray, List.set_cons_zero, List.set_cons_succ]
  refine wpAnyH_take (i := 2) (oi := { dst := some 34, op := Op.fieldAddr 104 (Operand.tmp 33) 4, type := 0, pos := "decree.go:252", after := #[{ on := 1, ground := Ground.data }], guard := none }) (v := ?_) rfl (by kernel_rfl) (by kernel_rfl) (by kernel_rfl) (fun _ _ _ h => h) (Or.inl ⟨by rfl, ?_⟩) (by assumption) ?_
  rotate_left
  · (intro wq hSw; (try dsimp only at hSw); go_simp; first | done | with_reducible rfl)
  try simp only [Act.put, List.setIfInBounds_toArray, List.set_cons_zero, List.set_cons_succ]
  refine wpAnyH_take (i := 3) (oi := { dst := some 35, op := Op.load 102 (Operand.tmp 34), type := 102, pos := "decree.go:252", after := #[{ on := 2, ground := Ground.data }], guard := none }) (v := ?_) rfl (by kernel_rfl) (by kernel_rfl) (by kernel_rfl) (fun _ _ _ h => h) (Or.inl ⟨by rfl, ?_⟩) (by assumption) ?_
  rotate_left
  · (intro wq hSw; (try dsimp only at hSw); go_simp; first | done | with_reducible rfl)
  try simp only [Act.put, List.setIfInBounds_toArray, List.set_cons_zero, List.set_cons_succ]
  refine wpAnyH_take (i := 4) (oi := { dst := some 36, op := Op.call { callee := Callee.builtin Builtin.len, args := #[Operand.tmp 35], argTypes := #[102] }, type := 3, pos := "decree.go:252", after := #[{ on := 3, ground := Ground.data }], guard := none }) (v := ?_) rfl (by kernel_rfl) (by kernel_rfl) (by kernel_rfl) (fun _ _ _ h => h) (Or.inl ⟨by rfl, ?_⟩) (by assumption) ?_
  rotate_left
  · (intro wq hSw; (try dsimp only at hSw); go_simp; first | done | with_reducible rfl)
  try simp only [Act.put, List.setIfInBounds_toArray, List.set_cons_zero, List.set_cons_succ]
  refine wpAnyH_take (i := 5) (oi := { dst := some 37, op := Op.move (Operand.tmp 0), type := 53, pos := "decree.go:252", after := #[], guard := none }) (v := ?_) rfl (by kernel_rfl) (by kernel_rfl) (by kernel_rfl) (fun _ _ _ h => h) (Or.inl ⟨by rfl, ?_⟩) (by assumption) ?_
  rotate_left
  · (intro wq hSw; (try dsimp only at hSw); go_simp; first | done | with_reducible rfl)
  try simp only [Act.put, List.setIfInBounds_toArray, List.set_cons_zero, List.set_cons_succ]
  refine wpAnyH_take (i := 6) (oi := { dst := some 38, op := Op.nilCheck (Operand.tmp 37), type := 0, pos := "decree.go:252", after := #[{ on := 5, ground := Ground.data }], guard := none }) (v := ?_) rfl (by kernel_rfl) (by kernel_rfl) (by kernel_rfl) (fun _ _ _ h => h) (Or.inl ⟨by rfl, ?_⟩) (by assumption) ?_
  rotate_left
  · (intro wq hSw; (try dsimp only at hSw); go_simp; first | done | with_reducible rfl)
  try simp only [Act.put, List.setIfInBounds_toArray, List.set_cons_zero, List.set_cons_succ]
  refine wpAnyH_take (i := 7) (oi := { dst := some 39, op := Op.fieldAddr 94 (Operand.tmp 38) 0, type := 0, pos := "decree.go:252", after := #[{ on := 6, ground := Ground.data }], guard := none }) (v := ?_) rfl (by kernel_rfl) (by kernel_rfl) (by kernel_rfl) (fun _ _ _ h => h) (Or.inl ⟨by rfl, ?_⟩) (by assumption) ?_
  rotate_left
  · (intro wq hSw; (try dsimp only at hSw); go_simp; first | done | with_reducible rfl)
  try simp only [Act.put, List.setIfInBounds_toArray, List.set_cons_zero, List.set_cons_succ]
  refine wpAnyH_take (i := 8) (oi := { dst := some 40, op := Op.load 92 (Operand.tmp 39), type := 92, pos := "decree.go:252", after := #[{ on := 7, ground := Ground.data }], guard := none }) (v := ?_) rfl (by kernel_rfl) (by kernel_rfl) (by kernel_rfl) (fun _ _ _ h => h) (Or.inl ⟨by rfl, ?_⟩) (by assumption) ?_
  rotate_left
  · (intro wq hSw; (try dsimp only at hSw); go_simp; first | done | with_reducible rfl)
  try simp only [Act.put, List.setIfInBounds_toArray, List.set_cons_zero, List.set_cons_succ]
  refine wpAnyH_take (i := 9) (oi := { dst := some 41, op := Op.call { callee := Callee.builtin Builtin.len, args := #[Operand.tmp 40], argTypes := #[92] }, type := 3, pos := "decree.go:252", after := #[{ on := 8, ground := Ground.data }], guard := none }) (v := ?_) rfl (by kernel_rfl) (by kernel_rfl) (by kernel_rfl) (fun _ _ _ h => h) (Or.inl ⟨by rfl, ?_⟩) (by assumption) ?_
  rotate_left
  · (intro wq hSw; (try dsimp only at hSw); go_simp; first | done | with_reducible rfl)
  try simp only [Act.put, List.setIfInBounds_toArray, List.set_cons_zero, List.set_cons_succ]
  refine wpAnyH_ready (rs := [10]) (by kernel_rfl) (by simp) ?_
  refine AllReadyH.cons (o := { dst := some 42, op := Op.call { callee := Callee.value (Operand.func 15), args := #[Operand.tmp 41], argTypes := #[3] }, type := 3, pos := "decree.go:252", after := #[{ on := 9, ground := Ground.data }, { on := 4, ground := Ground.chain }], guard := none }) rfl (fun K hK => ?_) AllReadyH.nil
  go_simp
  refine (HQC.out _).mono ?_
  rintro e wq ⟨rfl, hwq⟩
  subst wq
  refine hK.out _ _ ?_ (fun hHeld => ?_)
  · exact rfl
  clear hK K
  try simp only [Act.put, List.setIfInBounds_toArray, List.set_cons_zero, List.set_cons_succ]
  refine wpAnyH_take (i := 11) (oi := { dst := some 43, op := Op.binOp BinOp.geq 3 (Operand.tmp 36) (Operand.tmp 42) 3, type := 4, pos := "decree.go:252", after := #[{ on := 4, ground := Ground.data }, { on := 10, ground := Ground.data }], guard := none }) (v := .bool true) rfl (by kernel_rfl) (by kernel_rfl) (by kernel_rfl) (fun _ _ _ h => h) (Or.inl ⟨by rfl, ?_⟩) (by assumption) ?_
  · (intro wq hSw; (try dsimp only at hSw); go_simp; first | done | with_reducible rfl | (simp; omega))
  try simp only [Act.put, List.setIfInBounds_toArray, List.set_cons_zero, List.set_cons_succ]
  refine wpAnyH_done (by kernel_rfl) ?_ _
  clear hHeld hlen
  have HX8 := Lib.hid (HX5.out.new (New.refl w5).drew)
  have HP8 := Lib.hid (PrsAt.new HP5.out (New.refl w5).drew)
  have HU8 := Lib.hid (HU5.out.drew)
  clear HG7 HGR7 HX5 HP5 HU5 q0 e0 e1 e2 e3 e4 e5 e6 e7 ez g0 f0 f1 fz hqi
  go_upto_region 5 with fail
  generalize w5.drew = w8 at *
  obtain ⟨b9, b0, b1, b2, b3, b4, b5, b6, b7, bz⟩ := Blk8F HP8.out.blk
  have HPL : Hid (P.pb < w8.drew.heap.size) := Lib.hid b9
  have HPK : Hid (¬ (P.pb = L.nb i ∨ P.pb = (L.nl i).lm)) := Lib.hid (fun h => h.elim (fun e => Blk.ne_ HP8.out.blk HX8.out.blk (by decide) e) (fun e => by obtain ⟨ml, _, hlp⟩ := HX8.out.lg; exact Blk.ne_map HP8.out.blk hlp e))
  have HKN := Lib.hid (nknow (HX8.out.new (New.refl w8).drew) HPC.out.1 p.v (by omega) (by have := HPL2.out; exact this))
  refine wp_region_held_drew (S := fun w' => ∀ o, w'.cell? ⟨P.pb, o, none⟩ = w8.cell? ⟨P.pb, o, none⟩) (by kernel_rfl) (fun _ => rfl) (fun hHeld => ?_)
  refine wpAnyH_take (i := 0) (oi := { dst := some 44, op := Op.move (Operand.tmp 1), type := 95, pos := "decree.go:253", after := #[], guard := none }) (v := ?_) rfl (by kernel_rfl) (by kernel_rfl) (by kernel_rfl) (fun _ _ _ h => h) (Or.inl ⟨by rfl, ?_⟩) (by assumption) ?_
  rotate_left
  · (intro wq hSw; (try dsimp only at hSw); go_simp; first | done | with_reducible rfl)
  try simp only [Act.put, List.setIfInBounds_toArray, List.set_cons_zero, List.set_cons_succ]
  refine wpAnyH_take (i := 1) (oi := { dst := some 45, op := Op.move (Operand.tmp 8), type := 98, pos := "decree.go:253", after := #[], guard := none }) (v := ?_) rfl (by kernel_rfl) (by kernel_rfl) (by kernel_rfl) (fun _ _ _ h => h) (Or.inl ⟨by rfl, ?_⟩) (by assumption) ?_
  rotate_left
  · (intro wq hSw; (try dsimp only at hSw); go_simp; first | done | with_reducible rfl)
  try simp only [Act.put, List.setIfInBounds_toArray, List.set_cons_zero, List.set_cons_succ]
  refine wpAnyH_take (i := 2) (oi := { dst := some 46, op := Op.nilCheck (Operand.tmp 45), type := 0, pos := "decree.go:253", after := #[{ on := 1, ground := Ground.data }], guard := none }) (v := ?_) rfl (by kernel_rfl) (by kernel_rfl) (by kernel_rfl) (fun _ _ _ h => h) (Or.inl ⟨by rfl, ?_⟩) (by assumption) ?_
  rotate_left
  · (intro wq hSw; (try dsimp only at hSw); go_simp; first | done | with_reducible rfl)
  try simp only [Act.put, List.setIfInBounds_toArray, List.set_cons_zero, List.set_cons_succ]
  refine wpAnyH_take (i := 3) (oi := { dst := some 47, op := Op.fieldAddr 104 (Operand.tmp 46) 0, type := 0, pos := "decree.go:253", after := #[{ on := 2, ground := Ground.data }], guard := none }) (v := ?_) rfl (by kernel_rfl) (by kernel_rfl) (by kernel_rfl) (fun _ _ _ h => h) (Or.inl ⟨by rfl, ?_⟩) (by assumption) ?_
  rotate_left
  · (intro wq hSw; (try dsimp only at hSw); go_simp; first | done | with_reducible rfl)
  try simp only [Act.put, List.setIfInBounds_toArray, List.set_cons_zero, List.set_cons_succ]
  refine wpAnyH_take (i := 4) (oi := { dst := some 48, op := Op.load 29 (Operand.tmp 47), type := 29, pos := "decree.go:253", after := #[{ on := 3, ground := Ground.data }], guard := none }) (v := ?_) rfl (by kernel_rfl) (by kernel_rfl) (by kernel_rfl) (fun _ _ _ h => h) (Or.inl ⟨by rfl, ?_⟩) (by assumption) ?_
  rotate_left
  · (intro wq hSw; (try dsimp only at hSw); go_simp; first | done | with_reducible rfl)
  try simp only [Act.put, List.setIfInBounds_toArray, List.set_cons_zero, List.set_cons_succ]
  refine wpAnyH_take (i := 5) (oi := { dst := some 49, op := Op.move (Operand.tmp 8), type := 98, pos := "decree.go:253", after := #[], guard := none }) (v := ?_) rfl (by kernel_rfl) (by kernel_rfl) (by kernel_rfl) (fun _ _ _ h => h) (Or.inl ⟨by rfl, ?_⟩) (by assumption) ?_
  rotate_left
  · (intro wq hSw; (try dsimp only at hSw); go_simp; first | done | with_reducible rfl)
  try simp only [Act.put, List.setIfInBounds_toArray, List.set_cons_zero, List.set_cons_succ]
  refine wpAnyH_take (i := 6) (oi := { dst := some 50, op := Op.nilCheck (Operand.tmp 49), type := 0, pos := "decree.go:253", after := #[{ on := 5, ground := Ground.data }], guard := none }) (v := ?_) rfl (by kernel_rfl) (by kernel_rfl) (by kernel_rfl) (fun _ _ _ h => h) (Or.inl ⟨by rfl, ?_⟩) (by assumption) ?_
  rotate_left
  · (intro wq hSw; (try dsimp only at hSw); go_simp; first | done | with_reducible rfl)
  try simp only [Act.put, List.setIfInBounds_toArray, List.set_cons_zero, List.set_cons_succ]
  refine wpAnyH_take (i := 7) (oi := { dst := some 51, op := Op.fieldAddr 104 (Operand.tmp 50) 5, type := 0, pos := "decree.go:253", after := #[{ on := 6, ground := Ground.data }], guard := none }) (v := ?_) rfl (by kernel_rfl) (by kernel_rfl) (by kernel_rfl) (fun _ _ _ h => h) (Or.inl ⟨by rfl, ?_⟩) (by assumption) ?_
  rotate_left
  · (intro wq hSw; (try dsimp only at hSw); go_simp; first | done | with_reducible rfl)
  try simp only [Act.put, List.setIfInBounds_toArray, List.set_cons_zero, List.set_cons_succ]
  refine wpAnyH_take (i := 8) (oi := { dst := some 52, op := Op.load 9 (Operand.tmp 51), type := 9, pos := "decree.go:253", after := #[{ on := 7, ground := Ground.data }], guard := none }) (v := ?_) rfl (by kernel_rfl) (by kernel_rfl) (by kernel_rfl) (fun _ _ _ h => h) (Or.inl ⟨by rfl, ?_⟩) (by assumption) ?_
  rotate_left
  · (intro wq hSw; (try dsimp only at hSw); go_simp; first | done | with_reducible rfl)
  try simp only [Act.put, List.setIfInBounds_toArray, List.set_cons_zero, List.set_cons_succ]
  refine wpAnyH_ready (rs := [9]) (by kernel_rfl) (by simp) ?_
  refine AllReadyH.cons (o := { dst := some 53, op := Op.call { callee := Callee.value (Operand.func 67), args := #[Operand.tmp 44, Operand.tmp 48, Operand.tmp 52], argTypes := #[95, 29, 9] }, type := 0, pos := "decree.go:253", after := #[{ on := 0, ground := Ground.data }, { on := 4, ground := Ground.data }, { on := 8, ground := Ground.data }], guard := none }) rfl (fun K hK => ?_) AllReadyH.nil
  go_simp
  refine HKN.out.mono ?_
  rintro e w9 ⟨rfl, l9, hX9, hu9⟩
  have ka := fun o => keepC hu9 (b := P.pb) HPL.out HPK.out o
  refine hK.out _ _ ?_ (fun hHeld => ?_)
  · exact ka
  clear hK K
  try simp only [Act.put, List.setIfInBounds_toArray, List.set_cons_zero, List.set_cons_succ]
  refine wpAnyH_done (by kernel_rfl) ?_ _
  clear hHeld
  have hU9 : Upd (L.Fn i) w1 w9 := (HU8.out.drew).trans hu9 (fun k _ e => e.elim (fun e => by rw [e]; exact HX8.out.f1.1) (fun e => by rw [e]; exact HX8.out.f1.2.2))
  have hG9 : Gro (L.Fn i) (L.Fn i) w1 w9 := fun k hk => .inl hk
  have hg9 := HH1.out.setNd hi hU9 hX9 hG9 (Nat.le_succ _)
  have HGR9 := Lib.hid (And.intro (ndGro (gp := gp) (n := n) (L := L) (l' := l9) hi hG9) (show Upd (GpF gp n L) w1 w9 from hU9.mono fun k _ hk => .inr ⟨i, hi, hk⟩))
  obtain ⟨x0, y0, y1, y2, y3, y4, y5, y6, y7, yz⟩ := Blk8F (HP8.out.blk.drew.upd hu9 HPK.out)
  obtain ⟨d, d0, d1, d2, d3, d4, d5, dz⟩ := Blk6F hX9.blk
  have HG9 := Lib.hid hg9
  have HPL9 : Hid (P.pb < w9.heap.size ∧ ¬ BgF L.bb L.lv P.pb) := Lib.hid ⟨x0, fun e => HH1.out.out i hi P.pb HP1.out.f1.1 (.inr (.inr e))⟩
  have HNB := Lib.hid (hg9.nb_lt hi)
  have HPB := HPL9
  have HAL := Lib.hid (gall_other (hg9.new (New.refl w9).drew) i (mLearn p.s p.v) (mLearn_good HPC.out.1 HPC.out.2) (L.nb i) d0 (hg9.new (New.refl w9).drew |>.nb_lt hi).1 (hg9.nb_lt hi).2 (by omega))
  clear hU9 hG9 hg9 hX9 hu9 ka b0 b1 b2 b3 b4 b5 b6 b7 bz b9 d1 d2 d3 d4 d5 y1 y2 y3 y4 y5 y7
  go_upto_region 6 with fail
  refine wp_region_held_drew (S := fun w' => (∀ o, w'.cell? ⟨L.nb i, o, none⟩ = w9.cell? ⟨L.nb i, o, none⟩) ∧ (∀ o, w'.cell? ⟨P.pb, o, none⟩ = w9.cell? ⟨P.pb, o, none⟩)) (by kernel_rfl) (⟨fun _ => rfl, fun _ => rfl⟩) (fun hHeld => ?_)
  refine wpAnyH_take (i := 0) (oi := { dst := some 54, op := Op.move (Operand.tmp 0), type := 53, pos := "decree.go:254", after := #[], guard := none }) (v := ?_) rfl (by kernel_rfl) (by kernel_rfl) (by kernel_rfl) (fun _ _ _ h => h) (Or.inl ⟨by rfl, ?_⟩) (by assumption) ?_
  rotate_left
  · (intro wq hSw; (try dsimp only at hSw); go_simp; first | done | with_reducible rfl)
  try simp only [Act.put, List.setIfInBounds_toArray, List.set_cons_zero, List.set_cons_succ]
  refine wpAnyH_take (i := 1) (oi := { dst := some 55, op := Op.move (Operand.tmp 1), type := 95, pos := "decree.go:254", after := #[], guard := none }) (v := ?_) rfl (by kernel_rfl) (by kernel_rfl) (by kernel_rfl) (fun _ _ _ h => h) (Or.inl ⟨by rfl, ?_⟩) (by assumption) ?_
  rotate_left
  · (intro wq hSw; (try dsimp only at hSw); go_simp; first | done | with_reducible rfl)
  try simp only [Act.put, List.setIfInBounds_toArray, List.set_cons_zero, List.set_cons_succ]
  refine wpAnyH_take (i := 2) (oi := { dst := some 56, op := Op.nilCheck (Operand.tmp 55), type := 0, pos := "decree.go:254", after := #[{ on := 1, ground := Ground.data }], guard := none }) (v := ?_) rfl (by kernel_rfl) (by kernel_rfl) (by kernel_rfl) (fun _ _ _ h => h) (Or.inl ⟨by rfl, ?_⟩) (by assumption) ?_
  rotate_left
  · (intro wq hSw; (try dsimp only at hSw); go_simp; first | done | with_reducible rfl)
  try simp only [Act.put, List.setIfInBounds_toArray, List.set_cons_zero, List.set_cons_succ]
  refine wpAnyH_take (i := 3) (oi := { dst := some 57, op := Op.fieldAddr 100 (Operand.tmp 56) 0, type := 0, pos := "decree.go:254", after := #[{ on := 2, ground := Ground.data }], guard := none }) (v := ?_) rfl (by kernel_rfl) (by kernel_rfl) (by kernel_rfl) (fun _ _ _ h => h) (Or.inl ⟨by rfl, ?_⟩) (by assumption) ?_
  rotate_left
  · (intro wq hSw; (try dsimp only at hSw); go_simp; first | done | with_reducible rfl)
  try simp only [Act.put, List.setIfInBounds_toArray, List.set_cons_zero, List.set_cons_succ]
  refine wpAnyH_take (i := 4) (oi := { dst := some 58, op := Op.load 3 (Operand.tmp 57), type := 3, pos := "decree.go:254", after := #[{ on := 3, ground := Ground.data }], guard := none }) (v := ?_) rfl (by kernel_rfl) (by kernel_rfl) (by kernel_rfl) (fun _ _ _ h => h) (Or.inl ⟨by rfl, ?_⟩) (by assumption) ?_
  rotate_left
  · (intro wq hSw; (try dsimp only at hSw); go_simp; first | done | with_reducible rfl)
  try simp only [Act.put, List.setIfInBounds_toArray, List.set_cons_zero, List.set_cons_succ]
  refine wpAnyH_take (i := 5) (oi := { dst := some 59, op := Op.move (Operand.tmp 8), type := 98, pos := "decree.go:254", after := #[], guard := none }) (v := ?_) rfl (by kernel_rfl) (by kernel_rfl) (by kernel_rfl) (fun _ _ _ h => h) (Or.inl ⟨by rfl, ?_⟩) (by assumption) ?_
  rotate_left
  · (intro wq hSw; (try dsimp only at hSw); go_simp; first | done | with_reducible rfl)
  try simp only [Act.put, List.setIfInBounds_toArray, List.set_cons_zero, List.set_cons_succ]
  refine wpAnyH_take (i := 6) (oi := { dst := some 60, op := Op.nilCheck (Operand.tmp 59), type := 0, pos := "decree.go:254", after := #[{ on := 5, ground := Ground.data }], guard := none }) (v := ?_) rfl (by kernel_rfl) (by kernel_rfl) (by kernel_rfl) (fun _ _ _ h => h) (Or.inl ⟨by rfl, ?_⟩) (by assumption) ?_
  rotate_left
  · (intro wq hSw; (try dsimp only at hSw); go_simp; first | done | with_reducible rfl)
  try simp only [Act.put, List.setIfInBounds_toArray, List.set_cons_zero, List.set_cons_succ]
  refine wpAnyH_take (i := 7) (oi := { dst := some 61, op := Op.fieldAddr 104 (Operand.tmp 60) 0, type := 0, pos := "decree.go:254", after := #[{ on := 6, ground := Ground.data }], guard := none }) (v := ?_) rfl (by kernel_rfl) (by kernel_rfl) (by kernel_rfl) (fun _ _ _ h => h) (Or.inl ⟨by rfl, ?_⟩) (by assumption) ?_
  rotate_left
  · (intro wq hSw; (try dsimp only at hSw); go_simp; first | done | with_reducible rfl)
  try simp only [Act.put, List.setIfInBounds_toArray, List.set_cons_zero, List.set_cons_succ]
  refine wpAnyH_take (i := 8) (oi := { dst := some 62, op := Op.load 29 (Operand.tmp 61), type := 29, pos := "decree.go:254", after := #[{ on := 7, ground := Ground.data }], guard := none }) (v := ?_) rfl (by kernel_rfl) (by kernel_rfl) (by kernel_rfl) (fun _ _ _ h => h) (Or.inl ⟨by rfl, ?_⟩) (by assumption) ?_
  rotate_left
  · (intro wq hSw; (try dsimp only at hSw); go_simp; first | done | with_reducible rfl)
  try simp only [Act.put, List.setIfInBounds_toArray, List.set_cons_zero, List.set_cons_succ]
  refine wpAnyH_take (i := 9) (oi := { dst := some 63, op := Op.move (Operand.tmp 8), type := 98, pos := "decree.go:254", after := #[], guard := none }) (v := ?_) rfl (by kernel_rfl) (by kernel_rfl) (by kernel_rfl) (fun _ _ _ h => h) (Or.inl ⟨by rfl, ?_⟩) (by assumption) ?_
  rotate_left
  · (intro wq hSw; (try dsimp only at hSw); go_simp; first | done | with_reducible rfl)
  try simp only [Act.put, List.setIfInBounds_toArray, List.set_cons_zero, List.set_cons_succ]
  refine wpAnyH_take (i := 10) (oi := { dst := some 64, op := Op.nilCheck (Operand.tmp 63), type := 0, pos := "decree.go:254", after := #[{ on := 9, ground := Ground.data }], guard := none }) (v := ?_) rfl (by kernel_rfl) (by kernel_rfl) (by kernel_rfl) (fun _ _ _ h => h) (Or.inl ⟨by rfl, ?_⟩) (by assumption) ?_
  rotate_left
  · (intro wq hSw; (try dsimp only at hSw); go_simp; first | done | with_reducible rfl)
  try simp only [Act.put, List.setIfInBounds_toArray, List.set_cons_zero, List.set_cons_succ]
  refine wpAnyH_take (i := 11) (oi := { dst := some 65, op := Op.fieldAddr 104 (Operand.tmp 64) 5, type := 0, pos := "decree.go:254", after := #[{ on := 10, ground := Ground.data }], guard := none }) (v := ?_) rfl (by kernel_rfl) (by kernel_rfl) (by kernel_rfl) (fun _ _ _ h => h) (Or.inl ⟨by rfl, ?_⟩) (by assumption) ?_
  rotate_left
  · (intro wq hSw; (try dsimp only at hSw); go_simp; first | done | with_reducible rfl)
  try simp only [Act.put, List.setIfInBounds_toArray, List.set_cons_zero, List.set_cons_succ]
  refine wpAnyH_take (i := 12) (oi := { dst := some 66, op := Op.load 9 (Operand.tmp 65), type := 9, pos := "decree.go:254", after := #[{ on := 11, ground := Ground.data }], guard := none }) (v := ?_) rfl (by kernel_rfl) (by kernel_rfl) (by kernel_rfl) (fun _ _ _ h => h) (Or.inl ⟨by rfl, ?_⟩) (by assumption) ?_
  rotate_left
  · (intro wq hSw; (try dsimp only at hSw); go_simp; first | done | with_reducible rfl)
  try simp only [Act.put, List.setIfInBounds_toArray, List.set_cons_zero, List.set_cons_succ]
  refine wpAnyH_take (i := 13) (oi := { dst := some 67, op := Op.build 107 #[(0, Operand.const (Value.int IntKind.i64 5)), (1, Operand.tmp 62), (3, Operand.tmp 66)], type := 107, pos := "decree.go:254", after := #[{ on := 8, ground := Ground.data }, { on := 12, ground := Ground.data }], guard := none }) (v := ?_) rfl (by kernel_rfl) (by kernel_rfl) (by kernel_rfl) (fun _ _ _ h => h) (Or.inl ⟨by rfl, ?_⟩) (by assumption) ?_
  rotate_left
  · (intro wq hSw; (try dsimp only at hSw); go_simp; first | done | with_reducible rfl)
  try simp only [Act.put, List.setIfInBounds_toArray, List.set_cons_zero, List.set_cons_succ]
  refine wpAnyH_take (i := 14) (oi := { dst := some 68, op := Op.move (Operand.tmp 1), type := 95, pos := "decree.go:254", after := #[], guard := none }) (v := ?_) rfl (by kernel_rfl) (by kernel_rfl) (by kernel_rfl) (fun _ _ _ h => h) (Or.inl ⟨by rfl, ?_⟩) (by assumption) ?_
  rotate_left
  · (intro wq hSw; (try dsimp only at hSw); go_simp; first | done | with_reducible rfl)
  try simp only [Act.put, List.setIfInBounds_toArray, List.set_cons_zero, List.set_cons_succ]
  refine wpAnyH_take (i := 15) (oi := { dst := some 69, op := Op.makeFunc (Fn.func 50) #[Operand.tmp 68] #[], type := 108, pos := "decree.go:254", after := #[{ on := 14, ground := Ground.data }], guard := none }) (v := ?_) rfl (by kernel_rfl) (by kernel_rfl) (by kernel_rfl) (fun _ _ _ h => h) (Or.inl ⟨by rfl, ?_⟩) (by assumption) ?_
  rotate_left
  · (intro wq hSw; (try dsimp only at hSw); go_simp; first | done | with_reducible rfl)
  try simp only [Act.put, List.setIfInBounds_toArray, List.set_cons_zero, List.set_cons_succ]
  refine wpAnyH_ready (rs := [16]) (by kernel_rfl) (by simp) ?_
  refine AllReadyH.cons (o := { dst := some 70, op := Op.call { callee := Callee.value (Operand.func 48), args := #[Operand.tmp 54, Operand.tmp 58, Operand.tmp 67, Operand.tmp 69], argTypes := #[53, 3, 107, 108] }, type := 0, pos := "decree.go:254", after := #[{ on := 0, ground := Ground.data }, { on := 4, ground := Ground.data }, { on := 13, ground := Ground.data }, { on := 15, ground := Ground.data }], guard := none }) rfl (fun K hK => ?_) AllReadyH.nil
  go_simp
  refine HAL.out.mono ?_
  rintro e w11 ⟨rfl, v11, hg11, hu11, hv11⟩
  have ka := fun o => keepC hu11 (b := L.nb i) HNB.out.1 HNB.out.2 o
  have kb := fun o => keepC hu11 (b := P.pb) HPB.out.1 HPB.out.2 o
  refine hK.out _ _ ?_ (fun hHeld => ?_)
  · exact ⟨ka, kb⟩
  clear hK K
  try simp only [Act.put, List.setIfInBounds_toArray, List.set_cons_zero, List.set_cons_succ]
  refine wpAnyH_done (by kernel_rfl) ?_ _
  clear hHeld
  have hs11 : SdPost w9.drew gp n (B + 1) _ _ _ w11 := ⟨v11, hg11, hu11, hv11⟩
  have HS11 := Lib.hid hs11
  clear hg11 hu11 hv11 hs11 ka kb
  go_wp2_with fail
  go_end0
  refine ⟨rfl, GrPost.pre HN1.out (GrPost.trans HGR9.out.1 HGR9.out.2 (GrPost.pre (New.refl w9).drew ?_))⟩
  exact HS11.out.gr
end
end Go.Proofs.Ytghhcjpilcoblaa
