/- Chapter 22 (decree): a promise comes. Printed by genDg8.py. -/
import Derived.Test.YtghhcjpilcoblaaDg7
import Derived.Test.YtghhcjpilcoblaaDn6
import Derived.Test.YtghhcjpilcoblaaDn3
import Derived.Deep.RegionHeld3
import Derived.Deep.DeepCutAuto
namespace Go.Proofs.Ytghhcjpilcoblaa
open Go.RowKit Go.Lap
set_option linter.unusedVariables false
section
variable {w w' w'' wa w2 : World} {S : Nat → Prop} {gp n B k : Nat} {L : GpL} {g : Gm}
theorem mpLenI {P : Program} {kt t e b m : Nat} {κ : Type} {lit : κ → Lit} {ok : κ → Prop} {w : World} {f : κ → Option Value} (h : MpAt P kt lit ok w b m f) (ht : P.underlying t = some (.map kt e)) (ty : TypeId) :
    (Builtin.len_ #[t] ty #[.map (some b)]).run P w = .ok (.int .i64 (m : Int)) w := by
  obtain ⟨D, h1, _, h3, _⟩ := h
  rw [← h3]
  exact h1.len ht ty
theorem quor_call (n : Nat) (hn : n ≤ 1000) (w : World) : Calls Try.prog 15 #[.int .i64 (n : Int)] w fun e w' => e = .returned (.int .i64 ((quor n : Nat) : Int)) ∧ w' = w := by
  have := quorum_any (n : Int) w (by omega) (by omega)
  rw [show max (n : Int) 0 / 2 + 1 = ((quor n : Nat) : Int) by unfold quor; omega] at this
  exact this
theorem GrPost.pre {g' : Gm} (hn : New w w') (h : GrPost w' gp n B L g' w'') : GrPost w gp n B L g' w'' := by
  obtain ⟨L', h1, h2, h3⟩ := h
  exact ⟨L', h1, fun k hk => (h2 k hk).elim .inl (fun h => .inr ⟨Nat.le_trans hn.size h.1, h.2⟩), (Upd.new hn).trans h3 (fun _ _ h => h)⟩
theorem GrPost.post {g' : Gm} (h : GrPost w gp n B L g' w') (hn : New w' w'') : GrPost w gp n B L g' w'' := by
  obtain ⟨L', h1, h2, h3⟩ := h
  exact ⟨L', h1.new hn, fun k hk => (h2 k hk).elim .inl (fun h => .inr ⟨h.1, Nat.lt_of_lt_of_le h.2 hn.size⟩), h3.transNew hn⟩
/-- What a promise, or an acceptance, leaves: r is the node, and what is sent. -/
def PmPost (w : World) (gp n B : Nat) (L : GpL) (g : Gm) (i : Nat) (r : Nod × Option Msg) (to_ : List Nat) (e : Ending) (w' : World) : Prop :=
  e = .returned (.tuple #[]) ∧ GrPost w gp n B L { nd := set g.nd i r.1, bg := match r.2 with | some m => sendTo g.bg i m to_ | none => g.bg } w'
theorem PmPost.same (h : GpAt w gp n B L g) (hn : New w w') {i : Nat} {to_ : List Nat} : PmPost w gp n B L g i (g.nd i, none) to_ (.returned (.tuple #[])) w' := by
  refine ⟨rfl, ?_⟩
  show GrPost w gp n B L { nd := set g.nd i (g.nd i), bg := g.bg } w'
  rw [set_self]
  exact GrPost.new h hn
theorem promised_no {x : Nod} {n : Nat} {fr : Int} {m : Msg} (h : x.mine m = false) : x.promised n fr m = (x, none) := by
  unfold Nod.promised
  cases hp : x.nw with
  | none => rfl
  | some p => have : mineP p m = false := by rw [← h]; unfold Nod.mine; rw [hp]
              simp [this]
theorem promised_old {x : Nod} {n : Nat} {fr : Int} {m : Msg} {p : Prs} (hp : x.nw = some p) (h : p.ch = true ∨ fr ∈ p.fr) : x.promised n fr m = (x, none) := by
  unfold Nod.promised
  rw [hp]
  dsimp only
  rw [if_pos (.inr h)]
theorem promised_few {x : Nod} {n : Nat} {fr : Int} {m : Msg} {p : Prs} (hp : x.nw = some p) (h1 : mineP p m = true) (h2 : p.ch = false) (h3 : fr ∉ p.fr) (h4 : ¬ quor n ≤ p.fr.length + 1) : x.promised n fr m = ({ x with nw := some { p with fr := p.fr ++ [fr], pm := p.pm ++ [m.pro] } }, none) := by
  unfold Nod.promised
  rw [hp]
  dsimp only
  rw [if_neg (by simp [h1, h2, h3]), if_neg h4]
theorem promised_many {x : Nod} {n : Nat} {fr : Int} {m : Msg} {p : Prs} (hp : x.nw = some p) (h1 : mineP p m = true) (h2 : p.ch = false) (h3 : fr ∉ p.fr) (h4 : quor n ≤ p.fr.length + 1) : x.promised n fr m = ({ x with nw := some { p with fr := p.fr ++ [fr], pm := p.pm ++ [m.pro], v := (Pro.best (x.pe.headD E0) (p.pm ++ [m.pro])).v, ch := true } }, some (mProp p.s p.r p.n (Pro.best (x.pe.headD E0) (p.pm ++ [m.pro])).v)) := by
  unfold Nod.promised
  rw [hp]
  dsimp only
  rw [if_neg (by simp [h1, h2, h3]), if_pos h4]
set_option maxRecDepth 100000 in
set_option maxHeartbeats 8000000 in
theorem gpm_no (h : GpAt w gp n B L g) {i : Nat} (hi : i < n) (fr : Nat) (m : Msg) (hm : (g.nd i).mine m = false) :
    Calls Try.prog 65 #[.pointer (some ⟨gp, 0, none⟩), .pointer (some ⟨L.nb i, 0, none⟩), .int .i64 (fr : Int), m.val] w (PmPost w gp n B L g i (g.nd i, none) (allOf n)) := by
  obtain ⟨mk, ms, mr, mn, mv, mh, mhr, mhn, mhv⟩ := m
  have hN := (New.refl w).alloc (.cells #[.int .i64 (mk : Int), .int .u64 (ms : Int), .int .u64 (mr : Int), .int .u64 (mn : Int), .string mv, .bool mh, .int .u64 (mhr : Int), .int .u64 (mhn : Int), .string mhv] 107)
  have hM := Blk.mk_new w 107 #[.int .i64 (mk : Int), .int .u64 (ms : Int), .int .u64 (mr : Int), .int .u64 (mn : Int), .string mv, .bool mh, .int .u64 (mhr : Int), .int .u64 (mhn : Int), .string mhv]
  have HMI := Lib.hid (nmine ((h.nd i hi).new hN) ⟨mk, ms, mr, mn, mv, mh, mhr, mhn, mhv⟩)
  rw [hm] at HMI
  have HH := Lib.hid h
  have HN := Lib.hid hN
  clear h hN hM hm
  go_enter Try.func65, Try.ntmps65
  go_wp2_with fail
  refine HMI.out.mono ?_
  rintro e w1 ⟨rfl, hn1⟩
  have HN1 := Lib.hid (HN.out.trans hn1)
  clear hn1
  go_wp2_with fail
  go_end0
  exact PmPost.same HH.out HN1.out
set_option maxRecDepth 100000 in
set_option maxHeartbeats 8000000 in
theorem gpm_chosen (h : GpAt w gp n B L g) {i : Nat} (hi : i < n) (fr : Nat) (m : Msg) {p : Prs} (hp : (g.nd i).nw = some p) (hm : (g.nd i).mine m = true) (hc : p.ch = true) :
    Calls Try.prog 65 #[.pointer (some ⟨gp, 0, none⟩), .pointer (some ⟨L.nb i, 0, none⟩), .int .i64 (fr : Int), m.val] w (PmPost w gp n B L g i (g.nd i, none) (allOf n)) := by
  obtain ⟨mk, ms, mr, mn, mv, mh, mhr, mhn, mhv⟩ := m
  have hN := (New.refl w).alloc (.cells #[.int .i64 (mk : Int), .int .u64 (ms : Int), .int .u64 (mr : Int), .int .u64 (mn : Int), .string mv, .bool mh, .int .u64 (mhr : Int), .int .u64 (mhn : Int), .string mhv] 107)
  have hM := Blk.mk_new w 107 #[.int .i64 (mk : Int), .int .u64 (ms : Int), .int .u64 (mr : Int), .int .u64 (mn : Int), .string mv, .bool mh, .int .u64 (mhr : Int), .int .u64 (mhn : Int), .string mhv]
  have HMI := Lib.hid (nmine ((h.nd i hi).new hN) ⟨mk, ms, mr, mn, mv, mh, mhr, mhn, mhv⟩)
  rw [hm] at HMI
  have HH := Lib.hid h
  have HN := Lib.hid hN
  obtain ⟨P, hpw, hP⟩ := (h.nd i hi).prs hp
  clear h hN hm
  go_enter Try.func65, Try.ntmps65
  go_wp2_with fail
  refine HMI.out.mono ?_
  rintro e w1 ⟨rfl, hn1⟩
  have HN1 := Lib.hid (HN.out.trans hn1)
  have HM1 := Lib.hid (hM.new hn1)
  have h1 := HH.out.new HN1.out
  have hx1 := h1.nd i hi
  have hP1 := hP.new HN1.out
  obtain ⟨g0, c0, c1, c2, c3, c4, c5, cz⟩ := Blk6F hx1.blk
  rw [hpw] at c5
  obtain ⟨q0, e0, e1, e2, e3, e4, e5, e6, e7, ez⟩ := Blk8F hP1.blk
  rw [hc] at e7
  clear h1 hx1 hP1 hn1 hM hP hp hc hpw
  go_wp2_with fail
  go_end0
  exact PmPost.same HH.out HN1.out
set_option maxRecDepth 100000 in
set_option maxHeartbeats 8000000 in
theorem gpm_twice (h : GpAt w gp n B L g) {i : Nat} (hi : i < n) (fr : Nat) (m : Msg) {p : Prs} (hp : (g.nd i).nw = some p) (hm : (g.nd i).mine m = true) (hc : p.ch = false) (hf : (fr : Int) ∈ p.fr) (hfr : fr ≤ 1000) :
    Calls Try.prog 65 #[.pointer (some ⟨gp, 0, none⟩), .pointer (some ⟨L.nb i, 0, none⟩), .int .i64 (fr : Int), m.val] w (PmPost w gp n B L g i (g.nd i, none) (allOf n)) := by
  obtain ⟨mk, ms, mr, mn, mv, mh, mhr, mhn, mhv⟩ := m
  have hN := (New.refl w).alloc (.cells #[.int .i64 (mk : Int), .int .u64 (ms : Int), .int .u64 (mr : Int), .int .u64 (mn : Int), .string mv, .bool mh, .int .u64 (mhr : Int), .int .u64 (mhn : Int), .string mhv] 107)
  have hM := Blk.mk_new w 107 #[.int .i64 (mk : Int), .int .u64 (ms : Int), .int .u64 (mr : Int), .int .u64 (mn : Int), .string mv, .bool mh, .int .u64 (mhr : Int), .int .u64 (mhn : Int), .string mhv]
  have HMI := Lib.hid (nmine ((h.nd i hi).new hN) ⟨mk, ms, mr, mn, mv, mh, mhr, mhn, mhv⟩)
  rw [hm] at HMI
  have HH := Lib.hid h
  have HN := Lib.hid hN
  obtain ⟨P, hpw, hP⟩ := (h.nd i hi).prs hp
  clear h hN hm
  go_enter Try.func65, Try.ntmps65
  go_wp2_with fail
  refine HMI.out.mono ?_
  rintro e w1 ⟨rfl, hn1⟩
  have HN1 := Lib.hid (HN.out.trans hn1)
  have HM1 := Lib.hid (hM.new hn1)
  have h1 := HH.out.new HN1.out
  have hx1 := h1.nd i hi
  have hP1 := hP.new HN1.out
  obtain ⟨g0, c0, c1, c2, c3, c4, c5, cz⟩ := Blk6F hx1.blk
  rw [hpw] at c5
  obtain ⟨q0, e0, e1, e2, e3, e4, e5, e6, e7, ez⟩ := Blk8F hP1.blk
  rw [hc] at e7
  have hlk := mpGet keyI64 hP1.fm Try.underlying102 (zeroBo _) (fr : Int) (okI_lt (by omega) (by omega))
  rw [setV_get, decide_eq_true hf] at hlk
  clear h1 hx1 hP1 hn1 hM hP hp hc hpw hf
  go_wp2_with fail
  go_end0
  exact PmPost.same HH.out HN1.out
theorem promOkD : Enc Pro.enc 4 := fun x => ⟨rfl, by simp [Pro.enc, Value.oneCell']⟩
theorem promTyD : SlTy Try.prog 33 45 (.agg #[.bool false, .int .u64 0, .int .u64 0, .string ⟨#[]⟩]) 4 40 := ⟨Try.underlying33, by kernel_rfl, rfl, by decide⟩
set_option maxRecDepth 100000 in
set_option maxHeartbeats 8000000 in
theorem gpm_few (h : GpAt w gp n B L g) {i : Nat} (hi : i < n) (fr : Nat) (m : Msg) {p : Prs} (hp : (g.nd i).nw = some p) (hm : (g.nd i).mine m = true) (hc : p.ch = false) (hf : (fr : Int) ∉ p.fr) (hfr : fr ≤ 1000) (hn7 : n ≤ 7) (hpk : PrsOk B p) (hB : B ≤ 100000000) (hq : ¬ quor n ≤ p.fr.length + 1) :
    Calls Try.prog 65 #[.pointer (some ⟨gp, 0, none⟩), .pointer (some ⟨L.nb i, 0, none⟩), .int .i64 (fr : Int), m.val] w (PmPost w gp n B L g i ({ g.nd i with nw := some { p with fr := p.fr ++ [(fr : Int)], pm := p.pm ++ [m.pro] } }, none) (allOf n)) := by
  obtain ⟨mk, ms, mr, mn, mv, mh, mhr, mhn, mhv⟩ := m
  have hN := (New.refl w).alloc (.cells #[.int .i64 (mk : Int), .int .u64 (ms : Int), .int .u64 (mr : Int), .int .u64 (mn : Int), .string mv, .bool mh, .int .u64 (mhr : Int), .int .u64 (mhn : Int), .string mhv] 107)
  have hM := Blk.mk_new w 107 #[.int .i64 (mk : Int), .int .u64 (ms : Int), .int .u64 (mr : Int), .int .u64 (mn : Int), .string mv, .bool mh, .int .u64 (mhr : Int), .int .u64 (mhn : Int), .string mhv]
  have HMI := Lib.hid (nmine ((h.nd i hi).new hN) ⟨mk, ms, mr, mn, mv, mh, mhr, mhn, mhv⟩)
  rw [hm] at HMI
  have HH := Lib.hid h
  have HN := Lib.hid hN
  obtain ⟨P, hpw, hP⟩ := (h.nd i hi).prs hp
  have HPC := Lib.hid (show p.s < 18446744073709551616 ∧ p.r < 18446744073709551616 ∧ p.n < 18446744073709551616 from ⟨by have := hpk.s; omega, by have := hpk.r; omega, by have := hpk.n; omega⟩)
  have hfl := hpk.fl
  have hpl := hpk.pl
  clear h hN hm hpk
  go_enter Try.func65, Try.ntmps65
  go_wp2_with fail
  refine HMI.out.mono ?_
  rintro e w1 ⟨rfl, hn1⟩
  have HN1 := Lib.hid (HN.out.trans hn1)
  have HM1 := Lib.hid (hM.new hn1)
  have h1 := HH.out.new HN1.out
  have hx1 := h1.nd i hi
  have hP1 := hP.new HN1.out
  obtain ⟨g0, c0, c1, c2, c3, c4, c5, cz⟩ := Blk6F hx1.blk
  rw [hpw] at c5
  obtain ⟨q0, e0, e1, e2, e3, e4, e5, e6, e7, ez⟩ := Blk8F hP1.blk
  rw [hc] at e7
  have hlk := mpGet keyI64 hP1.fm Try.underlying102 (zeroBo _) (fr : Int) (okI_lt (by omega) (by omega))
  rw [setV_get, decide_eq_false hf] at hlk
  have HFM := Lib.hid hP1.fm
  have HMX := Lib.hid (show p.fr.length < maxLen by unfold maxLen; omega)
  have HOKI := Lib.hid (show okI (fr : Int) from okI_lt (by omega) (by omega))
  have HX1 := Lib.hid hx1
  have HP1 := Lib.hid hP1
  have HF := Lib.hid hf
  have HH1 := Lib.hid h1
  have HPN := Lib.hid hp
  have HPW := Lib.hid hpw
  clear h1 hx1 hP1 hn1 hM hP hp hpw hf hc
  go_upto_region 4 with (at_mapUpdate; refine wpList_mp_put keyI64 rfl _ _ _ 102 4 rfl Try.underlying102 rfl HFM.out HMX.out (fr : Int) HOKI.out rfl _ rfl ?_; intro w5 hm5 hg5)
  have hu5 := growI hg5
  have hP5 := PrsAt.from_ HP1.out hm5 HF.out hu5
  have hX5 := HX1.out.setNw HPN.out HPW.out HP1.out hu5 (fun k _ e => .inl e) (fun _ h => h) hP5 rfl
  have hM5 := HM1.out.upd hu5 (fun e => Blk.ne_map HM1.out HP1.out.fm e)
  have HU5 : Hid (Upd (L.Fn i) w1 w5) := Lib.hid (hu5.mono fun k _ e => by rw [e]; exact HP1.out.f1.2.1)
  obtain ⟨a, a0, a1, a2, a3, a4, a5, a6, a7, a8, az⟩ := Blk9F hM5
  clear g0 c0 c1 c2 c3 c4 c5 cz q0 e0 e1 e2 e3 e4 e5 e6 e7 ez hlk hm5 hg5 hu5
  obtain ⟨q0, e0, e1, e2, e3, e4, e5, e6, e7, ez⟩ := Blk8F hP5.blk
  obtain ⟨qA, qc, hqv⟩ := hP5.row.shape
  rw [hqv] at e3
  have hrow5 := hP5.row
  rw [hqv] at hrow5
  have HROW5 := Lib.hid hrow5
  have HQV := Lib.hid hqv
  have HP5 := Lib.hid hP5
  have HX5 := Lib.hid hX5
  have HMB := Lib.hid (show w.heap.size < w5.heap.size from a)
  have HM1L := Lib.hid (show p.pm.length + [(⟨mh, (mhr : Int), (mhn : Int), mhv⟩ : Pro)].length ≤ maxLen by unfold maxLen; simp; omega)
  have HM2L := Lib.hid (show (p.pm.length + [(⟨mh, (mhr : Int), (mhn : Int), mhv⟩ : Pro)].length) * 40 ≤ 140737488355328 by simp; omega)
  have HMQ := Lib.hid (show ¬ (P.qv.ownBlock = some w.heap.size) from hP5.row.ne_blk hM5 (by decide))
  have HMP := Lib.hid (show P.pb ≠ w.heap.size from fun e => Blk.ne_ hP5.blk hM5 (by decide) e)
  clear hP5 hX5 hM5 hqv hrow5
  refine wp_region_held_drew (S := fun w' => ∀ o, w'.cell? ⟨w.heap.size, o, none⟩ = w5.cell? ⟨w.heap.size, o, none⟩) (by kernel_rfl) (fun _ => rfl) (fun hHeld => ?_)
  refine wpAnyH_take (i := 0) (oi := { dst := some 42, op := Op.move (Operand.tmp 8), type := 98, pos := "decree.go:238", after := #[], guard := none }) (v := ?_) rfl (by kernel_rfl) (by kernel_rfl) (by kernel_rfl) (fun _ _ _ h => h) (Or.inl ⟨by rfl, ?_⟩) (by assumption) ?_
  rotate_left
  · (intro wq hSw; (try dsimp only at hSw); go_simp; first | done | with_reducible rfl)
  try simp only [Act.put, List.setIfInBounds_toArray, List.set_cons_zero, List.set_cons_succ]
  refine wpAnyH_take (i := 1) (oi := { dst := some 43, op := Op.move (Operand.tmp 8), type := 98, pos := "decree.go:238", after := #[], guard := none }) (v := ?_) rfl (by kernel_rfl) (by kernel_rfl) (by kernel_rfl) (fun _ _ _ h => h) (Or.inl ⟨by rfl, ?_⟩) (by assumption) ?_
  rotate_left
  · (intro wq hSw; (try dsimp only at hSw); go_simp; first | done | with_reducible rfl)
  try simp only [Act.put, List.setIfInBounds_toArray, List.set_cons_zero, List.set_cons_succ]
  refine wpAnyH_take (i := 2) (oi := { dst := some 44, op := Op.nilCheck (Operand.tmp 43), type := 0, pos := "decree.go:238", after := #[{ on := 1, ground := Ground.data }], guard := none }) (v := ?_) rfl (by kernel_rfl) (by kernel_rfl) (by kernel_rfl) (fun _ _ _ h => h) (Or.inl ⟨by rfl, ?_⟩) (by assumption) ?_
  rotate_left
  · (intro wq hSw; (try dsimp only at hSw); go_simp; first | done | with_reducible rfl)
  try simp only [Act.put, List.setIfInBounds_toArray, List.set_cons_zero, List.set_cons_succ]
  refine wpAnyH_take (i := 3) (oi := { dst := some 45, op := Op.fieldAddr 104 (Operand.tmp 44) 2, type := 0, pos := "decree.go:238", after := #[{ on := 2, ground := Ground.data }], guard := none }) (v := ?_) rfl (by kernel_rfl) (by kernel_rfl) (by kernel_rfl) (fun _ _ _ h => h) (Or.inl ⟨by rfl, ?_⟩) (by assumption) ?_
  rotate_left
  · (intro wq hSw; (try dsimp only at hSw); go_simp; first | done | with_reducible rfl)
  try simp only [Act.put, List.setIfInBounds_toArray, List.set_cons_zero, List.set_cons_succ]
  refine wpAnyH_take (i := 5) (oi := { dst := some 47, op := Op.fieldAddr 107 (Operand.tmp 7) 4, type := 0, pos := "decree.go:238", after := #[], guard := none }) (v := ?_) rfl (by kernel_rfl) (by kernel_rfl) (by kernel_rfl) (fun _ _ _ h => h) (Or.inl ⟨by rfl, ?_⟩) (by assumption) ?_
  rotate_left
  · (intro wq hSw; (try dsimp only at hSw); go_simp; first | done | with_reducible rfl)
  try simp only [Act.put, List.setIfInBounds_toArray, List.set_cons_zero, List.set_cons_succ]
  refine wpAnyH_take (i := 6) (oi := { dst := some 48, op := Op.load 45 (Operand.tmp 47), type := 45, pos := "decree.go:238", after := #[{ on := 5, ground := Ground.data }], guard := none }) (v := ?_) rfl (by kernel_rfl) (by kernel_rfl) (by kernel_rfl) (fun _ _ _ h => h) (Or.inl ⟨by rfl, ?_⟩) (by assumption) ?_
  rotate_left
  · (intro wq hSw; (try dsimp only at hSw); go_simp; first | done | with_reducible rfl)
  try simp only [Act.put, List.setIfInBounds_toArray, List.set_cons_zero, List.set_cons_succ]
  refine wpAnyH_ready (rs := [4, 7]) (by kernel_rfl) (by simp) ?_
  refine AllReadyH.cons (o := { dst := some 46, op := Op.load 33 (Operand.tmp 45), type := 33, pos := "decree.go:238", after := #[{ on := 3, ground := Ground.data }], guard := none }) rfl (fun K hK => ?_) (AllReadyH.cons (o := { dst := some 49, op := Op.buildSlice 33 1 #[(0, Operand.tmp 48)], type := 33, pos := "decree.go:238", after := #[{ on := 6, ground := Ground.data }], guard := none }) rfl (fun K hK => ?_) AllReadyH.nil)
  · go_simp
    refine hK.out _ _ ?_ (fun hHeld => ?_)
    · exact (fun _ => rfl)
    clear hK K
    try simp only [Act.put, List.setIfInBounds_toArray, List.set_cons_zero, List.set_cons_succ]
    refine wpAnyH_ready (rs := [7]) (by kernel_rfl) (by simp) ?_
    refine AllReadyH.cons (o := { dst := some 49, op := Op.buildSlice 33 1 #[(0, Operand.tmp 48)], type := 33, pos := "decree.go:238", after := #[{ on := 6, ground := Ground.data }], guard := none }) rfl (fun K hK => ?_) AllReadyH.nil
    go_simp
    have ka := fun o => keepC (S := fun _ => False) (Upd.new ((New.refl w5).drew.alloc (.cells #[.bool mh, .int .u64 (mhr : Int), .int .u64 (mhn : Int), .string mhv] 45))) HMB.out (fun h => h) o
    refine hK.out _ _ ?_ (fun hHeld => ?_)
    · exact ka
    clear hK K
    try simp only [Act.put, List.setIfInBounds_toArray, List.set_cons_zero, List.set_cons_succ]
    refine wpAnyH_ready (rs := [8]) (by kernel_rfl) (by simp) ?_
    refine AllReadyH.cons (o := { dst := some 50, op := Op.call { callee := Callee.builtin Builtin.append, args := #[Operand.tmp 46, Operand.tmp 49], argTypes := #[33, 33] }, type := 33, pos := "decree.go:238", after := #[{ on := 4, ground := Ground.data }, { on := 7, ground := Ground.data }], guard := none }) rfl (fun K hK => ?_) AllReadyH.nil
    refine step_appR (v := .slice qA p.pm.length qc) promTyD promOkD rfl (.tmp 46) (.tmp 49) rfl rfl rfl (HROW5.out.new ((New.refl w5).drew.alloc (.cells #[.bool mh, .int .u64 (mhr : Int), .int .u64 (mhn : Int), .string mhv] 45))) (SlIn.one (x := (⟨mh, (mhr : Int), (mhn : Int), mhv⟩ : Pro)) (Blk.mk_new w5.drew 45 #[.bool mh, .int .u64 (mhr : Int), .int .u64 (mhn : Int), .string mhv]) promOkD rfl) HM1L.out HM2L.out (Nat.zero_le _) ?_
    intro v6 w6 hr6 hg6 hb6
    have hu6 : Upd (fun k => P.qv.ownBlock = some k) (w5.drew.alloc (.cells #[.bool mh, .int .u64 (mhr : Int), .int .u64 (mhn : Int), .string mhv] 45)) w6 := (Upd.refl _ _).grown hg6 (fun k _ e => by rw [HQV.out]; exact e)
    have hP5a := PrsAt.new HP5.out ((New.refl w5).drew.alloc (.cells #[.bool mh, .int .u64 (mhr : Int), .int .u64 (mhn : Int), .string mhv] 45))
    have hb6k := hP5a.blk.upd hu6 (hP5a.row.ne_blk hP5a.blk (by decide))
    have y3 := hb6k.cell 3
    have yz := hb6k.frozen
    have yl := hb6k.lt
    simp at y3
    rw [HQV.out] at y3
    obtain ⟨A6, n6, cc6, rfl⟩ := hr6.shp
    have kb := fun o => (keepC hu6 (b := w.heap.size) (by have := HMB.out; simp; omega) (HMQ.out) o).trans (ka o)
    refine hK.out _ _ ?_ (fun hHeld => ?_)
    · exact kb
    clear hK K
    try simp only [Act.put, List.setIfInBounds_toArray, List.set_cons_zero, List.set_cons_succ]
    refine wpAnyH_take (i := 9) (oi := { dst := some 51, op := Op.nilCheck (Operand.tmp 42), type := 0, pos := "decree.go:238", after := #[{ on := 0, ground := Ground.data }, { on := 0, ground := Ground.phase }, { on := 1, ground := Ground.phase }, { on := 2, ground := Ground.phase }, { on := 3, ground := Ground.phase }, { on := 4, ground := Ground.phase }, { on := 5, ground := Ground.phase }, { on := 6, ground := Ground.phase }, { on := 7, ground := Ground.phase }, { on := 8, ground := Ground.phase }], guard := none }) (v := ?_) rfl (by kernel_rfl) (by kernel_rfl) (by kernel_rfl) (fun _ _ _ h => h) (Or.inl ⟨by rfl, ?_⟩) (by assumption) ?_
    rotate_left
    · (intro wq hSw; (try dsimp only at hSw); go_simp; first | done | with_reducible rfl)
    try simp only [Act.put, List.setIfInBounds_toArray, List.set_cons_zero, List.set_cons_succ]
    refine wpAnyH_take (i := 10) (oi := { dst := some 52, op := Op.fieldAddr 104 (Operand.tmp 51) 2, type := 0, pos := "decree.go:238", after := #[{ on := 9, ground := Ground.data }, { on := 0, ground := Ground.phase }, { on := 1, ground := Ground.phase }, { on := 2, ground := Ground.phase }, { on := 3, ground := Ground.phase }, { on := 4, ground := Ground.phase }, { on := 5, ground := Ground.phase }, { on := 6, ground := Ground.phase }, { on := 7, ground := Ground.phase }, { on := 8, ground := Ground.phase }], guard := none }) (v := ?_) rfl (by kernel_rfl) (by kernel_rfl) (by kernel_rfl) (fun _ _ _ h => h) (Or.inl ⟨by rfl, ?_⟩) (by assumption) ?_
    rotate_left
    · (intro wq hSw; (try dsimp only at hSw); go_simp; first | done | with_reducible rfl)
    try simp only [Act.put, List.setIfInBounds_toArray, List.set_cons_zero, List.set_cons_succ]
    refine wpAnyH_ready (rs := [11]) (by kernel_rfl) (by simp) ?_
    refine AllReadyH.cons (o := { dst := none, op := Op.store 33 (Operand.tmp 52) (Operand.tmp 50), type := 0, pos := "decree.go:238", after := #[{ on := 10, ground := Ground.data }, { on := 8, ground := Ground.data }, { on := 8, ground := Ground.chain }, { on := 0, ground := Ground.phase }, { on := 1, ground := Ground.phase }, { on := 2, ground := Ground.phase }, { on := 3, ground := Ground.phase }, { on := 4, ground := Ground.phase }, { on := 5, ground := Ground.phase }, { on := 6, ground := Ground.phase }, { on := 7, ground := Ground.phase }, { on := 8, ground := Ground.phase }], guard := none }) rfl (fun K hK => ?_) AllReadyH.nil
    go_simp
    refine hK.out _ _ ?_ (fun hHeld => ?_)
    · exact (fun o => (World.cell?_setCell_far _ ⟨P.pb, 3, none⟩ ⟨w.heap.size, o, none⟩ _ HMP.out).trans (kb o))
    clear hK K
    try simp only [Act.put, List.setIfInBounds_toArray, List.set_cons_zero, List.set_cons_succ]
    refine wpAnyH_done (by kernel_rfl) ?_ _
    clear hHeld ka kb
    have hn5b := (New.refl w5).drew.alloc (.cells #[.bool mh, .int .u64 (mhr : Int), .int .u64 (mhn : Int), .string mhv] 45)
    have hP6 := PrsAt.pm_ hP5a hu6 hr6
    have hS6 : Upd (fun k => P.qv.ownBlock = some k ∨ k = P.pb) (w5.drew.alloc (.cells #[.bool mh, .int .u64 (mhr : Int), .int .u64 (mhn : Int), .string mhv] 45)) (w6.setCell ⟨P.pb, 3, none⟩ (.slice A6 n6 cc6)) := (hu6.mono fun _ _ h => .inl h).setCell (fun _ => .inr rfl) _
    have hX6 := (HX5.out.new hn5b).setNw rfl HPW.out hP5a hS6 (fun k _ h => h.elim (fun h => .inr (.inr (.inr h))) (fun h => .inr (.inr (.inl h)))) (fun k hk => .inl hk) hP6 rfl
    have hU6 : Upd (L.Fn i) w1 (w6.setCell ⟨P.pb, 3, none⟩ (.slice A6 n6 cc6)) := (HU5.out.transNew hn5b).trans hS6 (fun k _ h => h.elim (HP5.out.f2 k) (fun e => by rw [e]; exact HP5.out.f1.1))
    have hs15 := HU5.out.size
    have hs56 := hu6.size
    have hG6 : Gro (L.Fn i) (fun k => L.Fn i k ∨ Value.ownBlock (.slice A6 n6 cc6) = some k) w1 (w6.setCell ⟨P.pb, 3, none⟩ (.slice A6 n6 cc6)) := fun k hk => hk.elim .inl (fun h => hb6.elim (fun e => .inl (HP5.out.f2 k (by rw [HQV.out]; rw [e] at h; exact h))) (fun e => .inr (by have hl := (hr6.lt k h).2; rw [e] at h; injection h with h; simp at h hs56; exact ⟨by omega, by simpa [World.setCell] using hl⟩)))
    have hg7 := HH1.out.setNd hi hU6 hX6 hG6 (Nat.le_refl _)
    have hgro7 := ndGro (gp := gp) (L := L) (l' := L.nl i) hi hG6
    have hupd7 : Upd (GpF gp n L) w1 (w6.setCell ⟨P.pb, 3, none⟩ (.slice A6 n6 cc6)) := hU6.mono fun k _ hk => .inr ⟨i, hi, hk⟩
    have HU6 := Lib.hid hU6
    have HG6 := Lib.hid hG6
    have HG7 := Lib.hid hg7
    have HGRO7 := Lib.hid hgro7
    have HUPD7 := Lib.hid hupd7
    have HP6 := Lib.hid hP6
    have HX6 := Lib.hid hX6
    clear hP6 hS6 hX6 hU6 hG6 hg7 hgro7 hupd7 hs15 hs56 hu6 hr6 hg6 hb6 hP5a hb6k y3 yz yl a a0 a1 a2 a3 a4 a5 a6 a7 a8 az q0 e0 e1 e2 e3 e4 e5 e6 e7 ez hn5b
    go_upto_region 5 with fail
    generalize (w6.setCell ⟨P.pb, 3, none⟩ (.slice A6 n6 cc6)) = w7 at *
    obtain ⟨q0, e0, e1, e2, e3, e4, e5, e6, e7, ez⟩ := Blk8F HP6.out.blk
    obtain ⟨gA, gc, hnv⟩ := HG7.out.nvs
    obtain ⟨g0, f0, f1, fz⟩ := HG7.out.facts
    rw [hnv] at f0
    have hlen := fun ty => mpLenI (MpAt.new HP6.out.fm (New.refl w7).drew) Try.underlying102 ty
    simp only [List.length_append, List.length_singleton] at hlen
    have HQC := Lib.hid (quor_call n (by omega))
    clear hnv
    have hqi : ¬ ((quor n : Nat) : Int) ≤ (p.fr.length : Int) + 1 := by omega
    refine wp_region_held_drew (S := fun w' => w' = w7.drew) (by kernel_rfl) (rfl) (fun hHeld => ?_)
    refine wpAnyH_take (i := 0) (oi := { dst := some 53, op := Op.move (Operand.tmp 8), type := 98, pos := "decree.go:239", after := #[], guard := none }) (v := ?_) rfl (by kernel_rfl) (by kernel_rfl) (by kernel_rfl) (fun _ _ _ h => h) (Or.inl ⟨by rfl, ?_⟩) (by assumption) ?_
    rotate_left
    · (intro wq hSw; (try dsimp only at hSw); go_simp; first | done | with_reducible rfl)
    try simp only [Act.put, List.setIfInBounds_toArray, List.set_cons_zero, List.set_cons_succ]
    refine wpAnyH_take (i := 1) (oi := { dst := some 54, op := Op.nilCheck (Operand.tmp 53), type := 0, pos := "decree.go:239", after := #[{ on := 0, ground := Ground.data }], guard := none }) (v := ?_) rfl (by kernel_rfl) (by kernel_rfl) (by kernel_rfl) (fun _ _ _ h => h) (Or.inl ⟨by rfl, ?_⟩) (by assumption) ?_
    rotate_left
    · (intro wq hSw; (try dsimp only at hSw); go_simp; first | done | with_reducible rfl)
    try simp only [Act.put, List.setIfInBounds_toArray, List.set_cons_zero, List.set_cons_succ]
    refine wpAnyH_take (i := 2) (oi := { dst := some 55, op := Op.fieldAddr 104 (Operand.tmp 54) 3, type := 0, pos := "decree.go:239", after := #[{ on := 1, ground := Ground.data }], guard := none }) (v := ?_) rfl (by kernel_rfl) (by kernel_rfl) (by kernel_rfl) (fun _ _ _ h => h) (Or.inl ⟨by rfl, ?_⟩) (by assumption) ?_
    rotate_left
    · (intro wq hSw; (try dsimp only at hSw); go_simp; first | done | with_reducible rfl)
    try simp only [Act.put, List.setIfInBounds_toArray, List.set_cons_zero, List.set_cons_succ]
    refine wpAnyH_take (i := 3) (oi := { dst := some 56, op := Op.load 102 (Operand.tmp 55), type := 102, pos := "decree.go:239", after := #[{ on := 2, ground := Ground.data }], guard := none }) (v := ?_) rfl (by kernel_rfl) (by kernel_rfl) (by kernel_rfl) (fun _ _ _ h => h) (Or.inl ⟨by rfl, ?_⟩) (by assumption) ?_
    rotate_left
    · (intro wq hSw; (try dsimp only at hSw); go_simp; first | done | with_reducible rfl)
    try simp only [Act.put, List.setIfInBounds_toArray, List.set_cons_zero, List.set_cons_succ]
    refine wpAnyH_take (i := 4) (oi := { dst := some 57, op := Op.call { callee := Callee.builtin Builtin.len, args := #[Operand.tmp 56], argTypes := #[102] }, type := 3, pos := "decree.go:239", after := #[{ on := 3, ground := Ground.data }], guard := none }) (v := ?_) rfl (by kernel_rfl) (by kernel_rfl) (by kernel_rfl) (fun _ _ _ h => h) (Or.inl ⟨by rfl, ?_⟩) (by assumption) ?_
    rotate_left
    · (intro wq hSw; (try dsimp only at hSw); go_simp; first | done | with_reducible rfl)
    try simp only [Act.put, List.setIfInBounds_toArray, List.set_cons_zero, List.set_cons_succ]
    refine wpAnyH_take (i := 5) (oi := { dst := some 58, op := Op.move (Operand.tmp 0), type := 53, pos := "decree.go:239", after := #[], guard := none }) (v := ?_) rfl (by kernel_rfl) (by kernel_rfl) (by kernel_rfl) (fun _ _ _ h => h) (Or.inl ⟨by rfl, ?_⟩) (by assumption) ?_
    rotate_left
    · (intro wq hSw; (try dsimp only at hSw); go_simp; first | done | with_reducible rfl)
    try simp only [Act.put, List.setIfInBounds_toArray, List.set_cons_zero, List.set_cons_succ]
    refine wpAnyH_take (i := 6) (oi := { dst := some 59, op := Op.nilCheck (Operand.tmp 58), type := 0, pos := "decree.go:239", after := #[{ on := 5, ground := Ground.data }], guard := none }) (v := ?_) rfl (by kernel_rfl) (by kernel_rfl) (by kernel_rfl) (fun _ _ _ h => h) (Or.inl ⟨by rfl, ?_⟩) (by assumption) ?_
    rotate_left
    · (intro wq hSw; (try dsimp only at hSw); go_simp; first | done | with_reducible rfl)
    try simp only [Act.put, List.setIfInBounds_toArray, List.set_cons_zero, List.set_cons_succ]
    refine wpAnyH_take (i := 7) (oi := { dst := some 60, op := Op.fieldAddr 94 (Operand.tmp 59) 0, type := 0, pos := "decree.go:239", after := #[{ on := 6, ground := Ground.data }], guard := none }) (v := ?_) rfl (by kernel_rfl) (by kernel_rfl) (by kernel_rfl) (fun _ _ _ h => h) (Or.inl ⟨by rfl, ?_⟩) (by assumption) ?_
    rotate_left
    · (intro wq hSw; (try dsimp only at hSw); go_simp; first | done | with_reducible rfl)
    try simp only [Act.put, List.setIfInBounds_toArray, List.set_cons_zero, List.set_cons_succ]
    refine wpAnyH_take (i := 8) (oi := { dst := some 61, op := Op.load 92 (Operand.tmp 60), type := 92, pos := "decree.go:239", after := #[{ on := 7, ground := Ground.data }], guard := none }) (v := ?_) rfl (by kernel_rfl) (by kernel_rfl) (by kernel_rfl) (fun _ _ _ h => h) (Or.inl ⟨by rfl, ?_⟩) (by assumption) ?_
    rotate_left
    · (intro wq hSw; (try dsimp only at hSw); go_simp; first | done | with_reducible rfl)
    try simp only [Act.put, List.setIfInBounds_toArray, List.set_cons_zero, List.set_cons_succ]
    refine wpAnyH_take (i := 9) (oi := { dst := some 62, op := Op.call { callee := Callee.builtin Builtin.len, args := #[Operand.tmp 61], argTypes := #[92] }, type := 3, pos := "decree.go:239", after := #[{ on := 8, ground := Ground.data }], guard := none }) (v := ?_) rfl (by kernel_rfl) (by kernel_rfl) (by kernel_rfl) (fun _ _ _ h => h) (Or.inl ⟨by rfl, ?_⟩) (by assumption) ?_
    rotate_left
    · (intro wq hSw; (try dsimp only at hSw); go_simp; first | done | with_reducible rfl)
    try simp only [Act.put, List.setIfInBounds_toArray, List.set_cons_zero, List.set_cons_succ]
    refine wpAnyH_ready (rs := [10]) (by kernel_rfl) (by simp) ?_
    refine AllReadyH.cons (o := { dst := some 63, op := Op.call { callee := Callee.value (Operand.func 15), args := #[Operand.tmp 62], argTypes := #[3] }, type := 3, pos := "decree.go:239", after := #[{ on := 9, ground := Ground.data }, { on := 4, ground := Ground.chain }], guard := none }) rfl (fun K hK => ?_) AllReadyH.nil
    go_simp
    refine (HQC.out _).mono ?_
    rintro e wq ⟨rfl, hwq⟩
    subst wq
    refine hK.out _ _ ?_ (fun hHeld => ?_)
    · exact rfl
    clear hK K
    try simp only [Act.put, List.setIfInBounds_toArray, List.set_cons_zero, List.set_cons_succ]
    refine wpAnyH_take (i := 11) (oi := { dst := some 64, op := Op.binOp BinOp.geq 3 (Operand.tmp 57) (Operand.tmp 63) 3, type := 4, pos := "decree.go:239", after := #[{ on := 4, ground := Ground.data }, { on := 10, ground := Ground.data }], guard := none }) (v := .bool false) rfl (by kernel_rfl) (by kernel_rfl) (by kernel_rfl) (fun _ _ _ h => h) (Or.inl ⟨by rfl, ?_⟩) (by assumption) ?_
    · (intro wq hSw; (try dsimp only at hSw); go_simp; first | done | with_reducible rfl | (simp; omega))
    try simp only [Act.put, List.setIfInBounds_toArray, List.set_cons_zero, List.set_cons_succ]
    refine wpAnyH_done (by kernel_rfl) ?_ _
    clear hHeld hlen
    go_wp2_with fail
    go_end0
    refine ⟨rfl, ?_⟩
    exact GrPost.pre HN1.out ⟨_, HG7.out.new (New.refl w7).drew, HGRO7.out, HUPD7.out.drew⟩
  · go_simp
    have ka := fun o => keepC (S := fun _ => False) (Upd.new ((New.refl w5).drew.alloc (.cells #[.bool mh, .int .u64 (mhr : Int), .int .u64 (mhn : Int), .string mhv] 45))) HMB.out (fun h => h) o
    refine hK.out _ _ ?_ (fun hHeld => ?_)
    · exact ka
    clear hK K
    try simp only [Act.put, List.setIfInBounds_toArray, List.set_cons_zero, List.set_cons_succ]
    refine wpAnyH_ready (rs := [4]) (by kernel_rfl) (by simp) ?_
    refine AllReadyH.cons (o := { dst := some 46, op := Op.load 33 (Operand.tmp 45), type := 33, pos := "decree.go:238", after := #[{ on := 3, ground := Ground.data }], guard := none }) rfl (fun K hK => ?_) AllReadyH.nil
    go_simp
    refine hK.out _ _ ?_ (fun hHeld => ?_)
    · exact ka
    clear hK K
    try simp only [Act.put, List.setIfInBounds_toArray, List.set_cons_zero, List.set_cons_succ]
    refine wpAnyH_ready (rs := [8]) (by kernel_rfl) (by simp) ?_
    refine AllReadyH.cons (o := { dst := some 50, op := Op.call { callee := Callee.builtin Builtin.append, args := #[Operand.tmp 46, Operand.tmp 49], argTypes := #[33, 33] }, type := 33, pos := "decree.go:238", after := #[{ on := 4, ground := Ground.data }, { on := 7, ground := Ground.data }], guard := none }) rfl (fun K hK => ?_) AllReadyH.nil
    refine step_appR (v := .slice qA p.pm.length qc) promTyD promOkD rfl (.tmp 46) (.tmp 49) rfl rfl rfl (HROW5.out.new ((New.refl w5).drew.alloc (.cells #[.bool mh, .int .u64 (mhr : Int), .int .u64 (mhn : Int), .string mhv] 45))) (SlIn.one (x := (⟨mh, (mhr : Int), (mhn : Int), mhv⟩ : Pro)) (Blk.mk_new w5.drew 45 #[.bool mh, .int .u64 (mhr : Int), .int .u64 (mhn : Int), .string mhv]) promOkD rfl) HM1L.out HM2L.out (Nat.zero_le _) ?_
    intro v6 w6 hr6 hg6 hb6
    have hu6 : Upd (fun k => P.qv.ownBlock = some k) (w5.drew.alloc (.cells #[.bool mh, .int .u64 (mhr : Int), .int .u64 (mhn : Int), .string mhv] 45)) w6 := (Upd.refl _ _).grown hg6 (fun k _ e => by rw [HQV.out]; exact e)
    have hP5a := PrsAt.new HP5.out ((New.refl w5).drew.alloc (.cells #[.bool mh, .int .u64 (mhr : Int), .int .u64 (mhn : Int), .string mhv] 45))
    have hb6k := hP5a.blk.upd hu6 (hP5a.row.ne_blk hP5a.blk (by decide))
    have y3 := hb6k.cell 3
    have yz := hb6k.frozen
    have yl := hb6k.lt
    simp at y3
    rw [HQV.out] at y3
    obtain ⟨A6, n6, cc6, rfl⟩ := hr6.shp
    have kb := fun o => (keepC hu6 (b := w.heap.size) (by have := HMB.out; simp; omega) (HMQ.out) o).trans (ka o)
    refine hK.out _ _ ?_ (fun hHeld => ?_)
    · exact kb
    clear hK K
    try simp only [Act.put, List.setIfInBounds_toArray, List.set_cons_zero, List.set_cons_succ]
    refine wpAnyH_take (i := 9) (oi := { dst := some 51, op := Op.nilCheck (Operand.tmp 42), type := 0, pos := "decree.go:238", after := #[{ on := 0, ground := Ground.data }, { on := 0, ground := Ground.phase }, { on := 1, ground := Ground.phase }, { on := 2, ground := Ground.phase }, { on := 3, ground := Ground.phase }, { on := 4, ground := Ground.phase }, { on := 5, ground := Ground.phase }, { on := 6, ground := Ground.phase }, { on := 7, ground := Ground.phase }, { on := 8, ground := Ground.phase }], guard := none }) (v := ?_) rfl (by kernel_rfl) (by kernel_rfl) (by kernel_rfl) (fun _ _ _ h => h) (Or.inl ⟨by rfl, ?_⟩) (by assumption) ?_
    rotate_left
    · (intro wq hSw; (try dsimp only at hSw); go_simp; first | done | with_reducible rfl)
    try simp only [Act.put, List.setIfInBounds_toArray, List.set_cons_zero, List.set_cons_succ]
    refine wpAnyH_take (i := 10) (oi := { dst := some 52, op := Op.fieldAddr 104 (Operand.tmp 51) 2, type := 0, pos := "decree.go:238", after := #[{ on := 9, ground := Ground.data }, { on := 0, ground := Ground.phase }, { on := 1, ground := Ground.phase }, { on := 2, ground := Ground.phase }, { on := 3, ground := Ground.phase }, { on := 4, ground := Ground.phase }, { on := 5, ground := Ground.phase }, { on := 6, ground := Ground.phase }, { on := 7, ground := Ground.phase }, { on := 8, ground := Ground.phase }], guard := none }) (v := ?_) rfl (by kernel_rfl) (by kernel_rfl) (by kernel_rfl) (fun _ _ _ h => h) (Or.inl ⟨by rfl, ?_⟩) (by assumption) ?_
    rotate_left
    · (intro wq hSw; (try dsimp only at hSw); go_simp; first | done | with_reducible rfl)
    try simp only [Act.put, List.setIfInBounds_toArray, List.set_cons_zero, List.set_cons_succ]
    refine wpAnyH_ready (rs := [11]) (by kernel_rfl) (by simp) ?_
    refine AllReadyH.cons (o := { dst := none, op := Op.store 33 (Operand.tmp 52) (Operand.tmp 50), type := 0, pos := "decree.go:238", after := #[{ on := 10, ground := Ground.data }, { on := 8, ground := Ground.data }, { on := 8, ground := Ground.chain }, { on := 0, ground := Ground.phase }, { on := 1, ground := Ground.phase }, { on := 2, ground := Ground.phase }, { on := 3, ground := Ground.phase }, { on := 4, ground := Ground.phase }, { on := 5, ground := Ground.phase }, { on := 6, ground := Ground.phase }, { on := 7, ground := Ground.phase }, { on := 8, ground := Ground.phase }], guard := none }) rfl (fun K hK => ?_) AllReadyH.nil
    go_simp
    refine hK.out _ _ ?_ (fun hHeld => ?_)
    · exact (fun o => (World.cell?_setCell_far _ ⟨P.pb, 3, none⟩ ⟨w.heap.size, o, none⟩ _ HMP.out).trans (kb o))
    clear hK K
    try simp only [Act.put, List.setIfInBounds_toArray, List.set_cons_zero, List.set_cons_succ]
    refine wpAnyH_done (by kernel_rfl) ?_ _
    clear hHeld ka kb
    have hn5b := (New.refl w5).drew.alloc (.cells #[.bool mh, .int .u64 (mhr : Int), .int .u64 (mhn : Int), .string mhv] 45)
    have hP6 := PrsAt.pm_ hP5a hu6 hr6
    have hS6 : Upd (fun k => P.qv.ownBlock = some k ∨ k = P.pb) (w5.drew.alloc (.cells #[.bool mh, .int .u64 (mhr : Int), .int .u64 (mhn : Int), .string mhv] 45)) (w6.setCell ⟨P.pb, 3, none⟩ (.slice A6 n6 cc6)) := (hu6.mono fun _ _ h => .inl h).setCell (fun _ => .inr rfl) _
    have hX6 := (HX5.out.new hn5b).setNw rfl HPW.out hP5a hS6 (fun k _ h => h.elim (fun h => .inr (.inr (.inr h))) (fun h => .inr (.inr (.inl h)))) (fun k hk => .inl hk) hP6 rfl
    have hU6 : Upd (L.Fn i) w1 (w6.setCell ⟨P.pb, 3, none⟩ (.slice A6 n6 cc6)) := (HU5.out.transNew hn5b).trans hS6 (fun k _ h => h.elim (HP5.out.f2 k) (fun e => by rw [e]; exact HP5.out.f1.1))
    have hs15 := HU5.out.size
    have hs56 := hu6.size
    have hG6 : Gro (L.Fn i) (fun k => L.Fn i k ∨ Value.ownBlock (.slice A6 n6 cc6) = some k) w1 (w6.setCell ⟨P.pb, 3, none⟩ (.slice A6 n6 cc6)) := fun k hk => hk.elim .inl (fun h => hb6.elim (fun e => .inl (HP5.out.f2 k (by rw [HQV.out]; rw [e] at h; exact h))) (fun e => .inr (by have hl := (hr6.lt k h).2; rw [e] at h; injection h with h; simp at h hs56; exact ⟨by omega, by simpa [World.setCell] using hl⟩)))
    have hg7 := HH1.out.setNd hi hU6 hX6 hG6 (Nat.le_refl _)
    have hgro7 := ndGro (gp := gp) (L := L) (l' := L.nl i) hi hG6
    have hupd7 : Upd (GpF gp n L) w1 (w6.setCell ⟨P.pb, 3, none⟩ (.slice A6 n6 cc6)) := hU6.mono fun k _ hk => .inr ⟨i, hi, hk⟩
    have HU6 := Lib.hid hU6
    have HG6 := Lib.hid hG6
    have HG7 := Lib.hid hg7
    have HGRO7 := Lib.hid hgro7
    have HUPD7 := Lib.hid hupd7
    have HP6 := Lib.hid hP6
    have HX6 := Lib.hid hX6
    clear hP6 hS6 hX6 hU6 hG6 hg7 hgro7 hupd7 hs15 hs56 hu6 hr6 hg6 hb6 hP5a hb6k y3 yz yl a a0 a1 a2 a3 a4 a5 a6 a7 a8 az q0 e0 e1 e2 e3 e4 e5 e6 e7 ez hn5b
    go_upto_region 5 with fail
    generalize (w6.setCell ⟨P.pb, 3, none⟩ (.slice A6 n6 cc6)) = w7 at *
    obtain ⟨q0, e0, e1, e2, e3, e4, e5, e6, e7, ez⟩ := Blk8F HP6.out.blk
    obtain ⟨gA, gc, hnv⟩ := HG7.out.nvs
    obtain ⟨g0, f0, f1, fz⟩ := HG7.out.facts
    rw [hnv] at f0
    have hlen := fun ty => mpLenI (MpAt.new HP6.out.fm (New.refl w7).drew) Try.underlying102 ty
    simp only [List.length_append, List.length_singleton] at hlen
    have HQC := Lib.hid (quor_call n (by omega))
    clear hnv
    have hqi : ¬ ((quor n : Nat) : Int) ≤ (p.fr.length : Int) + 1 := by omega
    refine wp_region_held_drew (S := fun w' => w' = w7.drew) (by kernel_rfl) (rfl) (fun hHeld => ?_)
    refine wpAnyH_take (i := 0) (oi := { dst := some 53, op := Op.move (Operand.tmp 8), type := 98, pos := "decree.go:239", after := #[], guard := none }) (v := ?_) rfl (by kernel_rfl) (by kernel_rfl) (by kernel_rfl) (fun _ _ _ h => h) (Or.inl ⟨by rfl, ?_⟩) (by assumption) ?_
    rotate_left
    · (intro wq hSw; (try dsimp only at hSw); go_simp; first | done | with_reducible rfl)
    try simp only [Act.put, List.setIfInBounds_toArray, List.set_cons_zero, List.set_cons_succ]
    refine wpAnyH_take (i := 1) (oi := { dst := some 54, op := Op.nilCheck (Operand.tmp 53), type := 0, pos := "decree.go:239", after := #[{ on := 0, ground := Ground.data }], guard := none }) (v := ?_) rfl (by kernel_rfl) (by kernel_rfl) (by kernel_rfl) (fun _ _ _ h => h) (Or.inl ⟨by rfl, ?_⟩) (by assumption) ?_
    rotate_left
    · (intro wq hSw; (try dsimp only at hSw); go_simp; first | done | with_reducible rfl)
    try simp only [Act.put, List.setIfInBounds_toArray, List.set_cons_zero, List.set_cons_succ]
    refine wpAnyH_take (i := 2) (oi := { dst := some 55, op := Op.fieldAddr 104 (Operand.tmp 54) 3, type := 0, pos := "decree.go:239", after := #[{ on := 1, ground := Ground.data }], guard := none }) (v := ?_) rfl (by kernel_rfl) (by kernel_rfl) (by kernel_rfl) (fun _ _ _ h => h) (Or.inl ⟨by rfl, ?_⟩) (by assumption) ?_
    rotate_left
    · (intro wq hSw; (try dsimp only at hSw); go_simp; first | done | with_reducible rfl)
    try simp only [Act.put, List.setIfInBounds_toArray, List.set_cons_zero, List.set_cons_succ]
    refine wpAnyH_take (i := 3) (oi := { dst := some 56, op := Op.load 102 (Operand.tmp 55), type := 102, pos := "decree.go:239", after := #[{ on := 2, ground := Ground.data }], guard := none }) (v := ?_) rfl (by kernel_rfl) (by kernel_rfl) (by kernel_rfl) (fun _ _ _ h => h) (Or.inl ⟨by rfl, ?_⟩) (by assumption) ?_
    rotate_left
    · (intro wq hSw; (try dsimp only at hSw); go_simp; first | done | with_reducible rfl)
    try simp only [Act.put, List.setIfInBounds_toArray, List.set_cons_zero, List.set_cons_succ]
    refine wpAnyH_take (i := 4) (oi := { dst := some 57, op := Op.call { callee := Callee.builtin Builtin.len, args := #[Operand.tmp 56], argTypes := #[102] }, type := 3, pos := "decree.go:239", after := #[{ on := 3, ground := Ground.data }], guard := none }) (v := ?_) rfl (by kernel_rfl) (by kernel_rfl) (by kernel_rfl) (fun _ _ _ h => h) (Or.inl ⟨by rfl, ?_⟩) (by assumption) ?_
    rotate_left
    · (intro wq hSw; (try dsimp only at hSw); go_simp; first | done | with_reducible rfl)
    try simp only [Act.put, List.setIfInBounds_toArray, List.set_cons_zero, List.set_cons_succ]
    refine wpAnyH_take (i := 5) (oi := { dst := some 58, op := Op.move (Operand.tmp 0), type := 53, pos := "decree.go:239", after := #[], guard := none }) (v := ?_) rfl (by kernel_rfl) (by kernel_rfl) (by kernel_rfl) (fun _ _ _ h => h) (Or.inl ⟨by rfl, ?_⟩) (by assumption) ?_
    rotate_left
    · (intro wq hSw; (try dsimp only at hSw); go_simp; first | done | with_reducible rfl)
    try simp only [Act.put, List.setIfInBounds_toArray, List.set_cons_zero, List.set_cons_succ]
    refine wpAnyH_take (i := 6) (oi := { dst := some 59, op := Op.nilCheck (Operand.tmp 58), type := 0, pos := "decree.go:239", after := #[{ on := 5, ground := Ground.data }], guard := none }) (v := ?_) rfl (by kernel_rfl) (by kernel_rfl) (by kernel_rfl) (fun _ _ _ h => h) (Or.inl ⟨by rfl, ?_⟩) (by assumption) ?_
    rotate_left
    · (intro wq hSw; (try dsimp only at hSw); go_simp; first | done | with_reducible rfl)
    try simp only [Act.put, List.setIfInBounds_toArray, List.set_cons_zero, List.set_cons_succ]
    refine wpAnyH_take (i := 7) (oi := { dst := some 60, op := Op.fieldAddr 94 (Operand.tmp 59) 0, type := 0, pos := "decree.go:239", after := #[{ on := 6, ground := Ground.data }], guard := none }) (v := ?_) rfl (by kernel_rfl) (by kernel_rfl) (by kernel_rfl) (fun _ _ _ h => h) (Or.inl ⟨by rfl, ?_⟩) (by assumption) ?_
    rotate_left
    · (intro wq hSw; (try dsimp only at hSw); go_simp; first | done | with_reducible rfl)
    try simp only [Act.put, List.setIfInBounds_toArray, List.set_cons_zero, List.set_cons_succ]
    refine wpAnyH_take (i := 8) (oi := { dst := some 61, op := Op.load 92 (Operand.tmp 60), type := 92, pos := "decree.go:239", after := #[{ on := 7, ground := Ground.data }], guard := none }) (v := ?_) rfl (by kernel_rfl) (by kernel_rfl) (by kernel_rfl) (fun _ _ _ h => h) (Or.inl ⟨by rfl, ?_⟩) (by assumption) ?_
    rotate_left
    · (intro wq hSw; (try dsimp only at hSw); go_simp; first | done | with_reducible rfl)
    try simp only [Act.put, List.setIfInBounds_toArray, List.set_cons_zero, List.set_cons_succ]
    refine wpAnyH_take (i := 9) (oi := { dst := some 62, op := Op.call { callee := Callee.builtin Builtin.len, args := #[Operand.tmp 61], argTypes := #[92] }, type := 3, pos := "decree.go:239", after := #[{ on := 8, ground := Ground.data }], guard := none }) (v := ?_) rfl (by kernel_rfl) (by kernel_rfl) (by kernel_rfl) (fun _ _ _ h => h) (Or.inl ⟨by rfl, ?_⟩) (by assumption) ?_
    rotate_left
    · (intro wq hSw; (try dsimp only at hSw); go_simp; first | done | with_reducible rfl)
    try simp only [Act.put, List.setIfInBounds_toArray, List.set_cons_zero, List.set_cons_succ]
    refine wpAnyH_ready (rs := [10]) (by kernel_rfl) (by simp) ?_
    refine AllReadyH.cons (o := { dst := some 63, op := Op.call { callee := Callee.value (Operand.func 15), args := #[Operand.tmp 62], argTypes := #[3] }, type := 3, pos := "decree.go:239", after := #[{ on := 9, ground := Ground.data }, { on := 4, ground := Ground.chain }], guard := none }) rfl (fun K hK => ?_) AllReadyH.nil
    go_simp
    refine (HQC.out _).mono ?_
    rintro e wq ⟨rfl, hwq⟩
    subst wq
    refine hK.out _ _ ?_ (fun hHeld => ?_)
    · exact rfl
    clear hK K
    try simp only [Act.put, List.setIfInBounds_toArray, List.set_cons_zero, List.set_cons_succ]
    refine wpAnyH_take (i := 11) (oi := { dst := some 64, op := Op.binOp BinOp.geq 3 (Operand.tmp 57) (Operand.tmp 63) 3, type := 4, pos := "decree.go:239", after := #[{ on := 4, ground := Ground.data }, { on := 10, ground := Ground.data }], guard := none }) (v := .bool false) rfl (by kernel_rfl) (by kernel_rfl) (by kernel_rfl) (fun _ _ _ h => h) (Or.inl ⟨by rfl, ?_⟩) (by assumption) ?_
    · (intro wq hSw; (try dsimp only at hSw); go_simp; first | done | with_reducible rfl | (simp; omega))
    try simp only [Act.put, List.setIfInBounds_toArray, List.set_cons_zero, List.set_cons_succ]
    refine wpAnyH_done (by kernel_rfl) ?_ _
    clear hHeld hlen
    go_wp2_with fail
    go_end0
    refine ⟨rfl, ?_⟩
    exact GrPost.pre HN1.out ⟨_, HG7.out.new (New.refl w7).drew, HGRO7.out, HUPD7.out.drew⟩
theorem mProp_good {s r i : Nat} {v : ByteArray} (h : s < 18446744073709551616) (hr : r < 18446744073709551616) (hi : i < 18446744073709551616) (hv : v.size ≤ 65536) : (mProp s r i v).good := ⟨by show 2 ≤ 6; omega, h, hr, hi, hv, by show 0 < 18446744073709551616; omega, by show 0 < 18446744073709551616; omega, by show 0 ≤ 65536; omega⟩
set_option maxRecDepth 100000 in
set_option maxHeartbeats 8000000 in
theorem gpm_many (h : GpAt w gp n B L g) {i : Nat} (hi : i < n) (fr : Nat) (m : Msg) {p : Prs} (hp : (g.nd i).nw = some p) (hm : (g.nd i).mine m = true) (hc : p.ch = false) (hf : (fr : Int) ∉ p.fr) (hfr : fr ≤ 1000) (hn7 : n ≤ 7) (hpk : PrsOk B p) (hB : B ≤ 100000000) (hq : quor n ≤ p.fr.length + 1) (hpne : (g.nd i).pe ≠ []) {V : ByteArray} (hV : (Pro.best ((g.nd i).pe.headD E0) (p.pm ++ [m.pro])).v = V) (hVs : V.size ≤ 65536) :
    Calls Try.prog 65 #[.pointer (some ⟨gp, 0, none⟩), .pointer (some ⟨L.nb i, 0, none⟩), .int .i64 (fr : Int), m.val] w (PmPost w gp n B L g i ({ g.nd i with nw := some { p with fr := p.fr ++ [(fr : Int)], pm := p.pm ++ [m.pro], v := V, ch := true } }, some (mProp p.s p.r p.n V)) (allOf n)) := by
  obtain ⟨mk, ms, mr, mn, mv, mh, mhr, mhn, mhv⟩ := m
  have hN := (New.refl w).alloc (.cells #[.int .i64 (mk : Int), .int .u64 (ms : Int), .int .u64 (mr : Int), .int .u64 (mn : Int), .string mv, .bool mh, .int .u64 (mhr : Int), .int .u64 (mhn : Int), .string mhv] 107)
  have hM := Blk.mk_new w 107 #[.int .i64 (mk : Int), .int .u64 (ms : Int), .int .u64 (mr : Int), .int .u64 (mn : Int), .string mv, .bool mh, .int .u64 (mhr : Int), .int .u64 (mhn : Int), .string mhv]
  have HMI := Lib.hid (nmine ((h.nd i hi).new hN) ⟨mk, ms, mr, mn, mv, mh, mhr, mhn, mhv⟩)
  rw [hm] at HMI
  have HH := Lib.hid h
  have HN := Lib.hid hN
  obtain ⟨P, hpw, hP⟩ := (h.nd i hi).prs hp
  have HV := Lib.hid hV
  have HVS := Lib.hid hVs
  have HPNE := Lib.hid hpne
  clear hV hVs hpne
  have HPC := Lib.hid (show p.s < 18446744073709551616 ∧ p.r < 18446744073709551616 ∧ p.n < 18446744073709551616 from ⟨by have := hpk.s; omega, by have := hpk.r; omega, by have := hpk.n; omega⟩)
  have hfl := hpk.fl
  have hpl := hpk.pl
  clear h hN hm hpk
  go_enter Try.func65, Try.ntmps65
  go_wp2_with fail
  refine HMI.out.mono ?_
  rintro e w1 ⟨rfl, hn1⟩
  have HN1 := Lib.hid (HN.out.trans hn1)
  have HM1 := Lib.hid (hM.new hn1)
  have h1 := HH.out.new HN1.out
  have hx1 := h1.nd i hi
  have hP1 := hP.new HN1.out
  obtain ⟨g0, c0, c1, c2, c3, c4, c5, cz⟩ := Blk6F hx1.blk
  rw [hpw] at c5
  obtain ⟨q0, e0, e1, e2, e3, e4, e5, e6, e7, ez⟩ := Blk8F hP1.blk
  rw [hc] at e7
  have hlk := mpGet keyI64 hP1.fm Try.underlying102 (zeroBo _) (fr : Int) (okI_lt (by omega) (by omega))
  rw [setV_get, decide_eq_false hf] at hlk
  have HFM := Lib.hid hP1.fm
  have HMX := Lib.hid (show p.fr.length < maxLen by unfold maxLen; omega)
  have HOKI := Lib.hid (show okI (fr : Int) from okI_lt (by omega) (by omega))
  have HX1 := Lib.hid hx1
  have HP1 := Lib.hid hP1
  have HF := Lib.hid hf
  have HH1 := Lib.hid h1
  have HPN := Lib.hid hp
  have HPW := Lib.hid hpw
  clear h1 hx1 hP1 hn1 hM hP hp hpw hf hc
  go_upto_region 4 with (at_mapUpdate; refine wpList_mp_put keyI64 rfl _ _ _ 102 4 rfl Try.underlying102 rfl HFM.out HMX.out (fr : Int) HOKI.out rfl _ rfl ?_; intro w5 hm5 hg5)
  have hu5 := growI hg5
  have hP5 := PrsAt.from_ HP1.out hm5 HF.out hu5
  have hX5 := HX1.out.setNw HPN.out HPW.out HP1.out hu5 (fun k _ e => .inl e) (fun _ h => h) hP5 rfl
  have hM5 := HM1.out.upd hu5 (fun e => Blk.ne_map HM1.out HP1.out.fm e)
  have HU5 : Hid (Upd (L.Fn i) w1 w5) := Lib.hid (hu5.mono fun k _ e => by rw [e]; exact HP1.out.f1.2.1)
  obtain ⟨a, a0, a1, a2, a3, a4, a5, a6, a7, a8, az⟩ := Blk9F hM5
  clear g0 c0 c1 c2 c3 c4 c5 cz q0 e0 e1 e2 e3 e4 e5 e6 e7 ez hlk hm5 hg5 hu5
  obtain ⟨q0, e0, e1, e2, e3, e4, e5, e6, e7, ez⟩ := Blk8F hP5.blk
  obtain ⟨qA, qc, hqv⟩ := hP5.row.shape
  rw [hqv] at e3
  have hrow5 := hP5.row
  rw [hqv] at hrow5
  have HROW5 := Lib.hid hrow5
  have HQV := Lib.hid hqv
  have HP5 := Lib.hid hP5
  have HX5 := Lib.hid hX5
  have HMB := Lib.hid (show w.heap.size < w5.heap.size from a)
  have HM1L := Lib.hid (show p.pm.length + [(⟨mh, (mhr : Int), (mhn : Int), mhv⟩ : Pro)].length ≤ maxLen by unfold maxLen; simp; omega)
  have HM2L := Lib.hid (show (p.pm.length + [(⟨mh, (mhr : Int), (mhn : Int), mhv⟩ : Pro)].length) * 40 ≤ 140737488355328 by simp; omega)
  have HMQ := Lib.hid (show ¬ (P.qv.ownBlock = some w.heap.size) from hP5.row.ne_blk hM5 (by decide))
  have HMP := Lib.hid (show P.pb ≠ w.heap.size from fun e => Blk.ne_ hP5.blk hM5 (by decide) e)
  clear hP5 hX5 hM5 hqv hrow5
  refine wp_region_held_drew (S := fun w' => ∀ o, w'.cell? ⟨w.heap.size, o, none⟩ = w5.cell? ⟨w.heap.size, o, none⟩) (by kernel_rfl) (fun _ => rfl) (fun hHeld => ?_)
  refine wpAnyH_take (i := 0) (oi := { dst := some 42, op := Op.move (Operand.tmp 8), type := 98, pos := "decree.go:238", after := #[], guard := none }) (v := ?_) rfl (by kernel_rfl) (by kernel_rfl) (by kernel_rfl) (fun _ _ _ h => h) (Or.inl ⟨by rfl, ?_⟩) (by assumption) ?_
  rotate_left
  · (intro wq hSw; (try dsimp only at hSw); go_simp; first | done | with_reducible rfl)
  try simp only [Act.put, List.setIfInBounds_toArray, List.set_cons_zero, List.set_cons_succ]
  refine wpAnyH_take (i := 1) (oi := { dst := some 43, op := Op.move (Operand.tmp 8), type := 98, pos := "decree.go:238", after := #[], guard := none }) (v := ?_) rfl (by kernel_rfl) (by kernel_rfl) (by kernel_rfl) (fun _ _ _ h => h) (Or.inl ⟨by rfl, ?_⟩) (by assumption) ?_
  rotate_left
  · (intro wq hSw; (try dsimp only at hSw); go_simp; first | done | with_reducible rfl)
  try simp only [Act.put, List.setIfInBounds_toArray, List.set_cons_zero, List.set_cons_succ]
  refine wpAnyH_take (i := 2) (oi := { dst := some 44, op := Op.nilCheck (Operand.tmp 43), type := 0, pos := "decree.go:238", after := #[{ on := 1, ground := Ground.data }], guard := none }) (v := ?_) rfl (by kernel_rfl) (by kernel_rfl) (by kernel_rfl) (fun _ _ _ h => h) (Or.inl ⟨by rfl, ?_⟩) (by assumption) ?_
  rotate_left
  · (intro wq hSw; (try dsimp only at hSw); go_simp; first | done | with_reducible rfl)
  try simp only [Act.put, List.setIfInBounds_toArray, List.set_cons_zero, List.set_cons_succ]
  refine wpAnyH_take (i := 3) (oi := { dst := some 45, op := Op.fieldAddr 104 (Operand.tmp 44) 2, type := 0, pos := "decree.go:238", after := #[{ on := 2, ground := Ground.data }], guard := none }) (v := ?_) rfl (by kernel_rfl) (by kernel_rfl) (by kernel_rfl) (fun _ _ _ h => h) (Or.inl ⟨by rfl, ?_⟩) (by assumption) ?_
  rotate_left
  · (intro wq hSw; (try dsimp only at hSw); go_simp; first | done | with_reducible rfl)
  try simp only [Act.put, List.setIfInBounds_toArray, List.set_cons_zero, List.set_cons_succ]
  refine wpAnyH_take (i := 5) (oi := { dst := some 47, op := Op.fieldAddr 107 (Operand.tmp 7) 4, type := 0, pos := "decree.go:238", after := #[], guard := none }) (v := ?_) rfl (by kernel_rfl) (by kernel_rfl) (by kernel_rfl) (fun _ _ _ h => h) (Or.inl ⟨by rfl, ?_⟩) (by assumption) ?_
  rotate_left
  · (intro wq hSw; (try dsimp only at hSw); go_simp; first | done | with_reducible rfl)
  try simp only [Act.put, List.setIfInBounds_toArray, List.set_cons_zero, List.set_cons_succ]
  refine wpAnyH_take (i := 6) (oi := { dst := some 48, op := Op.load 45 (Operand.tmp 47), type := 45, pos := "decree.go:238", after := #[{ on := 5, ground := Ground.data }], guard := none }) (v := ?_) rfl (by kernel_rfl) (by kernel_rfl) (by kernel_rfl) (fun _ _ _ h => h) (Or.inl ⟨by rfl, ?_⟩) (by assumption) ?_
  rotate_left
  · (intro wq hSw; (try dsimp only at hSw); go_simp; first | done | with_reducible rfl)
  try simp only [Act.put, List.setIfInBounds_toArray, List.set_cons_zero, List.set_cons_succ]
  refine wpAnyH_ready (rs := [4, 7]) (by kernel_rfl) (by simp) ?_
  refine AllReadyH.cons (o := { dst := some 46, op := Op.load 33 (Operand.tmp 45), type := 33, pos := "decree.go:238", after := #[{ on := 3, ground := Ground.data }], guard := none }) rfl (fun K hK => ?_) (AllReadyH.cons (o := { dst := some 49, op := Op.buildSlice 33 1 #[(0, Operand.tmp 48)], type := 33, pos := "decree.go:238", after := #[{ on := 6, ground := Ground.data }], guard := none }) rfl (fun K hK => ?_) AllReadyH.nil)
  · go_simp
    refine hK.out _ _ ?_ (fun hHeld => ?_)
    · exact (fun _ => rfl)
    clear hK K
    try simp only [Act.put, List.setIfInBounds_toArray, List.set_cons_zero, List.set_cons_succ]
    refine wpAnyH_ready (rs := [7]) (by kernel_rfl) (by simp) ?_
    refine AllReadyH.cons (o := { dst := some 49, op := Op.buildSlice 33 1 #[(0, Operand.tmp 48)], type := 33, pos := "decree.go:238", after := #[{ on := 6, ground := Ground.data }], guard := none }) rfl (fun K hK => ?_) AllReadyH.nil
    go_simp
    have ka := fun o => keepC (S := fun _ => False) (Upd.new ((New.refl w5).drew.alloc (.cells #[.bool mh, .int .u64 (mhr : Int), .int .u64 (mhn : Int), .string mhv] 45))) HMB.out (fun h => h) o
    refine hK.out _ _ ?_ (fun hHeld => ?_)
    · exact ka
    clear hK K
    try simp only [Act.put, List.setIfInBounds_toArray, List.set_cons_zero, List.set_cons_succ]
    refine wpAnyH_ready (rs := [8]) (by kernel_rfl) (by simp) ?_
    refine AllReadyH.cons (o := { dst := some 50, op := Op.call { callee := Callee.builtin Builtin.append, args := #[Operand.tmp 46, Operand.tmp 49], argTypes := #[33, 33] }, type := 33, pos := "decree.go:238", after := #[{ on := 4, ground := Ground.data }, { on := 7, ground := Ground.data }], guard := none }) rfl (fun K hK => ?_) AllReadyH.nil
    refine step_appR (v := .slice qA p.pm.length qc) promTyD promOkD rfl (.tmp 46) (.tmp 49) rfl rfl rfl (HROW5.out.new ((New.refl w5).drew.alloc (.cells #[.bool mh, .int .u64 (mhr : Int), .int .u64 (mhn : Int), .string mhv] 45))) (SlIn.one (x := (⟨mh, (mhr : Int), (mhn : Int), mhv⟩ : Pro)) (Blk.mk_new w5.drew 45 #[.bool mh, .int .u64 (mhr : Int), .int .u64 (mhn : Int), .string mhv]) promOkD rfl) HM1L.out HM2L.out (Nat.zero_le _) ?_
    intro v6 w6 hr6 hg6 hb6
    have hu6 : Upd (fun k => P.qv.ownBlock = some k) (w5.drew.alloc (.cells #[.bool mh, .int .u64 (mhr : Int), .int .u64 (mhn : Int), .string mhv] 45)) w6 := (Upd.refl _ _).grown hg6 (fun k _ e => by rw [HQV.out]; exact e)
    have hP5a := PrsAt.new HP5.out ((New.refl w5).drew.alloc (.cells #[.bool mh, .int .u64 (mhr : Int), .int .u64 (mhn : Int), .string mhv] 45))
    have hb6k := hP5a.blk.upd hu6 (hP5a.row.ne_blk hP5a.blk (by decide))
    have y3 := hb6k.cell 3
    have yz := hb6k.frozen
    have yl := hb6k.lt
    simp at y3
    rw [HQV.out] at y3
    obtain ⟨A6, n6, cc6, rfl⟩ := hr6.shp
    have kb := fun o => (keepC hu6 (b := w.heap.size) (by have := HMB.out; simp; omega) (HMQ.out) o).trans (ka o)
    refine hK.out _ _ ?_ (fun hHeld => ?_)
    · exact kb
    clear hK K
    try simp only [Act.put, List.setIfInBounds_toArray, List.set_cons_zero, List.set_cons_succ]
    refine wpAnyH_take (i := 9) (oi := { dst := some 51, op := Op.nilCheck (Operand.tmp 42), type := 0, pos := "decree.go:238", after := #[{ on := 0, ground := Ground.data }, { on := 0, ground := Ground.phase }, { on := 1, ground := Ground.phase }, { on := 2, ground := Ground.phase }, { on := 3, ground := Ground.phase }, { on := 4, ground := Ground.phase }, { on := 5, ground := Ground.phase }, { on := 6, ground := Ground.phase }, { on := 7, ground := Ground.phase }, { on := 8, ground := Ground.phase }], guard := none }) (v := ?_) rfl (by kernel_rfl) (by kernel_rfl) (by kernel_rfl) (fun _ _ _ h => h) (Or.inl ⟨by rfl, ?_⟩) (by assumption) ?_
    rotate_left
    · (intro wq hSw; (try dsimp only at hSw); go_simp; first | done | with_reducible rfl)
    try simp only [Act.put, List.setIfInBounds_toArray, List.set_cons_zero, List.set_cons_succ]
    refine wpAnyH_take (i := 10) (oi := { dst := some 52, op := Op.fieldAddr 104 (Operand.tmp 51) 2, type := 0, pos := "decree.go:238", after := #[{ on := 9, ground := Ground.data }, { on := 0, ground := Ground.phase }, { on := 1, ground := Ground.phase }, { on := 2, ground := Ground.phase }, { on := 3, ground := Ground.phase }, { on := 4, ground := Ground.phase }, { on := 5, ground := Ground.phase }, { on := 6, ground := Ground.phase }, { on := 7, ground := Ground.phase }, { on := 8, ground := Ground.phase }], guard := none }) (v := ?_) rfl (by kernel_rfl) (by kernel_rfl) (by kernel_rfl) (fun _ _ _ h => h) (Or.inl ⟨by rfl, ?_⟩) (by assumption) ?_
    rotate_left
    · (intro wq hSw; (try dsimp only at hSw); go_simp; first | done | with_reducible rfl)
    try simp only [Act.put, List.setIfInBounds_toArray, List.set_cons_zero, List.set_cons_succ]
    refine wpAnyH_ready (rs := [11]) (by kernel_rfl) (by simp) ?_
    refine AllReadyH.cons (o := { dst := none, op := Op.store 33 (Operand.tmp 52) (Operand.tmp 50), type := 0, pos := "decree.go:238", after := #[{ on := 10, ground := Ground.data }, { on := 8, ground := Ground.data }, { on := 8, ground := Ground.chain }, { on := 0, ground := Ground.phase }, { on := 1, ground := Ground.phase }, { on := 2, ground := Ground.phase }, { on := 3, ground := Ground.phase }, { on := 4, ground := Ground.phase }, { on := 5, ground := Ground.phase }, { on := 6, ground := Ground.phase }, { on := 7, ground := Ground.phase }, { on := 8, ground := Ground.phase }], guard := none }) rfl (fun K hK => ?_) AllReadyH.nil
    go_simp
    refine hK.out _ _ ?_ (fun hHeld => ?_)
    · exact (fun o => (World.cell?_setCell_far _ ⟨P.pb, 3, none⟩ ⟨w.heap.size, o, none⟩ _ HMP.out).trans (kb o))
    clear hK K
    try simp only [Act.put, List.setIfInBounds_toArray, List.set_cons_zero, List.set_cons_succ]
    refine wpAnyH_done (by kernel_rfl) ?_ _
    clear hHeld ka kb
    have hn5b := (New.refl w5).drew.alloc (.cells #[.bool mh, .int .u64 (mhr : Int), .int .u64 (mhn : Int), .string mhv] 45)
    have hP6 := PrsAt.pm_ hP5a hu6 hr6
    have hS6 : Upd (fun k => P.qv.ownBlock = some k ∨ k = P.pb) (w5.drew.alloc (.cells #[.bool mh, .int .u64 (mhr : Int), .int .u64 (mhn : Int), .string mhv] 45)) (w6.setCell ⟨P.pb, 3, none⟩ (.slice A6 n6 cc6)) := (hu6.mono fun _ _ h => .inl h).setCell (fun _ => .inr rfl) _
    have hX6 := (HX5.out.new hn5b).setNw rfl HPW.out hP5a hS6 (fun k _ h => h.elim (fun h => .inr (.inr (.inr h))) (fun h => .inr (.inr (.inl h)))) (fun k hk => .inl hk) hP6 rfl
    have hU6 : Upd (L.Fn i) w1 (w6.setCell ⟨P.pb, 3, none⟩ (.slice A6 n6 cc6)) := (HU5.out.transNew hn5b).trans hS6 (fun k _ h => h.elim (HP5.out.f2 k) (fun e => by rw [e]; exact HP5.out.f1.1))
    have hs15 := HU5.out.size
    have hs56 := hu6.size
    have hG6 : Gro (L.Fn i) (fun k => L.Fn i k ∨ Value.ownBlock (.slice A6 n6 cc6) = some k) w1 (w6.setCell ⟨P.pb, 3, none⟩ (.slice A6 n6 cc6)) := fun k hk => hk.elim .inl (fun h => hb6.elim (fun e => .inl (HP5.out.f2 k (by rw [HQV.out]; rw [e] at h; exact h))) (fun e => .inr (by have hl := (hr6.lt k h).2; rw [e] at h; injection h with h; simp at h hs56; exact ⟨by omega, by simpa [World.setCell] using hl⟩)))
    have hg7 := HH1.out.setNd hi hU6 hX6 hG6 (Nat.le_refl _)
    have hgro7 := ndGro (gp := gp) (L := L) (l' := L.nl i) hi hG6
    have hupd7 : Upd (GpF gp n L) w1 (w6.setCell ⟨P.pb, 3, none⟩ (.slice A6 n6 cc6)) := hU6.mono fun k _ hk => .inr ⟨i, hi, hk⟩
    have HU6 := Lib.hid hU6
    have HG6 := Lib.hid hG6
    have HG7 := Lib.hid hg7
    have HGRO7 := Lib.hid hgro7
    have HUPD7 := Lib.hid hupd7
    have HP6 := Lib.hid hP6
    have HX6 := Lib.hid hX6
    clear hP6 hS6 hX6 hU6 hG6 hg7 hgro7 hupd7 hs15 hs56 hu6 hr6 hg6 hb6 hP5a hb6k y3 yz yl a a0 a1 a2 a3 a4 a5 a6 a7 a8 az q0 e0 e1 e2 e3 e4 e5 e6 e7 ez hn5b
    go_upto_region 5 with fail
    generalize (w6.setCell ⟨P.pb, 3, none⟩ (.slice A6 n6 cc6)) = w7 at *
    obtain ⟨q0, e0, e1, e2, e3, e4, e5, e6, e7, ez⟩ := Blk8F HP6.out.blk
    obtain ⟨gA, gc, hnv⟩ := HG7.out.nvs
    obtain ⟨g0, f0, f1, fz⟩ := HG7.out.facts
    rw [hnv] at f0
    have hlen := fun ty => mpLenI (MpAt.new HP6.out.fm (New.refl w7).drew) Try.underlying102 ty
    simp only [List.length_append, List.length_singleton] at hlen
    have HQC := Lib.hid (quor_call n (by omega))
    clear hnv
    have hqi : ((quor n : Nat) : Int) ≤ (p.fr.length : Int) + 1 := by omega
    refine wp_region_held_drew (S := fun w' => w' = w7.drew) (by kernel_rfl) (rfl) (fun hHeld => ?_)
    refine wpAnyH_take (i := 0) (oi := { dst := some 53, op := Op.move (Operand.tmp 8), type := 98, pos := "decree.go:239", after := #[], guard := none }) (v := ?_) rfl (by kernel_rfl) (by kernel_rfl) (by kernel_rfl) (fun _ _ _ h => h) (Or.inl ⟨by rfl, ?_⟩) (by assumption) ?_
    rotate_left
    · (intro wq hSw; (try dsimp only at hSw); go_simp; first | done | with_reducible rfl)
    try simp only [Act.put, List.setIfInBounds_toArray, List.set_cons_zero, List.set_cons_succ]
    refine wpAnyH_take (i := 1) (oi := { dst := some 54, op := Op.nilCheck (Operand.tmp 53), type := 0, pos := "decree.go:239", after := #[{ on := 0, ground := Ground.data }], guard := none }) (v := ?_) rfl (by kernel_rfl) (by kernel_rfl) (by kernel_rfl) (fun _ _ _ h => h) (Or.inl ⟨by rfl, ?_⟩) (by assumption) ?_
    rotate_left
    · (intro wq hSw; (try dsimp only at hSw); go_simp; first | done | with_reducible rfl)
    try simp only [Act.put, List.setIfInBounds_toArray, List.set_cons_zero, List.set_cons_succ]
    refine wpAnyH_take (i := 2) (oi := { dst := some 55, op := Op.fieldAddr 104 (Operand.tmp 54) 3, type := 0, pos := "decree.go:239", after := #[{ on := 1, ground := Ground.data }], guard := none }) (v := ?_) rfl (by kernel_rfl) (by kernel_rfl) (by kernel_rfl) (fun _ _ _ h => h) (Or.inl ⟨by rfl, ?_⟩) (by assumption) ?_
    rotate_left
    · (intro wq hSw; (try dsimp only at hSw); go_simp; first | done | with_reducible rfl)
    try simp only [Act.put, List.setIfInBounds_toArray, List.set_cons_zero, List.set_cons_succ]
    refine wpAnyH_take (i := 3) (oi := { dst := some 56, op := Op.load 102 (Operand.tmp 55), type := 102, pos := "decree.go:239", after := #[{ on := 2, ground := Ground.data }], guard := none }) (v := ?_) rfl (by kernel_rfl) (by kernel_rfl) (by kernel_rfl) (fun _ _ _ h => h) (Or.inl ⟨by rfl, ?_⟩) (by assumption) ?_
    rotate_left
    · (intro wq hSw; (try dsimp only at hSw); go_simp; first | done | with_reducible rfl)
    try simp only [Act.put, List.setIfInBounds_toArray, List.set_cons_zero, List.set_cons_succ]
    refine wpAnyH_take (i := 4) (oi := { dst := some 57, op := Op.call { callee := Callee.builtin Builtin.len, args := #[Operand.tmp 56], argTypes := #[102] }, type := 3, pos := "decree.go:239", after := #[{ on := 3, ground := Ground.data }], guard := none }) (v := ?_) rfl (by kernel_rfl) (by kernel_rfl) (by kernel_rfl) (fun _ _ _ h => h) (Or.inl ⟨by rfl, ?_⟩) (by assumption) ?_
    rotate_left
    · (intro wq hSw; (try dsimp only at hSw); go_simp; first | done | with_reducible rfl)
    try simp only [Act.put, List.setIfInBounds_toArray, List.set_cons_zero, List.set_cons_succ]
    refine wpAnyH_take (i := 5) (oi := { dst := some 58, op := Op.move (Operand.tmp 0), type := 53, pos := "decree.go:239", after := #[], guard := none }) (v := ?_) rfl (by kernel_rfl) (by kernel_rfl) (by kernel_rfl) (fun _ _ _ h => h) (Or.inl ⟨by rfl, ?_⟩) (by assumption) ?_
    rotate_left
    · (intro wq hSw; (try dsimp only at hSw); go_simp; first | done | with_reducible rfl)
    try simp only [Act.put, List.setIfInBounds_toArray, List.set_cons_zero, List.set_cons_succ]
    refine wpAnyH_take (i := 6) (oi := { dst := some 59, op := Op.nilCheck (Operand.tmp 58), type := 0, pos := "decree.go:239", after := #[{ on := 5, ground := Ground.data }], guard := none }) (v := ?_) rfl (by kernel_rfl) (by kernel_rfl) (by kernel_rfl) (fun _ _ _ h => h) (Or.inl ⟨by rfl, ?_⟩) (by assumption) ?_
    rotate_left
    · (intro wq hSw; (try dsimp only at hSw); go_simp; first | done | with_reducible rfl)
    try simp only [Act.put, List.setIfInBounds_toArray, List.set_cons_zero, List.set_cons_succ]
    refine wpAnyH_take (i := 7) (oi := { dst := some 60, op := Op.fieldAddr 94 (Operand.tmp 59) 0, type := 0, pos := "decree.go:239", after := #[{ on := 6, ground := Ground.data }], guard := none }) (v := ?_) rfl (by kernel_rfl) (by kernel_rfl) (by kernel_rfl) (fun _ _ _ h => h) (Or.inl ⟨by rfl, ?_⟩) (by assumption) ?_
    rotate_left
    · (intro wq hSw; (try dsimp only at hSw); go_simp; first | done | with_reducible rfl)
    try simp only [Act.put, List.setIfInBounds_toArray, List.set_cons_zero, List.set_cons_succ]
    refine wpAnyH_take (i := 8) (oi := { dst := some 61, op := Op.load 92 (Operand.tmp 60), type := 92, pos := "decree.go:239", after := #[{ on := 7, ground := Ground.data }], guard := none }) (v := ?_) rfl (by kernel_rfl) (by kernel_rfl) (by kernel_rfl) (fun _ _ _ h => h) (Or.inl ⟨by rfl, ?_⟩) (by assumption) ?_
    rotate_left
    · (intro wq hSw; (try dsimp only at hSw); go_simp; first | done | with_reducible rfl)
    try simp only [Act.put, List.setIfInBounds_toArray, List.set_cons_zero, List.set_cons_succ]
    refine wpAnyH_take (i := 9) (oi := { dst := some 62, op := Op.call { callee := Callee.builtin Builtin.len, args := #[Operand.tmp 61], argTypes := #[92] }, type := 3, pos := "decree.go:239", after := #[{ on := 8, ground := Ground.data }], guard := none }) (v := ?_) rfl (by kernel_rfl) (by kernel_rfl) (by kernel_rfl) (fun _ _ _ h => h) (Or.inl ⟨by rfl, ?_⟩) (by assumption) ?_
    rotate_left
    · (intro wq hSw; (try dsimp only at hSw); go_simp; first | done | with_reducible rfl)
    try simp only [Act.put, List.setIfInBounds_toArray, List.set_cons_zero, List.set_cons_succ]
    refine wpAnyH_ready (rs := [10]) (by kernel_rfl) (by simp) ?_
    refine AllReadyH.cons (o := { dst := some 63, op := Op.call { callee := Callee.value (Operand.func 15), args := #[Operand.tmp 62], argTypes := #[3] }, type := 3, pos := "decree.go:239", after := #[{ on := 9, ground := Ground.data }, { on := 4, ground := Ground.chain }], guard := none }) rfl (fun K hK => ?_) AllReadyH.nil
    go_simp
    refine (HQC.out _).mono ?_
    rintro e wq ⟨rfl, hwq⟩
    subst wq
    refine hK.out _ _ ?_ (fun hHeld => ?_)
    · exact rfl
    clear hK K
    try simp only [Act.put, List.setIfInBounds_toArray, List.set_cons_zero, List.set_cons_succ]
    refine wpAnyH_take (i := 11) (oi := { dst := some 64, op := Op.binOp BinOp.geq 3 (Operand.tmp 57) (Operand.tmp 63) 3, type := 4, pos := "decree.go:239", after := #[{ on := 4, ground := Ground.data }, { on := 10, ground := Ground.data }], guard := none }) (v := .bool true) rfl (by kernel_rfl) (by kernel_rfl) (by kernel_rfl) (fun _ _ _ h => h) (Or.inl ⟨by rfl, ?_⟩) (by assumption) ?_
    · (intro wq hSw; (try dsimp only at hSw); go_simp; first | done | with_reducible rfl | (simp; omega))
    try simp only [Act.put, List.setIfInBounds_toArray, List.set_cons_zero, List.set_cons_succ]
    refine wpAnyH_done (by kernel_rfl) ?_ _
    clear hHeld hlen
    have hg8 := HG7.out.new (New.refl w7).drew
    have hX8 := HX6.out.new (New.refl w7).drew
    have hP8 := PrsAt.new HP6.out (New.refl w7).drew
    have HU8 := Lib.hid (HU6.out.drew)
    have HG8 : Hid (Gro (L.Fn i) (fun k => L.Fn i k ∨ Value.ownBlock (.slice A6 n6 cc6) = some k) w1 w7.drew) := Lib.hid HG6.out
    have HX8 := Lib.hid hX8
    have HP8 := Lib.hid hP8
    clear hg8 hX8 hP8 HG7 HX6 HP6 HU6 HG6 HGRO7 HUPD7 q0 e0 e1 e2 e3 e4 e5 e6 e7 ez g0 f0 f1 fz hqi
    go_upto_region 6 with fail
    generalize w7.drew = w8 at *
    obtain ⟨hd, tl, rg, roff, rc, hpe, hpv⟩ := (pe_form HX8.out.pe).resolve_left (fun h => HPNE.out h.1)
    dsimp only at hpe hpv
    have HPE := Lib.hid hpe
    have HPV := Lib.hid hpv
    have b0 := HX8.out.blk.cell 4
    dsimp only at b0
    rw [hpv] at b0
    have hpe8 := HX8.out.pe
    dsimp only at hpe8
    rw [hpv, hpe] at hpe8
    have b1 := row_head hpe8
    have b2 := row_lt hpe8
    obtain ⟨p0, p1, p2, p3, p4, p5, p6, p7, pz, pzz⟩ := Blk8F HP8.out.blk
    have hV9 : (Pro.best hd (p.pm ++ [(⟨mh, (mhr : Int), (mhn : Int), mhv⟩ : Pro)])).v = V := by have := HV.out; rw [hpe] at this; exact this
    have hch := choose_any hd (p.pm ++ [(⟨mh, (mhr : Int), (mhn : Int), mhv⟩ : Pro)]) _ w8.drew (by simp; omega) (Row.slIn promOkD (Row.new HP8.out.row (New.refl w8).drew))
    rw [hV9] at hch
    have HCH := Lib.hid hch
    have hbl := HX8.out.blk.lt
    clear hch hV9 hpe hpv hpe8 p0 p1 p2 p3 p5 p6 p7 pz
    refine wp_region_held_drew (S := fun w' => w'.cell? ⟨L.nb i, 4, none⟩ = some (.slice (some ⟨rg, roff, none⟩) (tl.length + 1) (rc + 1)) ∧ w'.cell? ⟨rg, roff, none⟩ = some (.string hd) ∧ w'.cell? ⟨P.pb, 3, none⟩ = some (.slice A6 n6 cc6)) (by kernel_rfl) (⟨b0, b1, p4⟩) (fun hHeld => ?_)
    refine wpAnyH_take (i := 0) (oi := { dst := some 65, op := Op.move (Operand.tmp 8), type := 98, pos := "decree.go:240", after := #[], guard := none }) (v := ?_) rfl (by kernel_rfl) (by kernel_rfl) (by kernel_rfl) (fun _ _ _ h => h) (Or.inl ⟨by rfl, ?_⟩) (by assumption) ?_
    rotate_left
    · (intro wq hSw; (try dsimp only at hSw); go_simp; first | done | with_reducible rfl)
    try simp only [Act.put, List.setIfInBounds_toArray, List.set_cons_zero, List.set_cons_succ]
    refine wpAnyH_take (i := 1) (oi := { dst := some 66, op := Op.move (Operand.tmp 8), type := 98, pos := "decree.go:240", after := #[{ on := 15, ground := Ground.gcOnly Departure.lateStores }], guard := none }) (v := ?_) rfl (by kernel_rfl) (by kernel_rfl) (by kernel_rfl) (fun _ _ _ h => h) (Or.inl ⟨by rfl, ?_⟩) (by assumption) ?_
    rotate_left
    · (intro wq hSw; (try dsimp only at hSw); go_simp; first | done | with_reducible rfl)
    try simp only [Act.put, List.setIfInBounds_toArray, List.set_cons_zero, List.set_cons_succ]
    refine wpAnyH_take (i := 2) (oi := { dst := some 67, op := Op.move (Operand.tmp 1), type := 95, pos := "decree.go:240", after := #[], guard := none }) (v := ?_) rfl (by kernel_rfl) (by kernel_rfl) (by kernel_rfl) (fun _ _ _ h => h) (Or.inl ⟨by rfl, ?_⟩) (by assumption) ?_
    rotate_left
    · (intro wq hSw; (try dsimp only at hSw); go_simp; first | done | with_reducible rfl)
    try simp only [Act.put, List.setIfInBounds_toArray, List.set_cons_zero, List.set_cons_succ]
    refine wpAnyH_take (i := 3) (oi := { dst := some 68, op := Op.nilCheck (Operand.tmp 67), type := 0, pos := "decree.go:240", after := #[{ on := 2, ground := Ground.data }], guard := none }) (v := ?_) rfl (by kernel_rfl) (by kernel_rfl) (by kernel_rfl) (fun _ _ _ h => h) (Or.inl ⟨by rfl, ?_⟩) (by assumption) ?_
    rotate_left
    · (intro wq hSw; (try dsimp only at hSw); go_simp; first | done | with_reducible rfl)
    try simp only [Act.put, List.setIfInBounds_toArray, List.set_cons_zero, List.set_cons_succ]
    refine wpAnyH_take (i := 4) (oi := { dst := some 69, op := Op.fieldAddr 100 (Operand.tmp 68) 4, type := 0, pos := "decree.go:240", after := #[{ on := 3, ground := Ground.data }], guard := none }) (v := ?_) rfl (by kernel_rfl) (by kernel_rfl) (by kernel_rfl) (fun _ _ _ h => h) (Or.inl ⟨by rfl, ?_⟩) (by assumption) ?_
    rotate_left
    · (intro wq hSw; (try dsimp only at hSw); go_simp; first | done | with_reducible rfl)
    try simp only [Act.put, List.setIfInBounds_toArray, List.set_cons_zero, List.set_cons_succ]
    refine wpAnyH_take (i := 5) (oi := { dst := some 70, op := Op.load 22 (Operand.tmp 69), type := 22, pos := "decree.go:240", after := #[{ on := 4, ground := Ground.data }], guard := none }) (v := ?_) rfl (by kernel_rfl) (by kernel_rfl) (by kernel_rfl) (fun _ _ _ h => h) (Or.inl ⟨by rfl, ?_⟩) (by assumption) ?_
    rotate_left
    · (intro wq hSw; (try dsimp only at hSw); go_simp; first | done | with_reducible rfl)
    try simp only [Act.put, List.setIfInBounds_toArray, List.set_cons_zero, List.set_cons_succ]
    refine wpAnyH_take (i := 6) (oi := { dst := some 71, op := Op.indexAddr 22 (Operand.tmp 70) (Operand.const (Value.int IntKind.i64 0)), type := 0, pos := "decree.go:240", after := #[{ on := 5, ground := Ground.data }], guard := none }) (v := ?_) rfl (by kernel_rfl) (by kernel_rfl) (by kernel_rfl) (fun _ _ _ h => h) (Or.inl ⟨by rfl, ?_⟩) (by assumption) ?_
    rotate_left
    · (intro wq hSw; (try dsimp only at hSw); go_simp; first | done | with_reducible rfl)
    try simp only [Act.put, List.setIfInBounds_toArray, List.set_cons_zero, List.set_cons_succ]
    refine wpAnyH_take (i := 7) (oi := { dst := some 72, op := Op.load 9 (Operand.tmp 71), type := 9, pos := "decree.go:240", after := #[{ on := 6, ground := Ground.data }], guard := none }) (v := ?_) rfl (by kernel_rfl) (by kernel_rfl) (by kernel_rfl) (fun _ _ _ h => h) (Or.inl ⟨by rfl, ?_⟩) (by assumption) ?_
    rotate_left
    · (intro wq hSw; (try dsimp only at hSw); go_simp; first | done | with_reducible rfl)
    try simp only [Act.put, List.setIfInBounds_toArray, List.set_cons_zero, List.set_cons_succ]
    refine wpAnyH_take (i := 8) (oi := { dst := some 73, op := Op.move (Operand.tmp 8), type := 98, pos := "decree.go:240", after := #[], guard := none }) (v := ?_) rfl (by kernel_rfl) (by kernel_rfl) (by kernel_rfl) (fun _ _ _ h => h) (Or.inl ⟨by rfl, ?_⟩) (by assumption) ?_
    rotate_left
    · (intro wq hSw; (try dsimp only at hSw); go_simp; first | done | with_reducible rfl)
    try simp only [Act.put, List.setIfInBounds_toArray, List.set_cons_zero, List.set_cons_succ]
    refine wpAnyH_take (i := 9) (oi := { dst := some 74, op := Op.nilCheck (Operand.tmp 73), type := 0, pos := "decree.go:240", after := #[{ on := 8, ground := Ground.data }], guard := none }) (v := ?_) rfl (by kernel_rfl) (by kernel_rfl) (by kernel_rfl) (fun _ _ _ h => h) (Or.inl ⟨by rfl, ?_⟩) (by assumption) ?_
    rotate_left
    · (intro wq hSw; (try dsimp only at hSw); go_simp; first | done | with_reducible rfl)
    try simp only [Act.put, List.setIfInBounds_toArray, List.set_cons_zero, List.set_cons_succ]
    refine wpAnyH_take (i := 10) (oi := { dst := some 75, op := Op.fieldAddr 104 (Operand.tmp 74) 2, type := 0, pos := "decree.go:240", after := #[{ on := 9, ground := Ground.data }], guard := none }) (v := ?_) rfl (by kernel_rfl) (by kernel_rfl) (by kernel_rfl) (fun _ _ _ h => h) (Or.inl ⟨by rfl, ?_⟩) (by assumption) ?_
    rotate_left
    · (intro wq hSw; (try dsimp only at hSw); go_simp; first | done | with_reducible rfl)
    try simp only [Act.put, List.setIfInBounds_toArray, List.set_cons_zero, List.set_cons_succ]
    refine wpAnyH_take (i := 11) (oi := { dst := some 76, op := Op.load 33 (Operand.tmp 75), type := 33, pos := "decree.go:240", after := #[{ on := 10, ground := Ground.data }], guard := none }) (v := ?_) rfl (by kernel_rfl) (by kernel_rfl) (by kernel_rfl) (fun _ _ _ h => h) (Or.inl ⟨by rfl, ?_⟩) (by assumption) ?_
    rotate_left
    · (intro wq hSw; (try dsimp only at hSw); go_simp; first | done | with_reducible rfl)
    try simp only [Act.put, List.setIfInBounds_toArray, List.set_cons_zero, List.set_cons_succ]
    refine wpAnyH_ready (rs := [12]) (by kernel_rfl) (by simp) ?_
    refine AllReadyH.cons (o := { dst := some 77, op := Op.call { callee := Callee.value (Operand.func 16), args := #[Operand.tmp 72, Operand.tmp 76], argTypes := #[9, 33] }, type := 9, pos := "decree.go:240", after := #[{ on := 7, ground := Ground.data }, { on := 11, ground := Ground.data }], guard := none }) rfl (fun K hK => ?_) AllReadyH.nil
    go_simp
    refine (HCH.out.mono ?_)
    rintro e w9 ⟨rfl, hn9⟩
    have hn8 := (New.refl w8).drew.trans hn9
    have hX9 := HX8.out.new hn8
    have hP9 := PrsAt.new HP8.out hn8
    obtain ⟨x0, y0, y1, y2, y3, y4, y5, y6, y7, yz⟩ := Blk8F hP9.blk
    have kc4 := hX9.blk.cell 4
    rw [HPV.out] at kc4
    have hpe9 := hX9.pe
    dsimp only at hpe9
    rw [HPV.out, HPE.out] at hpe9
    have kch := row_head hpe9
    have krg : rg ≠ P.pb := fun e => hpe9.ne_blk hP9.blk (by decide) (by rw [← e]; rfl)
    have knb : L.nb i ≠ P.pb := fun e => Blk.ne_ hX9.blk hP9.blk (by decide) e
    refine hK.out _ _ ?_ (fun hHeld => ?_)
    · exact ⟨kc4, kch, y3⟩
    clear hK K
    try simp only [Act.put, List.setIfInBounds_toArray, List.set_cons_zero, List.set_cons_succ]
    refine wpAnyH_take (i := 13) (oi := { dst := some 78, op := Op.nilCheck (Operand.tmp 65), type := 0, pos := "decree.go:240", after := #[{ on := 0, ground := Ground.data }, { on := 0, ground := Ground.phase }, { on := 1, ground := Ground.textOnly Departure.lateStores }, { on := 2, ground := Ground.phase }, { on := 3, ground := Ground.phase }, { on := 4, ground := Ground.phase }, { on := 5, ground := Ground.phase }, { on := 6, ground := Ground.phase }, { on := 7, ground := Ground.phase }, { on := 8, ground := Ground.phase }, { on := 9, ground := Ground.phase }, { on := 10, ground := Ground.phase }, { on := 11, ground := Ground.phase }, { on := 12, ground := Ground.phase }], guard := none }) (v := ?_) rfl (by kernel_rfl) (by kernel_rfl) (by kernel_rfl) (fun _ _ _ h => h) (Or.inl ⟨by rfl, ?_⟩) (by assumption) ?_
    rotate_left
    · (intro wq hSw; (try dsimp only at hSw); go_simp; first | done | with_reducible rfl)
    try simp only [Act.put, List.setIfInBounds_toArray, List.set_cons_zero, List.set_cons_succ]
    refine wpAnyH_take (i := 14) (oi := { dst := some 79, op := Op.fieldAddr 104 (Operand.tmp 78) 5, type := 0, pos := "decree.go:240", after := #[{ on := 13, ground := Ground.data }, { on := 0, ground := Ground.phase }, { on := 1, ground := Ground.textOnly Departure.lateStores }, { on := 2, ground := Ground.phase }, { on := 3, ground := Ground.phase }, { on := 4, ground := Ground.phase }, { on := 5, ground := Ground.phase }, { on := 6, ground := Ground.phase }, { on := 7, ground := Ground.phase }, { on := 8, ground := Ground.phase }, { on := 9, ground := Ground.phase }, { on := 10, ground := Ground.phase }, { on := 11, ground := Ground.phase }, { on := 12, ground := Ground.phase }], guard := none }) (v := ?_) rfl (by kernel_rfl) (by kernel_rfl) (by kernel_rfl) (fun _ _ _ h => h) (Or.inl ⟨by rfl, ?_⟩) (by assumption) ?_
    rotate_left
    · (intro wq hSw; (try dsimp only at hSw); go_simp; first | done | with_reducible rfl)
    try simp only [Act.put, List.setIfInBounds_toArray, List.set_cons_zero, List.set_cons_succ]
    refine wpAnyH_ready (rs := [15]) (by kernel_rfl) (by simp) ?_
    refine AllReadyH.cons (o := { dst := none, op := Op.store 9 (Operand.tmp 79) (Operand.tmp 77), type := 0, pos := "decree.go:240", after := #[{ on := 14, ground := Ground.data }, { on := 12, ground := Ground.data }, { on := 12, ground := Ground.chain }, { on := 0, ground := Ground.phase }, { on := 1, ground := Ground.textOnly Departure.lateStores }, { on := 2, ground := Ground.phase }, { on := 3, ground := Ground.phase }, { on := 4, ground := Ground.phase }, { on := 5, ground := Ground.phase }, { on := 6, ground := Ground.phase }, { on := 7, ground := Ground.phase }, { on := 8, ground := Ground.phase }, { on := 9, ground := Ground.phase }, { on := 10, ground := Ground.phase }, { on := 11, ground := Ground.phase }, { on := 12, ground := Ground.phase }], guard := none }) rfl (fun K hK => ?_) AllReadyH.nil
    go_simp
    refine hK.out _ _ ?_ (fun hHeld => ?_)
    · exact ⟨((World.cell?_setCell_far _ ⟨P.pb, 6, none⟩ _ _ (fun e => knb e.symm)).trans kc4), ((World.cell?_setCell_far _ ⟨P.pb, 6, none⟩ _ _ (fun e => krg e.symm)).trans kch), Blk.cell (Blk.set_ hP9.blk 6 _) 3⟩
    clear hK K
    try simp only [Act.put, List.setIfInBounds_toArray, List.set_cons_zero, List.set_cons_succ]
    refine wpAnyH_take (i := 16) (oi := { dst := some 80, op := Op.nilCheck (Operand.tmp 66), type := 0, pos := "decree.go:240", after := #[{ on := 1, ground := Ground.data }, { on := 0, ground := Ground.phase }, { on := 1, ground := Ground.phase }, { on := 2, ground := Ground.phase }, { on := 3, ground := Ground.phase }, { on := 4, ground := Ground.phase }, { on := 5, ground := Ground.phase }, { on := 6, ground := Ground.phase }, { on := 7, ground := Ground.phase }, { on := 8, ground := Ground.phase }, { on := 9, ground := Ground.phase }, { on := 10, ground := Ground.phase }, { on := 11, ground := Ground.phase }, { on := 12, ground := Ground.phase }, { on := 13, ground := Ground.phase }, { on := 14, ground := Ground.phase }, { on := 15, ground := Ground.phase }], guard := none }) (v := ?_) rfl (by kernel_rfl) (by kernel_rfl) (by kernel_rfl) (fun _ _ _ h => h) (Or.inl ⟨by rfl, ?_⟩) (by assumption) ?_
    rotate_left
    · (intro wq hSw; (try dsimp only at hSw); go_simp; first | done | with_reducible rfl)
    try simp only [Act.put, List.setIfInBounds_toArray, List.set_cons_zero, List.set_cons_succ]
    refine wpAnyH_take (i := 17) (oi := { dst := some 81, op := Op.fieldAddr 104 (Operand.tmp 80) 6, type := 0, pos := "decree.go:240", after := #[{ on := 16, ground := Ground.data }, { on := 0, ground := Ground.phase }, { on := 1, ground := Ground.phase }, { on := 2, ground := Ground.phase }, { on := 3, ground := Ground.phase }, { on := 4, ground := Ground.phase }, { on := 5, ground := Ground.phase }, { on := 6, ground := Ground.phase }, { on := 7, ground := Ground.phase }, { on := 8, ground := Ground.phase }, { on := 9, ground := Ground.phase }, { on := 10, ground := Ground.phase }, { on := 11, ground := Ground.phase }, { on := 12, ground := Ground.phase }, { on := 13, ground := Ground.phase }, { on := 14, ground := Ground.phase }, { on := 15, ground := Ground.phase }], guard := none }) (v := ?_) rfl (by kernel_rfl) (by kernel_rfl) (by kernel_rfl) (fun _ _ _ h => h) (Or.inl ⟨by rfl, ?_⟩) (by assumption) ?_
    rotate_left
    · (intro wq hSw; (try dsimp only at hSw); go_simp; first | done | with_reducible rfl)
    try simp only [Act.put, List.setIfInBounds_toArray, List.set_cons_zero, List.set_cons_succ]
    refine wpAnyH_ready (rs := [18]) (by kernel_rfl) (by simp) ?_
    refine AllReadyH.cons (o := { dst := none, op := Op.store 4 (Operand.tmp 81) (Operand.const (Value.bool true)), type := 0, pos := "decree.go:240", after := #[{ on := 17, ground := Ground.data }, { on := 15, ground := Ground.chain }, { on := 0, ground := Ground.phase }, { on := 1, ground := Ground.phase }, { on := 2, ground := Ground.phase }, { on := 3, ground := Ground.phase }, { on := 4, ground := Ground.phase }, { on := 5, ground := Ground.phase }, { on := 6, ground := Ground.phase }, { on := 7, ground := Ground.phase }, { on := 8, ground := Ground.phase }, { on := 9, ground := Ground.phase }, { on := 10, ground := Ground.phase }, { on := 11, ground := Ground.phase }, { on := 12, ground := Ground.phase }, { on := 13, ground := Ground.phase }, { on := 14, ground := Ground.phase }, { on := 15, ground := Ground.phase }], guard := none }) rfl (fun K hK => ?_) AllReadyH.nil
    go_simp
    refine hK.out _ _ ?_ (fun hHeld => ?_)
    · exact ⟨((World.cell?_setCell_far _ ⟨P.pb, 7, none⟩ _ _ (fun e => knb e.symm)).trans ((World.cell?_setCell_far _ ⟨P.pb, 6, none⟩ _ _ (fun e => knb e.symm)).trans kc4)), ((World.cell?_setCell_far _ ⟨P.pb, 7, none⟩ _ _ (fun e => krg e.symm)).trans ((World.cell?_setCell_far _ ⟨P.pb, 6, none⟩ _ _ (fun e => krg e.symm)).trans kch)), Blk.cell (Blk.set_ (Blk.set_ hP9.blk 6 _) 7 _) 3⟩
    clear hK K
    try simp only [Act.put, List.setIfInBounds_toArray, List.set_cons_zero, List.set_cons_succ]
    refine wpAnyH_done (by kernel_rfl) ?_ _
    clear hHeld
    have hP10 := PrsAt.val_ hP9 V
    have hu10 : Upd (· = P.pb) w9 ((w9.setCell ⟨P.pb, 6, none⟩ (.string V)).setCell ⟨P.pb, 7, none⟩ (.bool true)) := ((Upd.refl _ w9).setIn 6 _).setIn 7 _
    have hX10 := hX9.setNw (P := { P with qv := .slice A6 n6 cc6 }) rfl HPW.out hP9 hu10 (fun k _ e => .inr (.inr (.inl e))) (fun _ h => h) hP10 rfl
    have hU10 : Upd (L.Fn i) w1 ((w9.setCell ⟨P.pb, 6, none⟩ (.string V)).setCell ⟨P.pb, 7, none⟩ (.bool true)) := ((HU8.out.transNew hn8).setCell (fun _ => HP5.out.f1.1) _).setCell (fun _ => HP5.out.f1.1) _
    have hs10 : ((w9.setCell ⟨P.pb, 6, none⟩ (.string V)).setCell ⟨P.pb, 7, none⟩ (.bool true)).heap.size = w9.heap.size := by simp [World.setCell]
    have hs9 := hn8.size
    have hG10 : Gro (L.Fn i) (fun k => L.Fn i k ∨ Value.ownBlock (.slice A6 n6 cc6) = some k) w1 ((w9.setCell ⟨P.pb, 6, none⟩ (.string V)).setCell ⟨P.pb, 7, none⟩ (.bool true)) := fun k hk => (HG8.out k hk).elim .inl (fun h => .inr ⟨h.1, by omega⟩)
    have hg10 := HH1.out.setNd hi hU10 hX10 hG10 (Nat.le_refl _)
    have hgro10 := ndGro (gp := gp) (L := L) (l' := L.nl i) hi hG10
    have hupd10 : Upd (GpF gp n L) w1 ((w9.setCell ⟨P.pb, 6, none⟩ (.string V)).setCell ⟨P.pb, 7, none⟩ (.bool true)) := hU10.mono fun k _ hk => .inr ⟨i, hi, hk⟩
    have HP10 := Lib.hid hP10
    have HX10 := Lib.hid hX10
    have HGR10 := Lib.hid (And.intro hgro10 hupd10)
    have HG10 := Lib.hid hg10
    clear hP10 hu10 hX10 hU10 hG10 hg10 hgro10 hupd10 hs10 hs9 hX9 hP9 x0 y0 y1 y2 y3 y4 y5 y6 y7 yz kc4 hpe9 kch krg knb b0 b1 b2 p4
    go_upto_region 7 with fail
    generalize ((w9.setCell ⟨P.pb, 6, none⟩ (.string V)).setCell ⟨P.pb, 7, none⟩ (.bool true)) = w10 at *
    obtain ⟨x0, y0, y1, y2, y3, y4, y5, y6, y7, yz⟩ := Blk8F HP10.out.blk
    obtain ⟨d, d0, d1, d2, d3, d4, d5, dz⟩ := Blk6F HX10.out.blk
    clear d1 d2 d3 d4 d5 y3 y4 y5 y7
    have HNB := Lib.hid (HG10.out.nb_lt hi)
    have HPB : Hid (P.pb < w10.heap.size ∧ ¬ BgF L.bb L.lv P.pb) := Lib.hid ⟨x0, fun e => HH1.out.out i hi P.pb HP5.out.f1.1 (.inr (.inr e))⟩
    have HAL := Lib.hid (gall_any (HG10.out.new (New.refl w10).drew) i (mProp p.s p.r p.n V) (mProp_good HPC.out.1 HPC.out.2.1 HPC.out.2.2 HVS.out) (L.nb i) (by omega))
    refine wp_region_held_drew (S := fun w' => (∀ o, w'.cell? ⟨L.nb i, o, none⟩ = w10.cell? ⟨L.nb i, o, none⟩) ∧ (∀ o, w'.cell? ⟨P.pb, o, none⟩ = w10.cell? ⟨P.pb, o, none⟩)) (by kernel_rfl) (⟨fun _ => rfl, fun _ => rfl⟩) (fun hHeld => ?_)
    refine wpAnyH_take (i := 0) (oi := { dst := some 82, op := Op.move (Operand.tmp 0), type := 53, pos := "decree.go:241", after := #[], guard := none }) (v := ?_) rfl (by kernel_rfl) (by kernel_rfl) (by kernel_rfl) (fun _ _ _ h => h) (Or.inl ⟨by rfl, ?_⟩) (by assumption) ?_
    rotate_left
    · (intro wq hSw; (try dsimp only at hSw); go_simp; first | done | with_reducible rfl)
    try simp only [Act.put, List.setIfInBounds_toArray, List.set_cons_zero, List.set_cons_succ]
    refine wpAnyH_take (i := 1) (oi := { dst := some 83, op := Op.move (Operand.tmp 1), type := 95, pos := "decree.go:241", after := #[], guard := none }) (v := ?_) rfl (by kernel_rfl) (by kernel_rfl) (by kernel_rfl) (fun _ _ _ h => h) (Or.inl ⟨by rfl, ?_⟩) (by assumption) ?_
    rotate_left
    · (intro wq hSw; (try dsimp only at hSw); go_simp; first | done | with_reducible rfl)
    try simp only [Act.put, List.setIfInBounds_toArray, List.set_cons_zero, List.set_cons_succ]
    refine wpAnyH_take (i := 2) (oi := { dst := some 84, op := Op.nilCheck (Operand.tmp 83), type := 0, pos := "decree.go:241", after := #[{ on := 1, ground := Ground.data }], guard := none }) (v := ?_) rfl (by kernel_rfl) (by kernel_rfl) (by kernel_rfl) (fun _ _ _ h => h) (Or.inl ⟨by rfl, ?_⟩) (by assumption) ?_
    rotate_left
    · (intro wq hSw; (try dsimp only at hSw); go_simp; first | done | with_reducible rfl)
    try simp only [Act.put, List.setIfInBounds_toArray, List.set_cons_zero, List.set_cons_succ]
    refine wpAnyH_take (i := 3) (oi := { dst := some 85, op := Op.fieldAddr 100 (Operand.tmp 84) 0, type := 0, pos := "decree.go:241", after := #[{ on := 2, ground := Ground.data }], guard := none }) (v := ?_) rfl (by kernel_rfl) (by kernel_rfl) (by kernel_rfl) (fun _ _ _ h => h) (Or.inl ⟨by rfl, ?_⟩) (by assumption) ?_
    rotate_left
    · (intro wq hSw; (try dsimp only at hSw); go_simp; first | done | with_reducible rfl)
    try simp only [Act.put, List.setIfInBounds_toArray, List.set_cons_zero, List.set_cons_succ]
    refine wpAnyH_take (i := 4) (oi := { dst := some 86, op := Op.load 3 (Operand.tmp 85), type := 3, pos := "decree.go:241", after := #[{ on := 3, ground := Ground.data }], guard := none }) (v := ?_) rfl (by kernel_rfl) (by kernel_rfl) (by kernel_rfl) (fun _ _ _ h => h) (Or.inl ⟨by rfl, ?_⟩) (by assumption) ?_
    rotate_left
    · (intro wq hSw; (try dsimp only at hSw); go_simp; first | done | with_reducible rfl)
    try simp only [Act.put, List.setIfInBounds_toArray, List.set_cons_zero, List.set_cons_succ]
    refine wpAnyH_take (i := 5) (oi := { dst := some 87, op := Op.move (Operand.tmp 8), type := 98, pos := "decree.go:241", after := #[], guard := none }) (v := ?_) rfl (by kernel_rfl) (by kernel_rfl) (by kernel_rfl) (fun _ _ _ h => h) (Or.inl ⟨by rfl, ?_⟩) (by assumption) ?_
    rotate_left
    · (intro wq hSw; (try dsimp only at hSw); go_simp; first | done | with_reducible rfl)
    try simp only [Act.put, List.setIfInBounds_toArray, List.set_cons_zero, List.set_cons_succ]
    refine wpAnyH_take (i := 6) (oi := { dst := some 88, op := Op.nilCheck (Operand.tmp 87), type := 0, pos := "decree.go:241", after := #[{ on := 5, ground := Ground.data }], guard := none }) (v := ?_) rfl (by kernel_rfl) (by kernel_rfl) (by kernel_rfl) (fun _ _ _ h => h) (Or.inl ⟨by rfl, ?_⟩) (by assumption) ?_
    rotate_left
    · (intro wq hSw; (try dsimp only at hSw); go_simp; first | done | with_reducible rfl)
    try simp only [Act.put, List.setIfInBounds_toArray, List.set_cons_zero, List.set_cons_succ]
    refine wpAnyH_take (i := 7) (oi := { dst := some 89, op := Op.fieldAddr 104 (Operand.tmp 88) 0, type := 0, pos := "decree.go:241", after := #[{ on := 6, ground := Ground.data }], guard := none }) (v := ?_) rfl (by kernel_rfl) (by kernel_rfl) (by kernel_rfl) (fun _ _ _ h => h) (Or.inl ⟨by rfl, ?_⟩) (by assumption) ?_
    rotate_left
    · (intro wq hSw; (try dsimp only at hSw); go_simp; first | done | with_reducible rfl)
    try simp only [Act.put, List.setIfInBounds_toArray, List.set_cons_zero, List.set_cons_succ]
    refine wpAnyH_take (i := 8) (oi := { dst := some 90, op := Op.load 29 (Operand.tmp 89), type := 29, pos := "decree.go:241", after := #[{ on := 7, ground := Ground.data }], guard := none }) (v := ?_) rfl (by kernel_rfl) (by kernel_rfl) (by kernel_rfl) (fun _ _ _ h => h) (Or.inl ⟨by rfl, ?_⟩) (by assumption) ?_
    rotate_left
    · (intro wq hSw; (try dsimp only at hSw); go_simp; first | done | with_reducible rfl)
    try simp only [Act.put, List.setIfInBounds_toArray, List.set_cons_zero, List.set_cons_succ]
    refine wpAnyH_take (i := 9) (oi := { dst := some 91, op := Op.move (Operand.tmp 8), type := 98, pos := "decree.go:241", after := #[], guard := none }) (v := ?_) rfl (by kernel_rfl) (by kernel_rfl) (by kernel_rfl) (fun _ _ _ h => h) (Or.inl ⟨by rfl, ?_⟩) (by assumption) ?_
    rotate_left
    · (intro wq hSw; (try dsimp only at hSw); go_simp; first | done | with_reducible rfl)
    try simp only [Act.put, List.setIfInBounds_toArray, List.set_cons_zero, List.set_cons_succ]
    refine wpAnyH_take (i := 10) (oi := { dst := some 92, op := Op.nilCheck (Operand.tmp 91), type := 0, pos := "decree.go:241", after := #[{ on := 9, ground := Ground.data }], guard := none }) (v := ?_) rfl (by kernel_rfl) (by kernel_rfl) (by kernel_rfl) (fun _ _ _ h => h) (Or.inl ⟨by rfl, ?_⟩) (by assumption) ?_
    rotate_left
    · (intro wq hSw; (try dsimp only at hSw); go_simp; first | done | with_reducible rfl)
    try simp only [Act.put, List.setIfInBounds_toArray, List.set_cons_zero, List.set_cons_succ]
    refine wpAnyH_take (i := 11) (oi := { dst := some 93, op := Op.fieldAddr 104 (Operand.tmp 92) 1, type := 0, pos := "decree.go:241", after := #[{ on := 10, ground := Ground.data }], guard := none }) (v := ?_) rfl (by kernel_rfl) (by kernel_rfl) (by kernel_rfl) (fun _ _ _ h => h) (Or.inl ⟨by rfl, ?_⟩) (by assumption) ?_
    rotate_left
    · (intro wq hSw; (try dsimp only at hSw); go_simp; first | done | with_reducible rfl)
    try simp only [Act.put, List.setIfInBounds_toArray, List.set_cons_zero, List.set_cons_succ]
    refine wpAnyH_take (i := 12) (oi := { dst := some 94, op := Op.load 31 (Operand.tmp 93), type := 31, pos := "decree.go:241", after := #[{ on := 11, ground := Ground.data }], guard := none }) (v := ?_) rfl (by kernel_rfl) (by kernel_rfl) (by kernel_rfl) (fun _ _ _ h => h) (Or.inl ⟨by rfl, ?_⟩) (by assumption) ?_
    rotate_left
    · (intro wq hSw; (try dsimp only at hSw); go_simp; first | done | with_reducible rfl)
    try simp only [Act.put, List.setIfInBounds_toArray, List.set_cons_zero, List.set_cons_succ]
    refine wpAnyH_take (i := 13) (oi := { dst := some 95, op := Op.move (Operand.tmp 8), type := 98, pos := "decree.go:241", after := #[], guard := none }) (v := ?_) rfl (by kernel_rfl) (by kernel_rfl) (by kernel_rfl) (fun _ _ _ h => h) (Or.inl ⟨by rfl, ?_⟩) (by assumption) ?_
    rotate_left
    · (intro wq hSw; (try dsimp only at hSw); go_simp; first | done | with_reducible rfl)
    try simp only [Act.put, List.setIfInBounds_toArray, List.set_cons_zero, List.set_cons_succ]
    refine wpAnyH_take (i := 14) (oi := { dst := some 96, op := Op.nilCheck (Operand.tmp 95), type := 0, pos := "decree.go:241", after := #[{ on := 13, ground := Ground.data }], guard := none }) (v := ?_) rfl (by kernel_rfl) (by kernel_rfl) (by kernel_rfl) (fun _ _ _ h => h) (Or.inl ⟨by rfl, ?_⟩) (by assumption) ?_
    rotate_left
    · (intro wq hSw; (try dsimp only at hSw); go_simp; first | done | with_reducible rfl)
    try simp only [Act.put, List.setIfInBounds_toArray, List.set_cons_zero, List.set_cons_succ]
    refine wpAnyH_take (i := 15) (oi := { dst := some 97, op := Op.fieldAddr 104 (Operand.tmp 96) 5, type := 0, pos := "decree.go:241", after := #[{ on := 14, ground := Ground.data }], guard := none }) (v := ?_) rfl (by kernel_rfl) (by kernel_rfl) (by kernel_rfl) (fun _ _ _ h => h) (Or.inl ⟨by rfl, ?_⟩) (by assumption) ?_
    rotate_left
    · (intro wq hSw; (try dsimp only at hSw); go_simp; first | done | with_reducible rfl)
    try simp only [Act.put, List.setIfInBounds_toArray, List.set_cons_zero, List.set_cons_succ]
    refine wpAnyH_take (i := 16) (oi := { dst := some 98, op := Op.load 9 (Operand.tmp 97), type := 9, pos := "decree.go:241", after := #[{ on := 15, ground := Ground.data }], guard := none }) (v := ?_) rfl (by kernel_rfl) (by kernel_rfl) (by kernel_rfl) (fun _ _ _ h => h) (Or.inl ⟨by rfl, ?_⟩) (by assumption) ?_
    rotate_left
    · (intro wq hSw; (try dsimp only at hSw); go_simp; first | done | with_reducible rfl)
    try simp only [Act.put, List.setIfInBounds_toArray, List.set_cons_zero, List.set_cons_succ]
    refine wpAnyH_take (i := 17) (oi := { dst := some 99, op := Op.build 107 #[(0, Operand.const (Value.int IntKind.i64 2)), (1, Operand.tmp 90), (2, Operand.tmp 94), (3, Operand.tmp 98)], type := 107, pos := "decree.go:241", after := #[{ on := 8, ground := Ground.data }, { on := 12, ground := Ground.data }, { on := 16, ground := Ground.data }], guard := none }) (v := ?_) rfl (by kernel_rfl) (by kernel_rfl) (by kernel_rfl) (fun _ _ _ h => h) (Or.inl ⟨by rfl, ?_⟩) (by assumption) ?_
    rotate_left
    · (intro wq hSw; (try dsimp only at hSw); go_simp; first | done | with_reducible rfl)
    try simp only [Act.put, List.setIfInBounds_toArray, List.set_cons_zero, List.set_cons_succ]
    refine wpAnyH_take (i := 18) (oi := { dst := some 100, op := Op.move (Operand.tmp 1), type := 95, pos := "decree.go:241", after := #[], guard := none }) (v := ?_) rfl (by kernel_rfl) (by kernel_rfl) (by kernel_rfl) (fun _ _ _ h => h) (Or.inl ⟨by rfl, ?_⟩) (by assumption) ?_
    rotate_left
    · (intro wq hSw; (try dsimp only at hSw); go_simp; first | done | with_reducible rfl)
    try simp only [Act.put, List.setIfInBounds_toArray, List.set_cons_zero, List.set_cons_succ]
    refine wpAnyH_take (i := 19) (oi := { dst := some 101, op := Op.makeFunc (Fn.func 49) #[Operand.tmp 100] #[], type := 108, pos := "decree.go:241", after := #[{ on := 18, ground := Ground.data }], guard := none }) (v := ?_) rfl (by kernel_rfl) (by kernel_rfl) (by kernel_rfl) (fun _ _ _ h => h) (Or.inl ⟨by rfl, ?_⟩) (by assumption) ?_
    rotate_left
    · (intro wq hSw; (try dsimp only at hSw); go_simp; first | done | with_reducible rfl)
    try simp only [Act.put, List.setIfInBounds_toArray, List.set_cons_zero, List.set_cons_succ]
    refine wpAnyH_ready (rs := [20]) (by kernel_rfl) (by simp) ?_
    refine AllReadyH.cons (o := { dst := some 102, op := Op.call { callee := Callee.value (Operand.func 48), args := #[Operand.tmp 82, Operand.tmp 86, Operand.tmp 99, Operand.tmp 101], argTypes := #[53, 3, 107, 108] }, type := 0, pos := "decree.go:241", after := #[{ on := 0, ground := Ground.data }, { on := 4, ground := Ground.data }, { on := 17, ground := Ground.data }, { on := 19, ground := Ground.data }], guard := none }) rfl (fun K hK => ?_) AllReadyH.nil
    go_simp
    refine HAL.out.mono ?_
    rintro e w11 ⟨rfl, v11, hg11, hu11, hv11⟩
    have ka := fun o => keepC hu11 (b := L.nb i) HNB.out.1 HNB.out.2 o
    have kb := fun o => keepC hu11 (b := P.pb) HPB.out.1 HPB.out.2 o
    refine hK.out _ _ ?_ (fun hHeld => ?_)
    · exact ⟨ka, kb⟩
    clear hK K
    try simp only [Act.put, List.setIfInBounds_toArray, List.set_cons_zero, List.set_cons_succ]
    refine wpAnyH_done (by kernel_rfl) ?_ _
    clear hHeld
    have hs11 : SdPost w10.drew gp n B _ _ _ w11 := ⟨v11, hg11, hu11, hv11⟩
    have HS11 := Lib.hid hs11
    clear hg11 hu11 hv11 hs11 ka kb
    go_wp2_with fail
    go_end0
    refine ⟨rfl, GrPost.pre HN1.out (GrPost.trans HGR10.out.1 HGR10.out.2 (GrPost.pre (New.refl w10).drew ?_))⟩
    have := HS11.out.gr
    rw [filter_all] at this
    exact this
  · go_simp
    have ka := fun o => keepC (S := fun _ => False) (Upd.new ((New.refl w5).drew.alloc (.cells #[.bool mh, .int .u64 (mhr : Int), .int .u64 (mhn : Int), .string mhv] 45))) HMB.out (fun h => h) o
    refine hK.out _ _ ?_ (fun hHeld => ?_)
    · exact ka
    clear hK K
    try simp only [Act.put, List.setIfInBounds_toArray, List.set_cons_zero, List.set_cons_succ]
    refine wpAnyH_ready (rs := [4]) (by kernel_rfl) (by simp) ?_
    refine AllReadyH.cons (o := { dst := some 46, op := Op.load 33 (Operand.tmp 45), type := 33, pos := "decree.go:238", after := #[{ on := 3, ground := Ground.data }], guard := none }) rfl (fun K hK => ?_) AllReadyH.nil
    go_simp
    refine hK.out _ _ ?_ (fun hHeld => ?_)
    · exact ka
    clear hK K
    try simp only [Act.put, List.setIfInBounds_toArray, List.set_cons_zero, List.set_cons_succ]
    refine wpAnyH_ready (rs := [8]) (by kernel_rfl) (by simp) ?_
    refine AllReadyH.cons (o := { dst := some 50, op := Op.call { callee := Callee.builtin Builtin.append, args := #[Operand.tmp 46, Operand.tmp 49], argTypes := #[33, 33] }, type := 33, pos := "decree.go:238", after := #[{ on := 4, ground := Ground.data }, { on := 7, ground := Ground.data }], guard := none }) rfl (fun K hK => ?_) AllReadyH.nil
    refine step_appR (v := .slice qA p.pm.length qc) promTyD promOkD rfl (.tmp 46) (.tmp 49) rfl rfl rfl (HROW5.out.new ((New.refl w5).drew.alloc (.cells #[.bool mh, .int .u64 (mhr : Int), .int .u64 (mhn : Int), .string mhv] 45))) (SlIn.one (x := (⟨mh, (mhr : Int), (mhn : Int), mhv⟩ : Pro)) (Blk.mk_new w5.drew 45 #[.bool mh, .int .u64 (mhr : Int), .int .u64 (mhn : Int), .string mhv]) promOkD rfl) HM1L.out HM2L.out (Nat.zero_le _) ?_
    intro v6 w6 hr6 hg6 hb6
    have hu6 : Upd (fun k => P.qv.ownBlock = some k) (w5.drew.alloc (.cells #[.bool mh, .int .u64 (mhr : Int), .int .u64 (mhn : Int), .string mhv] 45)) w6 := (Upd.refl _ _).grown hg6 (fun k _ e => by rw [HQV.out]; exact e)
    have hP5a := PrsAt.new HP5.out ((New.refl w5).drew.alloc (.cells #[.bool mh, .int .u64 (mhr : Int), .int .u64 (mhn : Int), .string mhv] 45))
    have hb6k := hP5a.blk.upd hu6 (hP5a.row.ne_blk hP5a.blk (by decide))
    have y3 := hb6k.cell 3
    have yz := hb6k.frozen
    have yl := hb6k.lt
    simp at y3
    rw [HQV.out] at y3
    obtain ⟨A6, n6, cc6, rfl⟩ := hr6.shp
    have kb := fun o => (keepC hu6 (b := w.heap.size) (by have := HMB.out; simp; omega) (HMQ.out) o).trans (ka o)
    refine hK.out _ _ ?_ (fun hHeld => ?_)
    · exact kb
    clear hK K
    try simp only [Act.put, List.setIfInBounds_toArray, List.set_cons_zero, List.set_cons_succ]
    refine wpAnyH_take (i := 9) (oi := { dst := some 51, op := Op.nilCheck (Operand.tmp 42), type := 0, pos := "decree.go:238", after := #[{ on := 0, ground := Ground.data }, { on := 0, ground := Ground.phase }, { on := 1, ground := Ground.phase }, { on := 2, ground := Ground.phase }, { on := 3, ground := Ground.phase }, { on := 4, ground := Ground.phase }, { on := 5, ground := Ground.phase }, { on := 6, ground := Ground.phase }, { on := 7, ground := Ground.phase }, { on := 8, ground := Ground.phase }], guard := none }) (v := ?_) rfl (by kernel_rfl) (by kernel_rfl) (by kernel_rfl) (fun _ _ _ h => h) (Or.inl ⟨by rfl, ?_⟩) (by assumption) ?_
    rotate_left
    · (intro wq hSw; (try dsimp only at hSw); go_simp; first | done | with_reducible rfl)
    try simp only [Act.put, List.setIfInBounds_toArray, List.set_cons_zero, List.set_cons_succ]
    refine wpAnyH_take (i := 10) (oi := { dst := some 52, op := Op.fieldAddr 104 (Operand.tmp 51) 2, type := 0, pos := "decree.go:238", after := #[{ on := 9, ground := Ground.data }, { on := 0, ground := Ground.phase }, { on := 1, ground := Ground.phase }, { on := 2, ground := Ground.phase }, { on := 3, ground := Ground.phase }, { on := 4, ground := Ground.phase }, { on := 5, ground := Ground.phase }, { on := 6, ground := Ground.phase }, { on := 7, ground := Ground.phase }, { on := 8, ground := Ground.phase }], guard := none }) (v := ?_) rfl (by kernel_rfl) (by kernel_rfl) (by kernel_rfl) (fun _ _ _ h => h) (Or.inl ⟨by rfl, ?_⟩) (by assumption) ?_
    rotate_left
    · (intro wq hSw; (try dsimp only at hSw); go_simp; first | done | with_reducible rfl)
    try simp only [Act.put, List.setIfInBounds_toArray, List.set_cons_zero, List.set_cons_succ]
    refine wpAnyH_ready (rs := [11]) (by kernel_rfl) (by simp) ?_
    refine AllReadyH.cons (o := { dst := none, op := Op.store 33 (Operand.tmp 52) (Operand.tmp 50), type := 0, pos := "decree.go:238", after := #[{ on := 10, ground := Ground.data }, { on := 8, ground := Ground.data }, { on := 8, ground := Ground.chain }, { on := 0, ground := Ground.phase }, { on := 1, ground := Ground.phase }, { on := 2, ground := Ground.phase }, { on := 3, ground := Ground.phase }, { on := 4, ground := Ground.phase }, { on := 5, ground := Ground.phase }, { on := 6, ground := Ground.phase }, { on := 7, ground := Ground.phase }, { on := 8, ground := Ground.phase }], guard := none }) rfl (fun K hK => ?_) AllReadyH.nil
    go_simp
    refine hK.out _ _ ?_ (fun hHeld => ?_)
    · exact (fun o => (World.cell?_setCell_far _ ⟨P.pb, 3, none⟩ ⟨w.heap.size, o, none⟩ _ HMP.out).trans (kb o))
    clear hK K
    try simp only [Act.put, List.setIfInBounds_toArray, List.set_cons_zero, List.set_cons_succ]
    refine wpAnyH_done (by kernel_rfl) ?_ _
    clear hHeld ka kb
    have hn5b := (New.refl w5).drew.alloc (.cells #[.bool mh, .int .u64 (mhr : Int), .int .u64 (mhn : Int), .string mhv] 45)
    have hP6 := PrsAt.pm_ hP5a hu6 hr6
    have hS6 : Upd (fun k => P.qv.ownBlock = some k ∨ k = P.pb) (w5.drew.alloc (.cells #[.bool mh, .int .u64 (mhr : Int), .int .u64 (mhn : Int), .string mhv] 45)) (w6.setCell ⟨P.pb, 3, none⟩ (.slice A6 n6 cc6)) := (hu6.mono fun _ _ h => .inl h).setCell (fun _ => .inr rfl) _
    have hX6 := (HX5.out.new hn5b).setNw rfl HPW.out hP5a hS6 (fun k _ h => h.elim (fun h => .inr (.inr (.inr h))) (fun h => .inr (.inr (.inl h)))) (fun k hk => .inl hk) hP6 rfl
    have hU6 : Upd (L.Fn i) w1 (w6.setCell ⟨P.pb, 3, none⟩ (.slice A6 n6 cc6)) := (HU5.out.transNew hn5b).trans hS6 (fun k _ h => h.elim (HP5.out.f2 k) (fun e => by rw [e]; exact HP5.out.f1.1))
    have hs15 := HU5.out.size
    have hs56 := hu6.size
    have hG6 : Gro (L.Fn i) (fun k => L.Fn i k ∨ Value.ownBlock (.slice A6 n6 cc6) = some k) w1 (w6.setCell ⟨P.pb, 3, none⟩ (.slice A6 n6 cc6)) := fun k hk => hk.elim .inl (fun h => hb6.elim (fun e => .inl (HP5.out.f2 k (by rw [HQV.out]; rw [e] at h; exact h))) (fun e => .inr (by have hl := (hr6.lt k h).2; rw [e] at h; injection h with h; simp at h hs56; exact ⟨by omega, by simpa [World.setCell] using hl⟩)))
    have hg7 := HH1.out.setNd hi hU6 hX6 hG6 (Nat.le_refl _)
    have hgro7 := ndGro (gp := gp) (L := L) (l' := L.nl i) hi hG6
    have hupd7 : Upd (GpF gp n L) w1 (w6.setCell ⟨P.pb, 3, none⟩ (.slice A6 n6 cc6)) := hU6.mono fun k _ hk => .inr ⟨i, hi, hk⟩
    have HU6 := Lib.hid hU6
    have HG6 := Lib.hid hG6
    have HG7 := Lib.hid hg7
    have HGRO7 := Lib.hid hgro7
    have HUPD7 := Lib.hid hupd7
    have HP6 := Lib.hid hP6
    have HX6 := Lib.hid hX6
    clear hP6 hS6 hX6 hU6 hG6 hg7 hgro7 hupd7 hs15 hs56 hu6 hr6 hg6 hb6 hP5a hb6k y3 yz yl a a0 a1 a2 a3 a4 a5 a6 a7 a8 az q0 e0 e1 e2 e3 e4 e5 e6 e7 ez hn5b
    go_upto_region 5 with fail
    generalize (w6.setCell ⟨P.pb, 3, none⟩ (.slice A6 n6 cc6)) = w7 at *
    obtain ⟨q0, e0, e1, e2, e3, e4, e5, e6, e7, ez⟩ := Blk8F HP6.out.blk
    obtain ⟨gA, gc, hnv⟩ := HG7.out.nvs
    obtain ⟨g0, f0, f1, fz⟩ := HG7.out.facts
    rw [hnv] at f0
    have hlen := fun ty => mpLenI (MpAt.new HP6.out.fm (New.refl w7).drew) Try.underlying102 ty
    simp only [List.length_append, List.length_singleton] at hlen
    have HQC := Lib.hid (quor_call n (by omega))
    clear hnv
    have hqi : ((quor n : Nat) : Int) ≤ (p.fr.length : Int) + 1 := by omega
    refine wp_region_held_drew (S := fun w' => w' = w7.drew) (by kernel_rfl) (rfl) (fun hHeld => ?_)
    refine wpAnyH_take (i := 0) (oi := { dst := some 53, op := Op.move (Operand.tmp 8), type := 98, pos := "decree.go:239", after := #[], guard := none }) (v := ?_) rfl (by kernel_rfl) (by kernel_rfl) (by kernel_rfl) (fun _ _ _ h => h) (Or.inl ⟨by rfl, ?_⟩) (by assumption) ?_
    rotate_left
    · (intro wq hSw; (try dsimp only at hSw); go_simp; first | done | with_reducible rfl)
    try simp only [Act.put, List.setIfInBounds_toArray, List.set_cons_zero, List.set_cons_succ]
    refine wpAnyH_take (i := 1) (oi := { dst := some 54, op := Op.nilCheck (Operand.tmp 53), type := 0, pos := "decree.go:239", after := #[{ on := 0, ground := Ground.data }], guard := none }) (v := ?_) rfl (by kernel_rfl) (by kernel_rfl) (by kernel_rfl) (fun _ _ _ h => h) (Or.inl ⟨by rfl, ?_⟩) (by assumption) ?_
    rotate_left
    · (intro wq hSw; (try dsimp only at hSw); go_simp; first | done | with_reducible rfl)
    try simp only [Act.put, List.setIfInBounds_toArray, List.set_cons_zero, List.set_cons_succ]
    refine wpAnyH_take (i := 2) (oi := { dst := some 55, op := Op.fieldAddr 104 (Operand.tmp 54) 3, type := 0, pos := "decree.go:239", after := #[{ on := 1, ground := Ground.data }], guard := none }) (v := ?_) rfl (by kernel_rfl) (by kernel_rfl) (by kernel_rfl) (fun _ _ _ h => h) (Or.inl ⟨by rfl, ?_⟩) (by assumption) ?_
    rotate_left
    · (intro wq hSw; (try dsimp only at hSw); go_simp; first | done | with_reducible rfl)
    try simp only [Act.put, List.setIfInBounds_toArray, List.set_cons_zero, List.set_cons_succ]
    refine wpAnyH_take (i := 3) (oi := { dst := some 56, op := Op.load 102 (Operand.tmp 55), type := 102, pos := "decree.go:239", after := #[{ on := 2, ground := Ground.data }], guard := none }) (v := ?_) rfl (by kernel_rfl) (by kernel_rfl) (by kernel_rfl) (fun _ _ _ h => h) (Or.inl ⟨by rfl, ?_⟩) (by assumption) ?_
    rotate_left
    · (intro wq hSw; (try dsimp only at hSw); go_simp; first | done | with_reducible rfl)
    try simp only [Act.put, List.setIfInBounds_toArray, List.set_cons_zero, List.set_cons_succ]
    refine wpAnyH_take (i := 4) (oi := { dst := some 57, op := Op.call { callee := Callee.builtin Builtin.len, args := #[Operand.tmp 56], argTypes := #[102] }, type := 3, pos := "decree.go:239", after := #[{ on := 3, ground := Ground.data }], guard := none }) (v := ?_) rfl (by kernel_rfl) (by kernel_rfl) (by kernel_rfl) (fun _ _ _ h => h) (Or.inl ⟨by rfl, ?_⟩) (by assumption) ?_
    rotate_left
    · (intro wq hSw; (try dsimp only at hSw); go_simp; first | done | with_reducible rfl)
    try simp only [Act.put, List.setIfInBounds_toArray, List.set_cons_zero, List.set_cons_succ]
    refine wpAnyH_take (i := 5) (oi := { dst := some 58, op := Op.move (Operand.tmp 0), type := 53, pos := "decree.go:239", after := #[], guard := none }) (v := ?_) rfl (by kernel_rfl) (by kernel_rfl) (by kernel_rfl) (fun _ _ _ h => h) (Or.inl ⟨by rfl, ?_⟩) (by assumption) ?_
    rotate_left
    · (intro wq hSw; (try dsimp only at hSw); go_simp; first | done | with_reducible rfl)
    try simp only [Act.put, List.setIfInBounds_toArray, List.set_cons_zero, List.set_cons_succ]
    refine wpAnyH_take (i := 6) (oi := { dst := some 59, op := Op.nilCheck (Operand.tmp 58), type := 0, pos := "decree.go:239", after := #[{ on := 5, ground := Ground.data }], guard := none }) (v := ?_) rfl (by kernel_rfl) (by kernel_rfl) (by kernel_rfl) (fun _ _ _ h => h) (Or.inl ⟨by rfl, ?_⟩) (by assumption) ?_
    rotate_left
    · (intro wq hSw; (try dsimp only at hSw); go_simp; first | done | with_reducible rfl)
    try simp only [Act.put, List.setIfInBounds_toArray, List.set_cons_zero, List.set_cons_succ]
    refine wpAnyH_take (i := 7) (oi := { dst := some 60, op := Op.fieldAddr 94 (Operand.tmp 59) 0, type := 0, pos := "decree.go:239", after := #[{ on := 6, ground := Ground.data }], guard := none }) (v := ?_) rfl (by kernel_rfl) (by kernel_rfl) (by kernel_rfl) (fun _ _ _ h => h) (Or.inl ⟨by rfl, ?_⟩) (by assumption) ?_
    rotate_left
    · (intro wq hSw; (try dsimp only at hSw); go_simp; first | done | with_reducible rfl)
    try simp only [Act.put, List.setIfInBounds_toArray, List.set_cons_zero, List.set_cons_succ]
    refine wpAnyH_take (i := 8) (oi := { dst := some 61, op := Op.load 92 (Operand.tmp 60), type := 92, pos := "decree.go:239", after := #[{ on := 7, ground := Ground.data }], guard := none }) (v := ?_) rfl (by kernel_rfl) (by kernel_rfl) (by kernel_rfl) (fun _ _ _ h => h) (Or.inl ⟨by rfl, ?_⟩) (by assumption) ?_
    rotate_left
    · (intro wq hSw; (try dsimp only at hSw); go_simp; first | done | with_reducible rfl)
    try simp only [Act.put, List.setIfInBounds_toArray, List.set_cons_zero, List.set_cons_succ]
    refine wpAnyH_take (i := 9) (oi := { dst := some 62, op := Op.call { callee := Callee.builtin Builtin.len, args := #[Operand.tmp 61], argTypes := #[92] }, type := 3, pos := "decree.go:239", after := #[{ on := 8, ground := Ground.data }], guard := none }) (v := ?_) rfl (by kernel_rfl) (by kernel_rfl) (by kernel_rfl) (fun _ _ _ h => h) (Or.inl ⟨by rfl, ?_⟩) (by assumption) ?_
    rotate_left
    · (intro wq hSw; (try dsimp only at hSw); go_simp; first | done | with_reducible rfl)
    try simp only [Act.put, List.setIfInBounds_toArray, List.set_cons_zero, List.set_cons_succ]
    refine wpAnyH_ready (rs := [10]) (by kernel_rfl) (by simp) ?_
    refine AllReadyH.cons (o := { dst := some 63, op := Op.call { callee := Callee.value (Operand.func 15), args := #[Operand.tmp 62], argTypes := #[3] }, type := 3, pos := "decree.go:239", after := #[{ on := 9, ground := Ground.data }, { on := 4, ground := Ground.chain }], guard := none }) rfl (fun K hK => ?_) AllReadyH.nil
    go_simp
    refine (HQC.out _).mono ?_
    rintro e wq ⟨rfl, hwq⟩
    subst wq
    refine hK.out _ _ ?_ (fun hHeld => ?_)
    · exact rfl
    clear hK K
    try simp only [Act.put, List.setIfInBounds_toArray, List.set_cons_zero, List.set_cons_succ]
    refine wpAnyH_take (i := 11) (oi := { dst := some 64, op := Op.binOp BinOp.geq 3 (Operand.tmp 57) (Operand.tmp 63) 3, type := 4, pos := "decree.go:239", after := #[{ on := 4, ground := Ground.data }, { on := 10, ground := Ground.data }], guard := none }) (v := .bool true) rfl (by kernel_rfl) (by kernel_rfl) (by kernel_rfl) (fun _ _ _ h => h) (Or.inl ⟨by rfl, ?_⟩) (by assumption) ?_
    · (intro wq hSw; (try dsimp only at hSw); go_simp; first | done | with_reducible rfl | (simp; omega))
    try simp only [Act.put, List.setIfInBounds_toArray, List.set_cons_zero, List.set_cons_succ]
    refine wpAnyH_done (by kernel_rfl) ?_ _
    clear hHeld hlen
    have hg8 := HG7.out.new (New.refl w7).drew
    have hX8 := HX6.out.new (New.refl w7).drew
    have hP8 := PrsAt.new HP6.out (New.refl w7).drew
    have HU8 := Lib.hid (HU6.out.drew)
    have HG8 : Hid (Gro (L.Fn i) (fun k => L.Fn i k ∨ Value.ownBlock (.slice A6 n6 cc6) = some k) w1 w7.drew) := Lib.hid HG6.out
    have HX8 := Lib.hid hX8
    have HP8 := Lib.hid hP8
    clear hg8 hX8 hP8 HG7 HX6 HP6 HU6 HG6 HGRO7 HUPD7 q0 e0 e1 e2 e3 e4 e5 e6 e7 ez g0 f0 f1 fz hqi
    go_upto_region 6 with fail
    generalize w7.drew = w8 at *
    obtain ⟨hd, tl, rg, roff, rc, hpe, hpv⟩ := (pe_form HX8.out.pe).resolve_left (fun h => HPNE.out h.1)
    dsimp only at hpe hpv
    have HPE := Lib.hid hpe
    have HPV := Lib.hid hpv
    have b0 := HX8.out.blk.cell 4
    dsimp only at b0
    rw [hpv] at b0
    have hpe8 := HX8.out.pe
    dsimp only at hpe8
    rw [hpv, hpe] at hpe8
    have b1 := row_head hpe8
    have b2 := row_lt hpe8
    obtain ⟨p0, p1, p2, p3, p4, p5, p6, p7, pz, pzz⟩ := Blk8F HP8.out.blk
    have hV9 : (Pro.best hd (p.pm ++ [(⟨mh, (mhr : Int), (mhn : Int), mhv⟩ : Pro)])).v = V := by have := HV.out; rw [hpe] at this; exact this
    have hch := choose_any hd (p.pm ++ [(⟨mh, (mhr : Int), (mhn : Int), mhv⟩ : Pro)]) _ w8.drew (by simp; omega) (Row.slIn promOkD (Row.new HP8.out.row (New.refl w8).drew))
    rw [hV9] at hch
    have HCH := Lib.hid hch
    have hbl := HX8.out.blk.lt
    clear hch hV9 hpe hpv hpe8 p0 p1 p2 p3 p5 p6 p7 pz
    refine wp_region_held_drew (S := fun w' => w'.cell? ⟨L.nb i, 4, none⟩ = some (.slice (some ⟨rg, roff, none⟩) (tl.length + 1) (rc + 1)) ∧ w'.cell? ⟨rg, roff, none⟩ = some (.string hd) ∧ w'.cell? ⟨P.pb, 3, none⟩ = some (.slice A6 n6 cc6)) (by kernel_rfl) (⟨b0, b1, p4⟩) (fun hHeld => ?_)
    refine wpAnyH_take (i := 0) (oi := { dst := some 65, op := Op.move (Operand.tmp 8), type := 98, pos := "decree.go:240", after := #[], guard := none }) (v := ?_) rfl (by kernel_rfl) (by kernel_rfl) (by kernel_rfl) (fun _ _ _ h => h) (Or.inl ⟨by rfl, ?_⟩) (by assumption) ?_
    rotate_left
    · (intro wq hSw; (try dsimp only at hSw); go_simp; first | done | with_reducible rfl)
    try simp only [Act.put, List.setIfInBounds_toArray, List.set_cons_zero, List.set_cons_succ]
    refine wpAnyH_take (i := 1) (oi := { dst := some 66, op := Op.move (Operand.tmp 8), type := 98, pos := "decree.go:240", after := #[{ on := 15, ground := Ground.gcOnly Departure.lateStores }], guard := none }) (v := ?_) rfl (by kernel_rfl) (by kernel_rfl) (by kernel_rfl) (fun _ _ _ h => h) (Or.inl ⟨by rfl, ?_⟩) (by assumption) ?_
    rotate_left
    · (intro wq hSw; (try dsimp only at hSw); go_simp; first | done | with_reducible rfl)
    try simp only [Act.put, List.setIfInBounds_toArray, List.set_cons_zero, List.set_cons_succ]
    refine wpAnyH_take (i := 2) (oi := { dst := some 67, op := Op.move (Operand.tmp 1), type := 95, pos := "decree.go:240", after := #[], guard := none }) (v := ?_) rfl (by kernel_rfl) (by kernel_rfl) (by kernel_rfl) (fun _ _ _ h => h) (Or.inl ⟨by rfl, ?_⟩) (by assumption) ?_
    rotate_left
    · (intro wq hSw; (try dsimp only at hSw); go_simp; first | done | with_reducible rfl)
    try simp only [Act.put, List.setIfInBounds_toArray, List.set_cons_zero, List.set_cons_succ]
    refine wpAnyH_take (i := 3) (oi := { dst := some 68, op := Op.nilCheck (Operand.tmp 67), type := 0, pos := "decree.go:240", after := #[{ on := 2, ground := Ground.data }], guard := none }) (v := ?_) rfl (by kernel_rfl) (by kernel_rfl) (by kernel_rfl) (fun _ _ _ h => h) (Or.inl ⟨by rfl, ?_⟩) (by assumption) ?_
    rotate_left
    · (intro wq hSw; (try dsimp only at hSw); go_simp; first | done | with_reducible rfl)
    try simp only [Act.put, List.setIfInBounds_toArray, List.set_cons_zero, List.set_cons_succ]
    refine wpAnyH_take (i := 4) (oi := { dst := some 69, op := Op.fieldAddr 100 (Operand.tmp 68) 4, type := 0, pos := "decree.go:240", after := #[{ on := 3, ground := Ground.data }], guard := none }) (v := ?_) rfl (by kernel_rfl) (by kernel_rfl) (by kernel_rfl) (fun _ _ _ h => h) (Or.inl ⟨by rfl, ?_⟩) (by assumption) ?_
    rotate_left
    · (intro wq hSw; (try dsimp only at hSw); go_simp; first | done | with_reducible rfl)
    try simp only [Act.put, List.setIfInBounds_toArray, List.set_cons_zero, List.set_cons_succ]
    refine wpAnyH_take (i := 5) (oi := { dst := some 70, op := Op.load 22 (Operand.tmp 69), type := 22, pos := "decree.go:240", after := #[{ on := 4, ground := Ground.data }], guard := none }) (v := ?_) rfl (by kernel_rfl) (by kernel_rfl) (by kernel_rfl) (fun _ _ _ h => h) (Or.inl ⟨by rfl, ?_⟩) (by assumption) ?_
    rotate_left
    · (intro wq hSw; (try dsimp only at hSw); go_simp; first | done | with_reducible rfl)
    try simp only [Act.put, List.setIfInBounds_toArray, List.set_cons_zero, List.set_cons_succ]
    refine wpAnyH_take (i := 6) (oi := { dst := some 71, op := Op.indexAddr 22 (Operand.tmp 70) (Operand.const (Value.int IntKind.i64 0)), type := 0, pos := "decree.go:240", after := #[{ on := 5, ground := Ground.data }], guard := none }) (v := ?_) rfl (by kernel_rfl) (by kernel_rfl) (by kernel_rfl) (fun _ _ _ h => h) (Or.inl ⟨by rfl, ?_⟩) (by assumption) ?_
    rotate_left
    · (intro wq hSw; (try dsimp only at hSw); go_simp; first | done | with_reducible rfl)
    try simp only [Act.put, List.setIfInBounds_toArray, List.set_cons_zero, List.set_cons_succ]
    refine wpAnyH_take (i := 7) (oi := { dst := some 72, op := Op.load 9 (Operand.tmp 71), type := 9, pos := "decree.go:240", after := #[{ on := 6, ground := Ground.data }], guard := none }) (v := ?_) rfl (by kernel_rfl) (by kernel_rfl) (by kernel_rfl) (fun _ _ _ h => h) (Or.inl ⟨by rfl, ?_⟩) (by assumption) ?_
    rotate_left
    · (intro wq hSw; (try dsimp only at hSw); go_simp; first | done | with_reducible rfl)
    try simp only [Act.put, List.setIfInBounds_toArray, List.set_cons_zero, List.set_cons_succ]
    refine wpAnyH_take (i := 8) (oi := { dst := some 73, op := Op.move (Operand.tmp 8), type := 98, pos := "decree.go:240", after := #[], guard := none }) (v := ?_) rfl (by kernel_rfl) (by kernel_rfl) (by kernel_rfl) (fun _ _ _ h => h) (Or.inl ⟨by rfl, ?_⟩) (by assumption) ?_
    rotate_left
    · (intro wq hSw; (try dsimp only at hSw); go_simp; first | done | with_reducible rfl)
    try simp only [Act.put, List.setIfInBounds_toArray, List.set_cons_zero, List.set_cons_succ]
    refine wpAnyH_take (i := 9) (oi := { dst := some 74, op := Op.nilCheck (Operand.tmp 73), type := 0, pos := "decree.go:240", after := #[{ on := 8, ground := Ground.data }], guard := none }) (v := ?_) rfl (by kernel_rfl) (by kernel_rfl) (by kernel_rfl) (fun _ _ _ h => h) (Or.inl ⟨by rfl, ?_⟩) (by assumption) ?_
    rotate_left
    · (intro wq hSw; (try dsimp only at hSw); go_simp; first | done | with_reducible rfl)
    try simp only [Act.put, List.setIfInBounds_toArray, List.set_cons_zero, List.set_cons_succ]
    refine wpAnyH_take (i := 10) (oi := { dst := some 75, op := Op.fieldAddr 104 (Operand.tmp 74) 2, type := 0, pos := "decree.go:240", after := #[{ on := 9, ground := Ground.data }], guard := none }) (v := ?_) rfl (by kernel_rfl) (by kernel_rfl) (by kernel_rfl) (fun _ _ _ h => h) (Or.inl ⟨by rfl, ?_⟩) (by assumption) ?_
    rotate_left
    · (intro wq hSw; (try dsimp only at hSw); go_simp; first | done | with_reducible rfl)
    try simp only [Act.put, List.setIfInBounds_toArray, List.set_cons_zero, List.set_cons_succ]
    refine wpAnyH_take (i := 11) (oi := { dst := some 76, op := Op.load 33 (Operand.tmp 75), type := 33, pos := "decree.go:240", after := #[{ on := 10, ground := Ground.data }], guard := none }) (v := ?_) rfl (by kernel_rfl) (by kernel_rfl) (by kernel_rfl) (fun _ _ _ h => h) (Or.inl ⟨by rfl, ?_⟩) (by assumption) ?_
    rotate_left
    · (intro wq hSw; (try dsimp only at hSw); go_simp; first | done | with_reducible rfl)
    try simp only [Act.put, List.setIfInBounds_toArray, List.set_cons_zero, List.set_cons_succ]
    refine wpAnyH_ready (rs := [12]) (by kernel_rfl) (by simp) ?_
    refine AllReadyH.cons (o := { dst := some 77, op := Op.call { callee := Callee.value (Operand.func 16), args := #[Operand.tmp 72, Operand.tmp 76], argTypes := #[9, 33] }, type := 9, pos := "decree.go:240", after := #[{ on := 7, ground := Ground.data }, { on := 11, ground := Ground.data }], guard := none }) rfl (fun K hK => ?_) AllReadyH.nil
    go_simp
    refine (HCH.out.mono ?_)
    rintro e w9 ⟨rfl, hn9⟩
    have hn8 := (New.refl w8).drew.trans hn9
    have hX9 := HX8.out.new hn8
    have hP9 := PrsAt.new HP8.out hn8
    obtain ⟨x0, y0, y1, y2, y3, y4, y5, y6, y7, yz⟩ := Blk8F hP9.blk
    have kc4 := hX9.blk.cell 4
    rw [HPV.out] at kc4
    have hpe9 := hX9.pe
    dsimp only at hpe9
    rw [HPV.out, HPE.out] at hpe9
    have kch := row_head hpe9
    have krg : rg ≠ P.pb := fun e => hpe9.ne_blk hP9.blk (by decide) (by rw [← e]; rfl)
    have knb : L.nb i ≠ P.pb := fun e => Blk.ne_ hX9.blk hP9.blk (by decide) e
    refine hK.out _ _ ?_ (fun hHeld => ?_)
    · exact ⟨kc4, kch, y3⟩
    clear hK K
    try simp only [Act.put, List.setIfInBounds_toArray, List.set_cons_zero, List.set_cons_succ]
    refine wpAnyH_take (i := 13) (oi := { dst := some 78, op := Op.nilCheck (Operand.tmp 65), type := 0, pos := "decree.go:240", after := #[{ on := 0, ground := Ground.data }, { on := 0, ground := Ground.phase }, { on := 1, ground := Ground.textOnly Departure.lateStores }, { on := 2, ground := Ground.phase }, { on := 3, ground := Ground.phase }, { on := 4, ground := Ground.phase }, { on := 5, ground := Ground.phase }, { on := 6, ground := Ground.phase }, { on := 7, ground := Ground.phase }, { on := 8, ground := Ground.phase }, { on := 9, ground := Ground.phase }, { on := 10, ground := Ground.phase }, { on := 11, ground := Ground.phase }, { on := 12, ground := Ground.phase }], guard := none }) (v := ?_) rfl (by kernel_rfl) (by kernel_rfl) (by kernel_rfl) (fun _ _ _ h => h) (Or.inl ⟨by rfl, ?_⟩) (by assumption) ?_
    rotate_left
    · (intro wq hSw; (try dsimp only at hSw); go_simp; first | done | with_reducible rfl)
    try simp only [Act.put, List.setIfInBounds_toArray, List.set_cons_zero, List.set_cons_succ]
    refine wpAnyH_take (i := 14) (oi := { dst := some 79, op := Op.fieldAddr 104 (Operand.tmp 78) 5, type := 0, pos := "decree.go:240", after := #[{ on := 13, ground := Ground.data }, { on := 0, ground := Ground.phase }, { on := 1, ground := Ground.textOnly Departure.lateStores }, { on := 2, ground := Ground.phase }, { on := 3, ground := Ground.phase }, { on := 4, ground := Ground.phase }, { on := 5, ground := Ground.phase }, { on := 6, ground := Ground.phase }, { on := 7, ground := Ground.phase }, { on := 8, ground := Ground.phase }, { on := 9, ground := Ground.phase }, { on := 10, ground := Ground.phase }, { on := 11, ground := Ground.phase }, { on := 12, ground := Ground.phase }], guard := none }) (v := ?_) rfl (by kernel_rfl) (by kernel_rfl) (by kernel_rfl) (fun _ _ _ h => h) (Or.inl ⟨by rfl, ?_⟩) (by assumption) ?_
    rotate_left
    · (intro wq hSw; (try dsimp only at hSw); go_simp; first | done | with_reducible rfl)
    try simp only [Act.put, List.setIfInBounds_toArray, List.set_cons_zero, List.set_cons_succ]
    refine wpAnyH_ready (rs := [15]) (by kernel_rfl) (by simp) ?_
    refine AllReadyH.cons (o := { dst := none, op := Op.store 9 (Operand.tmp 79) (Operand.tmp 77), type := 0, pos := "decree.go:240", after := #[{ on := 14, ground := Ground.data }, { on := 12, ground := Ground.data }, { on := 12, ground := Ground.chain }, { on := 0, ground := Ground.phase }, { on := 1, ground := Ground.textOnly Departure.lateStores }, { on := 2, ground := Ground.phase }, { on := 3, ground := Ground.phase }, { on := 4, ground := Ground.phase }, { on := 5, ground := Ground.phase }, { on := 6, ground := Ground.phase }, { on := 7, ground := Ground.phase }, { on := 8, ground := Ground.phase }, { on := 9, ground := Ground.phase }, { on := 10, ground := Ground.phase }, { on := 11, ground := Ground.phase }, { on := 12, ground := Ground.phase }], guard := none }) rfl (fun K hK => ?_) AllReadyH.nil
    go_simp
    refine hK.out _ _ ?_ (fun hHeld => ?_)
    · exact ⟨((World.cell?_setCell_far _ ⟨P.pb, 6, none⟩ _ _ (fun e => knb e.symm)).trans kc4), ((World.cell?_setCell_far _ ⟨P.pb, 6, none⟩ _ _ (fun e => krg e.symm)).trans kch), Blk.cell (Blk.set_ hP9.blk 6 _) 3⟩
    clear hK K
    try simp only [Act.put, List.setIfInBounds_toArray, List.set_cons_zero, List.set_cons_succ]
    refine wpAnyH_take (i := 16) (oi := { dst := some 80, op := Op.nilCheck (Operand.tmp 66), type := 0, pos := "decree.go:240", after := #[{ on := 1, ground := Ground.data }, { on := 0, ground := Ground.phase }, { on := 1, ground := Ground.phase }, { on := 2, ground := Ground.phase }, { on := 3, ground := Ground.phase }, { on := 4, ground := Ground.phase }, { on := 5, ground := Ground.phase }, { on := 6, ground := Ground.phase }, { on := 7, ground := Ground.phase }, { on := 8, ground := Ground.phase }, { on := 9, ground := Ground.phase }, { on := 10, ground := Ground.phase }, { on := 11, ground := Ground.phase }, { on := 12, ground := Ground.phase }, { on := 13, ground := Ground.phase }, { on := 14, ground := Ground.phase }, { on := 15, ground := Ground.phase }], guard := none }) (v := ?_) rfl (by kernel_rfl) (by kernel_rfl) (by kernel_rfl) (fun _ _ _ h => h) (Or.inl ⟨by rfl, ?_⟩) (by assumption) ?_
    rotate_left
    · (intro wq hSw; (try dsimp only at hSw); go_simp; first | done | with_reducible rfl)
    try simp only [Act.put, List.setIfInBounds_toArray, List.set_cons_zero, List.set_cons_succ]
    refine wpAnyH_take (i := 17) (oi := { dst := some 81, op := Op.fieldAddr 104 (Operand.tmp 80) 6, type := 0, pos := "decree.go:240", after := #[{ on := 16, ground := Ground.data }, { on := 0, ground := Ground.phase }, { on := 1, ground := Ground.phase }, { on := 2, ground := Ground.phase }, { on := 3, ground := Ground.phase }, { on := 4, ground := Ground.phase }, { on := 5, ground := Ground.phase }, { on := 6, ground := Ground.phase }, { on := 7, ground := Ground.phase }, { on := 8, ground := Ground.phase }, { on := 9, ground := Ground.phase }, { on := 10, ground := Ground.phase }, { on := 11, ground := Ground.phase }, { on := 12, ground := Ground.phase }, { on := 13, ground := Ground.phase }, { on := 14, ground := Ground.phase }, { on := 15, ground := Ground.phase }], guard := none }) (v := ?_) rfl (by kernel_rfl) (by kernel_rfl) (by kernel_rfl) (fun _ _ _ h => h) (Or.inl ⟨by rfl, ?_⟩) (by assumption) ?_
    rotate_left
    · (intro wq hSw; (try dsimp only at hSw); go_simp; first | done | with_reducible rfl)
    try simp only [Act.put, List.setIfInBounds_toArray, List.set_cons_zero, List.set_cons_succ]
    refine wpAnyH_ready (rs := [18]) (by kernel_rfl) (by simp) ?_
    refine AllReadyH.cons (o := { dst := none, op := Op.store 4 (Operand.tmp 81) (Operand.const (Value.bool true)), type := 0, pos := "decree.go:240", after := #[{ on := 17, ground := Ground.data }, { on := 15, ground := Ground.chain }, { on := 0, ground := Ground.phase }, { on := 1, ground := Ground.phase }, { on := 2, ground := Ground.phase }, { on := 3, ground := Ground.phase }, { on := 4, ground := Ground.phase }, { on := 5, ground := Ground.phase }, { on := 6, ground := Ground.phase }, { on := 7, ground := Ground.phase }, { on := 8, ground := Ground.phase }, { on := 9, ground := Ground.phase }, { on := 10, ground := Ground.phase }, { on := 11, ground := Ground.phase }, { on := 12, ground := Ground.phase }, { on := 13, ground := Ground.phase }, { on := 14, ground := Ground.phase }, { on := 15, ground := Ground.phase }], guard := none }) rfl (fun K hK => ?_) AllReadyH.nil
    go_simp
    refine hK.out _ _ ?_ (fun hHeld => ?_)
    · exact ⟨((World.cell?_setCell_far _ ⟨P.pb, 7, none⟩ _ _ (fun e => knb e.symm)).trans ((World.cell?_setCell_far _ ⟨P.pb, 6, none⟩ _ _ (fun e => knb e.symm)).trans kc4)), ((World.cell?_setCell_far _ ⟨P.pb, 7, none⟩ _ _ (fun e => krg e.symm)).trans ((World.cell?_setCell_far _ ⟨P.pb, 6, none⟩ _ _ (fun e => krg e.symm)).trans kch)), Blk.cell (Blk.set_ (Blk.set_ hP9.blk 6 _) 7 _) 3⟩
    clear hK K
    try simp only [Act.put, List.setIfInBounds_toArray, List.set_cons_zero, List.set_cons_succ]
    refine wpAnyH_done (by kernel_rfl) ?_ _
    clear hHeld
    have hP10 := PrsAt.val_ hP9 V
    have hu10 : Upd (· = P.pb) w9 ((w9.setCell ⟨P.pb, 6, none⟩ (.string V)).setCell ⟨P.pb, 7, none⟩ (.bool true)) := ((Upd.refl _ w9).setIn 6 _).setIn 7 _
    have hX10 := hX9.setNw (P := { P with qv := .slice A6 n6 cc6 }) rfl HPW.out hP9 hu10 (fun k _ e => .inr (.inr (.inl e))) (fun _ h => h) hP10 rfl
    have hU10 : Upd (L.Fn i) w1 ((w9.setCell ⟨P.pb, 6, none⟩ (.string V)).setCell ⟨P.pb, 7, none⟩ (.bool true)) := ((HU8.out.transNew hn8).setCell (fun _ => HP5.out.f1.1) _).setCell (fun _ => HP5.out.f1.1) _
    have hs10 : ((w9.setCell ⟨P.pb, 6, none⟩ (.string V)).setCell ⟨P.pb, 7, none⟩ (.bool true)).heap.size = w9.heap.size := by simp [World.setCell]
    have hs9 := hn8.size
    have hG10 : Gro (L.Fn i) (fun k => L.Fn i k ∨ Value.ownBlock (.slice A6 n6 cc6) = some k) w1 ((w9.setCell ⟨P.pb, 6, none⟩ (.string V)).setCell ⟨P.pb, 7, none⟩ (.bool true)) := fun k hk => (HG8.out k hk).elim .inl (fun h => .inr ⟨h.1, by omega⟩)
    have hg10 := HH1.out.setNd hi hU10 hX10 hG10 (Nat.le_refl _)
    have hgro10 := ndGro (gp := gp) (L := L) (l' := L.nl i) hi hG10
    have hupd10 : Upd (GpF gp n L) w1 ((w9.setCell ⟨P.pb, 6, none⟩ (.string V)).setCell ⟨P.pb, 7, none⟩ (.bool true)) := hU10.mono fun k _ hk => .inr ⟨i, hi, hk⟩
    have HP10 := Lib.hid hP10
    have HX10 := Lib.hid hX10
    have HGR10 := Lib.hid (And.intro hgro10 hupd10)
    have HG10 := Lib.hid hg10
    clear hP10 hu10 hX10 hU10 hG10 hg10 hgro10 hupd10 hs10 hs9 hX9 hP9 x0 y0 y1 y2 y3 y4 y5 y6 y7 yz kc4 hpe9 kch krg knb b0 b1 b2 p4
    go_upto_region 7 with fail
    generalize ((w9.setCell ⟨P.pb, 6, none⟩ (.string V)).setCell ⟨P.pb, 7, none⟩ (.bool true)) = w10 at *
    obtain ⟨x0, y0, y1, y2, y3, y4, y5, y6, y7, yz⟩ := Blk8F HP10.out.blk
    obtain ⟨d, d0, d1, d2, d3, d4, d5, dz⟩ := Blk6F HX10.out.blk
    clear d1 d2 d3 d4 d5 y3 y4 y5 y7
    have HNB := Lib.hid (HG10.out.nb_lt hi)
    have HPB : Hid (P.pb < w10.heap.size ∧ ¬ BgF L.bb L.lv P.pb) := Lib.hid ⟨x0, fun e => HH1.out.out i hi P.pb HP5.out.f1.1 (.inr (.inr e))⟩
    have HAL := Lib.hid (gall_any (HG10.out.new (New.refl w10).drew) i (mProp p.s p.r p.n V) (mProp_good HPC.out.1 HPC.out.2.1 HPC.out.2.2 HVS.out) (L.nb i) (by omega))
    refine wp_region_held_drew (S := fun w' => (∀ o, w'.cell? ⟨L.nb i, o, none⟩ = w10.cell? ⟨L.nb i, o, none⟩) ∧ (∀ o, w'.cell? ⟨P.pb, o, none⟩ = w10.cell? ⟨P.pb, o, none⟩)) (by kernel_rfl) (⟨fun _ => rfl, fun _ => rfl⟩) (fun hHeld => ?_)
    refine wpAnyH_take (i := 0) (oi := { dst := some 82, op := Op.move (Operand.tmp 0), type := 53, pos := "decree.go:241", after := #[], guard := none }) (v := ?_) rfl (by kernel_rfl) (by kernel_rfl) (by kernel_rfl) (fun _ _ _ h => h) (Or.inl ⟨by rfl, ?_⟩) (by assumption) ?_
    rotate_left
    · (intro wq hSw; (try dsimp only at hSw); go_simp; first | done | with_reducible rfl)
    try simp only [Act.put, List.setIfInBounds_toArray, List.set_cons_zero, List.set_cons_succ]
    refine wpAnyH_take (i := 1) (oi := { dst := some 83, op := Op.move (Operand.tmp 1), type := 95, pos := "decree.go:241", after := #[], guard := none }) (v := ?_) rfl (by kernel_rfl) (by kernel_rfl) (by kernel_rfl) (fun _ _ _ h => h) (Or.inl ⟨by rfl, ?_⟩) (by assumption) ?_
    rotate_left
    · (intro wq hSw; (try dsimp only at hSw); go_simp; first | done | with_reducible rfl)
    try simp only [Act.put, List.setIfInBounds_toArray, List.set_cons_zero, List.set_cons_succ]
    refine wpAnyH_take (i := 2) (oi := { dst := some 84, op := Op.nilCheck (Operand.tmp 83), type := 0, pos := "decree.go:241", after := #[{ on := 1, ground := Ground.data }], guard := none }) (v := ?_) rfl (by kernel_rfl) (by kernel_rfl) (by kernel_rfl) (fun _ _ _ h => h) (Or.inl ⟨by rfl, ?_⟩) (by assumption) ?_
    rotate_left
    · (intro wq hSw; (try dsimp only at hSw); go_simp; first | done | with_reducible rfl)
    try simp only [Act.put, List.setIfInBounds_toArray, List.set_cons_zero, List.set_cons_succ]
    refine wpAnyH_take (i := 3) (oi := { dst := some 85, op := Op.fieldAddr 100 (Operand.tmp 84) 0, type := 0, pos := "decree.go:241", after := #[{ on := 2, ground := Ground.data }], guard := none }) (v := ?_) rfl (by kernel_rfl) (by kernel_rfl) (by kernel_rfl) (fun _ _ _ h => h) (Or.inl ⟨by rfl, ?_⟩) (by assumption) ?_
    rotate_left
    · (intro wq hSw; (try dsimp only at hSw); go_simp; first | done | with_reducible rfl)
    try simp only [Act.put, List.setIfInBounds_toArray, List.set_cons_zero, List.set_cons_succ]
    refine wpAnyH_take (i := 4) (oi := { dst := some 86, op := Op.load 3 (Operand.tmp 85), type := 3, pos := "decree.go:241", after := #[{ on := 3, ground := Ground.data }], guard := none }) (v := ?_) rfl (by kernel_rfl) (by kernel_rfl) (by kernel_rfl) (fun _ _ _ h => h) (Or.inl ⟨by rfl, ?_⟩) (by assumption) ?_
    rotate_left
    · (intro wq hSw; (try dsimp only at hSw); go_simp; first | done | with_reducible rfl)
    try simp only [Act.put, List.setIfInBounds_toArray, List.set_cons_zero, List.set_cons_succ]
    refine wpAnyH_take (i := 5) (oi := { dst := some 87, op := Op.move (Operand.tmp 8), type := 98, pos := "decree.go:241", after := #[], guard := none }) (v := ?_) rfl (by kernel_rfl) (by kernel_rfl) (by kernel_rfl) (fun _ _ _ h => h) (Or.inl ⟨by rfl, ?_⟩) (by assumption) ?_
    rotate_left
    · (intro wq hSw; (try dsimp only at hSw); go_simp; first | done | with_reducible rfl)
    try simp only [Act.put, List.setIfInBounds_toArray, List.set_cons_zero, List.set_cons_succ]
    refine wpAnyH_take (i := 6) (oi := { dst := some 88, op := Op.nilCheck (Operand.tmp 87), type := 0, pos := "decree.go:241", after := #[{ on := 5, ground := Ground.data }], guard := none }) (v := ?_) rfl (by kernel_rfl) (by kernel_rfl) (by kernel_rfl) (fun _ _ _ h => h) (Or.inl ⟨by rfl, ?_⟩) (by assumption) ?_
    rotate_left
    · (intro wq hSw; (try dsimp only at hSw); go_simp; first | done | with_reducible rfl)
    try simp only [Act.put, List.setIfInBounds_toArray, List.set_cons_zero, List.set_cons_succ]
    refine wpAnyH_take (i := 7) (oi := { dst := some 89, op := Op.fieldAddr 104 (Operand.tmp 88) 0, type := 0, pos := "decree.go:241", after := #[{ on := 6, ground := Ground.data }], guard := none }) (v := ?_) rfl (by kernel_rfl) (by kernel_rfl) (by kernel_rfl) (fun _ _ _ h => h) (Or.inl ⟨by rfl, ?_⟩) (by assumption) ?_
    rotate_left
    · (intro wq hSw; (try dsimp only at hSw); go_simp; first | done | with_reducible rfl)
    try simp only [Act.put, List.setIfInBounds_toArray, List.set_cons_zero, List.set_cons_succ]
    refine wpAnyH_take (i := 8) (oi := { dst := some 90, op := Op.load 29 (Operand.tmp 89), type := 29, pos := "decree.go:241", after := #[{ on := 7, ground := Ground.data }], guard := none }) (v := ?_) rfl (by kernel_rfl) (by kernel_rfl) (by kernel_rfl) (fun _ _ _ h => h) (Or.inl ⟨by rfl, ?_⟩) (by assumption) ?_
    rotate_left
    · (intro wq hSw; (try dsimp only at hSw); go_simp; first | done | with_reducible rfl)
    try simp only [Act.put, List.setIfInBounds_toArray, List.set_cons_zero, List.set_cons_succ]
    refine wpAnyH_take (i := 9) (oi := { dst := some 91, op := Op.move (Operand.tmp 8), type := 98, pos := "decree.go:241", after := #[], guard := none }) (v := ?_) rfl (by kernel_rfl) (by kernel_rfl) (by kernel_rfl) (fun _ _ _ h => h) (Or.inl ⟨by rfl, ?_⟩) (by assumption) ?_
    rotate_left
    · (intro wq hSw; (try dsimp only at hSw); go_simp; first | done | with_reducible rfl)
    try simp only [Act.put, List.setIfInBounds_toArray, List.set_cons_zero, List.set_cons_succ]
    refine wpAnyH_take (i := 10) (oi := { dst := some 92, op := Op.nilCheck (Operand.tmp 91), type := 0, pos := "decree.go:241", after := #[{ on := 9, ground := Ground.data }], guard := none }) (v := ?_) rfl (by kernel_rfl) (by kernel_rfl) (by kernel_rfl) (fun _ _ _ h => h) (Or.inl ⟨by rfl, ?_⟩) (by assumption) ?_
    rotate_left
    · (intro wq hSw; (try dsimp only at hSw); go_simp; first | done | with_reducible rfl)
    try simp only [Act.put, List.setIfInBounds_toArray, List.set_cons_zero, List.set_cons_succ]
    refine wpAnyH_take (i := 11) (oi := { dst := some 93, op := Op.fieldAddr 104 (Operand.tmp 92) 1, type := 0, pos := "decree.go:241", after := #[{ on := 10, ground := Ground.data }], guard := none }) (v := ?_) rfl (by kernel_rfl) (by kernel_rfl) (by kernel_rfl) (fun _ _ _ h => h) (Or.inl ⟨by rfl, ?_⟩) (by assumption) ?_
    rotate_left
    · (intro wq hSw; (try dsimp only at hSw); go_simp; first | done | with_reducible rfl)
    try simp only [Act.put, List.setIfInBounds_toArray, List.set_cons_zero, List.set_cons_succ]
    refine wpAnyH_take (i := 12) (oi := { dst := some 94, op := Op.load 31 (Operand.tmp 93), type := 31, pos := "decree.go:241", after := #[{ on := 11, ground := Ground.data }], guard := none }) (v := ?_) rfl (by kernel_rfl) (by kernel_rfl) (by kernel_rfl) (fun _ _ _ h => h) (Or.inl ⟨by rfl, ?_⟩) (by assumption) ?_
    rotate_left
    · (intro wq hSw; (try dsimp only at hSw); go_simp; first | done | with_reducible rfl)
    try simp only [Act.put, List.setIfInBounds_toArray, List.set_cons_zero, List.set_cons_succ]
    refine wpAnyH_take (i := 13) (oi := { dst := some 95, op := Op.move (Operand.tmp 8), type := 98, pos := "decree.go:241", after := #[], guard := none }) (v := ?_) rfl (by kernel_rfl) (by kernel_rfl) (by kernel_rfl) (fun _ _ _ h => h) (Or.inl ⟨by rfl, ?_⟩) (by assumption) ?_
    rotate_left
    · (intro wq hSw; (try dsimp only at hSw); go_simp; first | done | with_reducible rfl)
    try simp only [Act.put, List.setIfInBounds_toArray, List.set_cons_zero, List.set_cons_succ]
    refine wpAnyH_take (i := 14) (oi := { dst := some 96, op := Op.nilCheck (Operand.tmp 95), type := 0, pos := "decree.go:241", after := #[{ on := 13, ground := Ground.data }], guard := none }) (v := ?_) rfl (by kernel_rfl) (by kernel_rfl) (by kernel_rfl) (fun _ _ _ h => h) (Or.inl ⟨by rfl, ?_⟩) (by assumption) ?_
    rotate_left
    · (intro wq hSw; (try dsimp only at hSw); go_simp; first | done | with_reducible rfl)
    try simp only [Act.put, List.setIfInBounds_toArray, List.set_cons_zero, List.set_cons_succ]
    refine wpAnyH_take (i := 15) (oi := { dst := some 97, op := Op.fieldAddr 104 (Operand.tmp 96) 5, type := 0, pos := "decree.go:241", after := #[{ on := 14, ground := Ground.data }], guard := none }) (v := ?_) rfl (by kernel_rfl) (by kernel_rfl) (by kernel_rfl) (fun _ _ _ h => h) (Or.inl ⟨by rfl, ?_⟩) (by assumption) ?_
    rotate_left
    · (intro wq hSw; (try dsimp only at hSw); go_simp; first | done | with_reducible rfl)
    try simp only [Act.put, List.setIfInBounds_toArray, List.set_cons_zero, List.set_cons_succ]
    refine wpAnyH_take (i := 16) (oi := { dst := some 98, op := Op.load 9 (Operand.tmp 97), type := 9, pos := "decree.go:241", after := #[{ on := 15, ground := Ground.data }], guard := none }) (v := ?_) rfl (by kernel_rfl) (by kernel_rfl) (by kernel_rfl) (fun _ _ _ h => h) (Or.inl ⟨by rfl, ?_⟩) (by assumption) ?_
    rotate_left
    · (intro wq hSw; (try dsimp only at hSw); go_simp; first | done | with_reducible rfl)
    try simp only [Act.put, List.setIfInBounds_toArray, List.set_cons_zero, List.set_cons_succ]
    refine wpAnyH_take (i := 17) (oi := { dst := some 99, op := Op.build 107 #[(0, Operand.const (Value.int IntKind.i64 2)), (1, Operand.tmp 90), (2, Operand.tmp 94), (3, Operand.tmp 98)], type := 107, pos := "decree.go:241", after := #[{ on := 8, ground := Ground.data }, { on := 12, ground := Ground.data }, { on := 16, ground := Ground.data }], guard := none }) (v := ?_) rfl (by kernel_rfl) (by kernel_rfl) (by kernel_rfl) (fun _ _ _ h => h) (Or.inl ⟨by rfl, ?_⟩) (by assumption) ?_
    rotate_left
    · (intro wq hSw; (try dsimp only at hSw); go_simp; first | done | with_reducible rfl)
    try simp only [Act.put, List.setIfInBounds_toArray, List.set_cons_zero, List.set_cons_succ]
    refine wpAnyH_take (i := 18) (oi := { dst := some 100, op := Op.move (Operand.tmp 1), type := 95, pos := "decree.go:241", after := #[], guard := none }) (v := ?_) rfl (by kernel_rfl) (by kernel_rfl) (by kernel_rfl) (fun _ _ _ h => h) (Or.inl ⟨by rfl, ?_⟩) (by assumption) ?_
    rotate_left
    · (intro wq hSw; (try dsimp only at hSw); go_simp; first | done | with_reducible rfl)
    try simp only [Act.put, List.setIfInBounds_toArray, List.set_cons_zero, List.set_cons_succ]
    refine wpAnyH_take (i := 19) (oi := { dst := some 101, op := Op.makeFunc (Fn.func 49) #[Operand.tmp 100] #[], type := 108, pos := "decree.go:241", after := #[{ on := 18, ground := Ground.data }], guard := none }) (v := ?_) rfl (by kernel_rfl) (by kernel_rfl) (by kernel_rfl) (fun _ _ _ h => h) (Or.inl ⟨by rfl, ?_⟩) (by assumption) ?_
    rotate_left
    · (intro wq hSw; (try dsimp only at hSw); go_simp; first | done | with_reducible rfl)
    try simp only [Act.put, List.setIfInBounds_toArray, List.set_cons_zero, List.set_cons_succ]
    refine wpAnyH_ready (rs := [20]) (by kernel_rfl) (by simp) ?_
    refine AllReadyH.cons (o := { dst := some 102, op := Op.call { callee := Callee.value (Operand.func 48), args := #[Operand.tmp 82, Operand.tmp 86, Operand.tmp 99, Operand.tmp 101], argTypes := #[53, 3, 107, 108] }, type := 0, pos := "decree.go:241", after := #[{ on := 0, ground := Ground.data }, { on := 4, ground := Ground.data }, { on := 17, ground := Ground.data }, { on := 19, ground := Ground.data }], guard := none }) rfl (fun K hK => ?_) AllReadyH.nil
    go_simp
    refine HAL.out.mono ?_
    rintro e w11 ⟨rfl, v11, hg11, hu11, hv11⟩
    have ka := fun o => keepC hu11 (b := L.nb i) HNB.out.1 HNB.out.2 o
    have kb := fun o => keepC hu11 (b := P.pb) HPB.out.1 HPB.out.2 o
    refine hK.out _ _ ?_ (fun hHeld => ?_)
    · exact ⟨ka, kb⟩
    clear hK K
    try simp only [Act.put, List.setIfInBounds_toArray, List.set_cons_zero, List.set_cons_succ]
    refine wpAnyH_done (by kernel_rfl) ?_ _
    clear hHeld
    have hs11 : SdPost w10.drew gp n B _ _ _ w11 := ⟨v11, hg11, hu11, hv11⟩
    have HS11 := Lib.hid hs11
    clear hg11 hu11 hv11 hs11 ka kb
    go_wp2_with fail
    go_end0
    refine ⟨rfl, GrPost.pre HN1.out (GrPost.trans HGR10.out.1 HGR10.out.2 (GrPost.pre (New.refl w10).drew ?_))⟩
    have := HS11.out.gr
    rw [filter_all] at this
    exact this
end
end Go.Proofs.Ytghhcjpilcoblaa
