/- Chapter 22 (decree): what a node says that is asked. Printed by genDn5.py. -/
import Derived.Test.YtghhcjpilcoblaaDn4
import Derived.Deep.RegionHeld3
import Derived.Deep.QuietTactic
import Derived.BigQuiet
namespace Go.Proofs.Ytghhcjpilcoblaa
open Go.RowKit Go.Lap
set_option linter.unusedVariables false
section
variable {w w' w'' : World} {S F G : Nat → Prop} {am lm nb B : Nat} {ab : Nat → Nat} {ac : Nat → Option Acr} {lg : Nat → Option ByteArray} {id : Int} {L : NdL} {x : Nod}
theorem Blk4F {w : World} {g t : Nat} {a b c d : Value} (h : Blk w g t #[a, b, c, d]) : g < w.heap.size ∧ w.cell? ⟨g, 0, none⟩ = some a ∧ w.cell? ⟨g, 1, none⟩ = some b ∧ w.cell? ⟨g, 2, none⟩ = some c ∧ w.cell? ⟨g, 3, none⟩ = some d ∧ (∀ i, w.frozen? ⟨g, i, none⟩ = false) := ⟨h.lt, h.cell 0, h.cell 1, h.cell 2, h.cell 3, h.frozen⟩
/-- 'v, ok := m[k]' as a run. -/
theorem mpGetOk {P : Program} {kt t e b m : Nat} {κ : Type} [DecidableEq κ] {val : κ → Value} {lit : κ → Lit} {ok : κ → Prop} {w : World} {f : κ → Option Value} (B : KeyB P kt val lit ok) (h : MpAt P kt lit ok w b m f) (ht : P.underlying t = some (.map kt e)) {z : Value} (hz : (zeroValue e).run P w = .ok z w) (k : κ) (hk : ok k) :
    (Instr.lookup t (.map (some b)) (val k) true).run P w = .ok (.tuple #[(f k).getD z, .bool (f k).isSome]) w := by
  obtain ⟨D, h1, h2, h3, h4⟩ := id h
  obtain ⟨v, ps, hrun, hv⟩ := h1.look_ok B.keyed ht hz (zd := .held z) (zp := []) rfl (B.read k hk)
  rw [h.value (h4 k hk) hv, (h4 k hk).1] at hrun
  exact hrun
theorem mpGet {P : Program} {kt t e b m : Nat} {κ : Type} [DecidableEq κ] {val : κ → Value} {lit : κ → Lit} {ok : κ → Prop} {w : World} {f : κ → Option Value} (B : KeyB P kt val lit ok) (h : MpAt P kt lit ok w b m f) (ht : P.underlying t = some (.map kt e)) {z : Value} (hz : (zeroValue e).run P w = .ok z w) (k : κ) (hk : ok k) :
    (Instr.lookup t (.map (some b)) (val k) false).run P w = .ok ((f k).getD z) w := by
  obtain ⟨D, h1, h2, h3, h4⟩ := id h
  obtain ⟨v, ps, hrun, hv⟩ := h1.lookup B.keyed ht hz (zd := .held z) (zp := []) rfl (B.read k hk)
  rw [h.value (h4 k hk) hv] at hrun
  exact hrun
def AskPost (w : World) (F : Nat → Prop) (nb : Nat) (id : Int) (B : Nat) (r : Nod × Msg) (e : Ending) (w' : World) : Prop := e = .returned r.2.val ∧ NPost w F nb id B r.1 w'
theorem asked_known {m : Msg} {v : ByteArray} (h : x.lg m.s = some v) : x.asked m = (x, mLearn m.s v) := by unfold Nod.asked; rw [h]
theorem asked_ref {m : Msg} (h : x.lg m.s = none) (hl : lessB m.r m.n (x.acr m.s).r (x.acr m.s).n = true) : x.asked m = ({ x with ac := set x.ac m.s (some (x.acr m.s)) }, mRef m.s (x.acr m.s).r (x.acr m.s).n) := by unfold Nod.asked; rw [h]; simp [hl]
theorem asked_prom {m : Msg} (h : x.lg m.s = none) (hl : lessB m.r m.n (x.acr m.s).r (x.acr m.s).n = false) (hk : m.k = 0) : x.asked m = ({ x with ac := set x.ac m.s (some { x.acr m.s with r := m.r, n := m.n }) }, mProm m.s m.r m.n (x.acr m.s)) := by unfold Nod.asked; rw [h]; simp [hl, hk]
theorem asked_acc {m : Msg} (h : x.lg m.s = none) (hl : lessB m.r m.n (x.acr m.s).r (x.acr m.s).n = false) (hk : m.k ≠ 0) : x.asked m = ({ x with ac := set x.ac m.s (some ⟨m.r, m.n, true, m.r, m.n, m.v⟩) }, mAcc m.s m.r m.n) := by unfold Nod.asked; rw [h]; simp [hl, hk]
set_option maxRecDepth 100000 in
set_option maxHeartbeats 8000000 in
theorem nasked_known (h : NdAt w F nb id B L x) (m : Msg) (hs : m.s < 18446744073709551616) (hB : B ≤ 1000000000000) (hF : ∀ k, F k → k < w.heap.size) {v : ByteArray} (hl : x.lg m.s = some v) :
    Calls Try.prog 64 #[.pointer (some ⟨nb, 0, none⟩), m.val] w (AskPost w F nb id (B + 1) (x.asked m)) := by
  rw [asked_known hl]
  obtain ⟨mk, ms, mr, mn, mv, mh, mhr, mhn, mhv⟩ := m
  dsimp only at hs hl ⊢
  have hN := ((New.refl w).alloc (.cells #[.int .i64 (mk : Int), .int .u64 (ms : Int), .int .u64 (mr : Int), .int .u64 (mn : Int), .string mv, .bool mh, .int .u64 (mhr : Int), .int .u64 (mhn : Int), .string mhv] 107)).alloc (.cells #[.int .i64 0, .int .u64 0, .int .u64 0, .int .u64 0, .string ⟨#[]⟩, .bool false, .int .u64 0, .int .u64 0, .string ⟨#[]⟩] 107)
  have hM := (Blk.mk_new w 107 #[.int .i64 (mk : Int), .int .u64 (ms : Int), .int .u64 (mr : Int), .int .u64 (mn : Int), .string mv, .bool mh, .int .u64 (mhr : Int), .int .u64 (mhn : Int), .string mhv]).alloc (.cells #[.int .i64 0, .int .u64 0, .int .u64 0, .int .u64 0, .string ⟨#[]⟩, .bool false, .int .u64 0, .int .u64 0, .string ⟨#[]⟩] 107)
  have hZ := Blk.mk_new (w.alloc (.cells #[.int .i64 (mk : Int), .int .u64 (ms : Int), .int .u64 (mr : Int), .int .u64 (mn : Int), .string mv, .bool mh, .int .u64 (mhr : Int), .int .u64 (mhn : Int), .string mhv] 107)) 107 #[.int .i64 0, .int .u64 0, .int .u64 0, .int .u64 0, .string ⟨#[]⟩, .bool false, .int .u64 0, .int .u64 0, .string ⟨#[]⟩]
  rw [World.size_alloc] at hZ
  have h1 := h.new hN
  have HH := Lib.hid h
  have HN := Lib.hid hN
  obtain ⟨ml, hml, hmp⟩ := h1.lg
  have HLK := Lib.hid (mpGetOk keyS64 (MpAt.new hmp (New.refl _).drew) Try.underlying97 (zeroS _) ms (okU_lt hs))
  rw [show lgV x.lg ms = some (.string v) by unfold lgV; rw [hl]; rfl] at HLK
  obtain ⟨g0, c0, c1, c2, c3, c4, c5, cz⟩ := Blk6F h1.blk
  obtain ⟨p0, a0, a1, a2, a3, a4, a5, a6, a7, a8, az⟩ := Blk9F hM
  obtain ⟨q0, b0, b1, b2, b3, b4, b5, b6, b7, b8, bz⟩ := Blk9F hZ
  have HF := Lib.hid hF
  clear hl h h1 hN hmp hM hF
  go_enter Try.func64, Try.ntmps64
  go_wp2_with fail
  generalize ((w.alloc (.cells #[.int .i64 (mk : Int), .int .u64 (ms : Int), .int .u64 (mr : Int), .int .u64 (mn : Int), .string mv, .bool mh, .int .u64 (mhr : Int), .int .u64 (mhn : Int), .string mhv] 107)).alloc (.cells #[.int .i64 0, .int .u64 0, .int .u64 0, .int .u64 0, .string ⟨#[]⟩, .bool false, .int .u64 0, .int .u64 0, .string ⟨#[]⟩] 107)) = wz at *
  have hlk := HLK.out
  dsimp only [Option.isSome, Option.getD] at hlk
  refine wp_region_held_drew (S := fun w' => w' = wz.drew) (by kernel_rfl) (rfl) (fun hHeld => ?_)
  refine wpAnyH_take (i := 0) (oi := { dst := some 12, op := Op.move (Operand.tmp 0), type := 95, pos := "decree.go:208", after := #[], guard := none }) (v := ?_) rfl (by kernel_rfl) (by kernel_rfl) (by kernel_rfl) (fun _ _ _ h => h) (Or.inl ⟨by rfl, ?_⟩) (by assumption) ?_
  rotate_left
  · (intro wq hSw; (try dsimp only at hSw); go_simp; first | done | with_reducible rfl)
  try simp only [Act.put, List.setIfInBounds_toArray, List.set_cons_zero, List.set_cons_succ]
  refine wpAnyH_take (i := 1) (oi := { dst := some 13, op := Op.nilCheck (Operand.tmp 12), type := 0, pos := "decree.go:208", after := #[{ on := 0, ground := Ground.data }], guard := none }) (v := ?_) rfl (by kernel_rfl) (by kernel_rfl) (by kernel_rfl) (fun _ _ _ h => h) (Or.inl ⟨by rfl, ?_⟩) (by assumption) ?_
  rotate_left
  · (intro wq hSw; (try dsimp only at hSw); go_simp; first | done | with_reducible rfl)
  try simp only [Act.put, List.setIfInBounds_toArray, List.set_cons_zero, List.set_cons_succ]
  refine wpAnyH_take (i := 2) (oi := { dst := some 14, op := Op.fieldAddr 100 (Operand.tmp 13) 2, type := 0, pos := "decree.go:208", after := #[{ on := 1, ground := Ground.data }], guard := none }) (v := ?_) rfl (by kernel_rfl) (by kernel_rfl) (by kernel_rfl) (fun _ _ _ h => h) (Or.inl ⟨by rfl, ?_⟩) (by assumption) ?_
  rotate_left
  · (intro wq hSw; (try dsimp only at hSw); go_simp; first | done | with_reducible rfl)
  try simp only [Act.put, List.setIfInBounds_toArray, List.set_cons_zero, List.set_cons_succ]
  refine wpAnyH_take (i := 3) (oi := { dst := some 15, op := Op.load 97 (Operand.tmp 14), type := 97, pos := "decree.go:208", after := #[{ on := 2, ground := Ground.data }], guard := none }) (v := ?_) rfl (by kernel_rfl) (by kernel_rfl) (by kernel_rfl) (fun _ _ _ h => h) (Or.inl ⟨by rfl, ?_⟩) (by assumption) ?_
  rotate_left
  · (intro wq hSw; (try dsimp only at hSw); go_simp; first | done | with_reducible rfl)
  try simp only [Act.put, List.setIfInBounds_toArray, List.set_cons_zero, List.set_cons_succ]
  refine wpAnyH_take (i := 4) (oi := { dst := some 16, op := Op.fieldAddr 107 (Operand.tmp 3) 1, type := 0, pos := "decree.go:208", after := #[], guard := none }) (v := ?_) rfl (by kernel_rfl) (by kernel_rfl) (by kernel_rfl) (fun _ _ _ h => h) (Or.inl ⟨by rfl, ?_⟩) (by assumption) ?_
  rotate_left
  · (intro wq hSw; (try dsimp only at hSw); go_simp; first | done | with_reducible rfl)
  try simp only [Act.put, List.setIfInBounds_toArray, List.set_cons_zero, List.set_cons_succ]
  refine wpAnyH_take (i := 5) (oi := { dst := some 17, op := Op.load 29 (Operand.tmp 16), type := 29, pos := "decree.go:208", after := #[{ on := 4, ground := Ground.data }], guard := none }) (v := ?_) rfl (by kernel_rfl) (by kernel_rfl) (by kernel_rfl) (fun _ _ _ h => h) (Or.inl ⟨by rfl, ?_⟩) (by assumption) ?_
  rotate_left
  · (intro wq hSw; (try dsimp only at hSw); go_simp; first | done | with_reducible rfl)
  try simp only [Act.put, List.setIfInBounds_toArray, List.set_cons_zero, List.set_cons_succ]
  refine wpAnyH_take (i := 6) (oi := { dst := some 18, op := Op.lookup 97 (Operand.tmp 15) (Operand.tmp 17) true, type := 122, pos := "decree.go:208", after := #[{ on := 3, ground := Ground.data }, { on := 5, ground := Ground.data }], guard := none }) (v := ?_) rfl (by kernel_rfl) (by kernel_rfl) (by kernel_rfl) (fun _ _ _ h => h) (Or.inl ⟨by rfl, ?_⟩) (by assumption) ?_
  rotate_left
  · (intro wq hSw; (try dsimp only at hSw); go_simp; first | done | with_reducible rfl)
  try simp only [Act.put, List.setIfInBounds_toArray, List.set_cons_zero, List.set_cons_succ]
  refine wpAnyH_take (i := 7) (oi := { dst := some 11, op := Op.move (Operand.tmp 18), type := 122, pos := "decree.go:208", after := #[{ on := 6, ground := Ground.data }], guard := none }) (v := ?_) rfl (by kernel_rfl) (by kernel_rfl) (by kernel_rfl) (fun _ _ _ h => h) (Or.inl ⟨by rfl, ?_⟩) (by assumption) ?_
  rotate_left
  · (intro wq hSw; (try dsimp only at hSw); go_simp; first | done | with_reducible rfl)
  try simp only [Act.put, List.setIfInBounds_toArray, List.set_cons_zero, List.set_cons_succ]
  refine wpAnyH_take (i := 8) (oi := { dst := some 19, op := Op.extract (Operand.tmp 11) 0, type := 9, pos := "decree.go:208", after := #[{ on := 7, ground := Ground.data }], guard := none }) (v := ?_) rfl (by kernel_rfl) (by kernel_rfl) (by kernel_rfl) (fun _ _ _ h => h) (Or.inl ⟨by rfl, ?_⟩) (by assumption) ?_
  rotate_left
  · (intro wq hSw; (try dsimp only at hSw); go_simp; first | done | with_reducible rfl)
  try simp only [Act.put, List.setIfInBounds_toArray, List.set_cons_zero, List.set_cons_succ]
  refine wpAnyH_take (i := 9) (oi := { dst := some 20, op := Op.extract (Operand.tmp 11) 1, type := 4, pos := "decree.go:208", after := #[{ on := 7, ground := Ground.data }, { on := 10, ground := Ground.gcOnly Departure.lateStores }], guard := none }) (v := ?_) rfl (by kernel_rfl) (by kernel_rfl) (by kernel_rfl) (fun _ _ _ h => h) (Or.inl ⟨by rfl, ?_⟩) (by assumption) ?_
  rotate_left
  · (intro wq hSw; (try dsimp only at hSw); go_simp; first | done | with_reducible rfl)
  try simp only [Act.put, List.setIfInBounds_toArray, List.set_cons_zero, List.set_cons_succ]
  refine wpAnyH_take (i := 10) (oi := { dst := some 5, op := Op.assign (Operand.tmp 19), type := 9, pos := "decree.go:208", after := #[{ on := 8, ground := Ground.data }, { on := 0, ground := Ground.phase }, { on := 1, ground := Ground.phase }, { on := 2, ground := Ground.phase }, { on := 3, ground := Ground.phase }, { on := 4, ground := Ground.phase }, { on := 5, ground := Ground.phase }, { on := 6, ground := Ground.phase }, { on := 7, ground := Ground.phase }, { on := 8, ground := Ground.phase }, { on := 9, ground := Ground.textOnly Departure.lateStores }], guard := none }) (v := ?_) rfl (by kernel_rfl) (by kernel_rfl) (by kernel_rfl) (fun _ _ _ h => h) (Or.inl ⟨by rfl, ?_⟩) (by assumption) ?_
  rotate_left
  · (intro wq hSw; (try dsimp only at hSw); go_simp; first | done | with_reducible rfl)
  try simp only [Act.put, List.setIfInBounds_toArray, List.set_cons_zero, List.set_cons_succ]
  refine wpAnyH_take (i := 11) (oi := { dst := some 6, op := Op.assign (Operand.tmp 20), type := 4, pos := "decree.go:208", after := #[{ on := 9, ground := Ground.data }, { on := 10, ground := Ground.chain }, { on := 0, ground := Ground.phase }, { on := 1, ground := Ground.phase }, { on := 2, ground := Ground.phase }, { on := 3, ground := Ground.phase }, { on := 4, ground := Ground.phase }, { on := 5, ground := Ground.phase }, { on := 6, ground := Ground.phase }, { on := 7, ground := Ground.phase }, { on := 8, ground := Ground.phase }, { on := 9, ground := Ground.phase }, { on := 10, ground := Ground.phase }], guard := none }) (v := ?_) rfl (by kernel_rfl) (by kernel_rfl) (by kernel_rfl) (fun _ _ _ h => h) (Or.inl ⟨by rfl, ?_⟩) (by assumption) ?_
  rotate_left
  · (intro wq hSw; (try dsimp only at hSw); go_simp; first | done | with_reducible rfl)
  try simp only [Act.put, List.setIfInBounds_toArray, List.set_cons_zero, List.set_cons_succ]
  refine wpAnyH_done (by kernel_rfl) ?_ _
  clear hHeld hlk HLK
  have hn : New w (((((((((wz.setCell ⟨w.heap.size + 1, 0, none⟩ (.int .i64 5)).setCell ⟨w.heap.size + 1, 1, none⟩ (.int .u64 (ms : Int))).setCell ⟨w.heap.size + 1, 2, none⟩ (.int .u64 0)).setCell ⟨w.heap.size + 1, 3, none⟩ (.int .u64 0)).setCell ⟨w.heap.size + 1, 4, none⟩ (.string v)).setCell ⟨w.heap.size + 1, 5, none⟩ (.bool false)).setCell ⟨w.heap.size + 1, 6, none⟩ (.int .u64 0)).setCell ⟨w.heap.size + 1, 7, none⟩ (.int .u64 0)).setCell ⟨w.heap.size + 1, 8, none⟩ (.string ⟨#[]⟩)).drew := (((((((((HN.out.setCell (p := ⟨w.heap.size + 1, 0, none⟩) (by simp) (.int .i64 5)).setCell (p := ⟨w.heap.size + 1, 1, none⟩) (by simp) (.int .u64 (ms : Int))).setCell (p := ⟨w.heap.size + 1, 2, none⟩) (by simp) (.int .u64 0)).setCell (p := ⟨w.heap.size + 1, 3, none⟩) (by simp) (.int .u64 0)).setCell (p := ⟨w.heap.size + 1, 4, none⟩) (by simp) (.string v)).setCell (p := ⟨w.heap.size + 1, 5, none⟩) (by simp) (.bool false)).setCell (p := ⟨w.heap.size + 1, 6, none⟩) (by simp) (.int .u64 0)).setCell (p := ⟨w.heap.size + 1, 7, none⟩) (by simp) (.int .u64 0)).setCell (p := ⟨w.heap.size + 1, 8, none⟩) (by simp) (.string ⟨#[]⟩)).drew
  have HNN := Lib.hid hn
  clear hn
  go_wp2_with fail
  exact bodyPost_ret (v := .agg #[.int .i64 5, .int .u64 (ms : Int), .int .u64 0, .int .u64 0, .string v, .bool false, .int .u64 0, .int .u64 0, .string ⟨#[]⟩]) (by simp [results, Try.results64, go_sem, b0, b1, b2, b3, b4, b5, b6, b7, b8]) rfl ⟨rfl, F, L, (HH.out.new HNN.out).mono (fun _ h => h) (by omega), fun _ h => .inl h, Upd.new HNN.out⟩
set_option maxRecDepth 100000 in
set_option maxHeartbeats 8000000 in
theorem nasked_prom (h : NdAt w F nb id B L x) (m : Msg) (hs : m.s < 18446744073709551616) (hB : B ≤ 1000000000000) (hF : ∀ k, F k → k < w.heap.size) (hl : x.lg m.s = none) (hk : m.k = 0) {a : Acr} (ha : x.acr m.s = a) (hle : lessB m.r m.n a.r a.n = false) :
    Calls Try.prog 64 #[.pointer (some ⟨nb, 0, none⟩), m.val] w (AskPost w F nb id (B + 1) (x.asked m)) := by
  rw [asked_prom hl (by rw [ha]; exact hle) hk, ha]
  obtain ⟨mk, ms, mr, mn, mv, mh, mhr, mhn, mhv⟩ := m
  dsimp only at hs hl hk hle ha ⊢
  subst hk
  have hN := ((New.refl w).alloc (.cells #[.int .i64 ((0 : Nat) : Int), .int .u64 (ms : Int), .int .u64 (mr : Int), .int .u64 (mn : Int), .string mv, .bool mh, .int .u64 (mhr : Int), .int .u64 (mhn : Int), .string mhv] 107)).alloc (.cells #[.int .i64 0, .int .u64 0, .int .u64 0, .int .u64 0, .string ⟨#[]⟩, .bool false, .int .u64 0, .int .u64 0, .string ⟨#[]⟩] 107)
  have hM := (Blk.mk_new w 107 #[.int .i64 ((0 : Nat) : Int), .int .u64 (ms : Int), .int .u64 (mr : Int), .int .u64 (mn : Int), .string mv, .bool mh, .int .u64 (mhr : Int), .int .u64 (mhn : Int), .string mhv]).alloc (.cells #[.int .i64 0, .int .u64 0, .int .u64 0, .int .u64 0, .string ⟨#[]⟩, .bool false, .int .u64 0, .int .u64 0, .string ⟨#[]⟩] 107)
  have hZ := Blk.mk_new (w.alloc (.cells #[.int .i64 ((0 : Nat) : Int), .int .u64 (ms : Int), .int .u64 (mr : Int), .int .u64 (mn : Int), .string mv, .bool mh, .int .u64 (mhr : Int), .int .u64 (mhn : Int), .string mhv] 107)) 107 #[.int .i64 0, .int .u64 0, .int .u64 0, .int .u64 0, .string ⟨#[]⟩, .bool false, .int .u64 0, .int .u64 0, .string ⟨#[]⟩]
  rw [World.size_alloc] at hZ
  have h1 := h.new hN
  have HH := Lib.hid h
  have HN := Lib.hid hN
  obtain ⟨ml, hml, hmp⟩ := h1.lg
  have HLK := Lib.hid (mpGetOk keyS64 (MpAt.new hmp (New.refl _).drew) Try.underlying97 (zeroS _) ms (okU_lt hs))
  rw [show lgV x.lg ms = none from lgV_none _ _ hl] at HLK
  obtain ⟨g0, c0, c1, c2, c3, c4, c5, cz⟩ := Blk6F h1.blk
  obtain ⟨p0, a0, a1, a2, a3, a4, a5, a6, a7, a8, az⟩ := Blk9F hM
  obtain ⟨q0, b0, b1, b2, b3, b4, b5, b6, b7, b8, bz⟩ := Blk9F hZ
  have hwz : w.heap.size + 2 = ((w.alloc (.cells #[.int .i64 ((0 : Nat) : Int), .int .u64 (ms : Int), .int .u64 (mr : Int), .int .u64 (mn : Int), .string mv, .bool mh, .int .u64 (mhr : Int), .int .u64 (mhn : Int), .string mhv] 107)).alloc (.cells #[.int .i64 0, .int .u64 0, .int .u64 0, .int .u64 0, .string ⟨#[]⟩, .bool false, .int .u64 0, .int .u64 0, .string ⟨#[]⟩] 107)).heap.size := by simp
  have HWZ := Lib.hid hwz
  have HL := Lib.hid hl
  have HF := Lib.hid hF
  have H1 := Lib.hid h1
  have HM1 := Lib.hid hM
  have HZ1 := Lib.hid hZ
  clear hl h hmp hM hwz hZ hF hN h1
  go_enter Try.func64, Try.ntmps64
  go_wp2_with fail
  generalize ((w.alloc (.cells #[.int .i64 ((0 : Nat) : Int), .int .u64 (ms : Int), .int .u64 (mr : Int), .int .u64 (mn : Int), .string mv, .bool mh, .int .u64 (mhr : Int), .int .u64 (mhn : Int), .string mhv] 107)).alloc (.cells #[.int .i64 0, .int .u64 0, .int .u64 0, .int .u64 0, .string ⟨#[]⟩, .bool false, .int .u64 0, .int .u64 0, .string ⟨#[]⟩] 107)) = wz at *
  have hlk := HLK.out
  dsimp only [Option.isSome, Option.getD] at hlk
  refine wp_region_held_drew (S := fun w' => w' = wz.drew) (by kernel_rfl) (rfl) (fun hHeld => ?_)
  refine wpAnyH_take (i := 0) (oi := { dst := some 12, op := Op.move (Operand.tmp 0), type := 95, pos := "decree.go:208", after := #[], guard := none }) (v := ?_) rfl (by kernel_rfl) (by kernel_rfl) (by kernel_rfl) (fun _ _ _ h => h) (Or.inl ⟨by rfl, ?_⟩) (by assumption) ?_
  rotate_left
  · (intro wq hSw; (try dsimp only at hSw); go_simp; first | done | with_reducible rfl)
  try simp only [Act.put, List.setIfInBounds_toArray, List.set_cons_zero, List.set_cons_succ]
  refine wpAnyH_take (i := 1) (oi := { dst := some 13, op := Op.nilCheck (Operand.tmp 12), type := 0, pos := "decree.go:208", after := #[{ on := 0, ground := Ground.data }], guard := none }) (v := ?_) rfl (by kernel_rfl) (by kernel_rfl) (by kernel_rfl) (fun _ _ _ h => h) (Or.inl ⟨by rfl, ?_⟩) (by assumption) ?_
  rotate_left
  · (intro wq hSw; (try dsimp only at hSw); go_simp; first | done | with_reducible rfl)
  try simp only [Act.put, List.setIfInBounds_toArray, List.set_cons_zero, List.set_cons_succ]
  refine wpAnyH_take (i := 2) (oi := { dst := some 14, op := Op.fieldAddr 100 (Operand.tmp 13) 2, type := 0, pos := "decree.go:208", after := #[{ on := 1, ground := Ground.data }], guard := none }) (v := ?_) rfl (by kernel_rfl) (by kernel_rfl) (by kernel_rfl) (fun _ _ _ h => h) (Or.inl ⟨by rfl, ?_⟩) (by assumption) ?_
  rotate_left
  · (intro wq hSw; (try dsimp only at hSw); go_simp; first | done | with_reducible rfl)
  try simp only [Act.put, List.setIfInBounds_toArray, List.set_cons_zero, List.set_cons_succ]
  refine wpAnyH_take (i := 3) (oi := { dst := some 15, op := Op.load 97 (Operand.tmp 14), type := 97, pos := "decree.go:208", after := #[{ on := 2, ground := Ground.data }], guard := none }) (v := ?_) rfl (by kernel_rfl) (by kernel_rfl) (by kernel_rfl) (fun _ _ _ h => h) (Or.inl ⟨by rfl, ?_⟩) (by assumption) ?_
  rotate_left
  · (intro wq hSw; (try dsimp only at hSw); go_simp; first | done | with_reducible rfl)
  try simp only [Act.put, List.setIfInBounds_toArray, List.set_cons_zero, List.set_cons_succ]
  refine wpAnyH_take (i := 4) (oi := { dst := some 16, op := Op.fieldAddr 107 (Operand.tmp 3) 1, type := 0, pos := "decree.go:208", after := #[], guard := none }) (v := ?_) rfl (by kernel_rfl) (by kernel_rfl) (by kernel_rfl) (fun _ _ _ h => h) (Or.inl ⟨by rfl, ?_⟩) (by assumption) ?_
  rotate_left
  · (intro wq hSw; (try dsimp only at hSw); go_simp; first | done | with_reducible rfl)
  try simp only [Act.put, List.setIfInBounds_toArray, List.set_cons_zero, List.set_cons_succ]
  refine wpAnyH_take (i := 5) (oi := { dst := some 17, op := Op.load 29 (Operand.tmp 16), type := 29, pos := "decree.go:208", after := #[{ on := 4, ground := Ground.data }], guard := none }) (v := ?_) rfl (by kernel_rfl) (by kernel_rfl) (by kernel_rfl) (fun _ _ _ h => h) (Or.inl ⟨by rfl, ?_⟩) (by assumption) ?_
  rotate_left
  · (intro wq hSw; (try dsimp only at hSw); go_simp; first | done | with_reducible rfl)
  try simp only [Act.put, List.setIfInBounds_toArray, List.set_cons_zero, List.set_cons_succ]
  refine wpAnyH_take (i := 6) (oi := { dst := some 18, op := Op.lookup 97 (Operand.tmp 15) (Operand.tmp 17) true, type := 122, pos := "decree.go:208", after := #[{ on := 3, ground := Ground.data }, { on := 5, ground := Ground.data }], guard := none }) (v := ?_) rfl (by kernel_rfl) (by kernel_rfl) (by kernel_rfl) (fun _ _ _ h => h) (Or.inl ⟨by rfl, ?_⟩) (by assumption) ?_
  rotate_left
  · (intro wq hSw; (try dsimp only at hSw); go_simp; first | done | with_reducible rfl)
  try simp only [Act.put, List.setIfInBounds_toArray, List.set_cons_zero, List.set_cons_succ]
  refine wpAnyH_take (i := 7) (oi := { dst := some 11, op := Op.move (Operand.tmp 18), type := 122, pos := "decree.go:208", after := #[{ on := 6, ground := Ground.data }], guard := none }) (v := ?_) rfl (by kernel_rfl) (by kernel_rfl) (by kernel_rfl) (fun _ _ _ h => h) (Or.inl ⟨by rfl, ?_⟩) (by assumption) ?_
  rotate_left
  · (intro wq hSw; (try dsimp only at hSw); go_simp; first | done | with_reducible rfl)
  try simp only [Act.put, List.setIfInBounds_toArray, List.set_cons_zero, List.set_cons_succ]
  refine wpAnyH_take (i := 8) (oi := { dst := some 19, op := Op.extract (Operand.tmp 11) 0, type := 9, pos := "decree.go:208", after := #[{ on := 7, ground := Ground.data }], guard := none }) (v := ?_) rfl (by kernel_rfl) (by kernel_rfl) (by kernel_rfl) (fun _ _ _ h => h) (Or.inl ⟨by rfl, ?_⟩) (by assumption) ?_
  rotate_left
  · (intro wq hSw; (try dsimp only at hSw); go_simp; first | done | with_reducible rfl)
  try simp only [Act.put, List.setIfInBounds_toArray, List.set_cons_zero, List.set_cons_succ]
  refine wpAnyH_take (i := 9) (oi := { dst := some 20, op := Op.extract (Operand.tmp 11) 1, type := 4, pos := "decree.go:208", after := #[{ on := 7, ground := Ground.data }, { on := 10, ground := Ground.gcOnly Departure.lateStores }], guard := none }) (v := ?_) rfl (by kernel_rfl) (by kernel_rfl) (by kernel_rfl) (fun _ _ _ h => h) (Or.inl ⟨by rfl, ?_⟩) (by assumption) ?_
  rotate_left
  · (intro wq hSw; (try dsimp only at hSw); go_simp; first | done | with_reducible rfl)
  try simp only [Act.put, List.setIfInBounds_toArray, List.set_cons_zero, List.set_cons_succ]
  refine wpAnyH_take (i := 10) (oi := { dst := some 5, op := Op.assign (Operand.tmp 19), type := 9, pos := "decree.go:208", after := #[{ on := 8, ground := Ground.data }, { on := 0, ground := Ground.phase }, { on := 1, ground := Ground.phase }, { on := 2, ground := Ground.phase }, { on := 3, ground := Ground.phase }, { on := 4, ground := Ground.phase }, { on := 5, ground := Ground.phase }, { on := 6, ground := Ground.phase }, { on := 7, ground := Ground.phase }, { on := 8, ground := Ground.phase }, { on := 9, ground := Ground.textOnly Departure.lateStores }], guard := none }) (v := ?_) rfl (by kernel_rfl) (by kernel_rfl) (by kernel_rfl) (fun _ _ _ h => h) (Or.inl ⟨by rfl, ?_⟩) (by assumption) ?_
  rotate_left
  · (intro wq hSw; (try dsimp only at hSw); go_simp; first | done | with_reducible rfl)
  try simp only [Act.put, List.setIfInBounds_toArray, List.set_cons_zero, List.set_cons_succ]
  refine wpAnyH_take (i := 11) (oi := { dst := some 6, op := Op.assign (Operand.tmp 20), type := 4, pos := "decree.go:208", after := #[{ on := 9, ground := Ground.data }, { on := 10, ground := Ground.chain }, { on := 0, ground := Ground.phase }, { on := 1, ground := Ground.phase }, { on := 2, ground := Ground.phase }, { on := 3, ground := Ground.phase }, { on := 4, ground := Ground.phase }, { on := 5, ground := Ground.phase }, { on := 6, ground := Ground.phase }, { on := 7, ground := Ground.phase }, { on := 8, ground := Ground.phase }, { on := 9, ground := Ground.phase }, { on := 10, ground := Ground.phase }], guard := none }) (v := ?_) rfl (by kernel_rfl) (by kernel_rfl) (by kernel_rfl) (fun _ _ _ h => h) (Or.inl ⟨by rfl, ?_⟩) (by assumption) ?_
  rotate_left
  · (intro wq hSw; (try dsimp only at hSw); go_simp; first | done | with_reducible rfl)
  try simp only [Act.put, List.setIfInBounds_toArray, List.set_cons_zero, List.set_cons_succ]
  refine wpAnyH_done (by kernel_rfl) ?_ _
  clear hHeld hlk HLK
  go_wp2_with fail
  refine (nacc (H1.out.new (New.refl wz).drew) hs hB).mono ?_
  rintro e w3 ⟨F3, L3, rfl, hA, hG, hFs, hU⟩
  have hsz : w.heap.size + 2 ≤ w3.heap.size := by have := hU.size; have := HWZ.out; simp at *; omega
  have hF3 : ∀ k, F3 k → k < w.heap.size ∨ w.heap.size + 2 ≤ k := fun k hk => (hG k hk).elim (fun h => .inl (HF.out k h)) (fun h => .inr (by have := HWZ.out; simp at h; omega))
  have hM3 := HM1.out.drew.upd hU (fun hk => by have := HF.out _ hk; omega)
  have hZ3 := HZ1.out.drew.upd hU (fun hk => by have := HF.out _ hk; omega)
  have HG3 : Hid (Gro F F3 w w3) := Lib.hid fun k hk => (hG k hk).elim (fun h => .inl h) (fun h => .inr (by have := HWZ.out; simp at h; omega))
  have HU3 := Lib.hid ((Upd.new (S := F) HN.out.drew).trans hU (fun _ _ h => h))
  have HF3 := Lib.hid hF3
  have HFS := Lib.hid hFs
  clear hG hU hFs a0 a1 a2 a3 a4 a5 a6 a7 a8 az b0 b1 b2 b3 b4 b5 b6 b7 b8 bz c0 c1 c2 c3 c4 c5 cz g0 p0 q0
  obtain ⟨p0, a0, a1, a2, a3, a4, a5, a6, a7, a8, az⟩ := Blk9F hM3
  have hN3 := ((New.refl w3).alloc (.cells #[.int .i64 1, .int .u64 (ms : Int), .int .u64 (mr : Int), .int .u64 (mn : Int), .string ⟨#[]⟩, .bool false, .int .u64 0, .int .u64 0, .string ⟨#[]⟩] 107)).alloc (.cells #[.bool false, .int .u64 0, .int .u64 0, .string ⟨#[]⟩] 45)
  have hO3 := (Blk.mk_new w3 107 #[.int .i64 1, .int .u64 (ms : Int), .int .u64 (mr : Int), .int .u64 (mn : Int), .string ⟨#[]⟩, .bool false, .int .u64 0, .int .u64 0, .string ⟨#[]⟩]).alloc (.cells #[.bool false, .int .u64 0, .int .u64 0, .string ⟨#[]⟩] 45)
  have hP3 := Blk.mk_new (w3.alloc (.cells #[.int .i64 1, .int .u64 (ms : Int), .int .u64 (mr : Int), .int .u64 (mn : Int), .string ⟨#[]⟩, .bool false, .int .u64 0, .int .u64 0, .string ⟨#[]⟩] 107)) 45 #[.bool false, .int .u64 0, .int .u64 0, .string ⟨#[]⟩]
  rw [World.size_alloc] at hP3
  have hA4 := hA.new hN3
  have hM4 := hM3.new hN3
  have hZ4 := hZ3.new hN3
  clear hA hM3 hZ3
  go_wp2_with fail
  generalize (w3.alloc (.cells #[.int .i64 1, .int .u64 (ms : Int), .int .u64 (mr : Int), .int .u64 (mn : Int), .string ⟨#[]⟩, .bool false, .int .u64 0, .int .u64 0, .string ⟨#[]⟩] 107)).alloc (.cells #[.bool false, .int .u64 0, .int .u64 0, .string ⟨#[]⟩] 45) = w4 at *
  rw [ha] at hA4
  have hat : ({ x with ac := set x.ac ms (some a) } : Nod).ac ms = some a := set_same _ _ _
  have hac := (hA4.ac.at_ ms a hat).1
  have HAT := Lib.hid hat
  clear hat
  refine (prepare_yes (L3.ab ms) a.r a.n a.h a.ar a.an a.v mr mn w4 hac hle).mono ?_
  rintro e w5 ⟨rfl, hu5, hac5⟩
  have hOw5 := hO3.upd hu5 (fun e => Blk.ne_ hO3 hac (by decide) e)
  have hPw5 := hP3.upd hu5 (fun e => Blk.ne_ hP3 hac (by decide) e)
  have hZw5 := hZ4.upd hu5 (fun e => Blk.ne_ hZ4 hac (by decide) e)
  have hMw5 := hM4.upd hu5 (fun e => Blk.ne_ hM4 hac (by decide) e)
  have h5 := hA4.setAc HAT.out hu5 (a' := ⟨mr, mn, a.h, a.ar, a.an, a.v⟩) hac5
  dsimp only at h5
  rw [set_set] at h5
  have H5 := Lib.hid h5
  have HU5 := Lib.hid ((HU3.out.transNew hN3).trans hu5 (fun i hi e => (HG3.out _ HFS.out).elim (fun h => e ▸ h) (fun h => by exfalso; omega)))
  have HF3b : Hid (∀ k, F3 k → k < w3.heap.size) := Lib.hid fun k hk => (HG3.out k hk).elim (fun h => by have := HF.out k h; omega) (fun h => h.2)
  have HZW : Hid (w3.heap.size ≤ w5.heap.size) := Lib.hid (by have := hN3.size; have := hu5.size; omega)
  have hDw5 : Upd (fun k => k = w3.heap.size ∨ k = w3.heap.size + 1 ∨ k = w.heap.size + 1) w5 w5 := Upd.refl _ _
  clear hO3 hP3 hZ4 hM4 hu5 hA4 h5 hN3 hac hac5 a0 a1 a2 a3 a4 a5 a6 a7 a8 az p0
  obtain ⟨pl, y0, y1, y2, y3, yz⟩ := Blk4F hPw5
  have hOw6 := ((((hOw5.far (p := ⟨(w3.heap.size + 1), 0, none⟩) (by first | (simp; done) | (simp; omega)) (.bool a.h)).far (p := ⟨(w3.heap.size + 1), 1, none⟩) (by first | (simp; done) | (simp; omega)) (.int .u64 (a.ar : Int))).far (p := ⟨(w3.heap.size + 1), 2, none⟩) (by first | (simp; done) | (simp; omega)) (.int .u64 (a.an : Int))).far (p := ⟨(w3.heap.size + 1), 3, none⟩) (by first | (simp; done) | (simp; omega)) (.string a.v))
  have hPw6 := ((((hPw5.set_ 0 (.bool a.h)).set_ 1 (.int .u64 (a.ar : Int))).set_ 2 (.int .u64 (a.an : Int))).set_ 3 (.string a.v))
  have hZw6 := ((((hZw5.far (p := ⟨(w3.heap.size + 1), 0, none⟩) (by first | (simp; done) | (simp; omega)) (.bool a.h)).far (p := ⟨(w3.heap.size + 1), 1, none⟩) (by first | (simp; done) | (simp; omega)) (.int .u64 (a.ar : Int))).far (p := ⟨(w3.heap.size + 1), 2, none⟩) (by first | (simp; done) | (simp; omega)) (.int .u64 (a.an : Int))).far (p := ⟨(w3.heap.size + 1), 3, none⟩) (by first | (simp; done) | (simp; omega)) (.string a.v))
  have hMw6 := ((((hMw5.far (p := ⟨(w3.heap.size + 1), 0, none⟩) (by first | (simp; done) | (simp; omega)) (.bool a.h)).far (p := ⟨(w3.heap.size + 1), 1, none⟩) (by first | (simp; done) | (simp; omega)) (.int .u64 (a.ar : Int))).far (p := ⟨(w3.heap.size + 1), 2, none⟩) (by first | (simp; done) | (simp; omega)) (.int .u64 (a.an : Int))).far (p := ⟨(w3.heap.size + 1), 3, none⟩) (by first | (simp; done) | (simp; omega)) (.string a.v))
  have hDw6 : Upd (fun k => k = w3.heap.size ∨ k = w3.heap.size + 1 ∨ k = w.heap.size + 1) w5 ((((w5.setCell ⟨(w3.heap.size + 1), 0, none⟩ (.bool a.h)).setCell ⟨(w3.heap.size + 1), 1, none⟩ (.int .u64 (a.ar : Int))).setCell ⟨(w3.heap.size + 1), 2, none⟩ (.int .u64 (a.an : Int))).setCell ⟨(w3.heap.size + 1), 3, none⟩ (.string a.v)) := ((((hDw5.setCell (p := ⟨(w3.heap.size + 1), 0, none⟩) (fun _ => .inr (.inl rfl)) (.bool a.h)).setCell (p := ⟨(w3.heap.size + 1), 1, none⟩) (fun _ => .inr (.inl rfl)) (.int .u64 (a.ar : Int))).setCell (p := ⟨(w3.heap.size + 1), 2, none⟩) (fun _ => .inr (.inl rfl)) (.int .u64 (a.an : Int))).setCell (p := ⟨(w3.heap.size + 1), 3, none⟩) (fun _ => .inr (.inl rfl)) (.string a.v))
  have HOw6 := Lib.hid hOw6
  have HPw6 := Lib.hid hPw6
  have HZw6 := Lib.hid hZw6
  have HMw6 := Lib.hid hMw6
  have HDw6 := Lib.hid hDw6
  clear hOw5 hPw5 hZw5 hMw5 hDw5 hOw6 hPw6 hZw6 hMw6 hDw6
  go_upto_region 12 with fail
  generalize ((((w5.setCell ⟨(w3.heap.size + 1), 0, none⟩ (.bool a.h)).setCell ⟨(w3.heap.size + 1), 1, none⟩ (.int .u64 (a.ar : Int))).setCell ⟨(w3.heap.size + 1), 2, none⟩ (.int .u64 (a.an : Int))).setCell ⟨(w3.heap.size + 1), 3, none⟩ (.string a.v)) = w6 at *
  have hOw6 := HOw6.out
  have hPw6 := HPw6.out
  have hZw6 := HZw6.out
  have hMw6 := HMw6.out
  have hDw6 := HDw6.out
  clear HOw6 HPw6 HZw6 HMw6 HDw6
  clear pl y0 y1 y2 y3 yz
  obtain ⟨pl, y0, y1, y2, y3, yz⟩ := Blk4F hPw6
  obtain ⟨ol, o0, o1, o2, o3, o4, o5, o6, o7, o8, oz⟩ := Blk9F hOw6
  have hOw7 := ((((hOw6.set_ 5 (.bool a.h)).set_ 6 (.int .u64 (a.ar : Int))).set_ 7 (.int .u64 (a.an : Int))).set_ 8 (.string a.v))
  have hPw7 := ((((hPw6.far (p := ⟨w3.heap.size, 5, none⟩) (by first | (simp; done) | (simp; omega)) (.bool a.h)).far (p := ⟨w3.heap.size, 6, none⟩) (by first | (simp; done) | (simp; omega)) (.int .u64 (a.ar : Int))).far (p := ⟨w3.heap.size, 7, none⟩) (by first | (simp; done) | (simp; omega)) (.int .u64 (a.an : Int))).far (p := ⟨w3.heap.size, 8, none⟩) (by first | (simp; done) | (simp; omega)) (.string a.v))
  have hZw7 := ((((hZw6.far (p := ⟨w3.heap.size, 5, none⟩) (by first | (simp; done) | (simp; omega)) (.bool a.h)).far (p := ⟨w3.heap.size, 6, none⟩) (by first | (simp; done) | (simp; omega)) (.int .u64 (a.ar : Int))).far (p := ⟨w3.heap.size, 7, none⟩) (by first | (simp; done) | (simp; omega)) (.int .u64 (a.an : Int))).far (p := ⟨w3.heap.size, 8, none⟩) (by first | (simp; done) | (simp; omega)) (.string a.v))
  have hMw7 := ((((hMw6.far (p := ⟨w3.heap.size, 5, none⟩) (by first | (simp; done) | (simp; omega)) (.bool a.h)).far (p := ⟨w3.heap.size, 6, none⟩) (by first | (simp; done) | (simp; omega)) (.int .u64 (a.ar : Int))).far (p := ⟨w3.heap.size, 7, none⟩) (by first | (simp; done) | (simp; omega)) (.int .u64 (a.an : Int))).far (p := ⟨w3.heap.size, 8, none⟩) (by first | (simp; done) | (simp; omega)) (.string a.v))
  have hDw7 : Upd (fun k => k = w3.heap.size ∨ k = w3.heap.size + 1 ∨ k = w.heap.size + 1) w5 ((((w6.setCell ⟨w3.heap.size, 5, none⟩ (.bool a.h)).setCell ⟨w3.heap.size, 6, none⟩ (.int .u64 (a.ar : Int))).setCell ⟨w3.heap.size, 7, none⟩ (.int .u64 (a.an : Int))).setCell ⟨w3.heap.size, 8, none⟩ (.string a.v)) := ((((hDw6.setCell (p := ⟨w3.heap.size, 5, none⟩) (fun _ => .inl rfl) (.bool a.h)).setCell (p := ⟨w3.heap.size, 6, none⟩) (fun _ => .inl rfl) (.int .u64 (a.ar : Int))).setCell (p := ⟨w3.heap.size, 7, none⟩) (fun _ => .inl rfl) (.int .u64 (a.an : Int))).setCell (p := ⟨w3.heap.size, 8, none⟩) (fun _ => .inl rfl) (.string a.v))
  have HOw7 := Lib.hid hOw7
  have HPw7 := Lib.hid hPw7
  have HZw7 := Lib.hid hZw7
  have HMw7 := Lib.hid hMw7
  have HDw7 := Lib.hid hDw7
  clear hOw6 hPw6 hZw6 hMw6 hDw6 hOw7 hPw7 hZw7 hMw7 hDw7
  go_upto_region 13 with fail
  generalize ((((w6.setCell ⟨w3.heap.size, 5, none⟩ (.bool a.h)).setCell ⟨w3.heap.size, 6, none⟩ (.int .u64 (a.ar : Int))).setCell ⟨w3.heap.size, 7, none⟩ (.int .u64 (a.an : Int))).setCell ⟨w3.heap.size, 8, none⟩ (.string a.v)) = w7 at *
  have hOw7 := HOw7.out
  have hPw7 := HPw7.out
  have hZw7 := HZw7.out
  have hMw7 := HMw7.out
  have hDw7 := HDw7.out
  clear HOw7 HPw7 HZw7 HMw7 HDw7
  clear pl y0 y1 y2 y3 yz
  clear ol o0 o1 o2 o3 o4 o5 o6 o7 o8 oz
  obtain ⟨ol, o0, o1, o2, o3, o4, o5, o6, o7, o8, oz⟩ := Blk9F hOw7
  obtain ⟨zl, z0, z1, z2, z3, z4, z5, z6, z7, z8, zz⟩ := Blk9F hZw7
  have hOw8 := (((((((((hOw7.far (p := ⟨(w.heap.size + 1), 0, none⟩) (by first | (simp; done) | (simp; omega)) (.int .i64 1)).far (p := ⟨(w.heap.size + 1), 1, none⟩) (by first | (simp; done) | (simp; omega)) (.int .u64 (ms : Int))).far (p := ⟨(w.heap.size + 1), 2, none⟩) (by first | (simp; done) | (simp; omega)) (.int .u64 (mr : Int))).far (p := ⟨(w.heap.size + 1), 3, none⟩) (by first | (simp; done) | (simp; omega)) (.int .u64 (mn : Int))).far (p := ⟨(w.heap.size + 1), 4, none⟩) (by first | (simp; done) | (simp; omega)) (.string ⟨#[]⟩)).far (p := ⟨(w.heap.size + 1), 5, none⟩) (by first | (simp; done) | (simp; omega)) (.bool a.h)).far (p := ⟨(w.heap.size + 1), 6, none⟩) (by first | (simp; done) | (simp; omega)) (.int .u64 (a.ar : Int))).far (p := ⟨(w.heap.size + 1), 7, none⟩) (by first | (simp; done) | (simp; omega)) (.int .u64 (a.an : Int))).far (p := ⟨(w.heap.size + 1), 8, none⟩) (by first | (simp; done) | (simp; omega)) (.string a.v))
  have hPw8 := (((((((((hPw7.far (p := ⟨(w.heap.size + 1), 0, none⟩) (by first | (simp; done) | (simp; omega)) (.int .i64 1)).far (p := ⟨(w.heap.size + 1), 1, none⟩) (by first | (simp; done) | (simp; omega)) (.int .u64 (ms : Int))).far (p := ⟨(w.heap.size + 1), 2, none⟩) (by first | (simp; done) | (simp; omega)) (.int .u64 (mr : Int))).far (p := ⟨(w.heap.size + 1), 3, none⟩) (by first | (simp; done) | (simp; omega)) (.int .u64 (mn : Int))).far (p := ⟨(w.heap.size + 1), 4, none⟩) (by first | (simp; done) | (simp; omega)) (.string ⟨#[]⟩)).far (p := ⟨(w.heap.size + 1), 5, none⟩) (by first | (simp; done) | (simp; omega)) (.bool a.h)).far (p := ⟨(w.heap.size + 1), 6, none⟩) (by first | (simp; done) | (simp; omega)) (.int .u64 (a.ar : Int))).far (p := ⟨(w.heap.size + 1), 7, none⟩) (by first | (simp; done) | (simp; omega)) (.int .u64 (a.an : Int))).far (p := ⟨(w.heap.size + 1), 8, none⟩) (by first | (simp; done) | (simp; omega)) (.string a.v))
  have hZw8 := (((((((((hZw7.set_ 0 (.int .i64 1)).set_ 1 (.int .u64 (ms : Int))).set_ 2 (.int .u64 (mr : Int))).set_ 3 (.int .u64 (mn : Int))).set_ 4 (.string ⟨#[]⟩)).set_ 5 (.bool a.h)).set_ 6 (.int .u64 (a.ar : Int))).set_ 7 (.int .u64 (a.an : Int))).set_ 8 (.string a.v))
  have hMw8 := (((((((((hMw7.far (p := ⟨(w.heap.size + 1), 0, none⟩) (by first | (simp; done) | (simp; omega)) (.int .i64 1)).far (p := ⟨(w.heap.size + 1), 1, none⟩) (by first | (simp; done) | (simp; omega)) (.int .u64 (ms : Int))).far (p := ⟨(w.heap.size + 1), 2, none⟩) (by first | (simp; done) | (simp; omega)) (.int .u64 (mr : Int))).far (p := ⟨(w.heap.size + 1), 3, none⟩) (by first | (simp; done) | (simp; omega)) (.int .u64 (mn : Int))).far (p := ⟨(w.heap.size + 1), 4, none⟩) (by first | (simp; done) | (simp; omega)) (.string ⟨#[]⟩)).far (p := ⟨(w.heap.size + 1), 5, none⟩) (by first | (simp; done) | (simp; omega)) (.bool a.h)).far (p := ⟨(w.heap.size + 1), 6, none⟩) (by first | (simp; done) | (simp; omega)) (.int .u64 (a.ar : Int))).far (p := ⟨(w.heap.size + 1), 7, none⟩) (by first | (simp; done) | (simp; omega)) (.int .u64 (a.an : Int))).far (p := ⟨(w.heap.size + 1), 8, none⟩) (by first | (simp; done) | (simp; omega)) (.string a.v))
  have hDw8 : Upd (fun k => k = w3.heap.size ∨ k = w3.heap.size + 1 ∨ k = w.heap.size + 1) w5 (((((((((w7.setCell ⟨(w.heap.size + 1), 0, none⟩ (.int .i64 1)).setCell ⟨(w.heap.size + 1), 1, none⟩ (.int .u64 (ms : Int))).setCell ⟨(w.heap.size + 1), 2, none⟩ (.int .u64 (mr : Int))).setCell ⟨(w.heap.size + 1), 3, none⟩ (.int .u64 (mn : Int))).setCell ⟨(w.heap.size + 1), 4, none⟩ (.string ⟨#[]⟩)).setCell ⟨(w.heap.size + 1), 5, none⟩ (.bool a.h)).setCell ⟨(w.heap.size + 1), 6, none⟩ (.int .u64 (a.ar : Int))).setCell ⟨(w.heap.size + 1), 7, none⟩ (.int .u64 (a.an : Int))).setCell ⟨(w.heap.size + 1), 8, none⟩ (.string a.v)) := (((((((((hDw7.setCell (p := ⟨(w.heap.size + 1), 0, none⟩) (fun _ => .inr (.inr rfl)) (.int .i64 1)).setCell (p := ⟨(w.heap.size + 1), 1, none⟩) (fun _ => .inr (.inr rfl)) (.int .u64 (ms : Int))).setCell (p := ⟨(w.heap.size + 1), 2, none⟩) (fun _ => .inr (.inr rfl)) (.int .u64 (mr : Int))).setCell (p := ⟨(w.heap.size + 1), 3, none⟩) (fun _ => .inr (.inr rfl)) (.int .u64 (mn : Int))).setCell (p := ⟨(w.heap.size + 1), 4, none⟩) (fun _ => .inr (.inr rfl)) (.string ⟨#[]⟩)).setCell (p := ⟨(w.heap.size + 1), 5, none⟩) (fun _ => .inr (.inr rfl)) (.bool a.h)).setCell (p := ⟨(w.heap.size + 1), 6, none⟩) (fun _ => .inr (.inr rfl)) (.int .u64 (a.ar : Int))).setCell (p := ⟨(w.heap.size + 1), 7, none⟩) (fun _ => .inr (.inr rfl)) (.int .u64 (a.an : Int))).setCell (p := ⟨(w.heap.size + 1), 8, none⟩) (fun _ => .inr (.inr rfl)) (.string a.v))
  have HOw8 := Lib.hid hOw8
  have HPw8 := Lib.hid hPw8
  have HZw8 := Lib.hid hZw8
  have HMw8 := Lib.hid hMw8
  have HDw8 := Lib.hid hDw8
  clear hOw7 hPw7 hZw7 hMw7 hDw7 hOw8 hPw8 hZw8 hMw8 hDw8
  go_wp2_with fail
  have hd := HDw8.out
  exact bodyPost_ret (v := .agg #[.int .i64 1, .int .u64 (ms : Int), .int .u64 (mr : Int), .int .u64 (mn : Int), .string ⟨#[]⟩, .bool a.h, .int .u64 (a.ar : Int), .int .u64 (a.an : Int), .string a.v]) (by simp [results, Try.results64, go_sem, z0, z1, z2, z3, z4, z5, z6, z7, z8]) rfl ⟨rfl, F3, L3, H5.out.upd hd (fun k hk hs => by have := HF3b.out k hk; have := HF3.out k hk; rcases hs with h | h | h <;> omega), fun k hk => (HG3.out k hk).elim .inl (fun h => .inr ⟨h.1, by have := hd.size; have := HU5.out.size; have := HZW.out; omega⟩), HU5.out.trans hd (fun i hi h => by exfalso; rcases h with h | h | h <;> omega)⟩
set_option maxRecDepth 100000 in
set_option maxHeartbeats 8000000 in
theorem nasked_acc (h : NdAt w F nb id B L x) (m : Msg) (hs : m.s < 18446744073709551616) (hB : B ≤ 1000000000000) (hF : ∀ k, F k → k < w.heap.size) (hl : x.lg m.s = none) (hk : m.k ≠ 0) {a : Acr} (ha : x.acr m.s = a) (hle : lessB m.r m.n a.r a.n = false) :
    Calls Try.prog 64 #[.pointer (some ⟨nb, 0, none⟩), m.val] w (AskPost w F nb id (B + 1) (x.asked m)) := by
  rw [asked_acc hl (by rw [ha]; exact hle) hk]
  obtain ⟨mk, ms, mr, mn, mv, mh, mhr, mhn, mhv⟩ := m
  dsimp only at hs hl hk hle ha ⊢
  have hkb : ((mk : Int) == 0) = false := by rw [beq_eq_false_iff_ne]; omega
  clear hk
  have hN := ((New.refl w).alloc (.cells #[.int .i64 (mk : Int), .int .u64 (ms : Int), .int .u64 (mr : Int), .int .u64 (mn : Int), .string mv, .bool mh, .int .u64 (mhr : Int), .int .u64 (mhn : Int), .string mhv] 107)).alloc (.cells #[.int .i64 0, .int .u64 0, .int .u64 0, .int .u64 0, .string ⟨#[]⟩, .bool false, .int .u64 0, .int .u64 0, .string ⟨#[]⟩] 107)
  have hM := (Blk.mk_new w 107 #[.int .i64 (mk : Int), .int .u64 (ms : Int), .int .u64 (mr : Int), .int .u64 (mn : Int), .string mv, .bool mh, .int .u64 (mhr : Int), .int .u64 (mhn : Int), .string mhv]).alloc (.cells #[.int .i64 0, .int .u64 0, .int .u64 0, .int .u64 0, .string ⟨#[]⟩, .bool false, .int .u64 0, .int .u64 0, .string ⟨#[]⟩] 107)
  have hZ := Blk.mk_new (w.alloc (.cells #[.int .i64 (mk : Int), .int .u64 (ms : Int), .int .u64 (mr : Int), .int .u64 (mn : Int), .string mv, .bool mh, .int .u64 (mhr : Int), .int .u64 (mhn : Int), .string mhv] 107)) 107 #[.int .i64 0, .int .u64 0, .int .u64 0, .int .u64 0, .string ⟨#[]⟩, .bool false, .int .u64 0, .int .u64 0, .string ⟨#[]⟩]
  rw [World.size_alloc] at hZ
  have h1 := h.new hN
  have HH := Lib.hid h
  have HN := Lib.hid hN
  obtain ⟨ml, hml, hmp⟩ := h1.lg
  have HLK := Lib.hid (mpGetOk keyS64 (MpAt.new hmp (New.refl _).drew) Try.underlying97 (zeroS _) ms (okU_lt hs))
  rw [show lgV x.lg ms = none from lgV_none _ _ hl] at HLK
  obtain ⟨g0, c0, c1, c2, c3, c4, c5, cz⟩ := Blk6F h1.blk
  obtain ⟨p0, a0, a1, a2, a3, a4, a5, a6, a7, a8, az⟩ := Blk9F hM
  obtain ⟨q0, b0, b1, b2, b3, b4, b5, b6, b7, b8, bz⟩ := Blk9F hZ
  have hwz : w.heap.size + 2 = ((w.alloc (.cells #[.int .i64 (mk : Int), .int .u64 (ms : Int), .int .u64 (mr : Int), .int .u64 (mn : Int), .string mv, .bool mh, .int .u64 (mhr : Int), .int .u64 (mhn : Int), .string mhv] 107)).alloc (.cells #[.int .i64 0, .int .u64 0, .int .u64 0, .int .u64 0, .string ⟨#[]⟩, .bool false, .int .u64 0, .int .u64 0, .string ⟨#[]⟩] 107)).heap.size := by simp
  have HWZ := Lib.hid hwz
  have HL := Lib.hid hl
  have HF := Lib.hid hF
  have H1 := Lib.hid h1
  have HM1 := Lib.hid hM
  have HZ1 := Lib.hid hZ
  clear hl h hmp hM hwz hZ hF hN h1
  go_enter Try.func64, Try.ntmps64
  go_wp2_with fail
  generalize ((w.alloc (.cells #[.int .i64 (mk : Int), .int .u64 (ms : Int), .int .u64 (mr : Int), .int .u64 (mn : Int), .string mv, .bool mh, .int .u64 (mhr : Int), .int .u64 (mhn : Int), .string mhv] 107)).alloc (.cells #[.int .i64 0, .int .u64 0, .int .u64 0, .int .u64 0, .string ⟨#[]⟩, .bool false, .int .u64 0, .int .u64 0, .string ⟨#[]⟩] 107)) = wz at *
  have hlk := HLK.out
  dsimp only [Option.isSome, Option.getD] at hlk
  refine wp_region_held_drew (S := fun w' => w' = wz.drew) (by kernel_rfl) (rfl) (fun hHeld => ?_)
  refine wpAnyH_take (i := 0) (oi := { dst := some 12, op := Op.move (Operand.tmp 0), type := 95, pos := "decree.go:208", after := #[], guard := none }) (v := ?_) rfl (by kernel_rfl) (by kernel_rfl) (by kernel_rfl) (fun _ _ _ h => h) (Or.inl ⟨by rfl, ?_⟩) (by assumption) ?_
  rotate_left
  · (intro wq hSw; (try dsimp only at hSw); go_simp; first | done | with_reducible rfl)
  try simp only [Act.put, List.setIfInBounds_toArray, List.set_cons_zero, List.set_cons_succ]
  refine wpAnyH_take (i := 1) (oi := { dst := some 13, op := Op.nilCheck (Operand.tmp 12), type := 0, pos := "decree.go:208", after := #[{ on := 0, ground := Ground.data }], guard := none }) (v := ?_) rfl (by kernel_rfl) (by kernel_rfl) (by kernel_rfl) (fun _ _ _ h => h) (Or.inl ⟨by rfl, ?_⟩) (by assumption) ?_
  rotate_left
  · (intro wq hSw; (try dsimp only at hSw); go_simp; first | done | with_reducible rfl)
  try simp only [Act.put, List.setIfInBounds_toArray, List.set_cons_zero, List.set_cons_succ]
  refine wpAnyH_take (i := 2) (oi := { dst := some 14, op := Op.fieldAddr 100 (Operand.tmp 13) 2, type := 0, pos := "decree.go:208", after := #[{ on := 1, ground := Ground.data }], guard := none }) (v := ?_) rfl (by kernel_rfl) (by kernel_rfl) (by kernel_rfl) (fun _ _ _ h => h) (Or.inl ⟨by rfl, ?_⟩) (by assumption) ?_
  rotate_left
  · (intro wq hSw; (try dsimp only at hSw); go_simp; first | done | with_reducible rfl)
  try simp only [Act.put, List.setIfInBounds_toArray, List.set_cons_zero, List.set_cons_succ]
  refine wpAnyH_take (i := 3) (oi := { dst := some 15, op := Op.load 97 (Operand.tmp 14), type := 97, pos := "decree.go:208", after := #[{ on := 2, ground := Ground.data }], guard := none }) (v := ?_) rfl (by kernel_rfl) (by kernel_rfl) (by kernel_rfl) (fun _ _ _ h => h) (Or.inl ⟨by rfl, ?_⟩) (by assumption) ?_
  rotate_left
  · (intro wq hSw; (try dsimp only at hSw); go_simp; first | done | with_reducible rfl)
  try simp only [Act.put, List.setIfInBounds_toArray, List.set_cons_zero, List.set_cons_succ]
  refine wpAnyH_take (i := 4) (oi := { dst := some 16, op := Op.fieldAddr 107 (Operand.tmp 3) 1, type := 0, pos := "decree.go:208", after := #[], guard := none }) (v := ?_) rfl (by kernel_rfl) (by kernel_rfl) (by kernel_rfl) (fun _ _ _ h => h) (Or.inl ⟨by rfl, ?_⟩) (by assumption) ?_
  rotate_left
  · (intro wq hSw; (try dsimp only at hSw); go_simp; first | done | with_reducible rfl)
  try simp only [Act.put, List.setIfInBounds_toArray, List.set_cons_zero, List.set_cons_succ]
  refine wpAnyH_take (i := 5) (oi := { dst := some 17, op := Op.load 29 (Operand.tmp 16), type := 29, pos := "decree.go:208", after := #[{ on := 4, ground := Ground.data }], guard := none }) (v := ?_) rfl (by kernel_rfl) (by kernel_rfl) (by kernel_rfl) (fun _ _ _ h => h) (Or.inl ⟨by rfl, ?_⟩) (by assumption) ?_
  rotate_left
  · (intro wq hSw; (try dsimp only at hSw); go_simp; first | done | with_reducible rfl)
  try simp only [Act.put, List.setIfInBounds_toArray, List.set_cons_zero, List.set_cons_succ]
  refine wpAnyH_take (i := 6) (oi := { dst := some 18, op := Op.lookup 97 (Operand.tmp 15) (Operand.tmp 17) true, type := 122, pos := "decree.go:208", after := #[{ on := 3, ground := Ground.data }, { on := 5, ground := Ground.data }], guard := none }) (v := ?_) rfl (by kernel_rfl) (by kernel_rfl) (by kernel_rfl) (fun _ _ _ h => h) (Or.inl ⟨by rfl, ?_⟩) (by assumption) ?_
  rotate_left
  · (intro wq hSw; (try dsimp only at hSw); go_simp; first | done | with_reducible rfl)
  try simp only [Act.put, List.setIfInBounds_toArray, List.set_cons_zero, List.set_cons_succ]
  refine wpAnyH_take (i := 7) (oi := { dst := some 11, op := Op.move (Operand.tmp 18), type := 122, pos := "decree.go:208", after := #[{ on := 6, ground := Ground.data }], guard := none }) (v := ?_) rfl (by kernel_rfl) (by kernel_rfl) (by kernel_rfl) (fun _ _ _ h => h) (Or.inl ⟨by rfl, ?_⟩) (by assumption) ?_
  rotate_left
  · (intro wq hSw; (try dsimp only at hSw); go_simp; first | done | with_reducible rfl)
  try simp only [Act.put, List.setIfInBounds_toArray, List.set_cons_zero, List.set_cons_succ]
  refine wpAnyH_take (i := 8) (oi := { dst := some 19, op := Op.extract (Operand.tmp 11) 0, type := 9, pos := "decree.go:208", after := #[{ on := 7, ground := Ground.data }], guard := none }) (v := ?_) rfl (by kernel_rfl) (by kernel_rfl) (by kernel_rfl) (fun _ _ _ h => h) (Or.inl ⟨by rfl, ?_⟩) (by assumption) ?_
  rotate_left
  · (intro wq hSw; (try dsimp only at hSw); go_simp; first | done | with_reducible rfl)
  try simp only [Act.put, List.setIfInBounds_toArray, List.set_cons_zero, List.set_cons_succ]
  refine wpAnyH_take (i := 9) (oi := { dst := some 20, op := Op.extract (Operand.tmp 11) 1, type := 4, pos := "decree.go:208", after := #[{ on := 7, ground := Ground.data }, { on := 10, ground := Ground.gcOnly Departure.lateStores }], guard := none }) (v := ?_) rfl (by kernel_rfl) (by kernel_rfl) (by kernel_rfl) (fun _ _ _ h => h) (Or.inl ⟨by rfl, ?_⟩) (by assumption) ?_
  rotate_left
  · (intro wq hSw; (try dsimp only at hSw); go_simp; first | done | with_reducible rfl)
  try simp only [Act.put, List.setIfInBounds_toArray, List.set_cons_zero, List.set_cons_succ]
  refine wpAnyH_take (i := 10) (oi := { dst := some 5, op := Op.assign (Operand.tmp 19), type := 9, pos := "decree.go:208", after := #[{ on := 8, ground := Ground.data }, { on := 0, ground := Ground.phase }, { on := 1, ground := Ground.phase }, { on := 2, ground := Ground.phase }, { on := 3, ground := Ground.phase }, { on := 4, ground := Ground.phase }, { on := 5, ground := Ground.phase }, { on := 6, ground := Ground.phase }, { on := 7, ground := Ground.phase }, { on := 8, ground := Ground.phase }, { on := 9, ground := Ground.textOnly Departure.lateStores }], guard := none }) (v := ?_) rfl (by kernel_rfl) (by kernel_rfl) (by kernel_rfl) (fun _ _ _ h => h) (Or.inl ⟨by rfl, ?_⟩) (by assumption) ?_
  rotate_left
  · (intro wq hSw; (try dsimp only at hSw); go_simp; first | done | with_reducible rfl)
  try simp only [Act.put, List.setIfInBounds_toArray, List.set_cons_zero, List.set_cons_succ]
  refine wpAnyH_take (i := 11) (oi := { dst := some 6, op := Op.assign (Operand.tmp 20), type := 4, pos := "decree.go:208", after := #[{ on := 9, ground := Ground.data }, { on := 10, ground := Ground.chain }, { on := 0, ground := Ground.phase }, { on := 1, ground := Ground.phase }, { on := 2, ground := Ground.phase }, { on := 3, ground := Ground.phase }, { on := 4, ground := Ground.phase }, { on := 5, ground := Ground.phase }, { on := 6, ground := Ground.phase }, { on := 7, ground := Ground.phase }, { on := 8, ground := Ground.phase }, { on := 9, ground := Ground.phase }, { on := 10, ground := Ground.phase }], guard := none }) (v := ?_) rfl (by kernel_rfl) (by kernel_rfl) (by kernel_rfl) (fun _ _ _ h => h) (Or.inl ⟨by rfl, ?_⟩) (by assumption) ?_
  rotate_left
  · (intro wq hSw; (try dsimp only at hSw); go_simp; first | done | with_reducible rfl)
  try simp only [Act.put, List.setIfInBounds_toArray, List.set_cons_zero, List.set_cons_succ]
  refine wpAnyH_done (by kernel_rfl) ?_ _
  clear hHeld hlk HLK
  go_wp2_with fail
  refine (nacc (H1.out.new (New.refl wz).drew) hs hB).mono ?_
  rintro e w3 ⟨F3, L3, rfl, hA, hG, hFs, hU⟩
  have hsz : w.heap.size + 2 ≤ w3.heap.size := by have := hU.size; have := HWZ.out; simp at *; omega
  have hF3 : ∀ k, F3 k → k < w.heap.size ∨ w.heap.size + 2 ≤ k := fun k hk => (hG k hk).elim (fun h => .inl (HF.out k h)) (fun h => .inr (by have := HWZ.out; simp at h; omega))
  have hM3 := HM1.out.drew.upd hU (fun hk => by have := HF.out _ hk; omega)
  have hZ3 := HZ1.out.drew.upd hU (fun hk => by have := HF.out _ hk; omega)
  have HG3 : Hid (Gro F F3 w w3) := Lib.hid fun k hk => (hG k hk).elim (fun h => .inl h) (fun h => .inr (by have := HWZ.out; simp at h; omega))
  have HU3 := Lib.hid ((Upd.new (S := F) HN.out.drew).trans hU (fun _ _ h => h))
  have HF3 := Lib.hid hF3
  have HFS := Lib.hid hFs
  clear hG hU hFs a0 a1 a2 a3 a4 a5 a6 a7 a8 az b0 b1 b2 b3 b4 b5 b6 b7 b8 bz c0 c1 c2 c3 c4 c5 cz g0 p0 q0
  obtain ⟨p0, a0, a1, a2, a3, a4, a5, a6, a7, a8, az⟩ := Blk9F hM3
  have hN3 := ((New.refl w3).alloc (.cells #[.int .i64 1, .int .u64 (ms : Int), .int .u64 (mr : Int), .int .u64 (mn : Int), .string ⟨#[]⟩, .bool false, .int .u64 0, .int .u64 0, .string ⟨#[]⟩] 107)).alloc (.cells #[.bool false, .int .u64 0, .int .u64 0, .string ⟨#[]⟩] 45)
  have hO3 := (Blk.mk_new w3 107 #[.int .i64 1, .int .u64 (ms : Int), .int .u64 (mr : Int), .int .u64 (mn : Int), .string ⟨#[]⟩, .bool false, .int .u64 0, .int .u64 0, .string ⟨#[]⟩]).alloc (.cells #[.bool false, .int .u64 0, .int .u64 0, .string ⟨#[]⟩] 45)
  have hP3 := Blk.mk_new (w3.alloc (.cells #[.int .i64 1, .int .u64 (ms : Int), .int .u64 (mr : Int), .int .u64 (mn : Int), .string ⟨#[]⟩, .bool false, .int .u64 0, .int .u64 0, .string ⟨#[]⟩] 107)) 45 #[.bool false, .int .u64 0, .int .u64 0, .string ⟨#[]⟩]
  rw [World.size_alloc] at hP3
  have hA4 := hA.new hN3
  have hM4 := hM3.new hN3
  have hZ4 := hZ3.new hN3
  clear hA hM3 hZ3
  go_wp2_with fail
  generalize (w3.alloc (.cells #[.int .i64 1, .int .u64 (ms : Int), .int .u64 (mr : Int), .int .u64 (mn : Int), .string ⟨#[]⟩, .bool false, .int .u64 0, .int .u64 0, .string ⟨#[]⟩] 107)).alloc (.cells #[.bool false, .int .u64 0, .int .u64 0, .string ⟨#[]⟩] 45) = w4 at *
  rw [ha] at hA4
  have hat : ({ x with ac := set x.ac ms (some a) } : Nod).ac ms = some a := set_same _ _ _
  have hac := (hA4.ac.at_ ms a hat).1
  have HAT := Lib.hid hat
  clear hat
  refine (accept_yes (L3.ab ms) a.r a.n a.h a.ar a.an a.v mr mn mv w4 hac hle).mono ?_
  rintro e w5 ⟨rfl, hu5, hac5⟩
  have hOw5 := hO3.upd hu5 (fun e => Blk.ne_ hO3 hac (by decide) e)
  have hPw5 := hP3.upd hu5 (fun e => Blk.ne_ hP3 hac (by decide) e)
  have hZw5 := hZ4.upd hu5 (fun e => Blk.ne_ hZ4 hac (by decide) e)
  have hMw5 := hM4.upd hu5 (fun e => Blk.ne_ hM4 hac (by decide) e)
  have h5 := hA4.setAc HAT.out hu5 (a' := ⟨mr, mn, true, mr, mn, mv⟩) hac5
  dsimp only at h5
  rw [set_set] at h5
  have H5 := Lib.hid h5
  have HU5 := Lib.hid ((HU3.out.transNew hN3).trans hu5 (fun i hi e => (HG3.out _ HFS.out).elim (fun h => e ▸ h) (fun h => by exfalso; omega)))
  have HF3b : Hid (∀ k, F3 k → k < w3.heap.size) := Lib.hid fun k hk => (HG3.out k hk).elim (fun h => by have := HF.out k h; omega) (fun h => h.2)
  have HZW : Hid (w3.heap.size ≤ w5.heap.size) := Lib.hid (by have := hN3.size; have := hu5.size; omega)
  have hDw5 : Upd (fun k => k = w3.heap.size ∨ k = w3.heap.size + 1 ∨ k = w.heap.size + 1) w5 w5 := Upd.refl _ _
  clear hO3 hP3 hZ4 hM4 hu5 hA4 h5 hN3 hac hac5 a0 a1 a2 a3 a4 a5 a6 a7 a8 az p0
  obtain ⟨ol, o0, o1, o2, o3, o4, o5, o6, o7, o8, oz⟩ := Blk9F hOw5
  have hOw6 := (hOw5.set_ 0 (.int .i64 3))
  have hPw6 := (hPw5.far (p := ⟨w3.heap.size, 0, none⟩) (by first | (simp; done) | (simp; omega)) (.int .i64 3))
  have hZw6 := (hZw5.far (p := ⟨w3.heap.size, 0, none⟩) (by first | (simp; done) | (simp; omega)) (.int .i64 3))
  have hMw6 := (hMw5.far (p := ⟨w3.heap.size, 0, none⟩) (by first | (simp; done) | (simp; omega)) (.int .i64 3))
  have hDw6 : Upd (fun k => k = w3.heap.size ∨ k = w3.heap.size + 1 ∨ k = w.heap.size + 1) w5 (w5.setCell ⟨w3.heap.size, 0, none⟩ (.int .i64 3)) := (hDw5.setCell (p := ⟨w3.heap.size, 0, none⟩) (fun _ => .inl rfl) (.int .i64 3))
  have HOw6 := Lib.hid hOw6
  have HPw6 := Lib.hid hPw6
  have HZw6 := Lib.hid hZw6
  have HMw6 := Lib.hid hMw6
  have HDw6 := Lib.hid hDw6
  clear hOw5 hPw5 hZw5 hMw5 hDw5 hOw6 hPw6 hZw6 hMw6 hDw6
  go_upto_region 12 with fail
  generalize (w5.setCell ⟨w3.heap.size, 0, none⟩ (.int .i64 3)) = w6 at *
  have hOw6 := HOw6.out
  have hPw6 := HPw6.out
  have hZw6 := HZw6.out
  have hMw6 := HMw6.out
  have hDw6 := HDw6.out
  clear HOw6 HPw6 HZw6 HMw6 HDw6
  clear ol o0 o1 o2 o3 o4 o5 o6 o7 o8 oz
  obtain ⟨pl, y0, y1, y2, y3, yz⟩ := Blk4F hPw6
  obtain ⟨ol, o0, o1, o2, o3, o4, o5, o6, o7, o8, oz⟩ := Blk9F hOw6
  have hOw7 := ((((hOw6.set_ 5 (.bool false)).set_ 6 (.int .u64 0)).set_ 7 (.int .u64 0)).set_ 8 (.string ⟨#[]⟩))
  have hPw7 := ((((hPw6.far (p := ⟨w3.heap.size, 5, none⟩) (by first | (simp; done) | (simp; omega)) (.bool false)).far (p := ⟨w3.heap.size, 6, none⟩) (by first | (simp; done) | (simp; omega)) (.int .u64 0)).far (p := ⟨w3.heap.size, 7, none⟩) (by first | (simp; done) | (simp; omega)) (.int .u64 0)).far (p := ⟨w3.heap.size, 8, none⟩) (by first | (simp; done) | (simp; omega)) (.string ⟨#[]⟩))
  have hZw7 := ((((hZw6.far (p := ⟨w3.heap.size, 5, none⟩) (by first | (simp; done) | (simp; omega)) (.bool false)).far (p := ⟨w3.heap.size, 6, none⟩) (by first | (simp; done) | (simp; omega)) (.int .u64 0)).far (p := ⟨w3.heap.size, 7, none⟩) (by first | (simp; done) | (simp; omega)) (.int .u64 0)).far (p := ⟨w3.heap.size, 8, none⟩) (by first | (simp; done) | (simp; omega)) (.string ⟨#[]⟩))
  have hMw7 := ((((hMw6.far (p := ⟨w3.heap.size, 5, none⟩) (by first | (simp; done) | (simp; omega)) (.bool false)).far (p := ⟨w3.heap.size, 6, none⟩) (by first | (simp; done) | (simp; omega)) (.int .u64 0)).far (p := ⟨w3.heap.size, 7, none⟩) (by first | (simp; done) | (simp; omega)) (.int .u64 0)).far (p := ⟨w3.heap.size, 8, none⟩) (by first | (simp; done) | (simp; omega)) (.string ⟨#[]⟩))
  have hDw7 : Upd (fun k => k = w3.heap.size ∨ k = w3.heap.size + 1 ∨ k = w.heap.size + 1) w5 ((((w6.setCell ⟨w3.heap.size, 5, none⟩ (.bool false)).setCell ⟨w3.heap.size, 6, none⟩ (.int .u64 0)).setCell ⟨w3.heap.size, 7, none⟩ (.int .u64 0)).setCell ⟨w3.heap.size, 8, none⟩ (.string ⟨#[]⟩)) := ((((hDw6.setCell (p := ⟨w3.heap.size, 5, none⟩) (fun _ => .inl rfl) (.bool false)).setCell (p := ⟨w3.heap.size, 6, none⟩) (fun _ => .inl rfl) (.int .u64 0)).setCell (p := ⟨w3.heap.size, 7, none⟩) (fun _ => .inl rfl) (.int .u64 0)).setCell (p := ⟨w3.heap.size, 8, none⟩) (fun _ => .inl rfl) (.string ⟨#[]⟩))
  have HOw7 := Lib.hid hOw7
  have HPw7 := Lib.hid hPw7
  have HZw7 := Lib.hid hZw7
  have HMw7 := Lib.hid hMw7
  have HDw7 := Lib.hid hDw7
  clear hOw6 hPw6 hZw6 hMw6 hDw6 hOw7 hPw7 hZw7 hMw7 hDw7
  go_upto_region 13 with fail
  generalize ((((w6.setCell ⟨w3.heap.size, 5, none⟩ (.bool false)).setCell ⟨w3.heap.size, 6, none⟩ (.int .u64 0)).setCell ⟨w3.heap.size, 7, none⟩ (.int .u64 0)).setCell ⟨w3.heap.size, 8, none⟩ (.string ⟨#[]⟩)) = w7 at *
  have hOw7 := HOw7.out
  have hPw7 := HPw7.out
  have hZw7 := HZw7.out
  have hMw7 := HMw7.out
  have hDw7 := HDw7.out
  clear HOw7 HPw7 HZw7 HMw7 HDw7
  clear pl y0 y1 y2 y3 yz
  clear ol o0 o1 o2 o3 o4 o5 o6 o7 o8 oz
  obtain ⟨ol, o0, o1, o2, o3, o4, o5, o6, o7, o8, oz⟩ := Blk9F hOw7
  obtain ⟨zl, z0, z1, z2, z3, z4, z5, z6, z7, z8, zz⟩ := Blk9F hZw7
  have hOw8 := (((((((((hOw7.far (p := ⟨(w.heap.size + 1), 0, none⟩) (by first | (simp; done) | (simp; omega)) (.int .i64 3)).far (p := ⟨(w.heap.size + 1), 1, none⟩) (by first | (simp; done) | (simp; omega)) (.int .u64 (ms : Int))).far (p := ⟨(w.heap.size + 1), 2, none⟩) (by first | (simp; done) | (simp; omega)) (.int .u64 (mr : Int))).far (p := ⟨(w.heap.size + 1), 3, none⟩) (by first | (simp; done) | (simp; omega)) (.int .u64 (mn : Int))).far (p := ⟨(w.heap.size + 1), 4, none⟩) (by first | (simp; done) | (simp; omega)) (.string ⟨#[]⟩)).far (p := ⟨(w.heap.size + 1), 5, none⟩) (by first | (simp; done) | (simp; omega)) (.bool false)).far (p := ⟨(w.heap.size + 1), 6, none⟩) (by first | (simp; done) | (simp; omega)) (.int .u64 0)).far (p := ⟨(w.heap.size + 1), 7, none⟩) (by first | (simp; done) | (simp; omega)) (.int .u64 0)).far (p := ⟨(w.heap.size + 1), 8, none⟩) (by first | (simp; done) | (simp; omega)) (.string ⟨#[]⟩))
  have hPw8 := (((((((((hPw7.far (p := ⟨(w.heap.size + 1), 0, none⟩) (by first | (simp; done) | (simp; omega)) (.int .i64 3)).far (p := ⟨(w.heap.size + 1), 1, none⟩) (by first | (simp; done) | (simp; omega)) (.int .u64 (ms : Int))).far (p := ⟨(w.heap.size + 1), 2, none⟩) (by first | (simp; done) | (simp; omega)) (.int .u64 (mr : Int))).far (p := ⟨(w.heap.size + 1), 3, none⟩) (by first | (simp; done) | (simp; omega)) (.int .u64 (mn : Int))).far (p := ⟨(w.heap.size + 1), 4, none⟩) (by first | (simp; done) | (simp; omega)) (.string ⟨#[]⟩)).far (p := ⟨(w.heap.size + 1), 5, none⟩) (by first | (simp; done) | (simp; omega)) (.bool false)).far (p := ⟨(w.heap.size + 1), 6, none⟩) (by first | (simp; done) | (simp; omega)) (.int .u64 0)).far (p := ⟨(w.heap.size + 1), 7, none⟩) (by first | (simp; done) | (simp; omega)) (.int .u64 0)).far (p := ⟨(w.heap.size + 1), 8, none⟩) (by first | (simp; done) | (simp; omega)) (.string ⟨#[]⟩))
  have hZw8 := (((((((((hZw7.set_ 0 (.int .i64 3)).set_ 1 (.int .u64 (ms : Int))).set_ 2 (.int .u64 (mr : Int))).set_ 3 (.int .u64 (mn : Int))).set_ 4 (.string ⟨#[]⟩)).set_ 5 (.bool false)).set_ 6 (.int .u64 0)).set_ 7 (.int .u64 0)).set_ 8 (.string ⟨#[]⟩))
  have hMw8 := (((((((((hMw7.far (p := ⟨(w.heap.size + 1), 0, none⟩) (by first | (simp; done) | (simp; omega)) (.int .i64 3)).far (p := ⟨(w.heap.size + 1), 1, none⟩) (by first | (simp; done) | (simp; omega)) (.int .u64 (ms : Int))).far (p := ⟨(w.heap.size + 1), 2, none⟩) (by first | (simp; done) | (simp; omega)) (.int .u64 (mr : Int))).far (p := ⟨(w.heap.size + 1), 3, none⟩) (by first | (simp; done) | (simp; omega)) (.int .u64 (mn : Int))).far (p := ⟨(w.heap.size + 1), 4, none⟩) (by first | (simp; done) | (simp; omega)) (.string ⟨#[]⟩)).far (p := ⟨(w.heap.size + 1), 5, none⟩) (by first | (simp; done) | (simp; omega)) (.bool false)).far (p := ⟨(w.heap.size + 1), 6, none⟩) (by first | (simp; done) | (simp; omega)) (.int .u64 0)).far (p := ⟨(w.heap.size + 1), 7, none⟩) (by first | (simp; done) | (simp; omega)) (.int .u64 0)).far (p := ⟨(w.heap.size + 1), 8, none⟩) (by first | (simp; done) | (simp; omega)) (.string ⟨#[]⟩))
  have hDw8 : Upd (fun k => k = w3.heap.size ∨ k = w3.heap.size + 1 ∨ k = w.heap.size + 1) w5 (((((((((w7.setCell ⟨(w.heap.size + 1), 0, none⟩ (.int .i64 3)).setCell ⟨(w.heap.size + 1), 1, none⟩ (.int .u64 (ms : Int))).setCell ⟨(w.heap.size + 1), 2, none⟩ (.int .u64 (mr : Int))).setCell ⟨(w.heap.size + 1), 3, none⟩ (.int .u64 (mn : Int))).setCell ⟨(w.heap.size + 1), 4, none⟩ (.string ⟨#[]⟩)).setCell ⟨(w.heap.size + 1), 5, none⟩ (.bool false)).setCell ⟨(w.heap.size + 1), 6, none⟩ (.int .u64 0)).setCell ⟨(w.heap.size + 1), 7, none⟩ (.int .u64 0)).setCell ⟨(w.heap.size + 1), 8, none⟩ (.string ⟨#[]⟩)) := (((((((((hDw7.setCell (p := ⟨(w.heap.size + 1), 0, none⟩) (fun _ => .inr (.inr rfl)) (.int .i64 3)).setCell (p := ⟨(w.heap.size + 1), 1, none⟩) (fun _ => .inr (.inr rfl)) (.int .u64 (ms : Int))).setCell (p := ⟨(w.heap.size + 1), 2, none⟩) (fun _ => .inr (.inr rfl)) (.int .u64 (mr : Int))).setCell (p := ⟨(w.heap.size + 1), 3, none⟩) (fun _ => .inr (.inr rfl)) (.int .u64 (mn : Int))).setCell (p := ⟨(w.heap.size + 1), 4, none⟩) (fun _ => .inr (.inr rfl)) (.string ⟨#[]⟩)).setCell (p := ⟨(w.heap.size + 1), 5, none⟩) (fun _ => .inr (.inr rfl)) (.bool false)).setCell (p := ⟨(w.heap.size + 1), 6, none⟩) (fun _ => .inr (.inr rfl)) (.int .u64 0)).setCell (p := ⟨(w.heap.size + 1), 7, none⟩) (fun _ => .inr (.inr rfl)) (.int .u64 0)).setCell (p := ⟨(w.heap.size + 1), 8, none⟩) (fun _ => .inr (.inr rfl)) (.string ⟨#[]⟩))
  have HOw8 := Lib.hid hOw8
  have HPw8 := Lib.hid hPw8
  have HZw8 := Lib.hid hZw8
  have HMw8 := Lib.hid hMw8
  have HDw8 := Lib.hid hDw8
  clear hOw7 hPw7 hZw7 hMw7 hDw7 hOw8 hPw8 hZw8 hMw8 hDw8
  go_wp2_with fail
  have hd := HDw8.out
  exact bodyPost_ret (v := .agg #[.int .i64 3, .int .u64 (ms : Int), .int .u64 (mr : Int), .int .u64 (mn : Int), .string ⟨#[]⟩, .bool false, .int .u64 0, .int .u64 0, .string ⟨#[]⟩]) (by simp [results, Try.results64, go_sem, z0, z1, z2, z3, z4, z5, z6, z7, z8]) rfl ⟨rfl, F3, L3, H5.out.upd hd (fun k hk hs => by have := HF3b.out k hk; have := HF3.out k hk; rcases hs with h | h | h <;> omega), fun k hk => (HG3.out k hk).elim .inl (fun h => .inr ⟨h.1, by have := hd.size; have := HU5.out.size; have := HZW.out; omega⟩), HU5.out.trans hd (fun i hi h => by exfalso; rcases h with h | h | h <;> omega)⟩
set_option maxRecDepth 100000 in
set_option maxHeartbeats 8000000 in
theorem nasked_ref0 (h : NdAt w F nb id B L x) (m : Msg) (hs : m.s < 18446744073709551616) (hB : B ≤ 1000000000000) (hF : ∀ k, F k → k < w.heap.size) (hl : x.lg m.s = none) (hk : m.k = 0) {a : Acr} (ha : x.acr m.s = a) (hle : lessB m.r m.n a.r a.n = true) :
    Calls Try.prog 64 #[.pointer (some ⟨nb, 0, none⟩), m.val] w (AskPost w F nb id (B + 1) (x.asked m)) := by
  rw [asked_ref hl (by rw [ha]; exact hle), ha]
  obtain ⟨mk, ms, mr, mn, mv, mh, mhr, mhn, mhv⟩ := m
  dsimp only at hs hl hk hle ha ⊢
  subst hk
  have hN := ((New.refl w).alloc (.cells #[.int .i64 ((0 : Nat) : Int), .int .u64 (ms : Int), .int .u64 (mr : Int), .int .u64 (mn : Int), .string mv, .bool mh, .int .u64 (mhr : Int), .int .u64 (mhn : Int), .string mhv] 107)).alloc (.cells #[.int .i64 0, .int .u64 0, .int .u64 0, .int .u64 0, .string ⟨#[]⟩, .bool false, .int .u64 0, .int .u64 0, .string ⟨#[]⟩] 107)
  have hM := (Blk.mk_new w 107 #[.int .i64 ((0 : Nat) : Int), .int .u64 (ms : Int), .int .u64 (mr : Int), .int .u64 (mn : Int), .string mv, .bool mh, .int .u64 (mhr : Int), .int .u64 (mhn : Int), .string mhv]).alloc (.cells #[.int .i64 0, .int .u64 0, .int .u64 0, .int .u64 0, .string ⟨#[]⟩, .bool false, .int .u64 0, .int .u64 0, .string ⟨#[]⟩] 107)
  have hZ := Blk.mk_new (w.alloc (.cells #[.int .i64 ((0 : Nat) : Int), .int .u64 (ms : Int), .int .u64 (mr : Int), .int .u64 (mn : Int), .string mv, .bool mh, .int .u64 (mhr : Int), .int .u64 (mhn : Int), .string mhv] 107)) 107 #[.int .i64 0, .int .u64 0, .int .u64 0, .int .u64 0, .string ⟨#[]⟩, .bool false, .int .u64 0, .int .u64 0, .string ⟨#[]⟩]
  rw [World.size_alloc] at hZ
  have h1 := h.new hN
  have HH := Lib.hid h
  have HN := Lib.hid hN
  obtain ⟨ml, hml, hmp⟩ := h1.lg
  have HLK := Lib.hid (mpGetOk keyS64 (MpAt.new hmp (New.refl _).drew) Try.underlying97 (zeroS _) ms (okU_lt hs))
  rw [show lgV x.lg ms = none from lgV_none _ _ hl] at HLK
  obtain ⟨g0, c0, c1, c2, c3, c4, c5, cz⟩ := Blk6F h1.blk
  obtain ⟨p0, a0, a1, a2, a3, a4, a5, a6, a7, a8, az⟩ := Blk9F hM
  obtain ⟨q0, b0, b1, b2, b3, b4, b5, b6, b7, b8, bz⟩ := Blk9F hZ
  have hwz : w.heap.size + 2 = ((w.alloc (.cells #[.int .i64 ((0 : Nat) : Int), .int .u64 (ms : Int), .int .u64 (mr : Int), .int .u64 (mn : Int), .string mv, .bool mh, .int .u64 (mhr : Int), .int .u64 (mhn : Int), .string mhv] 107)).alloc (.cells #[.int .i64 0, .int .u64 0, .int .u64 0, .int .u64 0, .string ⟨#[]⟩, .bool false, .int .u64 0, .int .u64 0, .string ⟨#[]⟩] 107)).heap.size := by simp
  have HWZ := Lib.hid hwz
  have HL := Lib.hid hl
  have HF := Lib.hid hF
  have H1 := Lib.hid h1
  have HM1 := Lib.hid hM
  have HZ1 := Lib.hid hZ
  clear hl h hmp hM hwz hZ hF hN h1
  go_enter Try.func64, Try.ntmps64
  go_wp2_with fail
  generalize ((w.alloc (.cells #[.int .i64 ((0 : Nat) : Int), .int .u64 (ms : Int), .int .u64 (mr : Int), .int .u64 (mn : Int), .string mv, .bool mh, .int .u64 (mhr : Int), .int .u64 (mhn : Int), .string mhv] 107)).alloc (.cells #[.int .i64 0, .int .u64 0, .int .u64 0, .int .u64 0, .string ⟨#[]⟩, .bool false, .int .u64 0, .int .u64 0, .string ⟨#[]⟩] 107)) = wz at *
  have hlk := HLK.out
  dsimp only [Option.isSome, Option.getD] at hlk
  refine wp_region_held_drew (S := fun w' => w' = wz.drew) (by kernel_rfl) (rfl) (fun hHeld => ?_)
  refine wpAnyH_take (i := 0) (oi := { dst := some 12, op := Op.move (Operand.tmp 0), type := 95, pos := "decree.go:208", after := #[], guard := none }) (v := ?_) rfl (by kernel_rfl) (by kernel_rfl) (by kernel_rfl) (fun _ _ _ h => h) (Or.inl ⟨by rfl, ?_⟩) (by assumption) ?_
  rotate_left
  · (intro wq hSw; (try dsimp only at hSw); go_simp; first | done | with_reducible rfl)
  try simp only [Act.put, List.setIfInBounds_toArray, List.set_cons_zero, List.set_cons_succ]
  refine wpAnyH_take (i := 1) (oi := { dst := some 13, op := Op.nilCheck (Operand.tmp 12), type := 0, pos := "decree.go:208", after := #[{ on := 0, ground := Ground.data }], guard := none }) (v := ?_) rfl (by kernel_rfl) (by kernel_rfl) (by kernel_rfl) (fun _ _ _ h => h) (Or.inl ⟨by rfl, ?_⟩) (by assumption) ?_
  rotate_left
  · (intro wq hSw; (try dsimp only at hSw); go_simp; first | done | with_reducible rfl)
  try simp only [Act.put, List.setIfInBounds_toArray, List.set_cons_zero, List.set_cons_succ]
  refine wpAnyH_take (i := 2) (oi := { dst := some 14, op := Op.fieldAddr 100 (Operand.tmp 13) 2, type := 0, pos := "decree.go:208", after := #[{ on := 1, ground := Ground.data }], guard := none }) (v := ?_) rfl (by kernel_rfl) (by kernel_rfl) (by kernel_rfl) (fun _ _ _ h => h) (Or.inl ⟨by rfl, ?_⟩) (by assumption) ?_
  rotate_left
  · (intro wq hSw; (try dsimp only at hSw); go_simp; first | done | with_reducible rfl)
  try simp only [Act.put, List.setIfInBounds_toArray, List.set_cons_zero, List.set_cons_succ]
  refine wpAnyH_take (i := 3) (oi := { dst := some 15, op := Op.load 97 (Operand.tmp 14), type := 97, pos := "decree.go:208", after := #[{ on := 2, ground := Ground.data }], guard := none }) (v := ?_) rfl (by kernel_rfl) (by kernel_rfl) (by kernel_rfl) (fun _ _ _ h => h) (Or.inl ⟨by rfl, ?_⟩) (by assumption) ?_
  rotate_left
  · (intro wq hSw; (try dsimp only at hSw); go_simp; first | done | with_reducible rfl)
  try simp only [Act.put, List.setIfInBounds_toArray, List.set_cons_zero, List.set_cons_succ]
  refine wpAnyH_take (i := 4) (oi := { dst := some 16, op := Op.fieldAddr 107 (Operand.tmp 3) 1, type := 0, pos := "decree.go:208", after := #[], guard := none }) (v := ?_) rfl (by kernel_rfl) (by kernel_rfl) (by kernel_rfl) (fun _ _ _ h => h) (Or.inl ⟨by rfl, ?_⟩) (by assumption) ?_
  rotate_left
  · (intro wq hSw; (try dsimp only at hSw); go_simp; first | done | with_reducible rfl)
  try simp only [Act.put, List.setIfInBounds_toArray, List.set_cons_zero, List.set_cons_succ]
  refine wpAnyH_take (i := 5) (oi := { dst := some 17, op := Op.load 29 (Operand.tmp 16), type := 29, pos := "decree.go:208", after := #[{ on := 4, ground := Ground.data }], guard := none }) (v := ?_) rfl (by kernel_rfl) (by kernel_rfl) (by kernel_rfl) (fun _ _ _ h => h) (Or.inl ⟨by rfl, ?_⟩) (by assumption) ?_
  rotate_left
  · (intro wq hSw; (try dsimp only at hSw); go_simp; first | done | with_reducible rfl)
  try simp only [Act.put, List.setIfInBounds_toArray, List.set_cons_zero, List.set_cons_succ]
  refine wpAnyH_take (i := 6) (oi := { dst := some 18, op := Op.lookup 97 (Operand.tmp 15) (Operand.tmp 17) true, type := 122, pos := "decree.go:208", after := #[{ on := 3, ground := Ground.data }, { on := 5, ground := Ground.data }], guard := none }) (v := ?_) rfl (by kernel_rfl) (by kernel_rfl) (by kernel_rfl) (fun _ _ _ h => h) (Or.inl ⟨by rfl, ?_⟩) (by assumption) ?_
  rotate_left
  · (intro wq hSw; (try dsimp only at hSw); go_simp; first | done | with_reducible rfl)
  try simp only [Act.put, List.setIfInBounds_toArray, List.set_cons_zero, List.set_cons_succ]
  refine wpAnyH_take (i := 7) (oi := { dst := some 11, op := Op.move (Operand.tmp 18), type := 122, pos := "decree.go:208", after := #[{ on := 6, ground := Ground.data }], guard := none }) (v := ?_) rfl (by kernel_rfl) (by kernel_rfl) (by kernel_rfl) (fun _ _ _ h => h) (Or.inl ⟨by rfl, ?_⟩) (by assumption) ?_
  rotate_left
  · (intro wq hSw; (try dsimp only at hSw); go_simp; first | done | with_reducible rfl)
  try simp only [Act.put, List.setIfInBounds_toArray, List.set_cons_zero, List.set_cons_succ]
  refine wpAnyH_take (i := 8) (oi := { dst := some 19, op := Op.extract (Operand.tmp 11) 0, type := 9, pos := "decree.go:208", after := #[{ on := 7, ground := Ground.data }], guard := none }) (v := ?_) rfl (by kernel_rfl) (by kernel_rfl) (by kernel_rfl) (fun _ _ _ h => h) (Or.inl ⟨by rfl, ?_⟩) (by assumption) ?_
  rotate_left
  · (intro wq hSw; (try dsimp only at hSw); go_simp; first | done | with_reducible rfl)
  try simp only [Act.put, List.setIfInBounds_toArray, List.set_cons_zero, List.set_cons_succ]
  refine wpAnyH_take (i := 9) (oi := { dst := some 20, op := Op.extract (Operand.tmp 11) 1, type := 4, pos := "decree.go:208", after := #[{ on := 7, ground := Ground.data }, { on := 10, ground := Ground.gcOnly Departure.lateStores }], guard := none }) (v := ?_) rfl (by kernel_rfl) (by kernel_rfl) (by kernel_rfl) (fun _ _ _ h => h) (Or.inl ⟨by rfl, ?_⟩) (by assumption) ?_
  rotate_left
  · (intro wq hSw; (try dsimp only at hSw); go_simp; first | done | with_reducible rfl)
  try simp only [Act.put, List.setIfInBounds_toArray, List.set_cons_zero, List.set_cons_succ]
  refine wpAnyH_take (i := 10) (oi := { dst := some 5, op := Op.assign (Operand.tmp 19), type := 9, pos := "decree.go:208", after := #[{ on := 8, ground := Ground.data }, { on := 0, ground := Ground.phase }, { on := 1, ground := Ground.phase }, { on := 2, ground := Ground.phase }, { on := 3, ground := Ground.phase }, { on := 4, ground := Ground.phase }, { on := 5, ground := Ground.phase }, { on := 6, ground := Ground.phase }, { on := 7, ground := Ground.phase }, { on := 8, ground := Ground.phase }, { on := 9, ground := Ground.textOnly Departure.lateStores }], guard := none }) (v := ?_) rfl (by kernel_rfl) (by kernel_rfl) (by kernel_rfl) (fun _ _ _ h => h) (Or.inl ⟨by rfl, ?_⟩) (by assumption) ?_
  rotate_left
  · (intro wq hSw; (try dsimp only at hSw); go_simp; first | done | with_reducible rfl)
  try simp only [Act.put, List.setIfInBounds_toArray, List.set_cons_zero, List.set_cons_succ]
  refine wpAnyH_take (i := 11) (oi := { dst := some 6, op := Op.assign (Operand.tmp 20), type := 4, pos := "decree.go:208", after := #[{ on := 9, ground := Ground.data }, { on := 10, ground := Ground.chain }, { on := 0, ground := Ground.phase }, { on := 1, ground := Ground.phase }, { on := 2, ground := Ground.phase }, { on := 3, ground := Ground.phase }, { on := 4, ground := Ground.phase }, { on := 5, ground := Ground.phase }, { on := 6, ground := Ground.phase }, { on := 7, ground := Ground.phase }, { on := 8, ground := Ground.phase }, { on := 9, ground := Ground.phase }, { on := 10, ground := Ground.phase }], guard := none }) (v := ?_) rfl (by kernel_rfl) (by kernel_rfl) (by kernel_rfl) (fun _ _ _ h => h) (Or.inl ⟨by rfl, ?_⟩) (by assumption) ?_
  rotate_left
  · (intro wq hSw; (try dsimp only at hSw); go_simp; first | done | with_reducible rfl)
  try simp only [Act.put, List.setIfInBounds_toArray, List.set_cons_zero, List.set_cons_succ]
  refine wpAnyH_done (by kernel_rfl) ?_ _
  clear hHeld hlk HLK
  go_wp2_with fail
  refine (nacc (H1.out.new (New.refl wz).drew) hs hB).mono ?_
  rintro e w3 ⟨F3, L3, rfl, hA, hG, hFs, hU⟩
  have hsz : w.heap.size + 2 ≤ w3.heap.size := by have := hU.size; have := HWZ.out; simp at *; omega
  have hF3 : ∀ k, F3 k → k < w.heap.size ∨ w.heap.size + 2 ≤ k := fun k hk => (hG k hk).elim (fun h => .inl (HF.out k h)) (fun h => .inr (by have := HWZ.out; simp at h; omega))
  have hM3 := HM1.out.drew.upd hU (fun hk => by have := HF.out _ hk; omega)
  have hZ3 := HZ1.out.drew.upd hU (fun hk => by have := HF.out _ hk; omega)
  have HG3 : Hid (Gro F F3 w w3) := Lib.hid fun k hk => (hG k hk).elim (fun h => .inl h) (fun h => .inr (by have := HWZ.out; simp at h; omega))
  have HU3 := Lib.hid ((Upd.new (S := F) HN.out.drew).trans hU (fun _ _ h => h))
  have HF3 := Lib.hid hF3
  have HFS := Lib.hid hFs
  clear hG hU hFs a0 a1 a2 a3 a4 a5 a6 a7 a8 az b0 b1 b2 b3 b4 b5 b6 b7 b8 bz c0 c1 c2 c3 c4 c5 cz g0 p0 q0
  obtain ⟨p0, a0, a1, a2, a3, a4, a5, a6, a7, a8, az⟩ := Blk9F hM3
  have hN3 := ((New.refl w3).alloc (.cells #[.int .i64 1, .int .u64 (ms : Int), .int .u64 (mr : Int), .int .u64 (mn : Int), .string ⟨#[]⟩, .bool false, .int .u64 0, .int .u64 0, .string ⟨#[]⟩] 107)).alloc (.cells #[.bool false, .int .u64 0, .int .u64 0, .string ⟨#[]⟩] 45)
  have hO3 := (Blk.mk_new w3 107 #[.int .i64 1, .int .u64 (ms : Int), .int .u64 (mr : Int), .int .u64 (mn : Int), .string ⟨#[]⟩, .bool false, .int .u64 0, .int .u64 0, .string ⟨#[]⟩]).alloc (.cells #[.bool false, .int .u64 0, .int .u64 0, .string ⟨#[]⟩] 45)
  have hP3 := Blk.mk_new (w3.alloc (.cells #[.int .i64 1, .int .u64 (ms : Int), .int .u64 (mr : Int), .int .u64 (mn : Int), .string ⟨#[]⟩, .bool false, .int .u64 0, .int .u64 0, .string ⟨#[]⟩] 107)) 45 #[.bool false, .int .u64 0, .int .u64 0, .string ⟨#[]⟩]
  rw [World.size_alloc] at hP3
  have hA4 := hA.new hN3
  have hM4 := hM3.new hN3
  have hZ4 := hZ3.new hN3
  clear hA hM3 hZ3
  go_wp2_with fail
  generalize (w3.alloc (.cells #[.int .i64 1, .int .u64 (ms : Int), .int .u64 (mr : Int), .int .u64 (mn : Int), .string ⟨#[]⟩, .bool false, .int .u64 0, .int .u64 0, .string ⟨#[]⟩] 107)).alloc (.cells #[.bool false, .int .u64 0, .int .u64 0, .string ⟨#[]⟩] 45) = w4 at *
  rw [ha] at hA4
  have hat : ({ x with ac := set x.ac ms (some a) } : Nod).ac ms = some a := set_same _ _ _
  have hac := (hA4.ac.at_ ms a hat).1
  have HAT := Lib.hid hat
  clear hat
  refine (prepare_no (L3.ab ms) a.r a.n a.h a.ar a.an a.v mr mn w4 hac hle).mono ?_
  rintro e w5 ⟨rfl, hn5⟩
  have hOw5 := hO3.new hn5
  have hPw5 := hP3.new hn5
  have hZw5 := hZ4.new hn5
  have hMw5 := hM4.new hn5
  have hac5 := AccAt.new hac hn5
  have H5 := Lib.hid (hA4.new hn5)
  have HU5 := Lib.hid ((HU3.out.transNew hN3).transNew hn5)
  have HF3b : Hid (∀ k, F3 k → k < w3.heap.size) := Lib.hid fun k hk => (HG3.out k hk).elim (fun h => by have := HF.out k h; omega) (fun h => h.2)
  have HZW : Hid (w3.heap.size ≤ w5.heap.size) := Lib.hid (by have := hN3.size; have := hn5.size; omega)
  have hDw5 : Upd (fun k => k = w3.heap.size ∨ k = w3.heap.size + 1 ∨ k = w.heap.size + 1) w5 w5 := Upd.refl _ _
  have HNG : Hid (¬ (L3.ab ms = w3.heap.size ∨ L3.ab ms = w3.heap.size + 1 ∨ L3.ab ms = w.heap.size + 1)) := Lib.hid (by have := HF3b.out _ HFS.out; have := HF3.out _ HFS.out; omega)
  have HAC5 := Lib.hid hac5
  clear hO3 hP3 hZ4 hM4 hA4 hN3 hac hn5 hac5 a0 a1 a2 a3 a4 a5 a6 a7 a8 az p0
  obtain ⟨pl, y0, y1, y2, y3, yz⟩ := Blk4F hPw5
  have hOw6 := ((((hOw5.far (p := ⟨(w3.heap.size + 1), 0, none⟩) (by first | (simp; done) | (simp; omega)) (.bool false)).far (p := ⟨(w3.heap.size + 1), 1, none⟩) (by first | (simp; done) | (simp; omega)) (.int .u64 0)).far (p := ⟨(w3.heap.size + 1), 2, none⟩) (by first | (simp; done) | (simp; omega)) (.int .u64 0)).far (p := ⟨(w3.heap.size + 1), 3, none⟩) (by first | (simp; done) | (simp; omega)) (.string ⟨#[]⟩))
  have hPw6 := ((((hPw5.set_ 0 (.bool false)).set_ 1 (.int .u64 0)).set_ 2 (.int .u64 0)).set_ 3 (.string ⟨#[]⟩))
  have hZw6 := ((((hZw5.far (p := ⟨(w3.heap.size + 1), 0, none⟩) (by first | (simp; done) | (simp; omega)) (.bool false)).far (p := ⟨(w3.heap.size + 1), 1, none⟩) (by first | (simp; done) | (simp; omega)) (.int .u64 0)).far (p := ⟨(w3.heap.size + 1), 2, none⟩) (by first | (simp; done) | (simp; omega)) (.int .u64 0)).far (p := ⟨(w3.heap.size + 1), 3, none⟩) (by first | (simp; done) | (simp; omega)) (.string ⟨#[]⟩))
  have hMw6 := ((((hMw5.far (p := ⟨(w3.heap.size + 1), 0, none⟩) (by first | (simp; done) | (simp; omega)) (.bool false)).far (p := ⟨(w3.heap.size + 1), 1, none⟩) (by first | (simp; done) | (simp; omega)) (.int .u64 0)).far (p := ⟨(w3.heap.size + 1), 2, none⟩) (by first | (simp; done) | (simp; omega)) (.int .u64 0)).far (p := ⟨(w3.heap.size + 1), 3, none⟩) (by first | (simp; done) | (simp; omega)) (.string ⟨#[]⟩))
  have hDw6 : Upd (fun k => k = w3.heap.size ∨ k = w3.heap.size + 1 ∨ k = w.heap.size + 1) w5 ((((w5.setCell ⟨(w3.heap.size + 1), 0, none⟩ (.bool false)).setCell ⟨(w3.heap.size + 1), 1, none⟩ (.int .u64 0)).setCell ⟨(w3.heap.size + 1), 2, none⟩ (.int .u64 0)).setCell ⟨(w3.heap.size + 1), 3, none⟩ (.string ⟨#[]⟩)) := ((((hDw5.setCell (p := ⟨(w3.heap.size + 1), 0, none⟩) (fun _ => .inr (.inl rfl)) (.bool false)).setCell (p := ⟨(w3.heap.size + 1), 1, none⟩) (fun _ => .inr (.inl rfl)) (.int .u64 0)).setCell (p := ⟨(w3.heap.size + 1), 2, none⟩) (fun _ => .inr (.inl rfl)) (.int .u64 0)).setCell (p := ⟨(w3.heap.size + 1), 3, none⟩) (fun _ => .inr (.inl rfl)) (.string ⟨#[]⟩))
  have HOw6 := Lib.hid hOw6
  have HPw6 := Lib.hid hPw6
  have HZw6 := Lib.hid hZw6
  have HMw6 := Lib.hid hMw6
  have HDw6 := Lib.hid hDw6
  clear hOw5 hPw5 hZw5 hMw5 hDw5 hOw6 hPw6 hZw6 hMw6 hDw6
  go_upto_region 11 with fail
  generalize ((((w5.setCell ⟨(w3.heap.size + 1), 0, none⟩ (.bool false)).setCell ⟨(w3.heap.size + 1), 1, none⟩ (.int .u64 0)).setCell ⟨(w3.heap.size + 1), 2, none⟩ (.int .u64 0)).setCell ⟨(w3.heap.size + 1), 3, none⟩ (.string ⟨#[]⟩)) = w6 at *
  have hOw6 := HOw6.out
  have hPw6 := HPw6.out
  have hZw6 := HZw6.out
  have hMw6 := HMw6.out
  have hDw6 := HDw6.out
  clear HOw6 HPw6 HZw6 HMw6 HDw6
  clear pl y0 y1 y2 y3 yz
  have HAC6 := Lib.hid (AccAt.upd HAC5.out hDw6 HNG.out)
  obtain ⟨p0, a0, a1, a2, a3, a4, a5, a6, a7, a8, az⟩ := Blk9F hMw6
  refine wp_region_held_drew (S := fun w' => w'.cell? ⟨w.heap.size, 1, none⟩ = some (.int .u64 (ms : Int))) (by kernel_rfl) (a1) (fun hHeld => ?_)
  refine wpAnyH_take (i := 0) (oi := { dst := some 55, op := Op.fieldAddr 107 (Operand.tmp 3) 1, type := 0, pos := "decree.go:220", after := #[], guard := none }) (v := ?_) rfl (by kernel_rfl) (by kernel_rfl) (by kernel_rfl) (fun _ _ _ h => h) (Or.inl ⟨by rfl, ?_⟩) (by assumption) ?_
  rotate_left
  · (intro wq hSw; (try dsimp only at hSw); go_simp; first | done | with_reducible rfl)
  try simp only [Act.put, List.setIfInBounds_toArray, List.set_cons_zero, List.set_cons_succ]
  refine wpAnyH_take (i := 1) (oi := { dst := some 56, op := Op.load 29 (Operand.tmp 55), type := 29, pos := "decree.go:220", after := #[{ on := 0, ground := Ground.data }], guard := none }) (v := ?_) rfl (by kernel_rfl) (by kernel_rfl) (by kernel_rfl) (fun _ _ _ h => h) (Or.inl ⟨by rfl, ?_⟩) (by assumption) ?_
  rotate_left
  · (intro wq hSw; (try dsimp only at hSw); go_simp; first | done | with_reducible rfl)
  try simp only [Act.put, List.setIfInBounds_toArray, List.set_cons_zero, List.set_cons_succ]
  refine wpAnyH_take (i := 2) (oi := { dst := some 57, op := Op.move (Operand.tmp 7), type := 24, pos := "decree.go:220", after := #[], guard := none }) (v := ?_) rfl (by kernel_rfl) (by kernel_rfl) (by kernel_rfl) (fun _ _ _ h => h) (Or.inl ⟨by rfl, ?_⟩) (by assumption) ?_
  rotate_left
  · (intro wq hSw; (try dsimp only at hSw); go_simp; first | done | with_reducible rfl)
  try simp only [Act.put, List.setIfInBounds_toArray, List.set_cons_zero, List.set_cons_succ]
  refine wpAnyH_ready (rs := [3]) (by kernel_rfl) (by simp) ?_
  refine AllReadyH.cons (o := { dst := some 58, op := Op.call { callee := Callee.value (Operand.func 79), args := #[Operand.tmp 57], argTypes := #[24] }, type := 31, pos := "decree.go:220", after := #[{ on := 2, ground := Ground.data }], guard := none }) rfl (fun K hK => ?_) AllReadyH.nil
  go_simp
  refine (promised_any (L3.ab ms) a.r a.n a.h a.ar a.an a.v _ (AccAt.new HAC6.out (New.refl w6).drew)).mono ?_
  rintro e w9 ⟨rfl, hn9⟩
  have hd9 := hDw6.drew.transNew hn9
  have hOw9 := hOw6.drew.new hn9
  have hPw9 := hPw6.drew.new hn9
  have hZw9 := hZw6.drew.new hn9
  have hMw9 := hMw6.drew.new hn9
  have hDw9 := hd9
  obtain ⟨zl, z0, z1, z2, z3, z4, z5, z6, z7, z8, zz⟩ := Blk9F hZw9
  have x1 := hMw9.cell 1
  simp at x1
  refine hK.out _ _ ?_ (fun hHeld => ?_)
  · exact x1
  clear hK K
  try simp only [Act.put, List.setIfInBounds_toArray, List.set_cons_zero, List.set_cons_succ]
  refine wpAnyH_take (i := 4) (oi := { dst := some 59, op := Op.build 107 #[(0, Operand.const (Value.int IntKind.i64 4)), (1, Operand.tmp 56), (2, Operand.tmp 58)], type := 107, pos := "decree.go:220", after := #[{ on := 1, ground := Ground.data }, { on := 3, ground := Ground.data }], guard := none }) (v := ?_) rfl (by kernel_rfl) (by kernel_rfl) (by kernel_rfl) (fun _ _ _ h => h) (Or.inl ⟨by rfl, ?_⟩) (by assumption) ?_
  rotate_left
  · (intro wq hSw; (try dsimp only at hSw); go_simp; first | done | with_reducible rfl)
  try simp only [Act.put, List.setIfInBounds_toArray, List.set_cons_zero, List.set_cons_succ]
  refine wpAnyH_ready (rs := [5]) (by kernel_rfl) (by simp) ?_
  refine AllReadyH.cons (o := { dst := none, op := Op.store 107 (Operand.tmp 4) (Operand.tmp 59), type := 0, pos := "decree.go:220", after := #[{ on := 4, ground := Ground.data }, { on := 3, ground := Ground.chain }, { on := 0, ground := Ground.phase }, { on := 1, ground := Ground.phase }, { on := 2, ground := Ground.phase }, { on := 3, ground := Ground.phase }, { on := 4, ground := Ground.phase }], guard := none }) rfl (fun K hK => ?_) AllReadyH.nil
  go_simp
  refine hK.out _ _ ?_ (fun hHeld => ?_)
  · exact (Blk.cell (((((((((hMw9.far (p := ⟨(w.heap.size + 1), 0, none⟩) (by first | (simp; done) | (simp; omega)) (.int .i64 4)).far (p := ⟨(w.heap.size + 1), 1, none⟩) (by first | (simp; done) | (simp; omega)) (.int .u64 (ms : Int))).far (p := ⟨(w.heap.size + 1), 2, none⟩) (by first | (simp; done) | (simp; omega)) (.int .u64 (a.r : Int))).far (p := ⟨(w.heap.size + 1), 3, none⟩) (by first | (simp; done) | (simp; omega)) (.int .u64 (a.n : Int))).far (p := ⟨(w.heap.size + 1), 4, none⟩) (by first | (simp; done) | (simp; omega)) (.string ⟨#[]⟩)).far (p := ⟨(w.heap.size + 1), 5, none⟩) (by first | (simp; done) | (simp; omega)) (.bool false)).far (p := ⟨(w.heap.size + 1), 6, none⟩) (by first | (simp; done) | (simp; omega)) (.int .u64 0)).far (p := ⟨(w.heap.size + 1), 7, none⟩) (by first | (simp; done) | (simp; omega)) (.int .u64 0)).far (p := ⟨(w.heap.size + 1), 8, none⟩) (by first | (simp; done) | (simp; omega)) (.string ⟨#[]⟩)) 1)
  clear hK K
  try simp only [Act.put, List.setIfInBounds_toArray, List.set_cons_zero, List.set_cons_succ]
  refine wpAnyH_done (by kernel_rfl) ?_ _
  clear hHeld
  have hOw8 := (((((((((hOw9.far (p := ⟨(w.heap.size + 1), 0, none⟩) (by first | (simp; done) | (simp; omega)) (.int .i64 4)).far (p := ⟨(w.heap.size + 1), 1, none⟩) (by first | (simp; done) | (simp; omega)) (.int .u64 (ms : Int))).far (p := ⟨(w.heap.size + 1), 2, none⟩) (by first | (simp; done) | (simp; omega)) (.int .u64 (a.r : Int))).far (p := ⟨(w.heap.size + 1), 3, none⟩) (by first | (simp; done) | (simp; omega)) (.int .u64 (a.n : Int))).far (p := ⟨(w.heap.size + 1), 4, none⟩) (by first | (simp; done) | (simp; omega)) (.string ⟨#[]⟩)).far (p := ⟨(w.heap.size + 1), 5, none⟩) (by first | (simp; done) | (simp; omega)) (.bool false)).far (p := ⟨(w.heap.size + 1), 6, none⟩) (by first | (simp; done) | (simp; omega)) (.int .u64 0)).far (p := ⟨(w.heap.size + 1), 7, none⟩) (by first | (simp; done) | (simp; omega)) (.int .u64 0)).far (p := ⟨(w.heap.size + 1), 8, none⟩) (by first | (simp; done) | (simp; omega)) (.string ⟨#[]⟩))
  have hPw8 := (((((((((hPw9.far (p := ⟨(w.heap.size + 1), 0, none⟩) (by first | (simp; done) | (simp; omega)) (.int .i64 4)).far (p := ⟨(w.heap.size + 1), 1, none⟩) (by first | (simp; done) | (simp; omega)) (.int .u64 (ms : Int))).far (p := ⟨(w.heap.size + 1), 2, none⟩) (by first | (simp; done) | (simp; omega)) (.int .u64 (a.r : Int))).far (p := ⟨(w.heap.size + 1), 3, none⟩) (by first | (simp; done) | (simp; omega)) (.int .u64 (a.n : Int))).far (p := ⟨(w.heap.size + 1), 4, none⟩) (by first | (simp; done) | (simp; omega)) (.string ⟨#[]⟩)).far (p := ⟨(w.heap.size + 1), 5, none⟩) (by first | (simp; done) | (simp; omega)) (.bool false)).far (p := ⟨(w.heap.size + 1), 6, none⟩) (by first | (simp; done) | (simp; omega)) (.int .u64 0)).far (p := ⟨(w.heap.size + 1), 7, none⟩) (by first | (simp; done) | (simp; omega)) (.int .u64 0)).far (p := ⟨(w.heap.size + 1), 8, none⟩) (by first | (simp; done) | (simp; omega)) (.string ⟨#[]⟩))
  have hZw8 := (((((((((hZw9.set_ 0 (.int .i64 4)).set_ 1 (.int .u64 (ms : Int))).set_ 2 (.int .u64 (a.r : Int))).set_ 3 (.int .u64 (a.n : Int))).set_ 4 (.string ⟨#[]⟩)).set_ 5 (.bool false)).set_ 6 (.int .u64 0)).set_ 7 (.int .u64 0)).set_ 8 (.string ⟨#[]⟩))
  have hMw8 := (((((((((hMw9.far (p := ⟨(w.heap.size + 1), 0, none⟩) (by first | (simp; done) | (simp; omega)) (.int .i64 4)).far (p := ⟨(w.heap.size + 1), 1, none⟩) (by first | (simp; done) | (simp; omega)) (.int .u64 (ms : Int))).far (p := ⟨(w.heap.size + 1), 2, none⟩) (by first | (simp; done) | (simp; omega)) (.int .u64 (a.r : Int))).far (p := ⟨(w.heap.size + 1), 3, none⟩) (by first | (simp; done) | (simp; omega)) (.int .u64 (a.n : Int))).far (p := ⟨(w.heap.size + 1), 4, none⟩) (by first | (simp; done) | (simp; omega)) (.string ⟨#[]⟩)).far (p := ⟨(w.heap.size + 1), 5, none⟩) (by first | (simp; done) | (simp; omega)) (.bool false)).far (p := ⟨(w.heap.size + 1), 6, none⟩) (by first | (simp; done) | (simp; omega)) (.int .u64 0)).far (p := ⟨(w.heap.size + 1), 7, none⟩) (by first | (simp; done) | (simp; omega)) (.int .u64 0)).far (p := ⟨(w.heap.size + 1), 8, none⟩) (by first | (simp; done) | (simp; omega)) (.string ⟨#[]⟩))
  have hDw8 : Upd (fun k => k = w3.heap.size ∨ k = w3.heap.size + 1 ∨ k = w.heap.size + 1) w5 (((((((((w9.setCell ⟨(w.heap.size + 1), 0, none⟩ (.int .i64 4)).setCell ⟨(w.heap.size + 1), 1, none⟩ (.int .u64 (ms : Int))).setCell ⟨(w.heap.size + 1), 2, none⟩ (.int .u64 (a.r : Int))).setCell ⟨(w.heap.size + 1), 3, none⟩ (.int .u64 (a.n : Int))).setCell ⟨(w.heap.size + 1), 4, none⟩ (.string ⟨#[]⟩)).setCell ⟨(w.heap.size + 1), 5, none⟩ (.bool false)).setCell ⟨(w.heap.size + 1), 6, none⟩ (.int .u64 0)).setCell ⟨(w.heap.size + 1), 7, none⟩ (.int .u64 0)).setCell ⟨(w.heap.size + 1), 8, none⟩ (.string ⟨#[]⟩)) := (((((((((hDw9.setCell (p := ⟨(w.heap.size + 1), 0, none⟩) (fun _ => .inr (.inr rfl)) (.int .i64 4)).setCell (p := ⟨(w.heap.size + 1), 1, none⟩) (fun _ => .inr (.inr rfl)) (.int .u64 (ms : Int))).setCell (p := ⟨(w.heap.size + 1), 2, none⟩) (fun _ => .inr (.inr rfl)) (.int .u64 (a.r : Int))).setCell (p := ⟨(w.heap.size + 1), 3, none⟩) (fun _ => .inr (.inr rfl)) (.int .u64 (a.n : Int))).setCell (p := ⟨(w.heap.size + 1), 4, none⟩) (fun _ => .inr (.inr rfl)) (.string ⟨#[]⟩)).setCell (p := ⟨(w.heap.size + 1), 5, none⟩) (fun _ => .inr (.inr rfl)) (.bool false)).setCell (p := ⟨(w.heap.size + 1), 6, none⟩) (fun _ => .inr (.inr rfl)) (.int .u64 0)).setCell (p := ⟨(w.heap.size + 1), 7, none⟩) (fun _ => .inr (.inr rfl)) (.int .u64 0)).setCell (p := ⟨(w.heap.size + 1), 8, none⟩) (fun _ => .inr (.inr rfl)) (.string ⟨#[]⟩))
  have HOw8 := Lib.hid hOw8
  have HPw8 := Lib.hid hPw8
  have HZw8 := Lib.hid hZw8
  have HMw8 := Lib.hid hMw8
  have HDw8 := Lib.hid hDw8
  clear hOw9 hPw9 hZw9 hMw9 hDw9 hOw8 hPw8 hZw8 hMw8 hDw8
  go_wp2_with fail
  have hd := HDw8.out
  exact bodyPost_ret (v := .agg #[.int .i64 4, .int .u64 (ms : Int), .int .u64 (a.r : Int), .int .u64 (a.n : Int), .string ⟨#[]⟩, .bool false, .int .u64 0, .int .u64 0, .string ⟨#[]⟩]) (by simp [results, Try.results64, go_sem, z0, z1, z2, z3, z4, z5, z6, z7, z8]) rfl ⟨rfl, F3, L3, H5.out.upd hd (fun k hk hs => by have := HF3b.out k hk; have := HF3.out k hk; rcases hs with h | h | h <;> omega), fun k hk => (HG3.out k hk).elim .inl (fun h => .inr ⟨h.1, by have := hd.size; have := HU5.out.size; have := HZW.out; omega⟩), HU5.out.trans hd (fun i hi h => by exfalso; rcases h with h | h | h <;> omega)⟩
set_option maxRecDepth 100000 in
set_option maxHeartbeats 8000000 in
theorem nasked_ref1 (h : NdAt w F nb id B L x) (m : Msg) (hs : m.s < 18446744073709551616) (hB : B ≤ 1000000000000) (hF : ∀ k, F k → k < w.heap.size) (hl : x.lg m.s = none) (hk : m.k ≠ 0) {a : Acr} (ha : x.acr m.s = a) (hle : lessB m.r m.n a.r a.n = true) :
    Calls Try.prog 64 #[.pointer (some ⟨nb, 0, none⟩), m.val] w (AskPost w F nb id (B + 1) (x.asked m)) := by
  rw [asked_ref hl (by rw [ha]; exact hle), ha]
  obtain ⟨mk, ms, mr, mn, mv, mh, mhr, mhn, mhv⟩ := m
  dsimp only at hs hl hk hle ha ⊢
  have hkb : ((mk : Int) == 0) = false := by rw [beq_eq_false_iff_ne]; omega
  clear hk
  have hN := ((New.refl w).alloc (.cells #[.int .i64 (mk : Int), .int .u64 (ms : Int), .int .u64 (mr : Int), .int .u64 (mn : Int), .string mv, .bool mh, .int .u64 (mhr : Int), .int .u64 (mhn : Int), .string mhv] 107)).alloc (.cells #[.int .i64 0, .int .u64 0, .int .u64 0, .int .u64 0, .string ⟨#[]⟩, .bool false, .int .u64 0, .int .u64 0, .string ⟨#[]⟩] 107)
  have hM := (Blk.mk_new w 107 #[.int .i64 (mk : Int), .int .u64 (ms : Int), .int .u64 (mr : Int), .int .u64 (mn : Int), .string mv, .bool mh, .int .u64 (mhr : Int), .int .u64 (mhn : Int), .string mhv]).alloc (.cells #[.int .i64 0, .int .u64 0, .int .u64 0, .int .u64 0, .string ⟨#[]⟩, .bool false, .int .u64 0, .int .u64 0, .string ⟨#[]⟩] 107)
  have hZ := Blk.mk_new (w.alloc (.cells #[.int .i64 (mk : Int), .int .u64 (ms : Int), .int .u64 (mr : Int), .int .u64 (mn : Int), .string mv, .bool mh, .int .u64 (mhr : Int), .int .u64 (mhn : Int), .string mhv] 107)) 107 #[.int .i64 0, .int .u64 0, .int .u64 0, .int .u64 0, .string ⟨#[]⟩, .bool false, .int .u64 0, .int .u64 0, .string ⟨#[]⟩]
  rw [World.size_alloc] at hZ
  have h1 := h.new hN
  have HH := Lib.hid h
  have HN := Lib.hid hN
  obtain ⟨ml, hml, hmp⟩ := h1.lg
  have HLK := Lib.hid (mpGetOk keyS64 (MpAt.new hmp (New.refl _).drew) Try.underlying97 (zeroS _) ms (okU_lt hs))
  rw [show lgV x.lg ms = none from lgV_none _ _ hl] at HLK
  obtain ⟨g0, c0, c1, c2, c3, c4, c5, cz⟩ := Blk6F h1.blk
  obtain ⟨p0, a0, a1, a2, a3, a4, a5, a6, a7, a8, az⟩ := Blk9F hM
  obtain ⟨q0, b0, b1, b2, b3, b4, b5, b6, b7, b8, bz⟩ := Blk9F hZ
  have hwz : w.heap.size + 2 = ((w.alloc (.cells #[.int .i64 (mk : Int), .int .u64 (ms : Int), .int .u64 (mr : Int), .int .u64 (mn : Int), .string mv, .bool mh, .int .u64 (mhr : Int), .int .u64 (mhn : Int), .string mhv] 107)).alloc (.cells #[.int .i64 0, .int .u64 0, .int .u64 0, .int .u64 0, .string ⟨#[]⟩, .bool false, .int .u64 0, .int .u64 0, .string ⟨#[]⟩] 107)).heap.size := by simp
  have HWZ := Lib.hid hwz
  have HL := Lib.hid hl
  have HF := Lib.hid hF
  have H1 := Lib.hid h1
  have HM1 := Lib.hid hM
  have HZ1 := Lib.hid hZ
  clear hl h hmp hM hwz hZ hF hN h1
  go_enter Try.func64, Try.ntmps64
  go_wp2_with fail
  generalize ((w.alloc (.cells #[.int .i64 (mk : Int), .int .u64 (ms : Int), .int .u64 (mr : Int), .int .u64 (mn : Int), .string mv, .bool mh, .int .u64 (mhr : Int), .int .u64 (mhn : Int), .string mhv] 107)).alloc (.cells #[.int .i64 0, .int .u64 0, .int .u64 0, .int .u64 0, .string ⟨#[]⟩, .bool false, .int .u64 0, .int .u64 0, .string ⟨#[]⟩] 107)) = wz at *
  have hlk := HLK.out
  dsimp only [Option.isSome, Option.getD] at hlk
  refine wp_region_held_drew (S := fun w' => w' = wz.drew) (by kernel_rfl) (rfl) (fun hHeld => ?_)
  refine wpAnyH_take (i := 0) (oi := { dst := some 12, op := Op.move (Operand.tmp 0), type := 95, pos := "decree.go:208", after := #[], guard := none }) (v := ?_) rfl (by kernel_rfl) (by kernel_rfl) (by kernel_rfl) (fun _ _ _ h => h) (Or.inl ⟨by rfl, ?_⟩) (by assumption) ?_
  rotate_left
  · (intro wq hSw; (try dsimp only at hSw); go_simp; first | done | with_reducible rfl)
  try simp only [Act.put, List.setIfInBounds_toArray, List.set_cons_zero, List.set_cons_succ]
  refine wpAnyH_take (i := 1) (oi := { dst := some 13, op := Op.nilCheck (Operand.tmp 12), type := 0, pos := "decree.go:208", after := #[{ on := 0, ground := Ground.data }], guard := none }) (v := ?_) rfl (by kernel_rfl) (by kernel_rfl) (by kernel_rfl) (fun _ _ _ h => h) (Or.inl ⟨by rfl, ?_⟩) (by assumption) ?_
  rotate_left
  · (intro wq hSw; (try dsimp only at hSw); go_simp; first | done | with_reducible rfl)
  try simp only [Act.put, List.setIfInBounds_toArray, List.set_cons_zero, List.set_cons_succ]
  refine wpAnyH_take (i := 2) (oi := { dst := some 14, op := Op.fieldAddr 100 (Operand.tmp 13) 2, type := 0, pos := "decree.go:208", after := #[{ on := 1, ground := Ground.data }], guard := none }) (v := ?_) rfl (by kernel_rfl) (by kernel_rfl) (by kernel_rfl) (fun _ _ _ h => h) (Or.inl ⟨by rfl, ?_⟩) (by assumption) ?_
  rotate_left
  · (intro wq hSw; (try dsimp only at hSw); go_simp; first | done | with_reducible rfl)
  try simp only [Act.put, List.setIfInBounds_toArray, List.set_cons_zero, List.set_cons_succ]
  refine wpAnyH_take (i := 3) (oi := { dst := some 15, op := Op.load 97 (Operand.tmp 14), type := 97, pos := "decree.go:208", after := #[{ on := 2, ground := Ground.data }], guard := none }) (v := ?_) rfl (by kernel_rfl) (by kernel_rfl) (by kernel_rfl) (fun _ _ _ h => h) (Or.inl ⟨by rfl, ?_⟩) (by assumption) ?_
  rotate_left
  · (intro wq hSw; (try dsimp only at hSw); go_simp; first | done | with_reducible rfl)
  try simp only [Act.put, List.setIfInBounds_toArray, List.set_cons_zero, List.set_cons_succ]
  refine wpAnyH_take (i := 4) (oi := { dst := some 16, op := Op.fieldAddr 107 (Operand.tmp 3) 1, type := 0, pos := "decree.go:208", after := #[], guard := none }) (v := ?_) rfl (by kernel_rfl) (by kernel_rfl) (by kernel_rfl) (fun _ _ _ h => h) (Or.inl ⟨by rfl, ?_⟩) (by assumption) ?_
  rotate_left
  · (intro wq hSw; (try dsimp only at hSw); go_simp; first | done | with_reducible rfl)
  try simp only [Act.put, List.setIfInBounds_toArray, List.set_cons_zero, List.set_cons_succ]
  refine wpAnyH_take (i := 5) (oi := { dst := some 17, op := Op.load 29 (Operand.tmp 16), type := 29, pos := "decree.go:208", after := #[{ on := 4, ground := Ground.data }], guard := none }) (v := ?_) rfl (by kernel_rfl) (by kernel_rfl) (by kernel_rfl) (fun _ _ _ h => h) (Or.inl ⟨by rfl, ?_⟩) (by assumption) ?_
  rotate_left
  · (intro wq hSw; (try dsimp only at hSw); go_simp; first | done | with_reducible rfl)
  try simp only [Act.put, List.setIfInBounds_toArray, List.set_cons_zero, List.set_cons_succ]
  refine wpAnyH_take (i := 6) (oi := { dst := some 18, op := Op.lookup 97 (Operand.tmp 15) (Operand.tmp 17) true, type := 122, pos := "decree.go:208", after := #[{ on := 3, ground := Ground.data }, { on := 5, ground := Ground.data }], guard := none }) (v := ?_) rfl (by kernel_rfl) (by kernel_rfl) (by kernel_rfl) (fun _ _ _ h => h) (Or.inl ⟨by rfl, ?_⟩) (by assumption) ?_
  rotate_left
  · (intro wq hSw; (try dsimp only at hSw); go_simp; first | done | with_reducible rfl)
  try simp only [Act.put, List.setIfInBounds_toArray, List.set_cons_zero, List.set_cons_succ]
  refine wpAnyH_take (i := 7) (oi := { dst := some 11, op := Op.move (Operand.tmp 18), type := 122, pos := "decree.go:208", after := #[{ on := 6, ground := Ground.data }], guard := none }) (v := ?_) rfl (by kernel_rfl) (by kernel_rfl) (by kernel_rfl) (fun _ _ _ h => h) (Or.inl ⟨by rfl, ?_⟩) (by assumption) ?_
  rotate_left
  · (intro wq hSw; (try dsimp only at hSw); go_simp; first | done | with_reducible rfl)
  try simp only [Act.put, List.setIfInBounds_toArray, List.set_cons_zero, List.set_cons_succ]
  refine wpAnyH_take (i := 8) (oi := { dst := some 19, op := Op.extract (Operand.tmp 11) 0, type := 9, pos := "decree.go:208", after := #[{ on := 7, ground := Ground.data }], guard := none }) (v := ?_) rfl (by kernel_rfl) (by kernel_rfl) (by kernel_rfl) (fun _ _ _ h => h) (Or.inl ⟨by rfl, ?_⟩) (by assumption) ?_
  rotate_left
  · (intro wq hSw; (try dsimp only at hSw); go_simp; first | done | with_reducible rfl)
  try simp only [Act.put, List.setIfInBounds_toArray, List.set_cons_zero, List.set_cons_succ]
  refine wpAnyH_take (i := 9) (oi := { dst := some 20, op := Op.extract (Operand.tmp 11) 1, type := 4, pos := "decree.go:208", after := #[{ on := 7, ground := Ground.data }, { on := 10, ground := Ground.gcOnly Departure.lateStores }], guard := none }) (v := ?_) rfl (by kernel_rfl) (by kernel_rfl) (by kernel_rfl) (fun _ _ _ h => h) (Or.inl ⟨by rfl, ?_⟩) (by assumption) ?_
  rotate_left
  · (intro wq hSw; (try dsimp only at hSw); go_simp; first | done | with_reducible rfl)
  try simp only [Act.put, List.setIfInBounds_toArray, List.set_cons_zero, List.set_cons_succ]
  refine wpAnyH_take (i := 10) (oi := { dst := some 5, op := Op.assign (Operand.tmp 19), type := 9, pos := "decree.go:208", after := #[{ on := 8, ground := Ground.data }, { on := 0, ground := Ground.phase }, { on := 1, ground := Ground.phase }, { on := 2, ground := Ground.phase }, { on := 3, ground := Ground.phase }, { on := 4, ground := Ground.phase }, { on := 5, ground := Ground.phase }, { on := 6, ground := Ground.phase }, { on := 7, ground := Ground.phase }, { on := 8, ground := Ground.phase }, { on := 9, ground := Ground.textOnly Departure.lateStores }], guard := none }) (v := ?_) rfl (by kernel_rfl) (by kernel_rfl) (by kernel_rfl) (fun _ _ _ h => h) (Or.inl ⟨by rfl, ?_⟩) (by assumption) ?_
  rotate_left
  · (intro wq hSw; (try dsimp only at hSw); go_simp; first | done | with_reducible rfl)
  try simp only [Act.put, List.setIfInBounds_toArray, List.set_cons_zero, List.set_cons_succ]
  refine wpAnyH_take (i := 11) (oi := { dst := some 6, op := Op.assign (Operand.tmp 20), type := 4, pos := "decree.go:208", after := #[{ on := 9, ground := Ground.data }, { on := 10, ground := Ground.chain }, { on := 0, ground := Ground.phase }, { on := 1, ground := Ground.phase }, { on := 2, ground := Ground.phase }, { on := 3, ground := Ground.phase }, { on := 4, ground := Ground.phase }, { on := 5, ground := Ground.phase }, { on := 6, ground := Ground.phase }, { on := 7, ground := Ground.phase }, { on := 8, ground := Ground.phase }, { on := 9, ground := Ground.phase }, { on := 10, ground := Ground.phase }], guard := none }) (v := ?_) rfl (by kernel_rfl) (by kernel_rfl) (by kernel_rfl) (fun _ _ _ h => h) (Or.inl ⟨by rfl, ?_⟩) (by assumption) ?_
  rotate_left
  · (intro wq hSw; (try dsimp only at hSw); go_simp; first | done | with_reducible rfl)
  try simp only [Act.put, List.setIfInBounds_toArray, List.set_cons_zero, List.set_cons_succ]
  refine wpAnyH_done (by kernel_rfl) ?_ _
  clear hHeld hlk HLK
  go_wp2_with fail
  refine (nacc (H1.out.new (New.refl wz).drew) hs hB).mono ?_
  rintro e w3 ⟨F3, L3, rfl, hA, hG, hFs, hU⟩
  have hsz : w.heap.size + 2 ≤ w3.heap.size := by have := hU.size; have := HWZ.out; simp at *; omega
  have hF3 : ∀ k, F3 k → k < w.heap.size ∨ w.heap.size + 2 ≤ k := fun k hk => (hG k hk).elim (fun h => .inl (HF.out k h)) (fun h => .inr (by have := HWZ.out; simp at h; omega))
  have hM3 := HM1.out.drew.upd hU (fun hk => by have := HF.out _ hk; omega)
  have hZ3 := HZ1.out.drew.upd hU (fun hk => by have := HF.out _ hk; omega)
  have HG3 : Hid (Gro F F3 w w3) := Lib.hid fun k hk => (hG k hk).elim (fun h => .inl h) (fun h => .inr (by have := HWZ.out; simp at h; omega))
  have HU3 := Lib.hid ((Upd.new (S := F) HN.out.drew).trans hU (fun _ _ h => h))
  have HF3 := Lib.hid hF3
  have HFS := Lib.hid hFs
  clear hG hU hFs a0 a1 a2 a3 a4 a5 a6 a7 a8 az b0 b1 b2 b3 b4 b5 b6 b7 b8 bz c0 c1 c2 c3 c4 c5 cz g0 p0 q0
  obtain ⟨p0, a0, a1, a2, a3, a4, a5, a6, a7, a8, az⟩ := Blk9F hM3
  have hN3 := ((New.refl w3).alloc (.cells #[.int .i64 1, .int .u64 (ms : Int), .int .u64 (mr : Int), .int .u64 (mn : Int), .string ⟨#[]⟩, .bool false, .int .u64 0, .int .u64 0, .string ⟨#[]⟩] 107)).alloc (.cells #[.bool false, .int .u64 0, .int .u64 0, .string ⟨#[]⟩] 45)
  have hO3 := (Blk.mk_new w3 107 #[.int .i64 1, .int .u64 (ms : Int), .int .u64 (mr : Int), .int .u64 (mn : Int), .string ⟨#[]⟩, .bool false, .int .u64 0, .int .u64 0, .string ⟨#[]⟩]).alloc (.cells #[.bool false, .int .u64 0, .int .u64 0, .string ⟨#[]⟩] 45)
  have hP3 := Blk.mk_new (w3.alloc (.cells #[.int .i64 1, .int .u64 (ms : Int), .int .u64 (mr : Int), .int .u64 (mn : Int), .string ⟨#[]⟩, .bool false, .int .u64 0, .int .u64 0, .string ⟨#[]⟩] 107)) 45 #[.bool false, .int .u64 0, .int .u64 0, .string ⟨#[]⟩]
  rw [World.size_alloc] at hP3
  have hA4 := hA.new hN3
  have hM4 := hM3.new hN3
  have hZ4 := hZ3.new hN3
  clear hA hM3 hZ3
  go_wp2_with fail
  generalize (w3.alloc (.cells #[.int .i64 1, .int .u64 (ms : Int), .int .u64 (mr : Int), .int .u64 (mn : Int), .string ⟨#[]⟩, .bool false, .int .u64 0, .int .u64 0, .string ⟨#[]⟩] 107)).alloc (.cells #[.bool false, .int .u64 0, .int .u64 0, .string ⟨#[]⟩] 45) = w4 at *
  rw [ha] at hA4
  have hat : ({ x with ac := set x.ac ms (some a) } : Nod).ac ms = some a := set_same _ _ _
  have hac := (hA4.ac.at_ ms a hat).1
  have HAT := Lib.hid hat
  clear hat
  refine (accept_no (L3.ab ms) a.r a.n a.h a.ar a.an a.v mr mn mv w4 hac hle).mono ?_
  rintro e w5 ⟨rfl, hn5⟩
  have hOw5 := hO3.new hn5
  have hPw5 := hP3.new hn5
  have hZw5 := hZ4.new hn5
  have hMw5 := hM4.new hn5
  have hac5 := AccAt.new hac hn5
  have H5 := Lib.hid (hA4.new hn5)
  have HU5 := Lib.hid ((HU3.out.transNew hN3).transNew hn5)
  have HF3b : Hid (∀ k, F3 k → k < w3.heap.size) := Lib.hid fun k hk => (HG3.out k hk).elim (fun h => by have := HF.out k h; omega) (fun h => h.2)
  have HZW : Hid (w3.heap.size ≤ w5.heap.size) := Lib.hid (by have := hN3.size; have := hn5.size; omega)
  have hDw5 : Upd (fun k => k = w3.heap.size ∨ k = w3.heap.size + 1 ∨ k = w.heap.size + 1) w5 w5 := Upd.refl _ _
  have HNG : Hid (¬ (L3.ab ms = w3.heap.size ∨ L3.ab ms = w3.heap.size + 1 ∨ L3.ab ms = w.heap.size + 1)) := Lib.hid (by have := HF3b.out _ HFS.out; have := HF3.out _ HFS.out; omega)
  have HAC5 := Lib.hid hac5
  clear hO3 hP3 hZ4 hM4 hA4 hN3 hac hn5 hac5 a0 a1 a2 a3 a4 a5 a6 a7 a8 az p0
  obtain ⟨ol, o0, o1, o2, o3, o4, o5, o6, o7, o8, oz⟩ := Blk9F hOw5
  have hOw6 := (hOw5.set_ 0 (.int .i64 3))
  have hPw6 := (hPw5.far (p := ⟨w3.heap.size, 0, none⟩) (by first | (simp; done) | (simp; omega)) (.int .i64 3))
  have hZw6 := (hZw5.far (p := ⟨w3.heap.size, 0, none⟩) (by first | (simp; done) | (simp; omega)) (.int .i64 3))
  have hMw6 := (hMw5.far (p := ⟨w3.heap.size, 0, none⟩) (by first | (simp; done) | (simp; omega)) (.int .i64 3))
  have hDw6 : Upd (fun k => k = w3.heap.size ∨ k = w3.heap.size + 1 ∨ k = w.heap.size + 1) w5 (w5.setCell ⟨w3.heap.size, 0, none⟩ (.int .i64 3)) := (hDw5.setCell (p := ⟨w3.heap.size, 0, none⟩) (fun _ => .inl rfl) (.int .i64 3))
  have HOw6 := Lib.hid hOw6
  have HPw6 := Lib.hid hPw6
  have HZw6 := Lib.hid hZw6
  have HMw6 := Lib.hid hMw6
  have HDw6 := Lib.hid hDw6
  clear hOw5 hPw5 hZw5 hMw5 hDw5 hOw6 hPw6 hZw6 hMw6 hDw6
  go_upto_region 11 with fail
  generalize (w5.setCell ⟨w3.heap.size, 0, none⟩ (.int .i64 3)) = w6 at *
  have hOw6 := HOw6.out
  have hPw6 := HPw6.out
  have hZw6 := HZw6.out
  have hMw6 := HMw6.out
  have hDw6 := HDw6.out
  clear HOw6 HPw6 HZw6 HMw6 HDw6
  clear ol o0 o1 o2 o3 o4 o5 o6 o7 o8 oz
  have HAC6 := Lib.hid (AccAt.upd HAC5.out hDw6 HNG.out)
  obtain ⟨p0, a0, a1, a2, a3, a4, a5, a6, a7, a8, az⟩ := Blk9F hMw6
  refine wp_region_held_drew (S := fun w' => w'.cell? ⟨w.heap.size, 1, none⟩ = some (.int .u64 (ms : Int))) (by kernel_rfl) (a1) (fun hHeld => ?_)
  refine wpAnyH_take (i := 0) (oi := { dst := some 55, op := Op.fieldAddr 107 (Operand.tmp 3) 1, type := 0, pos := "decree.go:220", after := #[], guard := none }) (v := ?_) rfl (by kernel_rfl) (by kernel_rfl) (by kernel_rfl) (fun _ _ _ h => h) (Or.inl ⟨by rfl, ?_⟩) (by assumption) ?_
  rotate_left
  · (intro wq hSw; (try dsimp only at hSw); go_simp; first | done | with_reducible rfl)
  try simp only [Act.put, List.setIfInBounds_toArray, List.set_cons_zero, List.set_cons_succ]
  refine wpAnyH_take (i := 1) (oi := { dst := some 56, op := Op.load 29 (Operand.tmp 55), type := 29, pos := "decree.go:220", after := #[{ on := 0, ground := Ground.data }], guard := none }) (v := ?_) rfl (by kernel_rfl) (by kernel_rfl) (by kernel_rfl) (fun _ _ _ h => h) (Or.inl ⟨by rfl, ?_⟩) (by assumption) ?_
  rotate_left
  · (intro wq hSw; (try dsimp only at hSw); go_simp; first | done | with_reducible rfl)
  try simp only [Act.put, List.setIfInBounds_toArray, List.set_cons_zero, List.set_cons_succ]
  refine wpAnyH_take (i := 2) (oi := { dst := some 57, op := Op.move (Operand.tmp 7), type := 24, pos := "decree.go:220", after := #[], guard := none }) (v := ?_) rfl (by kernel_rfl) (by kernel_rfl) (by kernel_rfl) (fun _ _ _ h => h) (Or.inl ⟨by rfl, ?_⟩) (by assumption) ?_
  rotate_left
  · (intro wq hSw; (try dsimp only at hSw); go_simp; first | done | with_reducible rfl)
  try simp only [Act.put, List.setIfInBounds_toArray, List.set_cons_zero, List.set_cons_succ]
  refine wpAnyH_ready (rs := [3]) (by kernel_rfl) (by simp) ?_
  refine AllReadyH.cons (o := { dst := some 58, op := Op.call { callee := Callee.value (Operand.func 79), args := #[Operand.tmp 57], argTypes := #[24] }, type := 31, pos := "decree.go:220", after := #[{ on := 2, ground := Ground.data }], guard := none }) rfl (fun K hK => ?_) AllReadyH.nil
  go_simp
  refine (promised_any (L3.ab ms) a.r a.n a.h a.ar a.an a.v _ (AccAt.new HAC6.out (New.refl w6).drew)).mono ?_
  rintro e w9 ⟨rfl, hn9⟩
  have hd9 := hDw6.drew.transNew hn9
  have hOw9 := hOw6.drew.new hn9
  have hPw9 := hPw6.drew.new hn9
  have hZw9 := hZw6.drew.new hn9
  have hMw9 := hMw6.drew.new hn9
  have hDw9 := hd9
  obtain ⟨zl, z0, z1, z2, z3, z4, z5, z6, z7, z8, zz⟩ := Blk9F hZw9
  have x1 := hMw9.cell 1
  simp at x1
  refine hK.out _ _ ?_ (fun hHeld => ?_)
  · exact x1
  clear hK K
  try simp only [Act.put, List.setIfInBounds_toArray, List.set_cons_zero, List.set_cons_succ]
  refine wpAnyH_take (i := 4) (oi := { dst := some 59, op := Op.build 107 #[(0, Operand.const (Value.int IntKind.i64 4)), (1, Operand.tmp 56), (2, Operand.tmp 58)], type := 107, pos := "decree.go:220", after := #[{ on := 1, ground := Ground.data }, { on := 3, ground := Ground.data }], guard := none }) (v := ?_) rfl (by kernel_rfl) (by kernel_rfl) (by kernel_rfl) (fun _ _ _ h => h) (Or.inl ⟨by rfl, ?_⟩) (by assumption) ?_
  rotate_left
  · (intro wq hSw; (try dsimp only at hSw); go_simp; first | done | with_reducible rfl)
  try simp only [Act.put, List.setIfInBounds_toArray, List.set_cons_zero, List.set_cons_succ]
  refine wpAnyH_ready (rs := [5]) (by kernel_rfl) (by simp) ?_
  refine AllReadyH.cons (o := { dst := none, op := Op.store 107 (Operand.tmp 4) (Operand.tmp 59), type := 0, pos := "decree.go:220", after := #[{ on := 4, ground := Ground.data }, { on := 3, ground := Ground.chain }, { on := 0, ground := Ground.phase }, { on := 1, ground := Ground.phase }, { on := 2, ground := Ground.phase }, { on := 3, ground := Ground.phase }, { on := 4, ground := Ground.phase }], guard := none }) rfl (fun K hK => ?_) AllReadyH.nil
  go_simp
  refine hK.out _ _ ?_ (fun hHeld => ?_)
  · exact (Blk.cell (((((((((hMw9.far (p := ⟨(w.heap.size + 1), 0, none⟩) (by first | (simp; done) | (simp; omega)) (.int .i64 4)).far (p := ⟨(w.heap.size + 1), 1, none⟩) (by first | (simp; done) | (simp; omega)) (.int .u64 (ms : Int))).far (p := ⟨(w.heap.size + 1), 2, none⟩) (by first | (simp; done) | (simp; omega)) (.int .u64 (a.r : Int))).far (p := ⟨(w.heap.size + 1), 3, none⟩) (by first | (simp; done) | (simp; omega)) (.int .u64 (a.n : Int))).far (p := ⟨(w.heap.size + 1), 4, none⟩) (by first | (simp; done) | (simp; omega)) (.string ⟨#[]⟩)).far (p := ⟨(w.heap.size + 1), 5, none⟩) (by first | (simp; done) | (simp; omega)) (.bool false)).far (p := ⟨(w.heap.size + 1), 6, none⟩) (by first | (simp; done) | (simp; omega)) (.int .u64 0)).far (p := ⟨(w.heap.size + 1), 7, none⟩) (by first | (simp; done) | (simp; omega)) (.int .u64 0)).far (p := ⟨(w.heap.size + 1), 8, none⟩) (by first | (simp; done) | (simp; omega)) (.string ⟨#[]⟩)) 1)
  clear hK K
  try simp only [Act.put, List.setIfInBounds_toArray, List.set_cons_zero, List.set_cons_succ]
  refine wpAnyH_done (by kernel_rfl) ?_ _
  clear hHeld
  have hOw8 := (((((((((hOw9.far (p := ⟨(w.heap.size + 1), 0, none⟩) (by first | (simp; done) | (simp; omega)) (.int .i64 4)).far (p := ⟨(w.heap.size + 1), 1, none⟩) (by first | (simp; done) | (simp; omega)) (.int .u64 (ms : Int))).far (p := ⟨(w.heap.size + 1), 2, none⟩) (by first | (simp; done) | (simp; omega)) (.int .u64 (a.r : Int))).far (p := ⟨(w.heap.size + 1), 3, none⟩) (by first | (simp; done) | (simp; omega)) (.int .u64 (a.n : Int))).far (p := ⟨(w.heap.size + 1), 4, none⟩) (by first | (simp; done) | (simp; omega)) (.string ⟨#[]⟩)).far (p := ⟨(w.heap.size + 1), 5, none⟩) (by first | (simp; done) | (simp; omega)) (.bool false)).far (p := ⟨(w.heap.size + 1), 6, none⟩) (by first | (simp; done) | (simp; omega)) (.int .u64 0)).far (p := ⟨(w.heap.size + 1), 7, none⟩) (by first | (simp; done) | (simp; omega)) (.int .u64 0)).far (p := ⟨(w.heap.size + 1), 8, none⟩) (by first | (simp; done) | (simp; omega)) (.string ⟨#[]⟩))
  have hPw8 := (((((((((hPw9.far (p := ⟨(w.heap.size + 1), 0, none⟩) (by first | (simp; done) | (simp; omega)) (.int .i64 4)).far (p := ⟨(w.heap.size + 1), 1, none⟩) (by first | (simp; done) | (simp; omega)) (.int .u64 (ms : Int))).far (p := ⟨(w.heap.size + 1), 2, none⟩) (by first | (simp; done) | (simp; omega)) (.int .u64 (a.r : Int))).far (p := ⟨(w.heap.size + 1), 3, none⟩) (by first | (simp; done) | (simp; omega)) (.int .u64 (a.n : Int))).far (p := ⟨(w.heap.size + 1), 4, none⟩) (by first | (simp; done) | (simp; omega)) (.string ⟨#[]⟩)).far (p := ⟨(w.heap.size + 1), 5, none⟩) (by first | (simp; done) | (simp; omega)) (.bool false)).far (p := ⟨(w.heap.size + 1), 6, none⟩) (by first | (simp; done) | (simp; omega)) (.int .u64 0)).far (p := ⟨(w.heap.size + 1), 7, none⟩) (by first | (simp; done) | (simp; omega)) (.int .u64 0)).far (p := ⟨(w.heap.size + 1), 8, none⟩) (by first | (simp; done) | (simp; omega)) (.string ⟨#[]⟩))
  have hZw8 := (((((((((hZw9.set_ 0 (.int .i64 4)).set_ 1 (.int .u64 (ms : Int))).set_ 2 (.int .u64 (a.r : Int))).set_ 3 (.int .u64 (a.n : Int))).set_ 4 (.string ⟨#[]⟩)).set_ 5 (.bool false)).set_ 6 (.int .u64 0)).set_ 7 (.int .u64 0)).set_ 8 (.string ⟨#[]⟩))
  have hMw8 := (((((((((hMw9.far (p := ⟨(w.heap.size + 1), 0, none⟩) (by first | (simp; done) | (simp; omega)) (.int .i64 4)).far (p := ⟨(w.heap.size + 1), 1, none⟩) (by first | (simp; done) | (simp; omega)) (.int .u64 (ms : Int))).far (p := ⟨(w.heap.size + 1), 2, none⟩) (by first | (simp; done) | (simp; omega)) (.int .u64 (a.r : Int))).far (p := ⟨(w.heap.size + 1), 3, none⟩) (by first | (simp; done) | (simp; omega)) (.int .u64 (a.n : Int))).far (p := ⟨(w.heap.size + 1), 4, none⟩) (by first | (simp; done) | (simp; omega)) (.string ⟨#[]⟩)).far (p := ⟨(w.heap.size + 1), 5, none⟩) (by first | (simp; done) | (simp; omega)) (.bool false)).far (p := ⟨(w.heap.size + 1), 6, none⟩) (by first | (simp; done) | (simp; omega)) (.int .u64 0)).far (p := ⟨(w.heap.size + 1), 7, none⟩) (by first | (simp; done) | (simp; omega)) (.int .u64 0)).far (p := ⟨(w.heap.size + 1), 8, none⟩) (by first | (simp; done) | (simp; omega)) (.string ⟨#[]⟩))
  have hDw8 : Upd (fun k => k = w3.heap.size ∨ k = w3.heap.size + 1 ∨ k = w.heap.size + 1) w5 (((((((((w9.setCell ⟨(w.heap.size + 1), 0, none⟩ (.int .i64 4)).setCell ⟨(w.heap.size + 1), 1, none⟩ (.int .u64 (ms : Int))).setCell ⟨(w.heap.size + 1), 2, none⟩ (.int .u64 (a.r : Int))).setCell ⟨(w.heap.size + 1), 3, none⟩ (.int .u64 (a.n : Int))).setCell ⟨(w.heap.size + 1), 4, none⟩ (.string ⟨#[]⟩)).setCell ⟨(w.heap.size + 1), 5, none⟩ (.bool false)).setCell ⟨(w.heap.size + 1), 6, none⟩ (.int .u64 0)).setCell ⟨(w.heap.size + 1), 7, none⟩ (.int .u64 0)).setCell ⟨(w.heap.size + 1), 8, none⟩ (.string ⟨#[]⟩)) := (((((((((hDw9.setCell (p := ⟨(w.heap.size + 1), 0, none⟩) (fun _ => .inr (.inr rfl)) (.int .i64 4)).setCell (p := ⟨(w.heap.size + 1), 1, none⟩) (fun _ => .inr (.inr rfl)) (.int .u64 (ms : Int))).setCell (p := ⟨(w.heap.size + 1), 2, none⟩) (fun _ => .inr (.inr rfl)) (.int .u64 (a.r : Int))).setCell (p := ⟨(w.heap.size + 1), 3, none⟩) (fun _ => .inr (.inr rfl)) (.int .u64 (a.n : Int))).setCell (p := ⟨(w.heap.size + 1), 4, none⟩) (fun _ => .inr (.inr rfl)) (.string ⟨#[]⟩)).setCell (p := ⟨(w.heap.size + 1), 5, none⟩) (fun _ => .inr (.inr rfl)) (.bool false)).setCell (p := ⟨(w.heap.size + 1), 6, none⟩) (fun _ => .inr (.inr rfl)) (.int .u64 0)).setCell (p := ⟨(w.heap.size + 1), 7, none⟩) (fun _ => .inr (.inr rfl)) (.int .u64 0)).setCell (p := ⟨(w.heap.size + 1), 8, none⟩) (fun _ => .inr (.inr rfl)) (.string ⟨#[]⟩))
  have HOw8 := Lib.hid hOw8
  have HPw8 := Lib.hid hPw8
  have HZw8 := Lib.hid hZw8
  have HMw8 := Lib.hid hMw8
  have HDw8 := Lib.hid hDw8
  clear hOw9 hPw9 hZw9 hMw9 hDw9 hOw8 hPw8 hZw8 hMw8 hDw8
  go_wp2_with fail
  have hd := HDw8.out
  exact bodyPost_ret (v := .agg #[.int .i64 4, .int .u64 (ms : Int), .int .u64 (a.r : Int), .int .u64 (a.n : Int), .string ⟨#[]⟩, .bool false, .int .u64 0, .int .u64 0, .string ⟨#[]⟩]) (by simp [results, Try.results64, go_sem, z0, z1, z2, z3, z4, z5, z6, z7, z8]) rfl ⟨rfl, F3, L3, H5.out.upd hd (fun k hk hs => by have := HF3b.out k hk; have := HF3.out k hk; rcases hs with h | h | h <;> omega), fun k hk => (HG3.out k hk).elim .inl (fun h => .inr ⟨h.1, by have := hd.size; have := HU5.out.size; have := HZW.out; omega⟩), HU5.out.trans hd (fun i hi h => by exfalso; rcases h with h | h | h <;> omega)⟩
theorem nasked (h : NdAt w F nb id B L x) (m : Msg) (hs : m.s < 18446744073709551616) (hB : B ≤ 1000000000000) (hF : ∀ k, F k → k < w.heap.size) :
    Calls Try.prog 64 #[.pointer (some ⟨nb, 0, none⟩), m.val] w (AskPost w F nb id (B + 1) (x.asked m)) := by
  cases hl : x.lg m.s with
  | some v => exact nasked_known h m hs hB hF hl
  | none =>
    by_cases hk : m.k = 0
    · cases hle : lessB m.r m.n (x.acr m.s).r (x.acr m.s).n with
      | false => exact nasked_prom h m hs hB hF hl hk rfl hle
      | true => exact nasked_ref0 h m hs hB hF hl hk rfl hle
    · cases hle : lessB m.r m.n (x.acr m.s).r (x.acr m.s).n with
      | false => exact nasked_acc h m hs hB hF hl hk rfl hle
      | true => exact nasked_ref1 h m hs hB hF hl hk rfl hle
end
end Go.Proofs.Ytghhcjpilcoblaa
