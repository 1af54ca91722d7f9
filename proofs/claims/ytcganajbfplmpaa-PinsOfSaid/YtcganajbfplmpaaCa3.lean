/- Chapter 11 (cache): a new cache, its list. Printed by genCa3.py. -/
import Derived.Test.YtcganajbfplmpaaCa2
import Derived.LaidEqlPtr
namespace Go.Proofs.Ytcganajbfplmpaa
open Go.RowKit Go.Lap
set_option linter.unusedVariables false

/-- What the map of a ring holds. -/
def mapF (l : List Nd) (id : Int) : Option Value := (l.find? fun x => decide (x.id = id)).map fun x => .pointer (some ⟨x.g, 0, none⟩)
/-- A cache. -/
structure CaAt (w : World) (c : Nat) (room : Int) (mb : Nat) (l : List Nd) : Prop where
  ring : Ring w c room mb l
  map : MpAt Try.prog 3 (fun n : Int => Lit.int .i64 n) (fun n => (Lit.int .i64 n).wf = true) w mb l.length (mapF l)
  mc : mb ≠ c
  ml : ∀ x ∈ l, x.g ≠ mb
  ids : (l.map (·.id)).Nodup
/-- The cache's own blocks. -/
def CaS (c mb : Nat) (l : List Nd) (k : Nat) : Prop := k = mb ∨ RgS c l k
theorem CaAt.new {w w' : World} {c mb : Nat} {room : Int} {l : List Nd} (h : CaAt w c room mb l) (hn : New w w') : CaAt w' c room mb l := ⟨h.ring.new hn, h.map.new hn, h.mc, h.ml, h.ids⟩
def NewPost (w : World) (room : Int) (e : Ending) (w' : World) : Prop := ∃ c mb, e = .returned (.tuple #[.pointer (some ⟨c, 0, none⟩), .int .i64 0]) ∧ w.heap.size ≤ c ∧ w.heap.size ≤ mb ∧ CaAt w' c room mb [] ∧ New w w'

set_option maxRecDepth 100000 in
set_option maxHeartbeats 8000000 in
theorem new_any (room : Int) (w : World) (h1 : 1 ≤ room) (h2 : room ≤ 1024) : Calls Try.prog 10 #[.int .i64 room] w (NewPost w room) := by
  have hm := MpAt.made Try.prog 3 (fun n : Int => Lit.int .i64 n) (fun n => (Lit.int .i64 n).wf = true) w
  have hB := Blk.mk_new (w.alloc (.map #[] 0)) 91 #[.int .i64 room, .map (some w.heap.size), .int .i64 0, .string ⟨#[]⟩, .bool false, .pointer none, .pointer none]
  rw [World.size_alloc] at hB
  have hN := ((New.refl w).alloc (.map #[] 0)).alloc (.cells #[.int .i64 room, .map (some w.heap.size), .int .i64 0, .string ⟨#[]⟩, .bool false, .pointer none, .pointer none] 91)
  have hM := hm.new ((New.refl _).alloc (.cells #[.int .i64 room, .map (some w.heap.size), .int .i64 0, .string ⟨#[]⟩, .bool false, .pointer none, .pointer none] 91))
  have hmm := @run_makeMap Try.prog
  have h1b : ¬ room < 1 := by omega
  have h2b : ¬ (1024 : Int) < room := by omega
  go_enter Try.func10, Try.ntmps10
  go_upto_region 4 with fail
  generalize (w.alloc _).alloc _ = w1 at *
  have hB2 := (hB.set_ 5 (.pointer (some ⟨w.heap.size + 1, 2, none⟩))).set_ 6 (.pointer (some ⟨w.heap.size + 1, 2, none⟩))
  have hu : Upd (· = w.heap.size + 1) w1 ((w1.drew.setCell ⟨w.heap.size + 1, 5, none⟩ (.pointer (some ⟨w.heap.size + 1, 2, none⟩))).setCell ⟨w.heap.size + 1, 6, none⟩ (.pointer (some ⟨w.heap.size + 1, 2, none⟩))) := (((Upd.refl _ w1).drew).setIn 5 _).setIn 6 _
  have HF : Hid (CaAt ((w1.drew.setCell ⟨w.heap.size + 1, 5, none⟩ (.pointer (some ⟨w.heap.size + 1, 2, none⟩))).setCell ⟨w.heap.size + 1, 6, none⟩ (.pointer (some ⟨w.heap.size + 1, 2, none⟩))) (w.heap.size + 1) room w.heap.size [] ∧ New w ((w1.drew.setCell ⟨w.heap.size + 1, 5, none⟩ (.pointer (some ⟨w.heap.size + 1, 2, none⟩))).setCell ⟨w.heap.size + 1, 6, none⟩ (.pointer (some ⟨w.heap.size + 1, 2, none⟩)))) := Lib.hid ⟨⟨⟨hB2, fun i x hx => by simp at hx, by simp, by simp⟩, hM.upd hu (by omega), by omega, by simp, by simp⟩, hN.upd hu (fun k hk => by omega)⟩
  have b0 := hB.lt
  have b5 : w1.cell? ⟨w.heap.size + 1, 5, none⟩ = some (.pointer none) := hB.cell 5
  have b6 : w1.cell? ⟨w.heap.size + 1, 6, none⟩ = some (.pointer none) := hB.cell 6
  have bz := hB.frozen
  have b7 : (w1.setCell ⟨w.heap.size + 1, 5, none⟩ (.pointer (some ⟨w.heap.size + 1, 2, none⟩))).cell? ⟨w.heap.size + 1, 6, none⟩ = some (.pointer none) := (hB.set_ 5 _).cell 6
  clear hB hN hM hm hB2 hu
  refine wp_region_held_drew (S := fun _ => True) (by kernel_rfl) (trivial) (fun hHeld => ?_)
  refine wpAnyH_take (i := 0) (oi := { dst := some 15, op := Op.move (Operand.tmp 4), type := 23, pos := "cache.go:30", after := #[], guard := none }) (v := ?_) rfl (by kernel_rfl) (by kernel_rfl) (by kernel_rfl) (fun _ _ _ h => h) (Or.inl ⟨by rfl, ?_⟩) (by assumption) ?_
  rotate_left
  · (intro wq hSw; (try dsimp only at hSw); go_simp; first | done | with_reducible rfl)
  try simp only [Act.put, List.setIfInBounds_toArray, List.set_cons_zero, List.set_cons_succ]
  refine wpAnyH_take (i := 1) (oi := { dst := some 16, op := Op.move (Operand.tmp 4), type := 23, pos := "cache.go:30", after := #[{ on := 11, ground := Ground.gcOnly Departure.lateStores }], guard := none }) (v := ?_) rfl (by kernel_rfl) (by kernel_rfl) (by kernel_rfl) (fun _ _ _ h => h) (Or.inl ⟨by rfl, ?_⟩) (by assumption) ?_
  rotate_left
  · (intro wq hSw; (try dsimp only at hSw); go_simp; first | done | with_reducible rfl)
  try simp only [Act.put, List.setIfInBounds_toArray, List.set_cons_zero, List.set_cons_succ]
  refine wpAnyH_take (i := 2) (oi := { dst := some 17, op := Op.move (Operand.tmp 4), type := 23, pos := "cache.go:30", after := #[], guard := none }) (v := ?_) rfl (by kernel_rfl) (by kernel_rfl) (by kernel_rfl) (fun _ _ _ h => h) (Or.inl ⟨by rfl, ?_⟩) (by assumption) ?_
  rotate_left
  · (intro wq hSw; (try dsimp only at hSw); go_simp; first | done | with_reducible rfl)
  try simp only [Act.put, List.setIfInBounds_toArray, List.set_cons_zero, List.set_cons_succ]
  refine wpAnyH_take (i := 3) (oi := { dst := some 18, op := Op.nilCheck (Operand.tmp 17), type := 0, pos := "cache.go:30", after := #[{ on := 2, ground := Ground.data }], guard := none }) (v := ?_) rfl (by kernel_rfl) (by kernel_rfl) (by kernel_rfl) (fun _ _ _ h => h) (Or.inl ⟨by rfl, ?_⟩) (by assumption) ?_
  rotate_left
  · (intro wq hSw; (try dsimp only at hSw); go_simp; first | done | with_reducible rfl)
  try simp only [Act.put, List.setIfInBounds_toArray, List.set_cons_zero, List.set_cons_succ]
  refine wpAnyH_take (i := 4) (oi := { dst := some 19, op := Op.fieldAddr 91 (Operand.tmp 18) 2, type := 0, pos := "cache.go:30", after := #[{ on := 3, ground := Ground.data }], guard := none }) (v := ?_) rfl (by kernel_rfl) (by kernel_rfl) (by kernel_rfl) (fun _ _ _ h => h) (Or.inl ⟨by rfl, ?_⟩) (by assumption) ?_
  rotate_left
  · (intro wq hSw; (try dsimp only at hSw); go_simp; first | done | with_reducible rfl)
  try simp only [Act.put, List.setIfInBounds_toArray, List.set_cons_zero, List.set_cons_succ]
  refine wpAnyH_take (i := 5) (oi := { dst := some 20, op := Op.move (Operand.tmp 4), type := 23, pos := "cache.go:30", after := #[], guard := none }) (v := ?_) rfl (by kernel_rfl) (by kernel_rfl) (by kernel_rfl) (fun _ _ _ h => h) (Or.inl ⟨by rfl, ?_⟩) (by assumption) ?_
  rotate_left
  · (intro wq hSw; (try dsimp only at hSw); go_simp; first | done | with_reducible rfl)
  try simp only [Act.put, List.setIfInBounds_toArray, List.set_cons_zero, List.set_cons_succ]
  refine wpAnyH_take (i := 6) (oi := { dst := some 21, op := Op.nilCheck (Operand.tmp 20), type := 0, pos := "cache.go:30", after := #[{ on := 5, ground := Ground.data }], guard := none }) (v := ?_) rfl (by kernel_rfl) (by kernel_rfl) (by kernel_rfl) (fun _ _ _ h => h) (Or.inl ⟨by rfl, ?_⟩) (by assumption) ?_
  rotate_left
  · (intro wq hSw; (try dsimp only at hSw); go_simp; first | done | with_reducible rfl)
  try simp only [Act.put, List.setIfInBounds_toArray, List.set_cons_zero, List.set_cons_succ]
  refine wpAnyH_take (i := 7) (oi := { dst := some 22, op := Op.fieldAddr 91 (Operand.tmp 21) 2, type := 0, pos := "cache.go:30", after := #[{ on := 6, ground := Ground.data }], guard := none }) (v := ?_) rfl (by kernel_rfl) (by kernel_rfl) (by kernel_rfl) (fun _ _ _ h => h) (Or.inl ⟨by rfl, ?_⟩) (by assumption) ?_
  rotate_left
  · (intro wq hSw; (try dsimp only at hSw); go_simp; first | done | with_reducible rfl)
  try simp only [Act.put, List.setIfInBounds_toArray, List.set_cons_zero, List.set_cons_succ]
  refine wpAnyH_take (i := 8) (oi := { dst := some 23, op := Op.nilCheck (Operand.tmp 15), type := 0, pos := "cache.go:30", after := #[{ on := 0, ground := Ground.data }, { on := 0, ground := Ground.phase }, { on := 1, ground := Ground.textOnly Departure.lateStores }, { on := 2, ground := Ground.phase }, { on := 3, ground := Ground.phase }, { on := 4, ground := Ground.phase }, { on := 5, ground := Ground.textOnly Departure.lateStores }, { on := 6, ground := Ground.textOnly Departure.lateStoresUnsure }, { on := 7, ground := Ground.textOnly Departure.lateStoresUnsure }], guard := none }) (v := ?_) rfl (by kernel_rfl) (by kernel_rfl) (by kernel_rfl) (fun _ _ _ h => h) (Or.inl ⟨by rfl, ?_⟩) (by assumption) ?_
  rotate_left
  · (intro wq hSw; (try dsimp only at hSw); go_simp; first | done | with_reducible rfl)
  try simp only [Act.put, List.setIfInBounds_toArray, List.set_cons_zero, List.set_cons_succ]
  refine wpAnyH_take (i := 9) (oi := { dst := some 24, op := Op.fieldAddr 91 (Operand.tmp 23) 2, type := 0, pos := "cache.go:30", after := #[{ on := 8, ground := Ground.data }, { on := 0, ground := Ground.phase }, { on := 1, ground := Ground.textOnly Departure.lateStores }, { on := 2, ground := Ground.phase }, { on := 3, ground := Ground.phase }, { on := 4, ground := Ground.phase }, { on := 5, ground := Ground.textOnly Departure.lateStores }, { on := 6, ground := Ground.textOnly Departure.lateStoresUnsure }, { on := 7, ground := Ground.textOnly Departure.lateStoresUnsure }], guard := none }) (v := ?_) rfl (by kernel_rfl) (by kernel_rfl) (by kernel_rfl) (fun _ _ _ h => h) (Or.inl ⟨by rfl, ?_⟩) (by assumption) ?_
  rotate_left
  · (intro wq hSw; (try dsimp only at hSw); go_simp; first | done | with_reducible rfl)
  try simp only [Act.put, List.setIfInBounds_toArray, List.set_cons_zero, List.set_cons_succ]
  refine wpAnyH_take (i := 10) (oi := { dst := some 25, op := Op.fieldAddr 89 (Operand.tmp 24) 1, type := 0, pos := "cache.go:30", after := #[{ on := 9, ground := Ground.data }, { on := 0, ground := Ground.phase }, { on := 1, ground := Ground.textOnly Departure.lateStores }, { on := 2, ground := Ground.phase }, { on := 3, ground := Ground.phase }, { on := 4, ground := Ground.phase }, { on := 5, ground := Ground.textOnly Departure.lateStores }, { on := 6, ground := Ground.textOnly Departure.lateStoresUnsure }, { on := 7, ground := Ground.textOnly Departure.lateStoresUnsure }], guard := none }) (v := ?_) rfl (by kernel_rfl) (by kernel_rfl) (by kernel_rfl) (fun _ _ _ h => h) (Or.inl ⟨by rfl, ?_⟩) (by assumption) ?_
  rotate_left
  · (intro wq hSw; (try dsimp only at hSw); go_simp; first | done | with_reducible rfl)
  try simp only [Act.put, List.setIfInBounds_toArray, List.set_cons_zero, List.set_cons_succ]
  refine wpAnyH_ready (rs := [11]) (by kernel_rfl) (by simp) ?_
  refine AllReadyH.cons (o := { dst := none, op := Op.store 87 (Operand.tmp 25) (Operand.tmp 19), type := 0, pos := "cache.go:30", after := #[{ on := 10, ground := Ground.data }, { on := 4, ground := Ground.data }, { on := 0, ground := Ground.phase }, { on := 1, ground := Ground.textOnly Departure.lateStores }, { on := 2, ground := Ground.phase }, { on := 3, ground := Ground.phase }, { on := 4, ground := Ground.phase }, { on := 5, ground := Ground.textOnly Departure.lateStores }, { on := 6, ground := Ground.textOnly Departure.lateStoresUnsure }, { on := 7, ground := Ground.textOnly Departure.lateStoresUnsure }], guard := none }) rfl (fun K hK => ?_) AllReadyH.nil
  go_simp
  refine hK.out _ _ ?_ (fun hHeld => ?_)
  · exact trivial
  clear hK K
  try simp only [Act.put, List.setIfInBounds_toArray, List.set_cons_zero, List.set_cons_succ]
  refine wpAnyH_take (i := 12) (oi := { dst := some 26, op := Op.nilCheck (Operand.tmp 16), type := 0, pos := "cache.go:30", after := #[{ on := 1, ground := Ground.data }, { on := 0, ground := Ground.phase }, { on := 1, ground := Ground.phase }, { on := 2, ground := Ground.phase }, { on := 3, ground := Ground.phase }, { on := 4, ground := Ground.phase }, { on := 5, ground := Ground.phase }, { on := 6, ground := Ground.phase }, { on := 7, ground := Ground.phase }, { on := 8, ground := Ground.phase }, { on := 9, ground := Ground.phase }, { on := 10, ground := Ground.phase }, { on := 11, ground := Ground.phase }], guard := none }) (v := ?_) rfl (by kernel_rfl) (by kernel_rfl) (by kernel_rfl) (fun _ _ _ h => h) (Or.inl ⟨by rfl, ?_⟩) (by assumption) ?_
  rotate_left
  · (intro wq hSw; (try dsimp only at hSw); go_simp; first | done | with_reducible rfl)
  try simp only [Act.put, List.setIfInBounds_toArray, List.set_cons_zero, List.set_cons_succ]
  refine wpAnyH_take (i := 13) (oi := { dst := some 27, op := Op.fieldAddr 91 (Operand.tmp 26) 2, type := 0, pos := "cache.go:30", after := #[{ on := 12, ground := Ground.data }, { on := 0, ground := Ground.phase }, { on := 1, ground := Ground.phase }, { on := 2, ground := Ground.phase }, { on := 3, ground := Ground.phase }, { on := 4, ground := Ground.phase }, { on := 5, ground := Ground.phase }, { on := 6, ground := Ground.phase }, { on := 7, ground := Ground.phase }, { on := 8, ground := Ground.phase }, { on := 9, ground := Ground.phase }, { on := 10, ground := Ground.phase }, { on := 11, ground := Ground.phase }], guard := none }) (v := ?_) rfl (by kernel_rfl) (by kernel_rfl) (by kernel_rfl) (fun _ _ _ h => h) (Or.inl ⟨by rfl, ?_⟩) (by assumption) ?_
  rotate_left
  · (intro wq hSw; (try dsimp only at hSw); go_simp; first | done | with_reducible rfl)
  try simp only [Act.put, List.setIfInBounds_toArray, List.set_cons_zero, List.set_cons_succ]
  refine wpAnyH_take (i := 14) (oi := { dst := some 28, op := Op.fieldAddr 89 (Operand.tmp 27) 2, type := 0, pos := "cache.go:30", after := #[{ on := 13, ground := Ground.data }, { on := 0, ground := Ground.phase }, { on := 1, ground := Ground.phase }, { on := 2, ground := Ground.phase }, { on := 3, ground := Ground.phase }, { on := 4, ground := Ground.phase }, { on := 5, ground := Ground.phase }, { on := 6, ground := Ground.phase }, { on := 7, ground := Ground.phase }, { on := 8, ground := Ground.phase }, { on := 9, ground := Ground.phase }, { on := 10, ground := Ground.phase }, { on := 11, ground := Ground.phase }], guard := none }) (v := ?_) rfl (by kernel_rfl) (by kernel_rfl) (by kernel_rfl) (fun _ _ _ h => h) (Or.inl ⟨by rfl, ?_⟩) (by assumption) ?_
  rotate_left
  · (intro wq hSw; (try dsimp only at hSw); go_simp; first | done | with_reducible rfl)
  try simp only [Act.put, List.setIfInBounds_toArray, List.set_cons_zero, List.set_cons_succ]
  refine wpAnyH_ready (rs := [15]) (by kernel_rfl) (by simp) ?_
  refine AllReadyH.cons (o := { dst := none, op := Op.store 87 (Operand.tmp 28) (Operand.tmp 22), type := 0, pos := "cache.go:30", after := #[{ on := 14, ground := Ground.data }, { on := 7, ground := Ground.data }, { on := 11, ground := Ground.chain }, { on := 0, ground := Ground.phase }, { on := 1, ground := Ground.phase }, { on := 2, ground := Ground.phase }, { on := 3, ground := Ground.phase }, { on := 4, ground := Ground.phase }, { on := 5, ground := Ground.phase }, { on := 6, ground := Ground.phase }, { on := 7, ground := Ground.phase }, { on := 8, ground := Ground.phase }, { on := 9, ground := Ground.phase }, { on := 10, ground := Ground.phase }, { on := 11, ground := Ground.phase }], guard := none }) rfl (fun K hK => ?_) AllReadyH.nil
  go_simp
  refine hK.out _ _ ?_ (fun hHeld => ?_)
  · exact trivial
  clear hK K
  try simp only [Act.put, List.setIfInBounds_toArray, List.set_cons_zero, List.set_cons_succ]
  refine wpAnyH_done (by kernel_rfl) ?_ _
  clear hHeld
  go_wp2_with fail
  go_ret2
  exact ⟨w.heap.size + 1, w.heap.size, rfl, by omega, Nat.le_refl _, HF.out⟩

theorem run_neq_same {P : Program} (w : World) {tp te : TypeId} {j : TypeInfo} (a : Addr) (hp : P.underlying tp = some (.pointer te)) (hte : P.info? te = some j) :
    (binOp .neq tp (.pointer (some a)) (.pointer (some a))).run P w = .ok (.bool false) w := by
  have h : ∀ d : Nat, (Op.equalIn (d + 1) tp (.pointer (some a)) (.pointer (some a))).run P w = .ok true w := fun d => by
    simp [Op.equalIn, run_underlying hp, sizeOf, typeInfo, hte, run_sameAddr_same]
  simp only [binOp]
  simp [Op.equal, Op.maxDepth, h 9999]
theorem run_neq_other {P : Program} (w : World) {tp te : TypeId} {j : TypeInfo} {a b : Addr} {ca cb : Array Value} {ta tb : TypeId} (hp : P.underlying tp = some (.pointer te)) (hte : P.info? te = some j) (hsz : j.size ≠ 0)
    (hne : a ≠ b) (ha : w.heap[a.block]? = some (.cells ca ta (0, 0))) (hb : w.heap[b.block]? = some (.cells cb tb (0, 0))) :
    (binOp .neq tp (.pointer (some a)) (.pointer (some b))).run P w = .ok (.bool true) w := by
  have h : ∀ d : Nat, (Op.equalIn (d + 1) tp (.pointer (some a)) (.pointer (some b))).run P w = .ok false w := fun d => by
    simp [Op.equalIn, run_underlying hp, sizeOf, typeInfo, hte, hsz, run_sameAddr_other w hne ha hb]
  simp only [binOp]
  simp [Op.equal, Op.maxDepth, h 9999]
theorem nodeInfo : ∃ j, Try.prog.info? 89 = some j ∧ j.size ≠ 0 := by
  have h : (Try.prog.info? 89).map (fun i => i.size) = some 5 := by kernel_rfl
  obtain ⟨j, h1, h2⟩ := Option.map_eq_some_iff.1 h
  exact ⟨j, h1, by rw [h2]; decide⟩
def lenV : Value → Nat
  | .slice _ n _ => n
  | _ => 0
/-- An entry's cells. -/
def eEnc (x : Nd) : List Value := [.int .i64 x.id, .string x.b, .bool x.d]
theorem eEncOk : Enc eEnc 3 := fun x => ⟨rfl, by simp [eEnc, Value.oneCell']⟩
theorem eTy : SlTy Try.prog 28 32 (.agg #[.int .i64 0, .string ⟨#[]⟩, .bool false]) 3 32 := ⟨Try.underlying28, by kernel_rfl, rfl, by decide⟩
def ListPost (w : World) (l : List Nd) (e : Ending) (w' : World) : Prop := ∃ u, e = .returned u ∧ Owns w' w.heap.size 32 3 eEnc u l ∧ New w w'

set_option maxRecDepth 100000 in
set_option maxHeartbeats 8000000 in
theorem list_any {c mb : Nat} {room : Int} {l : List Nd} (w : World) (h : Ring w c room mb l) (hl : l.length ≤ 1000000) : Calls Try.prog 21 #[.pointer (some ⟨c, 0, none⟩)] w (ListPost w l) := by
  obtain ⟨c0, c1, c2, c3, c4, cz⟩ := caF h.ca
  have hcc : ∀ wx, New w wx → wx.cell? ⟨c, 6, none⟩ = some (.pointer (some (adr c l 1))) := fun wx hx => (caF (h.new hx).ca).2.2.2.2.1
  have HCC := Lib.hid hcc
  clear hcc
  go_enter Try.func21, Try.ntmps21
  go_wp2_with fail
  go_loopw [3, 4] (fun s p wr => ∃ k : Nat, k ≤ l.length ∧ p = .pointer (some (adr c l (k + 1))) ∧ New w wr ∧ Owns wr w.heap.size 32 3 eEnc s (l.take k)) (fun s _ _ => l.length - lenV s)
  case atStart => exact ⟨0, by omega, rfl, New.refl w, Owns.nil _ _ _ _ _⟩
  case round =>
    obtain ⟨k, hk, rfl, hn, ho⟩ := hrel
    obtain ⟨sA, sc, rfl, -, -⟩ := Owns.slIn eEncOk ho
    by_cases hlt : k < l.length
    · obtain ⟨x, hx⟩ : ∃ x, l[k]? = some x := ⟨_, List.getElem?_eq_getElem hlt⟩
      rw [adr_at hx]
      obtain ⟨nj, hnj, hnz⟩ := nodeInfo
      have hneq := run_neq_other wr Try.underlying87 hnj hnz (a := ⟨x.g, 0, none⟩) (b := ⟨c, 2, none⟩) (by intro e; injection e; omega) ((h.new hn).nd k x hx) (h.new hn).ca
      have hnd := (h.new hn).nd k x hx
      obtain ⟨x0, x1, x2, x3, x4, x5, xz⟩ := ndF hnd
      have hxc := h.ne x (List.mem_of_getElem? hx)
      have hyb := Blk.mk_new wr 32 #[.int .i64 x.id, .string x.b, .bool x.d]
      have hoy := ho.alloc (.cells #[.int .i64 x.id, .string x.b, .bool x.d] 32)
      have hny := hn.alloc (.cells #[.int .i64 x.id, .string x.b, .bool x.d] 32)
      have HT := Lib.hid (show l.take k ++ [x] = l.take (k + 1) by rw [List.take_add_one, hx]; rfl)
      have hll : (l.take k).length = k := by rw [List.length_take]; omega
      have HM1 := Lib.hid (show (l.take k).length + [x].length ≤ maxLen by unfold maxLen; simp only [List.length_singleton]; omega)
      have HM2 := Lib.hid (show ((l.take k).length + [x].length) * 32 ≤ 140737488355328 by simp only [List.length_singleton]; omega)
      have HM3 := Lib.hid (show w.heap.size ≤ (wr.alloc (.cells #[.int .i64 x.id, .string x.b, .bool x.d] 32)).heap.size from hny.size)
      go_wp2_with (at_builtin; refine wpList_app eTy eEncOk rfl _ _ rfl rfl rfl hoy (SlIn.one (x := x) hyb eEncOk rfl) HM1.out HM2.out HM3.out ?_; intro v9 w9 ho9 hg9 hb9; obtain ⟨A9, c9, rfl, -, -⟩ := Owns.slIn eEncOk ho9; have hN9 := hny.grown hg9 (fun k0 hk0 => hoy.blockGe k0 hk0); have hnd9 := (h.new hN9).nd k x hx; obtain ⟨y0, y1, y2, y3, y4, y5, yz⟩ := ndF hnd9)
      rw [HT.out] at ho9
      rw [show (l.take (k + 1)).length = k + 1 by rw [List.length_take]; omega] at ho9
      go_roundw
      case rel => exact ⟨k + 1, by omega, rfl, hN9, ho9⟩
      case measure => simp only [lenV, List.length_take]; omega
    · obtain rfl : k = l.length := by omega
      rw [adr_end (Nat.le_refl _)]
      obtain ⟨nj, hnj, hnz⟩ := nodeInfo
      have hneq := run_neq_same wr ⟨c, 2, none⟩ Try.underlying87 hnj
      rw [List.take_length] at ho ⊢
      go_wp2_with fail
      go_ret
      exact ⟨.slice sA l.length sc, rfl, ho, hn⟩
end Go.Proofs.Ytcganajbfplmpaa
