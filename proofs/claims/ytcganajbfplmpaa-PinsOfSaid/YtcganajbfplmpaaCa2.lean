/- Chapter 11 (cache): a node taken out, a node put first: the walks. Printed by genCa.py. -/
import Derived.Test.YtcganajbfplmpaaCa
import Derived.Test.YtcganajbfplmpaaProg
import Derived.Deep.RegionHeld3
import Derived.Deep.DeepCutAuto
namespace Go.Proofs.Ytcganajbfplmpaa
open Go.RowKit Go.Lap
set_option linter.unusedVariables false

theorem ndF {w : World} {x : Nd} {pa pb : Addr} (h : Blk w x.g 89 (ndC x pa pb)) : x.g < w.heap.size ∧ w.cell? ⟨x.g, 0, none⟩ = some (.int .i64 x.id) ∧ w.cell? ⟨x.g, 1, none⟩ = some (.string x.b) ∧ w.cell? ⟨x.g, 2, none⟩ = some (.bool x.d) ∧
    w.cell? ⟨x.g, 3, none⟩ = some (.pointer (some pa)) ∧ w.cell? ⟨x.g, 4, none⟩ = some (.pointer (some pb)) ∧ (∀ i, w.frozen? ⟨x.g, i, none⟩ = false) := ⟨h.lt, h.cell 0, h.cell 1, h.cell 2, h.cell 3, h.cell 4, h.frozen⟩
theorem caF {w : World} {c mb : Nat} {room : Int} {pa pb : Addr} (h : Blk w c 91 (caC room mb pa pb)) : c < w.heap.size ∧ w.cell? ⟨c, 0, none⟩ = some (.int .i64 room) ∧ w.cell? ⟨c, 1, none⟩ = some (.map (some mb)) ∧
    w.cell? ⟨c, 5, none⟩ = some (.pointer (some pa)) ∧ w.cell? ⟨c, 6, none⟩ = some (.pointer (some pb)) ∧ (∀ i, w.frozen? ⟨c, i, none⟩ = false) := ⟨h.lt, h.cell 0, h.cell 1, h.cell 5, h.cell 6, h.frozen⟩
/-- Any address of the ring: its two pointers are there. -/
theorem Ring.slot {w : World} {c mb : Nat} {room : Int} {l : List Nd} (h : Ring w c room mb l) (k : Nat) : ∃ g f u v, adr c l k = ⟨g, f, none⟩ ∧ (f = 0 ∨ f = 2) ∧ g < w.heap.size ∧ w.cell? ⟨g, f + 3, none⟩ = some (.pointer u) ∧ w.cell? ⟨g, f + 4, none⟩ = some (.pointer v) ∧ (∀ i, w.frozen? ⟨g, i, none⟩ = false) ∧ (g = c ∨ g ∈ l.map (·.g)) := by
  by_cases hk : k = 0 ∨ l.length < k
  · obtain ⟨c0, c1, c2, c3, c4, cz⟩ := caF h.ca
    exact ⟨c, 2, _, _, adr_endk hk, .inr rfl, c0, c3, c4, cz, .inl rfl⟩
  · obtain ⟨m, rfl⟩ : ∃ m, k = m + 1 := ⟨k - 1, by omega⟩
    obtain ⟨x, hx⟩ : ∃ x, l[m]? = some x := ⟨_, List.getElem?_eq_getElem (by omega)⟩
    obtain ⟨x0, x1, x2, x3, x4, x5, xz⟩ := ndF (h.nd m x hx)
    exact ⟨x.g, 0, _, _, adr_at hx, .inl rfl, x0, x4, x5, xz, .inr (List.mem_map.2 ⟨x, List.mem_of_getElem? hx, rfl⟩)⟩
/-- The ring's own blocks. -/
def RgS (c : Nat) (l : List Nd) (k : Nat) : Prop := k = c ∨ k ∈ l.map (·.g)

set_option maxRecDepth 100000 in
set_option maxHeartbeats 8000000 in
theorem out_any {c mb : Nat} {room : Int} {l : List Nd} (w : World) (h : Ring w c room mb l) {i : Nat} {x : Nd} (hx : l[i]? = some x) :
    Calls Try.prog 39 #[.pointer (some ⟨x.g, 0, none⟩)] w fun e w' => e = .returned (.tuple #[]) ∧ Ring w' c room mb (l.eraseIdx i) ∧ (∃ pa pb, Blk w' x.g 89 (ndC x pa pb)) ∧ Upd (RgS c l) w w' := by
  obtain ⟨ga, fa, ua, va, ea, fa02, a0, a1, a2, az, am⟩ := h.slot i
  obtain ⟨gb, fb, ub, vb, eb, fb02, b0, b1, b2, bz, bm⟩ := h.slot (i + 2)
  have hO := (h.new (New.refl w).drew).out hx ea eb
  have hxg : ga ≠ x.g := fun e => by have := (h.adr_nd hx i).1 (by rw [ea]; exact e); omega
  have hyg : gb ≠ x.g := fun e => by have := (h.adr_nd hx (i + 2)).1 (by rw [eb]; exact e); omega
  have hnd := h.nd i x hx
  rw [ea, eb] at hnd
  obtain ⟨x0, x1, x2, x3, x4, x5, xz⟩ := ndF hnd
  have HB : ∀ k, k < w.heap.size → (∀ i, w.frozen? ⟨k, i, none⟩ = false) → True := fun _ _ _ => trivial
  have hU : Upd (RgS c l) w ((w.drew.setCell ⟨ga, fa + 4, none⟩ (.pointer (some ⟨gb, fb, none⟩))).setCell ⟨gb, fb + 3, none⟩ (.pointer (some ⟨ga, fa, none⟩))) := ((Upd.refl _ w).drew.setCell (p := ⟨ga, fa + 4, none⟩) (fun _ => am) _).setCell (p := ⟨gb, fb + 3, none⟩) (fun _ => bm) _
  have HO := Lib.hid hO
  have HU := Lib.hid hU
  clear hO hU hnd ea eb HB am bm h hx
  have hc1 : (w.setCell ⟨ga, fa + 4, none⟩ (.pointer (some ⟨gb, fb, none⟩))).cell? ⟨gb, fb + 3, none⟩ = some (.pointer ub) := by
    by_cases hg : gb = ga
    · subst hg; refine (World.cell?_setCell_other (w := w) (a := ⟨gb, fa + 4, none⟩) (b := ⟨gb, fb + 3, none⟩) (h := ?_) ..).trans b1; intro e; injection e; omega
    · rw [World.cell?_setCell_far _ ⟨ga, fa + 4, none⟩ ⟨gb, fb + 3, none⟩ _ (fun e => hg e.symm)]; exact b1
  have K3 : ∀ (f : Nat) (u : Value), (w.setCell ⟨ga, f, none⟩ u).cell? ⟨x.g, 3, none⟩ = some (.pointer (some ⟨ga, fa, none⟩)) := fun f u => (World.cell?_setCell_far _ ⟨ga, f, none⟩ ⟨x.g, 3, none⟩ _ hxg).trans x4
  have K4 : ∀ (f : Nat) (u : Value), (w.setCell ⟨ga, f, none⟩ u).cell? ⟨x.g, 4, none⟩ = some (.pointer (some ⟨gb, fb, none⟩)) := fun f u => (World.cell?_setCell_far _ ⟨ga, f, none⟩ ⟨x.g, 4, none⟩ _ hxg).trans x5
  have K5 : ∀ (f : Nat) (u : Value) (f2 : Nat) (u2 : Value), ((w.setCell ⟨ga, f, none⟩ u).setCell ⟨gb, f2, none⟩ u2).cell? ⟨x.g, 3, none⟩ = some (.pointer (some ⟨ga, fa, none⟩)) := fun f u f2 u2 => (World.cell?_setCell_far _ ⟨gb, f2, none⟩ ⟨x.g, 3, none⟩ _ hyg).trans (K3 f u)
  have K6 : ∀ (f : Nat) (u : Value) (f2 : Nat) (u2 : Value), ((w.setCell ⟨ga, f, none⟩ u).setCell ⟨gb, f2, none⟩ u2).cell? ⟨x.g, 4, none⟩ = some (.pointer (some ⟨gb, fb, none⟩)) := fun f u f2 u2 => (World.cell?_setCell_far _ ⟨gb, f2, none⟩ ⟨x.g, 4, none⟩ _ hyg).trans (K4 f u)
  go_enter Try.func39, Try.ntmps39
  refine wp_region_held_drew (S := fun w' => w'.cell? ⟨x.g, 3, none⟩ = some (.pointer (some ⟨ga, fa, none⟩)) ∧ w'.cell? ⟨x.g, 4, none⟩ = some (.pointer (some ⟨gb, fb, none⟩))) (by kernel_rfl) (⟨x4, x5⟩) (fun hHeld => ?_)
  refine wpAnyH_take (i := 0) (oi := { dst := some 2, op := Op.move (Operand.tmp 0), type := 87, pos := "cache.go:36", after := #[], guard := none }) (v := ?_) rfl (by kernel_rfl) (by kernel_rfl) (by kernel_rfl) (fun _ _ _ h => h) (Or.inl ⟨by rfl, ?_⟩) (by assumption) ?_
  rotate_left
  · (intro wq hSw; (try dsimp only at hSw); go_simp; first | done | with_reducible rfl)
  try simp only [Act.put, List.setIfInBounds_toArray, List.set_cons_zero, List.set_cons_succ]
  refine wpAnyH_take (i := 1) (oi := { dst := some 3, op := Op.nilCheck (Operand.tmp 2), type := 0, pos := "cache.go:36", after := #[{ on := 0, ground := Ground.data }], guard := none }) (v := ?_) rfl (by kernel_rfl) (by kernel_rfl) (by kernel_rfl) (fun _ _ _ h => h) (Or.inl ⟨by rfl, ?_⟩) (by assumption) ?_
  rotate_left
  · (intro wq hSw; (try dsimp only at hSw); go_simp; first | done | with_reducible rfl)
  try simp only [Act.put, List.setIfInBounds_toArray, List.set_cons_zero, List.set_cons_succ]
  refine wpAnyH_take (i := 2) (oi := { dst := some 4, op := Op.fieldAddr 89 (Operand.tmp 3) 1, type := 0, pos := "cache.go:36", after := #[{ on := 1, ground := Ground.data }], guard := none }) (v := ?_) rfl (by kernel_rfl) (by kernel_rfl) (by kernel_rfl) (fun _ _ _ h => h) (Or.inl ⟨by rfl, ?_⟩) (by assumption) ?_
  rotate_left
  · (intro wq hSw; (try dsimp only at hSw); go_simp; first | done | with_reducible rfl)
  try simp only [Act.put, List.setIfInBounds_toArray, List.set_cons_zero, List.set_cons_succ]
  refine wpAnyH_take (i := 3) (oi := { dst := some 5, op := Op.load 87 (Operand.tmp 4), type := 87, pos := "cache.go:36", after := #[{ on := 2, ground := Ground.data }], guard := none }) (v := ?_) rfl (by kernel_rfl) (by kernel_rfl) (by kernel_rfl) (fun _ _ _ h => h) (Or.inl ⟨by rfl, ?_⟩) (by assumption) ?_
  rotate_left
  · (intro wq hSw; (try dsimp only at hSw); go_simp; first | done | with_reducible rfl)
  try simp only [Act.put, List.setIfInBounds_toArray, List.set_cons_zero, List.set_cons_succ]
  refine wpAnyH_take (i := 4) (oi := { dst := some 6, op := Op.move (Operand.tmp 0), type := 87, pos := "cache.go:36", after := #[], guard := none }) (v := ?_) rfl (by kernel_rfl) (by kernel_rfl) (by kernel_rfl) (fun _ _ _ h => h) (Or.inl ⟨by rfl, ?_⟩) (by assumption) ?_
  rotate_left
  · (intro wq hSw; (try dsimp only at hSw); go_simp; first | done | with_reducible rfl)
  try simp only [Act.put, List.setIfInBounds_toArray, List.set_cons_zero, List.set_cons_succ]
  refine wpAnyH_take (i := 5) (oi := { dst := some 7, op := Op.nilCheck (Operand.tmp 6), type := 0, pos := "cache.go:36", after := #[{ on := 4, ground := Ground.data }], guard := none }) (v := ?_) rfl (by kernel_rfl) (by kernel_rfl) (by kernel_rfl) (fun _ _ _ h => h) (Or.inl ⟨by rfl, ?_⟩) (by assumption) ?_
  rotate_left
  · (intro wq hSw; (try dsimp only at hSw); go_simp; first | done | with_reducible rfl)
  try simp only [Act.put, List.setIfInBounds_toArray, List.set_cons_zero, List.set_cons_succ]
  refine wpAnyH_take (i := 6) (oi := { dst := some 8, op := Op.fieldAddr 89 (Operand.tmp 7) 2, type := 0, pos := "cache.go:36", after := #[{ on := 5, ground := Ground.data }], guard := none }) (v := ?_) rfl (by kernel_rfl) (by kernel_rfl) (by kernel_rfl) (fun _ _ _ h => h) (Or.inl ⟨by rfl, ?_⟩) (by assumption) ?_
  rotate_left
  · (intro wq hSw; (try dsimp only at hSw); go_simp; first | done | with_reducible rfl)
  try simp only [Act.put, List.setIfInBounds_toArray, List.set_cons_zero, List.set_cons_succ]
  refine wpAnyH_take (i := 7) (oi := { dst := some 9, op := Op.load 87 (Operand.tmp 8), type := 87, pos := "cache.go:36", after := #[{ on := 6, ground := Ground.data }], guard := none }) (v := ?_) rfl (by kernel_rfl) (by kernel_rfl) (by kernel_rfl) (fun _ _ _ h => h) (Or.inl ⟨by rfl, ?_⟩) (by assumption) ?_
  rotate_left
  · (intro wq hSw; (try dsimp only at hSw); go_simp; first | done | with_reducible rfl)
  try simp only [Act.put, List.setIfInBounds_toArray, List.set_cons_zero, List.set_cons_succ]
  refine wpAnyH_take (i := 8) (oi := { dst := some 10, op := Op.move (Operand.tmp 0), type := 87, pos := "cache.go:36", after := #[], guard := none }) (v := ?_) rfl (by kernel_rfl) (by kernel_rfl) (by kernel_rfl) (fun _ _ _ h => h) (Or.inl ⟨by rfl, ?_⟩) (by assumption) ?_
  rotate_left
  · (intro wq hSw; (try dsimp only at hSw); go_simp; first | done | with_reducible rfl)
  try simp only [Act.put, List.setIfInBounds_toArray, List.set_cons_zero, List.set_cons_succ]
  refine wpAnyH_take (i := 9) (oi := { dst := some 11, op := Op.nilCheck (Operand.tmp 10), type := 0, pos := "cache.go:36", after := #[{ on := 8, ground := Ground.data }], guard := none }) (v := ?_) rfl (by kernel_rfl) (by kernel_rfl) (by kernel_rfl) (fun _ _ _ h => h) (Or.inl ⟨by rfl, ?_⟩) (by assumption) ?_
  rotate_left
  · (intro wq hSw; (try dsimp only at hSw); go_simp; first | done | with_reducible rfl)
  try simp only [Act.put, List.setIfInBounds_toArray, List.set_cons_zero, List.set_cons_succ]
  refine wpAnyH_take (i := 10) (oi := { dst := some 12, op := Op.fieldAddr 89 (Operand.tmp 11) 2, type := 0, pos := "cache.go:36", after := #[{ on := 9, ground := Ground.data }], guard := none }) (v := ?_) rfl (by kernel_rfl) (by kernel_rfl) (by kernel_rfl) (fun _ _ _ h => h) (Or.inl ⟨by rfl, ?_⟩) (by assumption) ?_
  rotate_left
  · (intro wq hSw; (try dsimp only at hSw); go_simp; first | done | with_reducible rfl)
  try simp only [Act.put, List.setIfInBounds_toArray, List.set_cons_zero, List.set_cons_succ]
  refine wpAnyH_take (i := 11) (oi := { dst := some 13, op := Op.load 87 (Operand.tmp 12), type := 87, pos := "cache.go:36", after := #[{ on := 10, ground := Ground.data }], guard := none }) (v := ?_) rfl (by kernel_rfl) (by kernel_rfl) (by kernel_rfl) (fun _ _ _ h => h) (Or.inl ⟨by rfl, ?_⟩) (by assumption) ?_
  rotate_left
  · (intro wq hSw; (try dsimp only at hSw); go_simp; first | done | with_reducible rfl)
  try simp only [Act.put, List.setIfInBounds_toArray, List.set_cons_zero, List.set_cons_succ]
  refine wpAnyH_take (i := 12) (oi := { dst := some 14, op := Op.move (Operand.tmp 0), type := 87, pos := "cache.go:36", after := #[], guard := none }) (v := ?_) rfl (by kernel_rfl) (by kernel_rfl) (by kernel_rfl) (fun _ _ _ h => h) (Or.inl ⟨by rfl, ?_⟩) (by assumption) ?_
  rotate_left
  · (intro wq hSw; (try dsimp only at hSw); go_simp; first | done | with_reducible rfl)
  try simp only [Act.put, List.setIfInBounds_toArray, List.set_cons_zero, List.set_cons_succ]
  refine wpAnyH_take (i := 13) (oi := { dst := some 15, op := Op.nilCheck (Operand.tmp 14), type := 0, pos := "cache.go:36", after := #[{ on := 12, ground := Ground.data }], guard := none }) (v := ?_) rfl (by kernel_rfl) (by kernel_rfl) (by kernel_rfl) (fun _ _ _ h => h) (Or.inl ⟨by rfl, ?_⟩) (by assumption) ?_
  rotate_left
  · (intro wq hSw; (try dsimp only at hSw); go_simp; first | done | with_reducible rfl)
  try simp only [Act.put, List.setIfInBounds_toArray, List.set_cons_zero, List.set_cons_succ]
  refine wpAnyH_take (i := 14) (oi := { dst := some 16, op := Op.fieldAddr 89 (Operand.tmp 15) 1, type := 0, pos := "cache.go:36", after := #[{ on := 13, ground := Ground.data }], guard := none }) (v := ?_) rfl (by kernel_rfl) (by kernel_rfl) (by kernel_rfl) (fun _ _ _ h => h) (Or.inl ⟨by rfl, ?_⟩) (by assumption) ?_
  rotate_left
  · (intro wq hSw; (try dsimp only at hSw); go_simp; first | done | with_reducible rfl)
  try simp only [Act.put, List.setIfInBounds_toArray, List.set_cons_zero, List.set_cons_succ]
  refine wpAnyH_take (i := 15) (oi := { dst := some 17, op := Op.load 87 (Operand.tmp 16), type := 87, pos := "cache.go:36", after := #[{ on := 14, ground := Ground.data }], guard := none }) (v := ?_) rfl (by kernel_rfl) (by kernel_rfl) (by kernel_rfl) (fun _ _ _ h => h) (Or.inl ⟨by rfl, ?_⟩) (by assumption) ?_
  rotate_left
  · (intro wq hSw; (try dsimp only at hSw); go_simp; first | done | with_reducible rfl)
  try simp only [Act.put, List.setIfInBounds_toArray, List.set_cons_zero, List.set_cons_succ]
  refine wpAnyH_take (i := 16) (oi := { dst := some 18, op := Op.nilCheck (Operand.tmp 5), type := 0, pos := "cache.go:36", after := #[{ on := 3, ground := Ground.data }, { on := 0, ground := Ground.phase }, { on := 1, ground := Ground.phase }, { on := 2, ground := Ground.phase }, { on := 3, ground := Ground.phase }, { on := 4, ground := Ground.textOnly Departure.lateStores }, { on := 5, ground := Ground.textOnly Departure.lateStoresUnsure }, { on := 6, ground := Ground.textOnly Departure.lateStoresUnsure }, { on := 7, ground := Ground.phase }, { on := 8, ground := Ground.phase }, { on := 9, ground := Ground.phase }, { on := 10, ground := Ground.phase }, { on := 11, ground := Ground.phase }, { on := 12, ground := Ground.textOnly Departure.lateStores }, { on := 13, ground := Ground.textOnly Departure.lateStoresUnsure }, { on := 14, ground := Ground.textOnly Departure.lateStoresUnsure }, { on := 15, ground := Ground.phase }], guard := none }) (v := ?_) rfl (by kernel_rfl) (by kernel_rfl) (by kernel_rfl) (fun _ _ _ h => h) (Or.inl ⟨by rfl, ?_⟩) (by assumption) ?_
  rotate_left
  · (intro wq hSw; (try dsimp only at hSw); go_simp; first | done | with_reducible rfl)
  try simp only [Act.put, List.setIfInBounds_toArray, List.set_cons_zero, List.set_cons_succ]
  refine wpAnyH_take (i := 17) (oi := { dst := some 19, op := Op.fieldAddr 89 (Operand.tmp 18) 2, type := 0, pos := "cache.go:36", after := #[{ on := 16, ground := Ground.data }, { on := 0, ground := Ground.phase }, { on := 1, ground := Ground.phase }, { on := 2, ground := Ground.phase }, { on := 3, ground := Ground.phase }, { on := 4, ground := Ground.textOnly Departure.lateStores }, { on := 5, ground := Ground.textOnly Departure.lateStoresUnsure }, { on := 6, ground := Ground.textOnly Departure.lateStoresUnsure }, { on := 7, ground := Ground.phase }, { on := 8, ground := Ground.phase }, { on := 9, ground := Ground.phase }, { on := 10, ground := Ground.phase }, { on := 11, ground := Ground.phase }, { on := 12, ground := Ground.textOnly Departure.lateStores }, { on := 13, ground := Ground.textOnly Departure.lateStoresUnsure }, { on := 14, ground := Ground.textOnly Departure.lateStoresUnsure }, { on := 15, ground := Ground.phase }], guard := none }) (v := ?_) rfl (by kernel_rfl) (by kernel_rfl) (by kernel_rfl) (fun _ _ _ h => h) (Or.inl ⟨by rfl, ?_⟩) (by assumption) ?_
  rotate_left
  · (intro wq hSw; (try dsimp only at hSw); go_simp; first | done | with_reducible rfl)
  try simp only [Act.put, List.setIfInBounds_toArray, List.set_cons_zero, List.set_cons_succ]
  refine wpAnyH_ready (rs := [18]) (by kernel_rfl) (by simp) ?_
  refine AllReadyH.cons (o := { dst := none, op := Op.store 87 (Operand.tmp 19) (Operand.tmp 13), type := 0, pos := "cache.go:36", after := #[{ on := 17, ground := Ground.data }, { on := 11, ground := Ground.data }, { on := 0, ground := Ground.phase }, { on := 1, ground := Ground.phase }, { on := 2, ground := Ground.phase }, { on := 3, ground := Ground.phase }, { on := 4, ground := Ground.textOnly Departure.lateStores }, { on := 5, ground := Ground.textOnly Departure.lateStoresUnsure }, { on := 6, ground := Ground.textOnly Departure.lateStoresUnsure }, { on := 7, ground := Ground.phase }, { on := 8, ground := Ground.phase }, { on := 9, ground := Ground.phase }, { on := 10, ground := Ground.phase }, { on := 11, ground := Ground.phase }, { on := 12, ground := Ground.textOnly Departure.lateStores }, { on := 13, ground := Ground.textOnly Departure.lateStoresUnsure }, { on := 14, ground := Ground.textOnly Departure.lateStoresUnsure }, { on := 15, ground := Ground.phase }], guard := none }) rfl (fun K hK => ?_) AllReadyH.nil
  go_simp
  refine hK.out _ _ ?_ (fun hHeld => ?_)
  · exact ⟨K3 _ _, K4 _ _⟩
  clear hK K
  try simp only [Act.put, List.setIfInBounds_toArray, List.set_cons_zero, List.set_cons_succ]
  refine wpAnyH_take (i := 19) (oi := { dst := some 20, op := Op.nilCheck (Operand.tmp 9), type := 0, pos := "cache.go:36", after := #[{ on := 7, ground := Ground.data }, { on := 0, ground := Ground.phase }, { on := 1, ground := Ground.phase }, { on := 2, ground := Ground.phase }, { on := 3, ground := Ground.phase }, { on := 4, ground := Ground.phase }, { on := 5, ground := Ground.phase }, { on := 6, ground := Ground.phase }, { on := 7, ground := Ground.phase }, { on := 8, ground := Ground.phase }, { on := 9, ground := Ground.phase }, { on := 10, ground := Ground.phase }, { on := 11, ground := Ground.phase }, { on := 12, ground := Ground.phase }, { on := 13, ground := Ground.phase }, { on := 14, ground := Ground.phase }, { on := 15, ground := Ground.phase }, { on := 16, ground := Ground.phase }, { on := 17, ground := Ground.phase }, { on := 18, ground := Ground.phase }], guard := none }) (v := ?_) rfl (by kernel_rfl) (by kernel_rfl) (by kernel_rfl) (fun _ _ _ h => h) (Or.inl ⟨by rfl, ?_⟩) (by assumption) ?_
  rotate_left
  · (intro wq hSw; (try dsimp only at hSw); go_simp; first | done | with_reducible rfl)
  try simp only [Act.put, List.setIfInBounds_toArray, List.set_cons_zero, List.set_cons_succ]
  refine wpAnyH_take (i := 20) (oi := { dst := some 21, op := Op.fieldAddr 89 (Operand.tmp 20) 1, type := 0, pos := "cache.go:36", after := #[{ on := 19, ground := Ground.data }, { on := 0, ground := Ground.phase }, { on := 1, ground := Ground.phase }, { on := 2, ground := Ground.phase }, { on := 3, ground := Ground.phase }, { on := 4, ground := Ground.phase }, { on := 5, ground := Ground.phase }, { on := 6, ground := Ground.phase }, { on := 7, ground := Ground.phase }, { on := 8, ground := Ground.phase }, { on := 9, ground := Ground.phase }, { on := 10, ground := Ground.phase }, { on := 11, ground := Ground.phase }, { on := 12, ground := Ground.phase }, { on := 13, ground := Ground.phase }, { on := 14, ground := Ground.phase }, { on := 15, ground := Ground.phase }, { on := 16, ground := Ground.phase }, { on := 17, ground := Ground.phase }, { on := 18, ground := Ground.phase }], guard := none }) (v := ?_) rfl (by kernel_rfl) (by kernel_rfl) (by kernel_rfl) (fun _ _ _ h => h) (Or.inl ⟨by rfl, ?_⟩) (by assumption) ?_
  rotate_left
  · (intro wq hSw; (try dsimp only at hSw); go_simp; first | done | with_reducible rfl)
  try simp only [Act.put, List.setIfInBounds_toArray, List.set_cons_zero, List.set_cons_succ]
  refine wpAnyH_ready (rs := [21]) (by kernel_rfl) (by simp) ?_
  refine AllReadyH.cons (o := { dst := none, op := Op.store 87 (Operand.tmp 21) (Operand.tmp 17), type := 0, pos := "cache.go:36", after := #[{ on := 20, ground := Ground.data }, { on := 15, ground := Ground.data }, { on := 18, ground := Ground.chain }, { on := 0, ground := Ground.phase }, { on := 1, ground := Ground.phase }, { on := 2, ground := Ground.phase }, { on := 3, ground := Ground.phase }, { on := 4, ground := Ground.phase }, { on := 5, ground := Ground.phase }, { on := 6, ground := Ground.phase }, { on := 7, ground := Ground.phase }, { on := 8, ground := Ground.phase }, { on := 9, ground := Ground.phase }, { on := 10, ground := Ground.phase }, { on := 11, ground := Ground.phase }, { on := 12, ground := Ground.phase }, { on := 13, ground := Ground.phase }, { on := 14, ground := Ground.phase }, { on := 15, ground := Ground.phase }, { on := 16, ground := Ground.phase }, { on := 17, ground := Ground.phase }, { on := 18, ground := Ground.phase }], guard := none }) rfl (fun K hK => ?_) AllReadyH.nil
  go_simp
  refine hK.out _ _ ?_ (fun hHeld => ?_)
  · exact ⟨K5 _ _ _ _, K6 _ _ _ _⟩
  clear hK K
  try simp only [Act.put, List.setIfInBounds_toArray, List.set_cons_zero, List.set_cons_succ]
  refine wpAnyH_done (by kernel_rfl) ?_ _
  clear hHeld
  go_wp2_with fail
  refine bodyPost_end (v := .tuple #[]) (by kernel_rfl) rfl ?_
  exact ⟨rfl, HO.out.1, ⟨_, _, HO.out.2⟩, HU.out⟩

set_option maxRecDepth 100000 in
set_option maxHeartbeats 8000000 in
theorem first_any {c mb : Nat} {room : Int} {l : List Nd} (w : World) (h : Ring w c room mb l) {x : Nd} {qa qb : Value} (hx : Blk w x.g 89 #[.int .i64 x.id, .string x.b, .bool x.d, qa, qb]) (hxc : x.g ≠ c) (hxl : ∀ y ∈ l, y.g ≠ x.g) :
    Calls Try.prog 40 #[.pointer (some ⟨c, 0, none⟩), .pointer (some ⟨x.g, 0, none⟩)] w fun e w' => e = .returned (.tuple #[]) ∧ Ring w' c room mb (x :: l) ∧ Upd (RgS c (x :: l)) w w' := by
  obtain ⟨gf, ff, uf, vf, ef, f02, f0, f1, f2, fz, fm⟩ := h.slot 1
  have hF := (h.new (New.refl w).drew).first (hx.new (New.refl w).drew) hxc hxl ef
  have hca := h.ca
  rw [ef] at hca
  obtain ⟨c0, c1, c2, c3, c4, cz⟩ := caF hca
  have hgx : gf ≠ x.g := by
    intro e
    rcases fm with rfl | fm
    · exact hxc e.symm
    · obtain ⟨y, hy, hyg⟩ := List.mem_map.1 fm
      exact hxl y hy (hyg.trans e)
  have x0 := hx.lt
  have x4 : w.cell? ⟨x.g, 3, none⟩ = some qa := hx.cell 3
  have x5 : w.cell? ⟨x.g, 4, none⟩ = some qb := hx.cell 4
  have xz := hx.frozen
  have hcx : x.g ≠ c := hxc
  have hU : Upd (RgS c (x :: l)) w ((((w.drew.setCell ⟨x.g, 3, none⟩ (.pointer (some ⟨c, 2, none⟩))).setCell ⟨x.g, 4, none⟩ (.pointer (some ⟨gf, ff, none⟩))).setCell ⟨gf, ff + 3, none⟩ (.pointer (some ⟨x.g, 0, none⟩))).setCell ⟨c, 6, none⟩ (.pointer (some ⟨x.g, 0, none⟩))) := ((((Upd.refl _ w).drew.setCell (p := ⟨x.g, 3, none⟩) (fun _ => .inr (by simp)) _).setCell (p := ⟨x.g, 4, none⟩) (fun _ => .inr (by simp)) _).setCell (p := ⟨gf, ff + 3, none⟩) (fun _ => fm.imp id (fun h => by rw [List.map_cons]; exact .tail _ h)) _).setCell (p := ⟨c, 6, none⟩) (fun _ => .inl rfl) _
  have K1 : ∀ (f : Nat) (u : Value), (w.setCell ⟨x.g, f, none⟩ u).cell? ⟨c, 6, none⟩ = some (.pointer (some ⟨gf, ff, none⟩)) := fun f u => (World.cell?_setCell_far _ ⟨x.g, f, none⟩ ⟨c, 6, none⟩ _ hcx).trans c4
  have K2 : ∀ (f : Nat) (u : Value) (f2 : Nat) (u2 : Value), ((w.setCell ⟨x.g, f, none⟩ u).setCell ⟨x.g, f2, none⟩ u2).cell? ⟨c, 6, none⟩ = some (.pointer (some ⟨gf, ff, none⟩)) := fun f u f2 u2 => (World.cell?_setCell_far _ ⟨x.g, f2, none⟩ ⟨c, 6, none⟩ _ hcx).trans (K1 f u)
  have J0 : (w.setCell ⟨x.g, 3, none⟩ (.pointer (some ⟨c, 2, none⟩))).cell? ⟨x.g, 4, none⟩ = some qb := (hx.set_ 3 (.pointer (some ⟨c, 2, none⟩))).cell 4
  have J1 : ((w.setCell ⟨x.g, 3, none⟩ (.pointer (some ⟨c, 2, none⟩))).setCell ⟨x.g, 4, none⟩ (.pointer (some ⟨gf, ff, none⟩))).cell? ⟨x.g, 4, none⟩ = some (.pointer (some ⟨gf, ff, none⟩)) := ((hx.set_ 3 (.pointer (some ⟨c, 2, none⟩))).set_ 4 (.pointer (some ⟨gf, ff, none⟩))).cell 4
  have J2 : ((w.setCell ⟨x.g, 3, none⟩ (.pointer (some ⟨c, 2, none⟩))).setCell ⟨x.g, 4, none⟩ (.pointer (some ⟨gf, ff, none⟩))).cell? ⟨gf, ff + 3, none⟩ = some (.pointer uf) := (World.cell?_setCell_far _ ⟨x.g, 4, none⟩ ⟨gf, ff + 3, none⟩ _ (fun e => hgx e.symm)).trans ((World.cell?_setCell_far _ ⟨x.g, 3, none⟩ ⟨gf, ff + 3, none⟩ _ (fun e => hgx e.symm)).trans f1)
  have J3 := K2 3 (.pointer (some ⟨c, 2, none⟩)) 4 (.pointer (some ⟨gf, ff, none⟩))
  have J4 : (((w.setCell ⟨x.g, 3, none⟩ (.pointer (some ⟨c, 2, none⟩))).setCell ⟨x.g, 4, none⟩ (.pointer (some ⟨gf, ff, none⟩))).setCell ⟨gf, ff + 3, none⟩ (.pointer (some ⟨x.g, 0, none⟩))).cell? ⟨c, 6, none⟩ = some (.pointer (some ⟨gf, ff, none⟩)) := (World.cell?_setCell_other (a := ⟨gf, ff + 3, none⟩) (b := ⟨c, 6, none⟩) (h := by intro e; injection e; omega) ..).trans J3
  have HF := Lib.hid hF
  have HU := Lib.hid hU
  clear hF hU hca ef fm h hx hxl
  go_enter Try.func40, Try.ntmps40
  go_upto_region 0 with fail
  refine wp_region_held_drew (S := fun w' => w'.cell? ⟨c, 6, none⟩ = some (.pointer (some ⟨gf, ff, none⟩))) (by kernel_rfl) (c4) (fun hHeld => ?_)
  refine wpAnyH_take (i := 0) (oi := { dst := some 4, op := Op.move (Operand.tmp 1), type := 87, pos := "cache.go:41", after := #[], guard := none }) (v := ?_) rfl (by kernel_rfl) (by kernel_rfl) (by kernel_rfl) (fun _ _ _ h => h) (Or.inl ⟨by rfl, ?_⟩) (by assumption) ?_
  rotate_left
  · (intro wq hSw; (try dsimp only at hSw); go_simp; first | done | with_reducible rfl)
  try simp only [Act.put, List.setIfInBounds_toArray, List.set_cons_zero, List.set_cons_succ]
  refine wpAnyH_take (i := 1) (oi := { dst := some 5, op := Op.move (Operand.tmp 1), type := 87, pos := "cache.go:41", after := #[{ on := 12, ground := Ground.gcOnly Departure.lateStores }], guard := none }) (v := ?_) rfl (by kernel_rfl) (by kernel_rfl) (by kernel_rfl) (fun _ _ _ h => h) (Or.inl ⟨by rfl, ?_⟩) (by assumption) ?_
  rotate_left
  · (intro wq hSw; (try dsimp only at hSw); go_simp; first | done | with_reducible rfl)
  try simp only [Act.put, List.setIfInBounds_toArray, List.set_cons_zero, List.set_cons_succ]
  refine wpAnyH_take (i := 2) (oi := { dst := some 6, op := Op.move (Operand.tmp 0), type := 23, pos := "cache.go:41", after := #[], guard := none }) (v := ?_) rfl (by kernel_rfl) (by kernel_rfl) (by kernel_rfl) (fun _ _ _ h => h) (Or.inl ⟨by rfl, ?_⟩) (by assumption) ?_
  rotate_left
  · (intro wq hSw; (try dsimp only at hSw); go_simp; first | done | with_reducible rfl)
  try simp only [Act.put, List.setIfInBounds_toArray, List.set_cons_zero, List.set_cons_succ]
  refine wpAnyH_take (i := 3) (oi := { dst := some 7, op := Op.nilCheck (Operand.tmp 6), type := 0, pos := "cache.go:41", after := #[{ on := 2, ground := Ground.data }], guard := none }) (v := ?_) rfl (by kernel_rfl) (by kernel_rfl) (by kernel_rfl) (fun _ _ _ h => h) (Or.inl ⟨by rfl, ?_⟩) (by assumption) ?_
  rotate_left
  · (intro wq hSw; (try dsimp only at hSw); go_simp; first | done | with_reducible rfl)
  try simp only [Act.put, List.setIfInBounds_toArray, List.set_cons_zero, List.set_cons_succ]
  refine wpAnyH_take (i := 4) (oi := { dst := some 8, op := Op.fieldAddr 91 (Operand.tmp 7) 2, type := 0, pos := "cache.go:41", after := #[{ on := 3, ground := Ground.data }], guard := none }) (v := ?_) rfl (by kernel_rfl) (by kernel_rfl) (by kernel_rfl) (fun _ _ _ h => h) (Or.inl ⟨by rfl, ?_⟩) (by assumption) ?_
  rotate_left
  · (intro wq hSw; (try dsimp only at hSw); go_simp; first | done | with_reducible rfl)
  try simp only [Act.put, List.setIfInBounds_toArray, List.set_cons_zero, List.set_cons_succ]
  refine wpAnyH_take (i := 5) (oi := { dst := some 9, op := Op.move (Operand.tmp 0), type := 23, pos := "cache.go:41", after := #[], guard := none }) (v := ?_) rfl (by kernel_rfl) (by kernel_rfl) (by kernel_rfl) (fun _ _ _ h => h) (Or.inl ⟨by rfl, ?_⟩) (by assumption) ?_
  rotate_left
  · (intro wq hSw; (try dsimp only at hSw); go_simp; first | done | with_reducible rfl)
  try simp only [Act.put, List.setIfInBounds_toArray, List.set_cons_zero, List.set_cons_succ]
  refine wpAnyH_take (i := 6) (oi := { dst := some 10, op := Op.nilCheck (Operand.tmp 9), type := 0, pos := "cache.go:41", after := #[{ on := 5, ground := Ground.data }], guard := none }) (v := ?_) rfl (by kernel_rfl) (by kernel_rfl) (by kernel_rfl) (fun _ _ _ h => h) (Or.inl ⟨by rfl, ?_⟩) (by assumption) ?_
  rotate_left
  · (intro wq hSw; (try dsimp only at hSw); go_simp; first | done | with_reducible rfl)
  try simp only [Act.put, List.setIfInBounds_toArray, List.set_cons_zero, List.set_cons_succ]
  refine wpAnyH_take (i := 7) (oi := { dst := some 11, op := Op.fieldAddr 91 (Operand.tmp 10) 2, type := 0, pos := "cache.go:41", after := #[{ on := 6, ground := Ground.data }], guard := none }) (v := ?_) rfl (by kernel_rfl) (by kernel_rfl) (by kernel_rfl) (fun _ _ _ h => h) (Or.inl ⟨by rfl, ?_⟩) (by assumption) ?_
  rotate_left
  · (intro wq hSw; (try dsimp only at hSw); go_simp; first | done | with_reducible rfl)
  try simp only [Act.put, List.setIfInBounds_toArray, List.set_cons_zero, List.set_cons_succ]
  refine wpAnyH_take (i := 8) (oi := { dst := some 12, op := Op.fieldAddr 89 (Operand.tmp 11) 2, type := 0, pos := "cache.go:41", after := #[{ on := 7, ground := Ground.data }], guard := none }) (v := ?_) rfl (by kernel_rfl) (by kernel_rfl) (by kernel_rfl) (fun _ _ _ h => h) (Or.inl ⟨by rfl, ?_⟩) (by assumption) ?_
  rotate_left
  · (intro wq hSw; (try dsimp only at hSw); go_simp; first | done | with_reducible rfl)
  try simp only [Act.put, List.setIfInBounds_toArray, List.set_cons_zero, List.set_cons_succ]
  refine wpAnyH_take (i := 9) (oi := { dst := some 13, op := Op.load 87 (Operand.tmp 12), type := 87, pos := "cache.go:41", after := #[{ on := 8, ground := Ground.data }], guard := none }) (v := ?_) rfl (by kernel_rfl) (by kernel_rfl) (by kernel_rfl) (fun _ _ _ h => h) (Or.inl ⟨by rfl, ?_⟩) (by assumption) ?_
  rotate_left
  · (intro wq hSw; (try dsimp only at hSw); go_simp; first | done | with_reducible rfl)
  try simp only [Act.put, List.setIfInBounds_toArray, List.set_cons_zero, List.set_cons_succ]
  refine wpAnyH_take (i := 10) (oi := { dst := some 14, op := Op.nilCheck (Operand.tmp 4), type := 0, pos := "cache.go:41", after := #[{ on := 0, ground := Ground.data }, { on := 0, ground := Ground.phase }, { on := 1, ground := Ground.textOnly Departure.lateStores }, { on := 2, ground := Ground.phase }, { on := 3, ground := Ground.phase }, { on := 4, ground := Ground.phase }, { on := 5, ground := Ground.textOnly Departure.lateStores }, { on := 6, ground := Ground.textOnly Departure.lateStoresUnsure }, { on := 7, ground := Ground.textOnly Departure.lateStoresUnsure }, { on := 8, ground := Ground.textOnly Departure.lateStoresUnsure }, { on := 9, ground := Ground.phase }], guard := none }) (v := ?_) rfl (by kernel_rfl) (by kernel_rfl) (by kernel_rfl) (fun _ _ _ h => h) (Or.inl ⟨by rfl, ?_⟩) (by assumption) ?_
  rotate_left
  · (intro wq hSw; (try dsimp only at hSw); go_simp; first | done | with_reducible rfl)
  try simp only [Act.put, List.setIfInBounds_toArray, List.set_cons_zero, List.set_cons_succ]
  refine wpAnyH_take (i := 11) (oi := { dst := some 15, op := Op.fieldAddr 89 (Operand.tmp 14) 1, type := 0, pos := "cache.go:41", after := #[{ on := 10, ground := Ground.data }, { on := 0, ground := Ground.phase }, { on := 1, ground := Ground.textOnly Departure.lateStores }, { on := 2, ground := Ground.phase }, { on := 3, ground := Ground.phase }, { on := 4, ground := Ground.phase }, { on := 5, ground := Ground.textOnly Departure.lateStores }, { on := 6, ground := Ground.textOnly Departure.lateStoresUnsure }, { on := 7, ground := Ground.textOnly Departure.lateStoresUnsure }, { on := 8, ground := Ground.textOnly Departure.lateStoresUnsure }, { on := 9, ground := Ground.phase }], guard := none }) (v := ?_) rfl (by kernel_rfl) (by kernel_rfl) (by kernel_rfl) (fun _ _ _ h => h) (Or.inl ⟨by rfl, ?_⟩) (by assumption) ?_
  rotate_left
  · (intro wq hSw; (try dsimp only at hSw); go_simp; first | done | with_reducible rfl)
  try simp only [Act.put, List.setIfInBounds_toArray, List.set_cons_zero, List.set_cons_succ]
  refine wpAnyH_ready (rs := [12]) (by kernel_rfl) (by simp) ?_
  refine AllReadyH.cons (o := { dst := none, op := Op.store 87 (Operand.tmp 15) (Operand.tmp 8), type := 0, pos := "cache.go:41", after := #[{ on := 11, ground := Ground.data }, { on := 4, ground := Ground.data }, { on := 0, ground := Ground.phase }, { on := 1, ground := Ground.textOnly Departure.lateStores }, { on := 2, ground := Ground.phase }, { on := 3, ground := Ground.phase }, { on := 4, ground := Ground.phase }, { on := 5, ground := Ground.textOnly Departure.lateStores }, { on := 6, ground := Ground.textOnly Departure.lateStoresUnsure }, { on := 7, ground := Ground.textOnly Departure.lateStoresUnsure }, { on := 8, ground := Ground.textOnly Departure.lateStoresUnsure }, { on := 9, ground := Ground.phase }], guard := none }) rfl (fun K hK => ?_) AllReadyH.nil
  go_simp
  refine hK.out _ _ ?_ (fun hHeld => ?_)
  · exact K1 _ _
  clear hK K
  try simp only [Act.put, List.setIfInBounds_toArray, List.set_cons_zero, List.set_cons_succ]
  refine wpAnyH_take (i := 13) (oi := { dst := some 16, op := Op.nilCheck (Operand.tmp 5), type := 0, pos := "cache.go:41", after := #[{ on := 1, ground := Ground.data }, { on := 0, ground := Ground.phase }, { on := 1, ground := Ground.phase }, { on := 2, ground := Ground.phase }, { on := 3, ground := Ground.phase }, { on := 4, ground := Ground.phase }, { on := 5, ground := Ground.phase }, { on := 6, ground := Ground.phase }, { on := 7, ground := Ground.phase }, { on := 8, ground := Ground.phase }, { on := 9, ground := Ground.phase }, { on := 10, ground := Ground.phase }, { on := 11, ground := Ground.phase }, { on := 12, ground := Ground.phase }], guard := none }) (v := ?_) rfl (by kernel_rfl) (by kernel_rfl) (by kernel_rfl) (fun _ _ _ h => h) (Or.inl ⟨by rfl, ?_⟩) (by assumption) ?_
  rotate_left
  · (intro wq hSw; (try dsimp only at hSw); go_simp; first | done | with_reducible rfl)
  try simp only [Act.put, List.setIfInBounds_toArray, List.set_cons_zero, List.set_cons_succ]
  refine wpAnyH_take (i := 14) (oi := { dst := some 17, op := Op.fieldAddr 89 (Operand.tmp 16) 2, type := 0, pos := "cache.go:41", after := #[{ on := 13, ground := Ground.data }, { on := 0, ground := Ground.phase }, { on := 1, ground := Ground.phase }, { on := 2, ground := Ground.phase }, { on := 3, ground := Ground.phase }, { on := 4, ground := Ground.phase }, { on := 5, ground := Ground.phase }, { on := 6, ground := Ground.phase }, { on := 7, ground := Ground.phase }, { on := 8, ground := Ground.phase }, { on := 9, ground := Ground.phase }, { on := 10, ground := Ground.phase }, { on := 11, ground := Ground.phase }, { on := 12, ground := Ground.phase }], guard := none }) (v := ?_) rfl (by kernel_rfl) (by kernel_rfl) (by kernel_rfl) (fun _ _ _ h => h) (Or.inl ⟨by rfl, ?_⟩) (by assumption) ?_
  rotate_left
  · (intro wq hSw; (try dsimp only at hSw); go_simp; first | done | with_reducible rfl)
  try simp only [Act.put, List.setIfInBounds_toArray, List.set_cons_zero, List.set_cons_succ]
  refine wpAnyH_ready (rs := [15]) (by kernel_rfl) (by simp) ?_
  refine AllReadyH.cons (o := { dst := none, op := Op.store 87 (Operand.tmp 17) (Operand.tmp 13), type := 0, pos := "cache.go:41", after := #[{ on := 14, ground := Ground.data }, { on := 9, ground := Ground.data }, { on := 12, ground := Ground.chain }, { on := 0, ground := Ground.phase }, { on := 1, ground := Ground.phase }, { on := 2, ground := Ground.phase }, { on := 3, ground := Ground.phase }, { on := 4, ground := Ground.phase }, { on := 5, ground := Ground.phase }, { on := 6, ground := Ground.phase }, { on := 7, ground := Ground.phase }, { on := 8, ground := Ground.phase }, { on := 9, ground := Ground.phase }, { on := 10, ground := Ground.phase }, { on := 11, ground := Ground.phase }, { on := 12, ground := Ground.phase }], guard := none }) rfl (fun K hK => ?_) AllReadyH.nil
  go_simp
  refine hK.out _ _ ?_ (fun hHeld => ?_)
  · exact K2 _ _ _ _
  clear hK K
  try simp only [Act.put, List.setIfInBounds_toArray, List.set_cons_zero, List.set_cons_succ]
  refine wpAnyH_done (by kernel_rfl) ?_ _
  clear hHeld
  go_wp2_with fail
  refine bodyPost_end (v := .tuple #[]) (by kernel_rfl) rfl ?_
  exact ⟨rfl, HF.out, HU.out⟩
end Go.Proofs.Ytcganajbfplmpaa
