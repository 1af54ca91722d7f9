/- Chapter 22 (decree): send. Printed by genDg2.py. -/
import Derived.Test.YtghhcjpilcoblaaDg
import Derived.Deep.RegionHeld3
namespace Go.Proofs.Ytghhcjpilcoblaa
open Go.RowKit Go.Lap
set_option linter.unusedVariables false
section
variable {w w' w'' : World} {S : Nat → Prop} {gp n B : Nat} {L : GpL} {g : Gm}
theorem keepC (hu : Upd S w w') {b : Nat} (hb : b < w.heap.size) (hS : ¬ S b) (o : Nat) : w'.cell? ⟨b, o, none⟩ = w.cell? ⟨b, o, none⟩ := World.cell?_of_block (hu.block b hb hS)
/-- What a call that sends leaves. -/
def SdPost (w : World) (gp n B : Nat) (L : GpL) (g : Gm) (b' : List Pkt) (w' : World) : Prop :=
  ∃ v', GpAt w' gp n B { L with lv := v' } { g with bg := b' } ∧ Upd (BgF L.bb L.lv) w w' ∧ (∀ k, v'.ownBlock = some k → L.lv.ownBlock = some k ∨ w.heap.size ≤ k)
theorem sendB_pk (b : List Pkt) (p : Pkt) (hb : b.length ≤ 256) : (b.map Pkt.pk) ++ [p.pk].take (256 - (b.map Pkt.pk).length) = (sendB b p).map Pkt.pk := by
  unfold sendB
  rw [List.length_map]
  by_cases h : b.length < 256
  · rw [if_pos h, List.take_of_length_le (by simp; omega), List.map_append]; rfl
  · rw [if_neg h, show 256 - b.length = 0 by omega]; simp
set_option maxRecDepth 100000 in
set_option maxHeartbeats 8000000 in
theorem gsend (h : GpAt w gp n B L g) (fr ds : Nat) (m : Msg) (hm : m.good) :
    Calls Try.prog 60 #[.pointer (some ⟨gp, 0, none⟩), .int .i64 (fr : Int), .int .i64 (ds : Int), m.val] w (fun e w' => e = .returned (.tuple #[]) ∧ SdPost w gp n B L g (sendB g.bg ⟨fr, ds, m⟩) w') := by
  have HSH := Lib.hid (fun w => show_any m hm w)
  have hlen := h.bag.len
  rw [List.length_map] at hlen
  have HPK := Lib.hid (sendB_pk g.bg ⟨fr, ds, m⟩ hlen)
  obtain ⟨mk, ms, mr, mn, mv, mh, mhr, mhn, mhv⟩ := m
  have hN := (New.refl w).alloc (.cells #[.int .i64 (mk : Int), .int .u64 (ms : Int), .int .u64 (mr : Int), .int .u64 (mn : Int), .string mv, .bool mh, .int .u64 (mhr : Int), .int .u64 (mhn : Int), .string mhv] 107)
  have hM := Blk.mk_new w 107 #[.int .i64 (mk : Int), .int .u64 (ms : Int), .int .u64 (mr : Int), .int .u64 (mn : Int), .string mv, .bool mh, .int .u64 (mhr : Int), .int .u64 (mhn : Int), .string mhv]
  have h1 := h.new hN
  have HH := Lib.hid h1
  have HN := Lib.hid hN
  obtain ⟨g0, c0, c1, cz⟩ := h1.facts
  obtain ⟨p0, a0, a1, a2, a3, a4, a5, a6, a7, a8, az⟩ := Blk9F hM
  have HB0 : Hid (∀ k, BgF L.bb L.lv k → k < w.heap.size) := Lib.hid h.bag.lt
  have HOG : Hid (¬ BgF L.bb L.lv gp) := Lib.hid (by
    rintro (e | e)
    · exact Blk.ne_ h.blk h.bag.blk (by decide) e
    · exact h.bag.row.ne_blk h.blk (by decide) e)
  clear h h1 hN hM hm hlen
  go_enter Try.func60, Try.ntmps60
  go_wp2_with fail
  have HZW : Hid ((w.alloc (.cells #[.int .i64 (mk : Int), .int .u64 (ms : Int), .int .u64 (mr : Int), .int .u64 (mn : Int), .string mv, .bool mh, .int .u64 (mhr : Int), .int .u64 (mhn : Int), .string mhv] 107)).heap.size = w.heap.size + 1) := Lib.hid (by simp)
  generalize w.alloc (.cells #[.int .i64 (mk : Int), .int .u64 (ms : Int), .int .u64 (mr : Int), .int .u64 (mn : Int), .string mv, .bool mh, .int .u64 (mhr : Int), .int .u64 (mhn : Int), .string mhv] 107) = wz at *
  refine wp_region_held_drew (S := fun w' => (∀ o, w'.cell? ⟨gp, o, none⟩ = wz.cell? ⟨gp, o, none⟩) ∧ (∀ o, w'.cell? ⟨w.heap.size, o, none⟩ = wz.cell? ⟨w.heap.size, o, none⟩)) (by kernel_rfl) (⟨fun _ => rfl, fun _ => rfl⟩) (fun hHeld => ?_)
  refine wpAnyH_take (i := 0) (oi := { dst := some 8, op := Op.move (Operand.tmp 0), type := 53, pos := "decree.go:106", after := #[], guard := none }) (v := ?_) rfl (by kernel_rfl) (by kernel_rfl) (by kernel_rfl) (fun _ _ _ h => h) (Or.inl ⟨by rfl, ?_⟩) (by assumption) ?_
  rotate_left
  · (intro wq hSw; (try dsimp only at hSw); go_simp; first | done | with_reducible rfl)
  try simp only [Act.put, List.setIfInBounds_toArray, List.set_cons_zero, List.set_cons_succ]
  refine wpAnyH_take (i := 1) (oi := { dst := some 9, op := Op.nilCheck (Operand.tmp 8), type := 0, pos := "decree.go:106", after := #[{ on := 0, ground := Ground.data }], guard := none }) (v := ?_) rfl (by kernel_rfl) (by kernel_rfl) (by kernel_rfl) (fun _ _ _ h => h) (Or.inl ⟨by rfl, ?_⟩) (by assumption) ?_
  rotate_left
  · (intro wq hSw; (try dsimp only at hSw); go_simp; first | done | with_reducible rfl)
  try simp only [Act.put, List.setIfInBounds_toArray, List.set_cons_zero, List.set_cons_succ]
  refine wpAnyH_take (i := 2) (oi := { dst := some 10, op := Op.fieldAddr 94 (Operand.tmp 9) 1, type := 0, pos := "decree.go:106", after := #[{ on := 1, ground := Ground.data }], guard := none }) (v := ?_) rfl (by kernel_rfl) (by kernel_rfl) (by kernel_rfl) (fun _ _ _ h => h) (Or.inl ⟨by rfl, ?_⟩) (by assumption) ?_
  rotate_left
  · (intro wq hSw; (try dsimp only at hSw); go_simp; first | done | with_reducible rfl)
  try simp only [Act.put, List.setIfInBounds_toArray, List.set_cons_zero, List.set_cons_succ]
  refine wpAnyH_take (i := 3) (oi := { dst := some 11, op := Op.load 89 (Operand.tmp 10), type := 89, pos := "decree.go:106", after := #[{ on := 2, ground := Ground.data }], guard := none }) (v := ?_) rfl (by kernel_rfl) (by kernel_rfl) (by kernel_rfl) (fun _ _ _ h => h) (Or.inl ⟨by rfl, ?_⟩) (by assumption) ?_
  rotate_left
  · (intro wq hSw; (try dsimp only at hSw); go_simp; first | done | with_reducible rfl)
  try simp only [Act.put, List.setIfInBounds_toArray, List.set_cons_zero, List.set_cons_succ]
  refine wpAnyH_take (i := 4) (oi := { dst := some 12, op := Op.move (Operand.tmp 1), type := 3, pos := "decree.go:106", after := #[], guard := none }) (v := ?_) rfl (by kernel_rfl) (by kernel_rfl) (by kernel_rfl) (fun _ _ _ h => h) (Or.inl ⟨by rfl, ?_⟩) (by assumption) ?_
  rotate_left
  · (intro wq hSw; (try dsimp only at hSw); go_simp; first | done | with_reducible rfl)
  try simp only [Act.put, List.setIfInBounds_toArray, List.set_cons_zero, List.set_cons_succ]
  refine wpAnyH_take (i := 5) (oi := { dst := some 13, op := Op.move (Operand.tmp 2), type := 3, pos := "decree.go:106", after := #[], guard := none }) (v := ?_) rfl (by kernel_rfl) (by kernel_rfl) (by kernel_rfl) (fun _ _ _ h => h) (Or.inl ⟨by rfl, ?_⟩) (by assumption) ?_
  rotate_left
  · (intro wq hSw; (try dsimp only at hSw); go_simp; first | done | with_reducible rfl)
  try simp only [Act.put, List.setIfInBounds_toArray, List.set_cons_zero, List.set_cons_succ]
  refine wpAnyH_take (i := 6) (oi := { dst := some 14, op := Op.load 107 (Operand.tmp 7), type := 107, pos := "decree.go:106", after := #[], guard := none }) (v := ?_) rfl (by kernel_rfl) (by kernel_rfl) (by kernel_rfl) (fun _ _ _ h => h) (Or.inl ⟨by rfl, ?_⟩) (by assumption) ?_
  rotate_left
  · (intro wq hSw; (try dsimp only at hSw); go_simp; first | done | with_reducible rfl)
  try simp only [Act.put, List.setIfInBounds_toArray, List.set_cons_zero, List.set_cons_succ]
  refine wpAnyH_ready (rs := [7]) (by kernel_rfl) (by simp) ?_
  refine AllReadyH.cons (o := { dst := some 15, op := Op.call { callee := Callee.value (Operand.func 74), args := #[Operand.tmp 14], argTypes := #[107] }, type := 9, pos := "decree.go:106", after := #[{ on := 6, ground := Ground.data }], guard := none }) rfl (fun K hK => ?_) AllReadyH.nil
  go_simp
  refine (HSH.out _).mono ?_
  rintro e w5 ⟨rfl, hn5⟩
  have hn5z : New wz w5 := (New.refl wz).drew.trans hn5
  have k1 := keepC (S := fun _ => False) (Upd.new hn5z) g0 (fun h => h)
  have k2 := keepC (S := fun _ => False) (Upd.new hn5z) p0 (fun h => h)
  refine hK.out _ _ ?_ (fun hHeld => ?_)
  · exact ⟨k1, k2⟩
  clear hK K
  try simp only [Act.put, List.setIfInBounds_toArray, List.set_cons_zero, List.set_cons_succ]
  refine wpAnyH_take (i := 8) (oi := { dst := some 16, op := Op.build 125 #[(0, Operand.tmp 12), (1, Operand.tmp 13), (2, Operand.tmp 15)], type := 125, pos := "decree.go:106", after := #[{ on := 4, ground := Ground.data }, { on := 5, ground := Ground.data }, { on := 7, ground := Ground.data }], guard := none }) (v := ?_) rfl (by kernel_rfl) (by kernel_rfl) (by kernel_rfl) (fun _ _ _ h => h) (Or.inl ⟨by rfl, ?_⟩) (by assumption) ?_
  rotate_left
  · (intro wq hSw; (try dsimp only at hSw); go_simp; first | done | with_reducible rfl)
  try simp only [Act.put, List.setIfInBounds_toArray, List.set_cons_zero, List.set_cons_succ]
  refine wpAnyH_ready (rs := [9]) (by kernel_rfl) (by simp) ?_
  refine AllReadyH.cons (o := { dst := some 17, op := Op.buildSlice 119 1 #[(0, Operand.tmp 16)], type := 119, pos := "decree.go:106", after := #[{ on := 8, ground := Ground.data }], guard := none }) rfl (fun K hK => ?_) AllReadyH.nil
  go_simp
  have hn6 := hn5z.alloc (.cells #[.int .i64 (fr : Int), .int .i64 (ds : Int), .string (str (Msg.enc ⟨mk, ms, mr, mn, mv, mh, mhr, mhn, mhv⟩))] 125)
  have hp6 := Blk.mk_new w5 125 #[.int .i64 (fr : Int), .int .i64 (ds : Int), .string (str (Msg.enc ⟨mk, ms, mr, mn, mv, mh, mhr, mhn, mhv⟩))]
  have k3 := keepC (S := fun _ => False) (Upd.new hn6) g0 (fun h => h)
  have k4 := keepC (S := fun _ => False) (Upd.new hn6) p0 (fun h => h)
  refine hK.out _ _ ?_ (fun hHeld => ?_)
  · exact ⟨k3, k4⟩
  clear hK K
  try simp only [Act.put, List.setIfInBounds_toArray, List.set_cons_zero, List.set_cons_succ]
  refine wpAnyH_ready (rs := [10]) (by kernel_rfl) (by simp) ?_
  refine AllReadyH.cons (o := { dst := some 18, op := Op.call { callee := Callee.value (Operand.func 73), args := #[Operand.tmp 11, Operand.tmp 17], argTypes := #[89, 119] }, type := 3, pos := "decree.go:106", after := #[{ on := 3, ground := Ground.data }, { on := 9, ground := Ground.data }, { on := 7, ground := Ground.chain }], guard := none }) rfl (fun K hK => ?_) AllReadyH.nil
  go_simp
  refine (bput (HH.out.new hn6).bag (m := [⟨(fr : Int), (ds : Int), str (Msg.enc ⟨mk, ms, mr, mn, mv, mh, mhr, mhn, mhv⟩)⟩]) (SlIn.one hp6 pkOk rfl) (by simp)).mono ?_
  rintro e w7 ⟨v7, rfl, hb7, hu7, hv7⟩
  have hu8 := Upd.trans (S := BgF L.bb L.lv) (Upd.new hn6) hu7 (fun _ _ h => h)
  have k5 := keepC hu8 g0 HOG.out
  have k6 := keepC hu8 p0 (fun hk => by have := HB0.out _ hk; omega)
  refine hK.out _ _ ?_ (fun hHeld => ?_)
  · exact ⟨k5, k6⟩
  clear hK K
  try simp only [Act.put, List.setIfInBounds_toArray, List.set_cons_zero, List.set_cons_succ]
  refine wpAnyH_done (by kernel_rfl) ?_ _
  clear hHeld
  go_wp2_with fail
  go_end0
  refine ⟨rfl, v7, ?_, Upd.trans (S := BgF L.bb L.lv) (Upd.new HN.out) hu8 (fun _ _ h => h), fun k hk => (hv7 k hk).elim .inl (fun h => .inr (by have := hn6.size; have := HZW.out; omega))⟩
  exact (HH.out).setBag (by rw [← HPK.out]; exact hb7) hu8 (fun k hk => (hv7 k hk).elim .inl (fun h => .inr (by have := hn6.size; omega)))
end
end Go.Proofs.Ytghhcjpilcoblaa
