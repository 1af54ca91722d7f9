/- The walk of the law DecreePackets (chapter 22): for every input it answers true. -/
import Derived.Test.YtghhcjpilcoblaaDg18
import Derived.Deep.DeepCutAuto
namespace Go.Proofs.Ytghhcjpilcoblaa
open Go.RowKit Go.Lap
set_option linter.unusedVariables false
theorem da_at {w : World} {acts : List DAct} {b off : Nat} (hc : ∀ k x, acts[k]? = some x → ∀ j u, (daE x)[j]? = some u → w.cell? ⟨b, off + k * 5 + j, none⟩ = some u) {k : Nat} {x : DAct} (hx : acts[k]? = some x) :
    w.cell? ⟨b, off + k * 5, none⟩ = some (.int .i64 x.k) ∧ w.cell? ⟨b, off + k * 5 + 1, none⟩ = some (.int .i64 x.i) ∧ w.cell? ⟨b, off + k * 5 + 2, none⟩ = some (.int .i64 x.a) ∧ w.cell? ⟨b, off + k * 5 + 3, none⟩ = some (.int .i64 x.t) ∧ w.cell? ⟨b, off + k * 5 + 4, none⟩ = some (.string x.v) :=
  ⟨by have := hc _ x hx 0 _ rfl; simpa using this, by have := hc _ x hx 1 _ rfl; simpa using this, by have := hc _ x hx 2 _ rfl; simpa using this, by have := hc _ x hx 3 _ rfl; simpa using this, by have := hc _ x hx 4 _ rfl; simpa using this⟩
theorem sendB_lt (b : List Pkt) (p : Pkt) (h : b.length < 256) : (sendB b p).length = b.length + 1 := by unfold sendB; rw [if_pos h, List.length_append]; rfl
theorem copy_len {g : Gm} {i : Nat} (hi : i < g.bg.length) (h : g.bg.length < 256) : (g.copy i).bg.length = g.bg.length + 1 := by
  unfold Gm.copy
  rw [List.getElem?_eq_getElem hi]
  exact sendB_lt _ _ h
/-- What the law says of an act, in plain words. -/
structure Packs (n : Nat) (g g' : Gm) (x : DAct) (r : Int) : Prop where
  le : g'.bg.length ≤ 256
  k0 : x.k = 0 → g'.bg.length = g.bg.length ∧ (inN n x.i → ¬ r = 221) ∧ (¬ inN n x.i → r = 221)
  k1 : x.k = 1 → (inN n x.i → r = 0) ∧ (¬ inN n x.i → r = 221 ∧ g'.bg.length = g.bg.length)
  k2 : x.k = 2 → (inN g.bg.length x.a → r = 0) ∧ (¬ inN g.bg.length x.a → r = 223 ∧ g'.bg.length = g.bg.length)
  k3 : x.k = 3 → (inN g.bg.length x.a → g.bg.length = 256 → r = 211) ∧ (inN g.bg.length x.a → g.bg.length < 256 → r = 0 ∧ g'.bg.length = g.bg.length + 1) ∧ (¬ inN g.bg.length x.a → r = 223)
  k4 : x.k = 4 → g'.bg.length ≤ g.bg.length
  k5 : x.k = 5 → (inN n x.i → r = 0 ∧ pendR n g' x.i = 0) ∧ (¬ inN n x.i → r = 221)
theorem packs {n B : Nat} {g g' : Gm} {x : DAct} {r : Int} (hok : GmOk n B g') (hr : doR n g x = r) (hg : doG n g x = g') : Packs n g g' x r := by
  obtain ⟨k, i, a, t, v⟩ := x
  refine ⟨hok.len, ?_, ?_, ?_, ?_, ?_, ?_⟩ <;> (intro hk; dsimp only at hk; subst hk) <;> (subst hr; subst hg) <;> dsimp only [doR, doG]
  · rw [if_pos rfl, if_pos rfl]
    refine ⟨?_, ?_, ?_⟩
    · unfold proposeG; split <;> rfl
    · intro h; unfold proposeR; rw [if_pos h]; split <;> decide
    · intro h; unfold proposeR; rw [if_neg h]
  · rw [if_neg (by decide), if_pos rfl, if_neg (by decide), if_pos rfl]
    exact ⟨fun h => if_pos h, fun h => ⟨if_neg h, by unfold tickG; rw [if_neg h]⟩⟩
  · rw [if_neg (by decide), if_neg (by decide), if_pos rfl, if_neg (by decide), if_neg (by decide), if_pos rfl]
    exact ⟨fun h => if_pos h, fun h => ⟨if_neg h, by unfold deliverG; rw [if_neg h]⟩⟩
  · rw [if_neg (by decide), if_neg (by decide), if_neg (by decide), if_pos rfl, if_neg (by decide), if_neg (by decide), if_neg (by decide), if_pos rfl]
    refine ⟨fun h hl => ?_, fun h hl => ⟨?_, ?_⟩, fun h => if_neg h⟩
    · unfold copyR; rw [if_pos h, if_pos hl]
    · unfold copyR; rw [if_pos h, if_neg (by omega)]
    · unfold copyG; rw [if_pos ⟨h, hl⟩]; obtain ⟨j, rfl, hj⟩ := inN_of h; exact copy_len hj hl
  · rw [if_neg (by decide), if_neg (by decide), if_neg (by decide), if_neg (by decide), if_pos rfl]
    exact List.length_filter_le _ _
  · rw [if_neg (by decide), if_neg (by decide), if_neg (by decide), if_neg (by decide), if_neg (by decide), if_pos rfl, if_neg (by decide), if_neg (by decide), if_neg (by decide), if_neg (by decide), if_neg (by decide), if_pos rfl]
    refine ⟨fun h => ⟨if_pos h, ?_⟩, fun h => if_neg h⟩
    unfold pendR crashG
    rw [if_pos h, if_pos h]
    unfold Gm.crash
    dsimp only
    rw [set_same]
    rfl
set_option maxRecDepth 100000 in
set_option maxHeartbeats 16000000 in
theorem decreePackets_walk (n : Int) (acts : List DAct) (v : Value) (w : World) (hl : acts.length ≤ maxLen) (hs : SlIn w 5 daE v acts) :
    Calls Try.prog 7 #[.int .i64 n, v] w fun e w' => e = .returned (.bool true) ∧ New w w' := by
  unfold maxLen at hl
  obtain ⟨A, cp, hv, hcp, hor⟩ := _root_.id hs
  subst hv
  clear hs
  by_cases hn : 1 ≤ n ∧ n ≤ 7
  · obtain ⟨m, rfl⟩ : ∃ m : Nat, n = (m : Int) := ⟨n.toNat, by omega⟩
    obtain ⟨hm1, hm7⟩ : 1 ≤ m ∧ m ≤ 7 := by omega
    clear hn
    have HN := Lib.hid (st_new m hm1 hm7 w)
    go_enter Try.func7, Try.ntmps7
    go_wp2_with (go_at_call 18; refine HN.out.mono ?_; rintro e w1 ⟨gp, rfl, h1, hn1⟩; have H1 := Lib.hid h1; have HN1 := Lib.hid hn1; clear h1 hn1)
    refine (awake22 _).mono ?_
    rintro e w2 ⟨rfl, hn2⟩
    have H2 := Lib.hid (H1.out.new hn2)
    have HN2 := Lib.hid (HN1.out.trans hn2)
    clear H1 HN1 hn2 HN
    go_wp2_with fail
    go_loopw [7, 8, 9, 10, 11, 12, 13] (fun i _ _ _ _ _ _ wr => ∃ k : Nat, k ≤ acts.length ∧ k ≤ 200 ∧ i = .int .i64 k ∧ ∃ g, GSt (fun j => w.heap.size ≤ j) wr m (k + 1) gp g ∧ New w wr) (fun i _ _ _ _ _ _ _ => acts.length - (intOf i).toNat)
    case atStart => exact ⟨0, by omega, by omega, rfl, _, H2.out, HN2.out⟩
    case round =>
      obtain ⟨k, hk, hk2, rfl, g, hG, hnw⟩ := hrel
      have HG := Lib.hid hG
      have HNW := Lib.hid hnw
      by_cases hlt : k < acts.length
      · have hlt' : (k : Int) < (acts.length : Int) := by omega
        by_cases hlt2 : k < 200
        · have hlt2' : (k : Int) < 200 := by omega
          rcases hor with hor | ⟨b, off, rfl, hb, hc⟩
          · rw [hor] at hlt; simp at hlt
          have hk0 : (0 : Int) ≤ (k : Int) := by omega
          obtain ⟨x, hx⟩ : ∃ x, acts[k]? = some x := ⟨_, List.getElem?_eq_getElem hlt⟩
          obtain ⟨e0, e1, e2, e3, e4⟩ := da_at (w := wr) (fun k x h j u hu => (hnw.cells.1 _ _ hb).trans (hc k x h j u hu)) hx
          have hbl := Nat.lt_of_lt_of_le hb hnw.size
          have hblk := Blk.mk_new wr 66 #[.int .i64 x.k, .int .i64 x.i, .int .i64 x.a, .int .i64 x.t, .string x.v]
          have HB := Lib.hid hblk
          obtain ⟨q0, q1, q2, q3, q4, q5, qz⟩ := Blk5P hblk
          obtain ⟨z0, z1, z2, z3, z4, z5, zz⟩ := Blk5P (Blk.mk_new wr 66 #[.int .i64 0, .int .i64 0, .int .i64 0, .int .i64 0, .string ⟨#[]⟩])
          have HG3 := Lib.hid (hG.hide (.cells #[.int .i64 x.k, .int .i64 x.i, .int .i64 x.a, .int .i64 x.t, .string x.v] 66))
          have HN3 := Lib.hid (hnw.alloc (.cells #[.int .i64 x.k, .int .i64 x.i, .int .i64 x.a, .int .i64 x.t, .string x.v] 66))
          clear hc hx hG hnw hblk
          obtain ⟨U, hU⟩ : ∃ U, g.bg.length = U := ⟨_, rfl⟩
          have HUe := Lib.hid hU
          have HUle := Lib.hid (show U ≤ 256 by have := HG.out.ok.len; omega)
          have HU3 := Lib.hid (show ∀ wx, New (wr.alloc (.cells #[.int .i64 x.k, .int .i64 x.i, .int .i64 x.a, .int .i64 x.t, .string x.v] 66)) wx → Calls Try.prog 27 #[.pointer (some ⟨gp, 0, none⟩)] wx (fun e w' => e = .returned (.int .i64 (U : Int)) ∧ w' = wx) from fun wx hx => by rw [← HUe.out]; exact st_under (HG3.out.new hx))
          have HD := Lib.hid (show ∀ wx, New (wr.alloc (.cells #[.int .i64 x.k, .int .i64 x.i, .int .i64 x.a, .int .i64 x.t, .string x.v] 66)) wx → Calls Try.prog 28 #[.pointer (some ⟨gp, 0, none⟩), .agg #[.int .i64 x.k, .int .i64 x.i, .int .i64 x.a, .int .i64 x.t, .string x.v]] wx (StPost (fun j => w.heap.size ≤ j ∧ j ≠ wr.heap.size) wx m (k + 1 + 1) gp (doR m g x) (doG m g x)) from fun wx hx => do22 (HG3.out.new hx) hm7 (by omega) (by omega) x)
          clear hU
          have hicase : (0 ≤ x.i ∧ x.i < (m : Int)) ∨ (0 ≤ x.i ∧ ¬ x.i < (m : Int)) ∨ ¬ 0 ≤ x.i := by omega
          obtain ⟨bi, hbi⟩ : ∃ bi, decide (inN m x.i) = bi := ⟨_, rfl⟩
          obtain ⟨ba, hba⟩ : ∃ ba, decide (inN g.bg.length x.a) = ba := ⟨_, rfl⟩
          have HBi := Lib.hid hbi
          have HBa := Lib.hid hba
          clear hbi hba
          go_wp2_with fail
          clear e0 e1 e2 e3 e4 z0 z1 z2 z3 z4 z5 zz
          go_cut [9, 10] (fun s9 s10 wx => s9 = .bool bi ∧ s10 = .int .i64 (U : Int) ∧ wx = (wr.alloc (.cells #[.int .i64 x.k, .int .i64 x.i, .int .i64 x.a, .int .i64 x.t, .string x.v] 66)).drew)
          case first =>
            rcases hicase with ⟨hi1, hi2⟩ | ⟨hi1, hi2⟩ | hi1
            · have HZ := Lib.hid (show true = bi from HBi.out ▸ (decide_eq_true (show inN m x.i from ⟨hi1, hi2⟩)).symm)
              as_aux_lemma =>
                refine wp_region_held_drew (S := fun w' => w' = (wr.alloc (.cells #[.int .i64 x.k, .int .i64 x.i, .int .i64 x.a, .int .i64 x.t, .string x.v] 66)).drew) (by kernel_rfl) (rfl) (fun hHeld => ?_)
                refine wpAnyH_take (i := 0) (oi := { dst := some 44, op := Op.fieldAddr 66 (Operand.tmp 8) 1, type := 0, pos := "law.go:188", after := #[], guard := none }) (v := ?_) rfl (by kernel_rfl) (by kernel_rfl) (by kernel_rfl) (fun _ _ _ h => h) (Or.inl ⟨by rfl, ?_⟩) (by assumption) ?_
                rotate_left
                · (intro wq hSw; (try dsimp only at hSw); go_simp; first | done | with_reducible rfl)
                try simp only [Act.put, List.setIfInBounds_toArray, List.set_cons_zero, List.set_cons_succ]
                refine wpAnyH_take (i := 1) (oi := { dst := some 45, op := Op.load 3 (Operand.tmp 44), type := 3, pos := "law.go:188", after := #[{ on := 0, ground := Ground.data }], guard := none }) (v := ?_) rfl (by kernel_rfl) (by kernel_rfl) (by kernel_rfl) (fun _ _ _ h => h) (Or.inl ⟨by rfl, ?_⟩) (by assumption) ?_
                rotate_left
                · (intro wq hSw; (try dsimp only at hSw); go_simp; first | done | with_reducible rfl)
                try simp only [Act.put, List.setIfInBounds_toArray, List.set_cons_zero, List.set_cons_succ]
                refine wpAnyH_take (i := 2) (oi := { dst := some 46, op := Op.binOp BinOp.geq 3 (Operand.tmp 45) (Operand.const (Value.int IntKind.i64 0)) 3, type := 4, pos := "law.go:188", after := #[{ on := 1, ground := Ground.data }], guard := none }) (v := .bool true) rfl (by kernel_rfl) (by kernel_rfl) (by kernel_rfl) (fun _ _ _ h => h) (Or.inl ⟨by rfl, ?_⟩) (by assumption) ?_
                · (intro wq hSw; (try dsimp only at hSw); go_simp; first | done | with_reducible rfl | (simp; omega))
                try simp only [Act.put, List.setIfInBounds_toArray, List.set_cons_zero, List.set_cons_succ]
                refine wpAnyH_take (i := 3) (oi := { dst := some 47, op := Op.move (Operand.tmp 46), type := 4, pos := "law.go:188", after := #[{ on := 2, ground := Ground.data }], guard := none }) (v := ?_) rfl (by kernel_rfl) (by kernel_rfl) (by kernel_rfl) (fun _ _ _ h => h) (Or.inl ⟨by rfl, ?_⟩) (by assumption) ?_
                rotate_left
                · (intro wq hSw; (try dsimp only at hSw); go_simp; first | done | with_reducible rfl)
                try simp only [Act.put, List.setIfInBounds_toArray, List.set_cons_zero, List.set_cons_succ]
                refine wpAnyH_take (i := 4) (oi := { dst := some 48, op := Op.fieldAddr 66 (Operand.tmp 8) 1, type := 0, pos := "law.go:188", after := #[{ on := 3, ground := Ground.guard }], guard := some (3, true) }) (v := ?_) rfl (by kernel_rfl) (by kernel_rfl) (by kernel_rfl) (fun _ _ _ h => h) (Or.inl ⟨by rfl, ?_⟩) (by assumption) ?_
                rotate_left
                · (intro wq hSw; (try dsimp only at hSw); go_simp; first | done | with_reducible rfl)
                try simp only [Act.put, List.setIfInBounds_toArray, List.set_cons_zero, List.set_cons_succ]
                refine wpAnyH_take (i := 5) (oi := { dst := some 49, op := Op.load 3 (Operand.tmp 48), type := 3, pos := "law.go:188", after := #[{ on := 4, ground := Ground.data }, { on := 3, ground := Ground.guard }], guard := some (3, true) }) (v := ?_) rfl (by kernel_rfl) (by kernel_rfl) (by kernel_rfl) (fun _ _ _ h => h) (Or.inl ⟨by rfl, ?_⟩) (by assumption) ?_
                rotate_left
                · (intro wq hSw; (try dsimp only at hSw); go_simp; first | done | with_reducible rfl)
                try simp only [Act.put, List.setIfInBounds_toArray, List.set_cons_zero, List.set_cons_succ]
                refine wpAnyH_take (i := 6) (oi := { dst := some 50, op := Op.move (Operand.tmp 0), type := 3, pos := "law.go:188", after := #[{ on := 3, ground := Ground.guard }], guard := some (3, true) }) (v := ?_) rfl (by kernel_rfl) (by kernel_rfl) (by kernel_rfl) (fun _ _ _ h => h) (Or.inl ⟨by rfl, ?_⟩) (by assumption) ?_
                rotate_left
                · (intro wq hSw; (try dsimp only at hSw); go_simp; first | done | with_reducible rfl)
                try simp only [Act.put, List.setIfInBounds_toArray, List.set_cons_zero, List.set_cons_succ]
                refine wpAnyH_take (i := 7) (oi := { dst := some 51, op := Op.binOp BinOp.lss 3 (Operand.tmp 49) (Operand.tmp 50) 3, type := 4, pos := "law.go:188", after := #[{ on := 5, ground := Ground.data }, { on := 6, ground := Ground.data }, { on := 3, ground := Ground.guard }], guard := some (3, true) }) (v := .bool true) rfl (by kernel_rfl) (by kernel_rfl) (by kernel_rfl) (fun _ _ _ h => h) (Or.inl ⟨by rfl, ?_⟩) (by assumption) ?_
                · (intro wq hSw; (try dsimp only at hSw); go_simp; first | done | with_reducible rfl | (simp; omega))
                try simp only [Act.put, List.setIfInBounds_toArray, List.set_cons_zero, List.set_cons_succ]
                refine wpAnyH_take (i := 8) (oi := { dst := some 52, op := Op.pick (Operand.tmp 47) (Operand.tmp 51) (Operand.const (Value.bool false)), type := 4, pos := "law.go:188", after := #[{ on := 3, ground := Ground.data }, { on := 7, ground := Ground.data }], guard := none }) (v := ?_) rfl (by kernel_rfl) (by kernel_rfl) (by kernel_rfl) (fun _ _ _ h => h) (Or.inl ⟨by rfl, ?_⟩) (by assumption) ?_
                rotate_left
                · (intro wq hSw; (try dsimp only at hSw); go_simp; first | done | with_reducible rfl)
                try simp only [Act.put, List.setIfInBounds_toArray, List.set_cons_zero, List.set_cons_succ]
                refine wpAnyH_take (i := 9) (oi := { dst := some 53, op := Op.move (Operand.tmp 5), type := 53, pos := "law.go:188", after := #[], guard := none }) (v := ?_) rfl (by kernel_rfl) (by kernel_rfl) (by kernel_rfl) (fun _ _ _ h => h) (Or.inl ⟨by rfl, ?_⟩) (by assumption) ?_
                rotate_left
                · (intro wq hSw; (try dsimp only at hSw); go_simp; first | done | with_reducible rfl)
                try simp only [Act.put, List.setIfInBounds_toArray, List.set_cons_zero, List.set_cons_succ]
                refine wpAnyH_ready (rs := [10]) (by kernel_rfl) (by simp) ?_
                refine AllReadyH.cons (o := { dst := some 54, op := Op.call { callee := Callee.value (Operand.func 27), args := #[Operand.tmp 53], argTypes := #[53] }, type := 3, pos := "law.go:188", after := #[{ on := 9, ground := Ground.data }, { on := 3, ground := Ground.chain }], guard := none }) rfl (fun K hK => ?_) AllReadyH.nil
                go_simp
                refine (HU3.out _ (New.refl _).drew).mono ?_
                rintro e wq ⟨rfl, hwq⟩
                subst wq
                refine hK.out _ _ ?_ (fun hHeld => ?_)
                · exact rfl
                clear hK K
                try simp only [Act.put, List.setIfInBounds_toArray, List.set_cons_zero, List.set_cons_succ]
                refine wpAnyH_take (i := 11) (oi := { dst := some 9, op := Op.assign (Operand.tmp 52), type := 4, pos := "law.go:188", after := #[{ on := 8, ground := Ground.data }, { on := 10, ground := Ground.chain }, { on := 0, ground := Ground.phase }, { on := 1, ground := Ground.phase }, { on := 2, ground := Ground.phase }, { on := 3, ground := Ground.phase }, { on := 4, ground := Ground.phase }, { on := 5, ground := Ground.phase }, { on := 6, ground := Ground.phase }, { on := 7, ground := Ground.phase }, { on := 8, ground := Ground.phase }, { on := 9, ground := Ground.textOnly Departure.lateStores }, { on := 10, ground := Ground.textOnly Departure.lateStoresUnsure }], guard := none }) (v := ?_) rfl (by kernel_rfl) (by kernel_rfl) (by kernel_rfl) (fun _ _ _ h => h) (Or.inl ⟨by rfl, ?_⟩) (by assumption) ?_
                rotate_left
                · (intro wq hSw; (try dsimp only at hSw); go_simp; first | done | with_reducible rfl)
                try simp only [Act.put, List.setIfInBounds_toArray, List.set_cons_zero, List.set_cons_succ]
                refine wpAnyH_take (i := 12) (oi := { dst := some 10, op := Op.assign (Operand.tmp 54), type := 3, pos := "law.go:188", after := #[{ on := 10, ground := Ground.data }, { on := 11, ground := Ground.chain }, { on := 0, ground := Ground.phase }, { on := 1, ground := Ground.phase }, { on := 2, ground := Ground.phase }, { on := 3, ground := Ground.phase }, { on := 4, ground := Ground.phase }, { on := 5, ground := Ground.phase }, { on := 6, ground := Ground.phase }, { on := 7, ground := Ground.phase }, { on := 8, ground := Ground.phase }, { on := 9, ground := Ground.phase }, { on := 10, ground := Ground.phase }, { on := 11, ground := Ground.phase }], guard := none }) (v := ?_) rfl (by kernel_rfl) (by kernel_rfl) (by kernel_rfl) (fun _ _ _ h => h) (Or.inl ⟨by rfl, ?_⟩) (by assumption) ?_
                rotate_left
                · (intro wq hSw; (try dsimp only at hSw); go_simp; first | done | with_reducible rfl)
                try simp only [Act.put, List.setIfInBounds_toArray, List.set_cons_zero, List.set_cons_succ]
                refine wpAnyH_done (by kernel_rfl) ?_ _
                clear hHeld
                go_wp2_with fail
                go_meet
                exact ⟨congrArg Value.bool HZ.out, rfl, rfl⟩
            · have HZ := Lib.hid (show false = bi from HBi.out ▸ (decide_eq_false (show ¬ inN m x.i from fun h => by have := h.2; omega)).symm)
              as_aux_lemma =>
                refine wp_region_held_drew (S := fun w' => w' = (wr.alloc (.cells #[.int .i64 x.k, .int .i64 x.i, .int .i64 x.a, .int .i64 x.t, .string x.v] 66)).drew) (by kernel_rfl) (rfl) (fun hHeld => ?_)
                refine wpAnyH_take (i := 0) (oi := { dst := some 44, op := Op.fieldAddr 66 (Operand.tmp 8) 1, type := 0, pos := "law.go:188", after := #[], guard := none }) (v := ?_) rfl (by kernel_rfl) (by kernel_rfl) (by kernel_rfl) (fun _ _ _ h => h) (Or.inl ⟨by rfl, ?_⟩) (by assumption) ?_
                rotate_left
                · (intro wq hSw; (try dsimp only at hSw); go_simp; first | done | with_reducible rfl)
                try simp only [Act.put, List.setIfInBounds_toArray, List.set_cons_zero, List.set_cons_succ]
                refine wpAnyH_take (i := 1) (oi := { dst := some 45, op := Op.load 3 (Operand.tmp 44), type := 3, pos := "law.go:188", after := #[{ on := 0, ground := Ground.data }], guard := none }) (v := ?_) rfl (by kernel_rfl) (by kernel_rfl) (by kernel_rfl) (fun _ _ _ h => h) (Or.inl ⟨by rfl, ?_⟩) (by assumption) ?_
                rotate_left
                · (intro wq hSw; (try dsimp only at hSw); go_simp; first | done | with_reducible rfl)
                try simp only [Act.put, List.setIfInBounds_toArray, List.set_cons_zero, List.set_cons_succ]
                refine wpAnyH_take (i := 2) (oi := { dst := some 46, op := Op.binOp BinOp.geq 3 (Operand.tmp 45) (Operand.const (Value.int IntKind.i64 0)) 3, type := 4, pos := "law.go:188", after := #[{ on := 1, ground := Ground.data }], guard := none }) (v := .bool true) rfl (by kernel_rfl) (by kernel_rfl) (by kernel_rfl) (fun _ _ _ h => h) (Or.inl ⟨by rfl, ?_⟩) (by assumption) ?_
                · (intro wq hSw; (try dsimp only at hSw); go_simp; first | done | with_reducible rfl | (simp; omega))
                try simp only [Act.put, List.setIfInBounds_toArray, List.set_cons_zero, List.set_cons_succ]
                refine wpAnyH_take (i := 3) (oi := { dst := some 47, op := Op.move (Operand.tmp 46), type := 4, pos := "law.go:188", after := #[{ on := 2, ground := Ground.data }], guard := none }) (v := ?_) rfl (by kernel_rfl) (by kernel_rfl) (by kernel_rfl) (fun _ _ _ h => h) (Or.inl ⟨by rfl, ?_⟩) (by assumption) ?_
                rotate_left
                · (intro wq hSw; (try dsimp only at hSw); go_simp; first | done | with_reducible rfl)
                try simp only [Act.put, List.setIfInBounds_toArray, List.set_cons_zero, List.set_cons_succ]
                refine wpAnyH_take (i := 4) (oi := { dst := some 48, op := Op.fieldAddr 66 (Operand.tmp 8) 1, type := 0, pos := "law.go:188", after := #[{ on := 3, ground := Ground.guard }], guard := some (3, true) }) (v := ?_) rfl (by kernel_rfl) (by kernel_rfl) (by kernel_rfl) (fun _ _ _ h => h) (Or.inl ⟨by rfl, ?_⟩) (by assumption) ?_
                rotate_left
                · (intro wq hSw; (try dsimp only at hSw); go_simp; first | done | with_reducible rfl)
                try simp only [Act.put, List.setIfInBounds_toArray, List.set_cons_zero, List.set_cons_succ]
                refine wpAnyH_take (i := 5) (oi := { dst := some 49, op := Op.load 3 (Operand.tmp 48), type := 3, pos := "law.go:188", after := #[{ on := 4, ground := Ground.data }, { on := 3, ground := Ground.guard }], guard := some (3, true) }) (v := ?_) rfl (by kernel_rfl) (by kernel_rfl) (by kernel_rfl) (fun _ _ _ h => h) (Or.inl ⟨by rfl, ?_⟩) (by assumption) ?_
                rotate_left
                · (intro wq hSw; (try dsimp only at hSw); go_simp; first | done | with_reducible rfl)
                try simp only [Act.put, List.setIfInBounds_toArray, List.set_cons_zero, List.set_cons_succ]
                refine wpAnyH_take (i := 6) (oi := { dst := some 50, op := Op.move (Operand.tmp 0), type := 3, pos := "law.go:188", after := #[{ on := 3, ground := Ground.guard }], guard := some (3, true) }) (v := ?_) rfl (by kernel_rfl) (by kernel_rfl) (by kernel_rfl) (fun _ _ _ h => h) (Or.inl ⟨by rfl, ?_⟩) (by assumption) ?_
                rotate_left
                · (intro wq hSw; (try dsimp only at hSw); go_simp; first | done | with_reducible rfl)
                try simp only [Act.put, List.setIfInBounds_toArray, List.set_cons_zero, List.set_cons_succ]
                refine wpAnyH_take (i := 7) (oi := { dst := some 51, op := Op.binOp BinOp.lss 3 (Operand.tmp 49) (Operand.tmp 50) 3, type := 4, pos := "law.go:188", after := #[{ on := 5, ground := Ground.data }, { on := 6, ground := Ground.data }, { on := 3, ground := Ground.guard }], guard := some (3, true) }) (v := .bool false) rfl (by kernel_rfl) (by kernel_rfl) (by kernel_rfl) (fun _ _ _ h => h) (Or.inl ⟨by rfl, ?_⟩) (by assumption) ?_
                · (intro wq hSw; (try dsimp only at hSw); go_simp; first | done | with_reducible rfl | (simp; omega))
                try simp only [Act.put, List.setIfInBounds_toArray, List.set_cons_zero, List.set_cons_succ]
                refine wpAnyH_take (i := 8) (oi := { dst := some 52, op := Op.pick (Operand.tmp 47) (Operand.tmp 51) (Operand.const (Value.bool false)), type := 4, pos := "law.go:188", after := #[{ on := 3, ground := Ground.data }, { on := 7, ground := Ground.data }], guard := none }) (v := ?_) rfl (by kernel_rfl) (by kernel_rfl) (by kernel_rfl) (fun _ _ _ h => h) (Or.inl ⟨by rfl, ?_⟩) (by assumption) ?_
                rotate_left
                · (intro wq hSw; (try dsimp only at hSw); go_simp; first | done | with_reducible rfl)
                try simp only [Act.put, List.setIfInBounds_toArray, List.set_cons_zero, List.set_cons_succ]
                refine wpAnyH_take (i := 9) (oi := { dst := some 53, op := Op.move (Operand.tmp 5), type := 53, pos := "law.go:188", after := #[], guard := none }) (v := ?_) rfl (by kernel_rfl) (by kernel_rfl) (by kernel_rfl) (fun _ _ _ h => h) (Or.inl ⟨by rfl, ?_⟩) (by assumption) ?_
                rotate_left
                · (intro wq hSw; (try dsimp only at hSw); go_simp; first | done | with_reducible rfl)
                try simp only [Act.put, List.setIfInBounds_toArray, List.set_cons_zero, List.set_cons_succ]
                refine wpAnyH_ready (rs := [10]) (by kernel_rfl) (by simp) ?_
                refine AllReadyH.cons (o := { dst := some 54, op := Op.call { callee := Callee.value (Operand.func 27), args := #[Operand.tmp 53], argTypes := #[53] }, type := 3, pos := "law.go:188", after := #[{ on := 9, ground := Ground.data }, { on := 3, ground := Ground.chain }], guard := none }) rfl (fun K hK => ?_) AllReadyH.nil
                go_simp
                refine (HU3.out _ (New.refl _).drew).mono ?_
                rintro e wq ⟨rfl, hwq⟩
                subst wq
                refine hK.out _ _ ?_ (fun hHeld => ?_)
                · exact rfl
                clear hK K
                try simp only [Act.put, List.setIfInBounds_toArray, List.set_cons_zero, List.set_cons_succ]
                refine wpAnyH_take (i := 11) (oi := { dst := some 9, op := Op.assign (Operand.tmp 52), type := 4, pos := "law.go:188", after := #[{ on := 8, ground := Ground.data }, { on := 10, ground := Ground.chain }, { on := 0, ground := Ground.phase }, { on := 1, ground := Ground.phase }, { on := 2, ground := Ground.phase }, { on := 3, ground := Ground.phase }, { on := 4, ground := Ground.phase }, { on := 5, ground := Ground.phase }, { on := 6, ground := Ground.phase }, { on := 7, ground := Ground.phase }, { on := 8, ground := Ground.phase }, { on := 9, ground := Ground.textOnly Departure.lateStores }, { on := 10, ground := Ground.textOnly Departure.lateStoresUnsure }], guard := none }) (v := ?_) rfl (by kernel_rfl) (by kernel_rfl) (by kernel_rfl) (fun _ _ _ h => h) (Or.inl ⟨by rfl, ?_⟩) (by assumption) ?_
                rotate_left
                · (intro wq hSw; (try dsimp only at hSw); go_simp; first | done | with_reducible rfl)
                try simp only [Act.put, List.setIfInBounds_toArray, List.set_cons_zero, List.set_cons_succ]
                refine wpAnyH_take (i := 12) (oi := { dst := some 10, op := Op.assign (Operand.tmp 54), type := 3, pos := "law.go:188", after := #[{ on := 10, ground := Ground.data }, { on := 11, ground := Ground.chain }, { on := 0, ground := Ground.phase }, { on := 1, ground := Ground.phase }, { on := 2, ground := Ground.phase }, { on := 3, ground := Ground.phase }, { on := 4, ground := Ground.phase }, { on := 5, ground := Ground.phase }, { on := 6, ground := Ground.phase }, { on := 7, ground := Ground.phase }, { on := 8, ground := Ground.phase }, { on := 9, ground := Ground.phase }, { on := 10, ground := Ground.phase }, { on := 11, ground := Ground.phase }], guard := none }) (v := ?_) rfl (by kernel_rfl) (by kernel_rfl) (by kernel_rfl) (fun _ _ _ h => h) (Or.inl ⟨by rfl, ?_⟩) (by assumption) ?_
                rotate_left
                · (intro wq hSw; (try dsimp only at hSw); go_simp; first | done | with_reducible rfl)
                try simp only [Act.put, List.setIfInBounds_toArray, List.set_cons_zero, List.set_cons_succ]
                refine wpAnyH_done (by kernel_rfl) ?_ _
                clear hHeld
                go_wp2_with fail
                go_meet
                exact ⟨congrArg Value.bool HZ.out, rfl, rfl⟩
            · have HZ := Lib.hid (show false = bi from HBi.out ▸ (decide_eq_false (show ¬ inN m x.i from fun h => by have := h.1; omega)).symm)
              as_aux_lemma =>
                refine wp_region_held_drew (S := fun w' => w' = (wr.alloc (.cells #[.int .i64 x.k, .int .i64 x.i, .int .i64 x.a, .int .i64 x.t, .string x.v] 66)).drew) (by kernel_rfl) (rfl) (fun hHeld => ?_)
                refine wpAnyH_take (i := 0) (oi := { dst := some 44, op := Op.fieldAddr 66 (Operand.tmp 8) 1, type := 0, pos := "law.go:188", after := #[], guard := none }) (v := ?_) rfl (by kernel_rfl) (by kernel_rfl) (by kernel_rfl) (fun _ _ _ h => h) (Or.inl ⟨by rfl, ?_⟩) (by assumption) ?_
                rotate_left
                · (intro wq hSw; (try dsimp only at hSw); go_simp; first | done | with_reducible rfl)
                try simp only [Act.put, List.setIfInBounds_toArray, List.set_cons_zero, List.set_cons_succ]
                refine wpAnyH_take (i := 1) (oi := { dst := some 45, op := Op.load 3 (Operand.tmp 44), type := 3, pos := "law.go:188", after := #[{ on := 0, ground := Ground.data }], guard := none }) (v := ?_) rfl (by kernel_rfl) (by kernel_rfl) (by kernel_rfl) (fun _ _ _ h => h) (Or.inl ⟨by rfl, ?_⟩) (by assumption) ?_
                rotate_left
                · (intro wq hSw; (try dsimp only at hSw); go_simp; first | done | with_reducible rfl)
                try simp only [Act.put, List.setIfInBounds_toArray, List.set_cons_zero, List.set_cons_succ]
                refine wpAnyH_take (i := 2) (oi := { dst := some 46, op := Op.binOp BinOp.geq 3 (Operand.tmp 45) (Operand.const (Value.int IntKind.i64 0)) 3, type := 4, pos := "law.go:188", after := #[{ on := 1, ground := Ground.data }], guard := none }) (v := .bool false) rfl (by kernel_rfl) (by kernel_rfl) (by kernel_rfl) (fun _ _ _ h => h) (Or.inl ⟨by rfl, ?_⟩) (by assumption) ?_
                · (intro wq hSw; (try dsimp only at hSw); go_simp; first | done | with_reducible rfl | (simp; omega))
                try simp only [Act.put, List.setIfInBounds_toArray, List.set_cons_zero, List.set_cons_succ]
                refine wpAnyH_take (i := 3) (oi := { dst := some 47, op := Op.move (Operand.tmp 46), type := 4, pos := "law.go:188", after := #[{ on := 2, ground := Ground.data }], guard := none }) (v := ?_) rfl (by kernel_rfl) (by kernel_rfl) (by kernel_rfl) (fun _ _ _ h => h) (Or.inl ⟨by rfl, ?_⟩) (by assumption) ?_
                rotate_left
                · (intro wq hSw; (try dsimp only at hSw); go_simp; first | done | with_reducible rfl)
                try simp only [Act.put, List.setIfInBounds_toArray, List.set_cons_zero, List.set_cons_succ]
                refine wpAnyH_take (i := 4) (oi := { dst := some 48, op := Op.fieldAddr 66 (Operand.tmp 8) 1, type := 0, pos := "law.go:188", after := #[{ on := 3, ground := Ground.guard }], guard := some (3, true) }) (v := undef) rfl (by kernel_rfl) (by kernel_rfl) (by kernel_rfl) (fun _ _ _ h => h) (Or.inr ⟨by rfl, rfl⟩) (by assumption) ?_
                try simp only [Act.put, List.setIfInBounds_toArray, List.set_cons_zero, List.set_cons_succ]
                refine wpAnyH_take (i := 5) (oi := { dst := some 49, op := Op.load 3 (Operand.tmp 48), type := 3, pos := "law.go:188", after := #[{ on := 4, ground := Ground.data }, { on := 3, ground := Ground.guard }], guard := some (3, true) }) (v := undef) rfl (by kernel_rfl) (by kernel_rfl) (by kernel_rfl) (fun _ _ _ h => h) (Or.inr ⟨by rfl, rfl⟩) (by assumption) ?_
                try simp only [Act.put, List.setIfInBounds_toArray, List.set_cons_zero, List.set_cons_succ]
                refine wpAnyH_take (i := 6) (oi := { dst := some 50, op := Op.move (Operand.tmp 0), type := 3, pos := "law.go:188", after := #[{ on := 3, ground := Ground.guard }], guard := some (3, true) }) (v := undef) rfl (by kernel_rfl) (by kernel_rfl) (by kernel_rfl) (fun _ _ _ h => h) (Or.inr ⟨by rfl, rfl⟩) (by assumption) ?_
                try simp only [Act.put, List.setIfInBounds_toArray, List.set_cons_zero, List.set_cons_succ]
                refine wpAnyH_take (i := 7) (oi := { dst := some 51, op := Op.binOp BinOp.lss 3 (Operand.tmp 49) (Operand.tmp 50) 3, type := 4, pos := "law.go:188", after := #[{ on := 5, ground := Ground.data }, { on := 6, ground := Ground.data }, { on := 3, ground := Ground.guard }], guard := some (3, true) }) (v := undef) rfl (by kernel_rfl) (by kernel_rfl) (by kernel_rfl) (fun _ _ _ h => h) (Or.inr ⟨by rfl, rfl⟩) (by assumption) ?_
                try simp only [Act.put, List.setIfInBounds_toArray, List.set_cons_zero, List.set_cons_succ]
                refine wpAnyH_take (i := 8) (oi := { dst := some 52, op := Op.pick (Operand.tmp 47) (Operand.tmp 51) (Operand.const (Value.bool false)), type := 4, pos := "law.go:188", after := #[{ on := 3, ground := Ground.data }, { on := 7, ground := Ground.data }], guard := none }) (v := ?_) rfl (by kernel_rfl) (by kernel_rfl) (by kernel_rfl) (fun _ _ _ h => h) (Or.inl ⟨by rfl, ?_⟩) (by assumption) ?_
                rotate_left
                · (intro wq hSw; (try dsimp only at hSw); go_simp; first | done | with_reducible rfl)
                try simp only [Act.put, List.setIfInBounds_toArray, List.set_cons_zero, List.set_cons_succ]
                refine wpAnyH_take (i := 9) (oi := { dst := some 53, op := Op.move (Operand.tmp 5), type := 53, pos := "law.go:188", after := #[], guard := none }) (v := ?_) rfl (by kernel_rfl) (by kernel_rfl) (by kernel_rfl) (fun _ _ _ h => h) (Or.inl ⟨by rfl, ?_⟩) (by assumption) ?_
                rotate_left
                · (intro wq hSw; (try dsimp only at hSw); go_simp; first | done | with_reducible rfl)
                try simp only [Act.put, List.setIfInBounds_toArray, List.set_cons_zero, List.set_cons_succ]
                refine wpAnyH_ready (rs := [10]) (by kernel_rfl) (by simp) ?_
                refine AllReadyH.cons (o := { dst := some 54, op := Op.call { callee := Callee.value (Operand.func 27), args := #[Operand.tmp 53], argTypes := #[53] }, type := 3, pos := "law.go:188", after := #[{ on := 9, ground := Ground.data }, { on := 3, ground := Ground.chain }], guard := none }) rfl (fun K hK => ?_) AllReadyH.nil
                go_simp
                refine (HU3.out _ (New.refl _).drew).mono ?_
                rintro e wq ⟨rfl, hwq⟩
                subst wq
                refine hK.out _ _ ?_ (fun hHeld => ?_)
                · exact rfl
                clear hK K
                try simp only [Act.put, List.setIfInBounds_toArray, List.set_cons_zero, List.set_cons_succ]
                refine wpAnyH_take (i := 11) (oi := { dst := some 9, op := Op.assign (Operand.tmp 52), type := 4, pos := "law.go:188", after := #[{ on := 8, ground := Ground.data }, { on := 10, ground := Ground.chain }, { on := 0, ground := Ground.phase }, { on := 1, ground := Ground.phase }, { on := 2, ground := Ground.phase }, { on := 3, ground := Ground.phase }, { on := 4, ground := Ground.phase }, { on := 5, ground := Ground.phase }, { on := 6, ground := Ground.phase }, { on := 7, ground := Ground.phase }, { on := 8, ground := Ground.phase }, { on := 9, ground := Ground.textOnly Departure.lateStores }, { on := 10, ground := Ground.textOnly Departure.lateStoresUnsure }], guard := none }) (v := ?_) rfl (by kernel_rfl) (by kernel_rfl) (by kernel_rfl) (fun _ _ _ h => h) (Or.inl ⟨by rfl, ?_⟩) (by assumption) ?_
                rotate_left
                · (intro wq hSw; (try dsimp only at hSw); go_simp; first | done | with_reducible rfl)
                try simp only [Act.put, List.setIfInBounds_toArray, List.set_cons_zero, List.set_cons_succ]
                refine wpAnyH_take (i := 12) (oi := { dst := some 10, op := Op.assign (Operand.tmp 54), type := 3, pos := "law.go:188", after := #[{ on := 10, ground := Ground.data }, { on := 11, ground := Ground.chain }, { on := 0, ground := Ground.phase }, { on := 1, ground := Ground.phase }, { on := 2, ground := Ground.phase }, { on := 3, ground := Ground.phase }, { on := 4, ground := Ground.phase }, { on := 5, ground := Ground.phase }, { on := 6, ground := Ground.phase }, { on := 7, ground := Ground.phase }, { on := 8, ground := Ground.phase }, { on := 9, ground := Ground.phase }, { on := 10, ground := Ground.phase }, { on := 11, ground := Ground.phase }], guard := none }) (v := ?_) rfl (by kernel_rfl) (by kernel_rfl) (by kernel_rfl) (fun _ _ _ h => h) (Or.inl ⟨by rfl, ?_⟩) (by assumption) ?_
                rotate_left
                · (intro wq hSw; (try dsimp only at hSw); go_simp; first | done | with_reducible rfl)
                try simp only [Act.put, List.setIfInBounds_toArray, List.set_cons_zero, List.set_cons_succ]
                refine wpAnyH_done (by kernel_rfl) ?_ _
                clear hHeld
                go_wp2_with fail
                go_meet
                exact ⟨congrArg Value.bool HZ.out, rfl, rfl⟩
          case rest =>
            obtain ⟨rfl, rfl, rfl⟩ := hcut
            clear hicase
            go_wp2_with fail
            refine (HD.out _ (New.refl _).drew).mono ?_
            rintro e w5 ⟨rfl, hg5, hu5⟩
            obtain ⟨r, hr⟩ : ∃ r, doR m g x = r := ⟨_, rfl⟩
            obtain ⟨g', hg'⟩ : ∃ g', doG m g x = g' := ⟨_, rfl⟩
            rw [hr]
            rw [hg'] at hg5
            have HG5 := Lib.hid hg5
            have HN5 := Lib.hid ((HN3.out.drew).upd hu5 fun _ h => h.1)
            have HPk := Lib.hid (packs hg5.ok hr hg')
            have hb5 := (HB.out.new (New.refl _).drew).upd hu5 (fun h => h.2 rfl)
            obtain ⟨q0, q1, q2, q3, q4, q5, qz⟩ := Blk5P hb5
            obtain ⟨M, hM⟩ : ∃ M, g'.bg.length = M := ⟨_, rfl⟩
            have HMe := Lib.hid hM
            have hM6 : ¬ (256 : Int) < (M : Int) := by have := HPk.out.le; omega
            obtain ⟨pd, hpd⟩ : ∃ pd, pendR m g' x.i = pd := ⟨_, rfl⟩
            have HPe := Lib.hid hpd
            have HU5 := Lib.hid (show ∀ wx, New w5 wx → Calls Try.prog 27 #[.pointer (some ⟨gp, 0, none⟩)] wx (fun e w' => e = .returned (.int .i64 (M : Int)) ∧ w' = wx) from fun wx hx => by rw [← HMe.out]; exact st_under (HG5.out.new hx))
            have HP5 := Lib.hid (st_pending hg5 x.i)
            rw [hpd] at HP5
            clear hr hg' hg5 hb5 hu5 hM hpd
            have hacase : (0 ≤ x.a ∧ x.a < (U : Int)) ∨ (0 ≤ x.a ∧ ¬ x.a < (U : Int)) ∨ ¬ 0 ≤ x.a := by omega
            go_upto_region 10 with fail
            go_cut [12] (fun s12 wx => s12 = .bool ba ∧ wx = w5)
            case first =>
              rcases hacase with ⟨ha1, ha2⟩ | ⟨ha1, ha2⟩ | ha1
              · have HZ := Lib.hid (show true = ba from HBa.out ▸ (decide_eq_true (show inN g.bg.length x.a from ⟨ha1, by rw [HUe.out]; exact ha2⟩)).symm)
                go_wp2_with fail
                go_meet
                exact ⟨congrArg Value.bool HZ.out, rfl⟩
              · have HZ := Lib.hid (show false = ba from HBa.out ▸ (decide_eq_false (show ¬ inN g.bg.length x.a from fun h => by have := h.2; rw [HUe.out] at this; omega)).symm)
                have hab : decide (x.a < (U : Int)) = false := decide_eq_false (by omega)
                go_wp2_with fail
                go_meet
                exact ⟨congrArg Value.bool HZ.out, rfl⟩
              · have HZ := Lib.hid (show false = ba from HBa.out ▸ (decide_eq_false (show ¬ inN g.bg.length x.a from fun h => by have := h.1; omega)).symm)
                go_wp2_with fail
                go_meet
                exact ⟨congrArg Value.bool HZ.out, rfl⟩
            case rest =>
              obtain ⟨rfl, rfl⟩ := hcut
              clear hacase
              by_cases hk0 : x.k = 0
              · obtain hpk := HPk.out.k0 hk0
                rw [HUe.out, HMe.out] at hpk
                cases bi with
                | true =>
                  as_aux_lemma =>
                    obtain ⟨hm, hr, -⟩ := hpk
                    have hr := hr (of_decide_eq_true HBi.out)
                    have hrb : (r != 221) = true := by simp [hr]
                    subst hm
                    clear HPk
                    go_wp2_with (first | (go_at_call 27; refine (HU5.out _ (New.refl _)).mono ?_; rintro e wq ⟨rfl, hwq⟩; subst wq) | (go_at_call 24; refine HP5.out.mono ?_; rintro e wq ⟨rfl, hwq⟩; subst wq))
                    go_roundw
                    case rel => exact ⟨k + 1, by omega, by omega, by go_num, _, HG5.out.weak (fun _ h => h.1), HN5.out⟩
                    case measure => simp [intOf]; omega
                | false =>
                  as_aux_lemma =>
                    obtain ⟨hm, -, hr⟩ := hpk
                    have hr := hr (of_decide_eq_false HBi.out)
                    subst hm
                    subst hr
                    clear HPk
                    go_wp2_with (first | (go_at_call 27; refine (HU5.out _ (New.refl _)).mono ?_; rintro e wq ⟨rfl, hwq⟩; subst wq) | (go_at_call 24; refine HP5.out.mono ?_; rintro e wq ⟨rfl, hwq⟩; subst wq))
                    go_roundw
                    case rel => exact ⟨k + 1, by omega, by omega, by go_num, _, HG5.out.weak (fun _ h => h.1), HN5.out⟩
                    case measure => simp [intOf]; omega
              by_cases hk1 : x.k = 1
              · obtain hpk := HPk.out.k1 hk1
                rw [HUe.out, HMe.out] at hpk
                cases bi with
                | true =>
                  as_aux_lemma =>
                    have hr := hpk.1 (of_decide_eq_true HBi.out)
                    subst hr
                    clear HPk
                    go_wp2_with (first | (go_at_call 27; refine (HU5.out _ (New.refl _)).mono ?_; rintro e wq ⟨rfl, hwq⟩; subst wq) | (go_at_call 24; refine HP5.out.mono ?_; rintro e wq ⟨rfl, hwq⟩; subst wq))
                    go_roundw
                    case rel => exact ⟨k + 1, by omega, by omega, by go_num, _, HG5.out.weak (fun _ h => h.1), HN5.out⟩
                    case measure => simp [intOf]; omega
                | false =>
                  as_aux_lemma =>
                    obtain ⟨hr, hm⟩ := hpk.2 (of_decide_eq_false HBi.out)
                    subst hr
                    subst hm
                    clear HPk
                    go_wp2_with (first | (go_at_call 27; refine (HU5.out _ (New.refl _)).mono ?_; rintro e wq ⟨rfl, hwq⟩; subst wq) | (go_at_call 24; refine HP5.out.mono ?_; rintro e wq ⟨rfl, hwq⟩; subst wq))
                    go_roundw
                    case rel => exact ⟨k + 1, by omega, by omega, by go_num, _, HG5.out.weak (fun _ h => h.1), HN5.out⟩
                    case measure => simp [intOf]; omega
              by_cases hk2 : x.k = 2
              · obtain hpk := HPk.out.k2 hk2
                simp only [HMe.out] at hpk
                cases ba with
                | true =>
                  as_aux_lemma =>
                    have hr := hpk.1 (of_decide_eq_true HBa.out)
                    subst hr
                    clear hpk HPk
                    go_wp2_with (first | (go_at_call 27; refine (HU5.out _ (New.refl _)).mono ?_; rintro e wq ⟨rfl, hwq⟩; subst wq) | (go_at_call 24; refine HP5.out.mono ?_; rintro e wq ⟨rfl, hwq⟩; subst wq))
                    go_roundw
                    case rel => exact ⟨k + 1, by omega, by omega, by go_num, _, HG5.out.weak (fun _ h => h.1), HN5.out⟩
                    case measure => simp [intOf]; omega
                | false =>
                  as_aux_lemma =>
                    obtain ⟨hr, hm⟩ := hpk.2 (of_decide_eq_false HBa.out)
                    rw [HUe.out] at hm
                    subst hr
                    subst hm
                    clear hpk HPk
                    go_wp2_with (first | (go_at_call 27; refine (HU5.out _ (New.refl _)).mono ?_; rintro e wq ⟨rfl, hwq⟩; subst wq) | (go_at_call 24; refine HP5.out.mono ?_; rintro e wq ⟨rfl, hwq⟩; subst wq))
                    go_roundw
                    case rel => exact ⟨k + 1, by omega, by omega, by go_num, _, HG5.out.weak (fun _ h => h.1), HN5.out⟩
                    case measure => simp [intOf]; omega
              by_cases hk3 : x.k = 3
              · obtain hpk := HPk.out.k3 hk3
                simp only [HMe.out] at hpk
                cases ba with
                | true =>
                  by_cases hu6 : U = 256
                  · have hr := hpk.1 (of_decide_eq_true HBa.out) (by rw [HUe.out]; exact hu6)
                    as_aux_lemma =>
                      have hu7 : ¬ (U : Int) < 256 := by omega
                      have hu8 : (U : Int) = 256 := by omega
                      subst hr
                      clear hpk HPk hu6
                      go_wp2_with (first | (go_at_call 27; refine (HU5.out _ (New.refl _)).mono ?_; rintro e wq ⟨rfl, hwq⟩; subst wq) | (go_at_call 24; refine HP5.out.mono ?_; rintro e wq ⟨rfl, hwq⟩; subst wq))
                      go_roundw
                      case rel => exact ⟨k + 1, by omega, by omega, by go_num, _, HG5.out.weak (fun _ h => h.1), HN5.out⟩
                      case measure => simp [intOf]; omega
                  · obtain ⟨hr, hm⟩ := hpk.2.1 (of_decide_eq_true HBa.out) (by rw [HUe.out]; have := HUle.out; omega)
                    as_aux_lemma =>
                      rw [HUe.out] at hm
                      have hu7 : (U : Int) < 256 := by have := HUle.out; omega
                      subst hr
                      subst hm
                      clear hpk HPk hu6
                      go_wp2_with (first | (go_at_call 27; refine (HU5.out _ (New.refl _)).mono ?_; rintro e wq ⟨rfl, hwq⟩; subst wq) | (go_at_call 24; refine HP5.out.mono ?_; rintro e wq ⟨rfl, hwq⟩; subst wq))
                      go_roundw
                      case rel => exact ⟨k + 1, by omega, by omega, by go_num, _, HG5.out.weak (fun _ h => h.1), HN5.out⟩
                      case measure => simp [intOf]; omega
                | false =>
                  as_aux_lemma =>
                    have hr := hpk.2.2 (of_decide_eq_false HBa.out)
                    subst hr
                    clear hpk HPk
                    go_wp2_with (first | (go_at_call 27; refine (HU5.out _ (New.refl _)).mono ?_; rintro e wq ⟨rfl, hwq⟩; subst wq) | (go_at_call 24; refine HP5.out.mono ?_; rintro e wq ⟨rfl, hwq⟩; subst wq))
                    go_roundw
                    case rel => exact ⟨k + 1, by omega, by omega, by go_num, _, HG5.out.weak (fun _ h => h.1), HN5.out⟩
                    case measure => simp [intOf]; omega
              by_cases hk4 : x.k = 4
              · obtain hpk := HPk.out.k4 hk4
                rw [HUe.out, HMe.out] at hpk
                as_aux_lemma =>
                  have hm : ¬ (U : Int) < (M : Int) := by omega
                  clear hpk HPk
                  go_wp2_with (first | (go_at_call 27; refine (HU5.out _ (New.refl _)).mono ?_; rintro e wq ⟨rfl, hwq⟩; subst wq) | (go_at_call 24; refine HP5.out.mono ?_; rintro e wq ⟨rfl, hwq⟩; subst wq))
                  go_roundw
                  case rel => exact ⟨k + 1, by omega, by omega, by go_num, _, HG5.out.weak (fun _ h => h.1), HN5.out⟩
                  case measure => simp [intOf]; omega
              by_cases hk5 : x.k = 5
              · obtain hpk := HPk.out.k5 hk5
                rw [HPe.out] at hpk
                cases bi with
                | true =>
                  as_aux_lemma =>
                    obtain ⟨hr, hp⟩ := hpk.1 (of_decide_eq_true HBi.out)
                    subst hr
                    subst hp
                    clear HPk
                    go_wp2_with (first | (go_at_call 27; refine (HU5.out _ (New.refl _)).mono ?_; rintro e wq ⟨rfl, hwq⟩; subst wq) | (go_at_call 24; refine HP5.out.mono ?_; rintro e wq ⟨rfl, hwq⟩; subst wq))
                    go_roundw
                    case rel => exact ⟨k + 1, by omega, by omega, by go_num, _, HG5.out.weak (fun _ h => h.1), HN5.out⟩
                    case measure => simp [intOf]; omega
                | false =>
                  as_aux_lemma =>
                    have hr := hpk.2 (of_decide_eq_false HBi.out)
                    subst hr
                    clear HPk
                    go_wp2_with (first | (go_at_call 27; refine (HU5.out _ (New.refl _)).mono ?_; rintro e wq ⟨rfl, hwq⟩; subst wq) | (go_at_call 24; refine HP5.out.mono ?_; rintro e wq ⟨rfl, hwq⟩; subst wq))
                    go_roundw
                    case rel => exact ⟨k + 1, by omega, by omega, by go_num, _, HG5.out.weak (fun _ h => h.1), HN5.out⟩
                    case measure => simp [intOf]; omega
              as_aux_lemma =>
                go_wp2_with (first | (go_at_call 27; refine (HU5.out _ (New.refl _)).mono ?_; rintro e wq ⟨rfl, hwq⟩; subst wq) | (go_at_call 24; refine HP5.out.mono ?_; rintro e wq ⟨rfl, hwq⟩; subst wq))
                go_roundw
                case rel => exact ⟨k + 1, by omega, by omega, by go_num, _, HG5.out.weak (fun _ h => h.1), HN5.out⟩
                case measure => simp [intOf]; omega
        · have hlt2' : ¬ (k : Int) < 200 := by omega
          go_wp2_with fail
          go_ret
          exact ⟨rfl, HNW.out⟩
      · have hlt' : ¬ (k : Int) < (acts.length : Int) := by omega
        go_wp2_with fail
        go_ret
        exact ⟨rfl, HNW.out⟩
  · have HN := Lib.hid (gnew_no n hn w)
    clear hn
    go_enter Try.func7, Try.ntmps7
    go_wp2_with (go_at_call 18; refine HN.out.mono ?_; rintro e w1 ⟨rfl, hw1⟩; subst hw1)
    refine (awake22 _).mono ?_
    rintro e w2 ⟨rfl, hn2⟩
    have HN2 := Lib.hid hn2
    clear hn2
    go_wp2_with fail
    refine (awake22 _).mono ?_
    rintro e w3 ⟨rfl, hn3⟩
    have HN3 := Lib.hid (HN2.out.trans hn3)
    clear hn3
    go_wp2_with fail
    go_ret
    exact ⟨rfl, HN3.out⟩
end Go.Proofs.Ytghhcjpilcoblaa
