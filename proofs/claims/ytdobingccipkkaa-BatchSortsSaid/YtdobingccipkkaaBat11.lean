/- Chapter 5 (batch): the insertion sort of writes. Printed by genBat11.py. -/
import Derived.Test.YtdobingccipkkaaBat10
import Derived.Deep.RegionHeld3
namespace Go.Proofs.Ytdobingccipkkaa
open Go.RowKit Go.Lap
set_option linter.unusedVariables false

theorem set3 (x : Wri) : ∀ (l : List Wri) (k : Nat), k < l.length → (l.set k x).flatMap Wri.enc = (((l.flatMap Wri.enc).set (k * 3) (.string x.key)).set (k * 3 + 1) (.string x.val)).set (k * 3 + 2) (.bool x.gone)
  | [], k, h => by simp at h
  | y :: l, 0, _ => by simp [Wri.enc]
  | y :: l, k + 1, h => by
    have ih := set3 x l k (by simpa using h)
    simp only [List.set_cons_succ, List.flatMap_cons, ih]
    rw [show (k + 1) * 3 = k * 3 + 3 by omega]
    simp [Wri.enc]

/-- Three stores into a row: one write. -/
abbrev put3 (w : World) (g k : Nat) (x : Wri) : World := ((w.setCell ⟨g, k * 3, none⟩ (.string x.key)).setCell ⟨g, k * 3 + 1, none⟩ (.string x.val)).setCell ⟨g, k * 3 + 2, none⟩ (.bool x.gone)
theorem row_put {w : World} {base g n cap k : Nat} {l : List Wri} {x : Wri} (h : Owns w base 43 3 Wri.enc (.slice (some ⟨g, 0, none⟩) n cap) l) (hk : k < l.length) :
    Owns (put3 w g k x) base 43 3 Wri.enc (.slice (some ⟨g, 0, none⟩) n cap) (l.set k x) := by
  obtain ⟨hlen, h⟩ := h
  rcases h with ⟨h, _⟩ | ⟨g', cap', cur, hv, hg, hh, hnc, hm, hcur, htake⟩
  · cases h
  · cases hv
    have hb : Blk (put3 w g k x) g 43 (((cur.setIfInBounds (k * 3) (.string x.key)).setIfInBounds (k * 3 + 1) (.string x.val)).setIfInBounds (k * 3 + 2) (.bool x.gone)) := ((Blk.set_ hh _ _).set_ _ _).set_ _ _
    have hls := flat_length Wri.encOk (l.set k x)
    refine ⟨by rw [List.length_set]; rw [hls, List.length_set], .inr ⟨g, cap, _, by rw [List.length_set], hg, hb, by rw [List.length_set]; exact hnc, hm, by simpa using hcur, ?_⟩⟩
    rw [List.length_set, set3 x l k hk, ← htake]
    simp only [Array.toList_setIfInBounds, List.take_set]
theorem row_upd (w : World) (g k : Nat) (x : Wri) : Upd (· = g) w (put3 w g k x) := (((Upd.refl _ w).setIn _ _).setIn _ _).setIn _ _
theorem row_at {w : World} {base g n cap k : Nat} {l : List Wri} {x : Wri} (h : Owns w base 43 3 Wri.enc (.slice (some ⟨g, 0, none⟩) n cap) l) (hk : l[k]? = some x) :
    w.cell? ⟨g, k * 3, none⟩ = some (.string x.key) ∧ w.cell? ⟨g, k * 3 + 1, none⟩ = some (.string x.val) ∧ w.cell? ⟨g, k * 3 + 2, none⟩ = some (.bool x.gone) := by
  obtain ⟨A, c, hv, _, hh⟩ := Owns.slIn Wri.encOk h
  cases hv
  rcases hh with rfl | ⟨b, off, hA, hb, hc⟩
  · simp at hk
  · cases hA
    have := SlIn.three hc hk
    simpa using this
theorem row_frozen {w : World} {base g n cap : Nat} {l : List Wri} (h : Owns w base 43 3 Wri.enc (.slice (some ⟨g, 0, none⟩) n cap) l) : (∀ i, w.frozen? ⟨g, i, none⟩ = false) ∧ g < w.heap.size ∧ n = l.length ∧ n ≤ cap := by
  obtain ⟨hlen, h⟩ := h
  rcases h with ⟨h, _⟩ | ⟨g', cap', cur, hv, hg, hh, hnc, hm, hcur, htake⟩
  · cases h
  · cases hv
    exact ⟨Blk.frozen hh, Blk.lt hh, rfl, hnc⟩

/-- The inner loop: so much of the row behind is passed. -/
def InsRel (w0 wr : World) (base g n cap : Nat) (pre mid post : List Wri) (k : Nat) (x : Wri) (q : Nat) : Prop := ∃ P Q : List Wri,
  fallW (mid.take k) = P ++ Q ∧ Q.length = q ∧ insW x (fallW (mid.take k)) = P ++ insW x Q ∧ Upd (· = g) w0 wr ∧
  Owns wr base 43 3 Wri.enc (.slice (some ⟨g, 0, none⟩) n cap) (pre ++ (Q.reverse ++ (x :: P.reverse)) ++ mid.drop (k + 1) ++ post)
def InsOut (w0 wr : World) (base g n cap : Nat) (pre mid post : List Wri) (k : Nat) : Prop := Upd (· = g) w0 wr ∧ Owns wr base 43 3 Wri.enc (.slice (some ⟨g, 0, none⟩) n cap) (pre ++ sortW (mid.take k) ++ mid.drop k ++ post)
theorem insOut_one {w0 wr : World} {base g n cap : Nat} {pre mid post : List Wri} (hu : Upd (· = g) w0 wr) (ho : Owns wr base 43 3 Wri.enc (.slice (some ⟨g, 0, none⟩) n cap) (pre ++ mid ++ post)) : InsOut w0 wr base g n cap pre mid post 1 := by
  refine ⟨hu, ?_⟩
  cases mid with
  | nil => simpa [sortW, fallW] using ho
  | cons x l => simpa [sortW, fallW, insW] using ho
theorem ins_start {w0 wr : World} {base g n cap : Nat} {pre mid post : List Wri} {k : Nat} {x : Wri} (hx : mid[k]? = some x) (h : InsOut w0 wr base g n cap pre mid post k) : InsRel w0 wr base g n cap pre mid post k x k := by
  obtain ⟨hu, ho⟩ := h
  obtain ⟨hk, hx'⟩ := List.getElem?_eq_some_iff.1 hx
  refine ⟨[], fallW (mid.take k), rfl, by rw [fallW_length, List.length_take]; omega, rfl, hu, ?_⟩
  rw [List.drop_eq_getElem_cons hk, hx'] at ho
  simpa [sortW] using ho
theorem ins_end {w0 wr : World} {base g n cap : Nat} {pre mid post : List Wri} {k : Nat} {x : Wri} {P Q : List Wri} (hx : mid[k]? = some x) (he : insW x (fallW (mid.take k)) = P ++ insW x Q) (hi : insW x Q = x :: Q) (hu : Upd (· = g) w0 wr)
    (ho : Owns wr base 43 3 Wri.enc (.slice (some ⟨g, 0, none⟩) n cap) (pre ++ (Q.reverse ++ (x :: P.reverse)) ++ mid.drop (k + 1) ++ post)) : InsOut w0 wr base g n cap pre mid post (k + 1) := by
  refine ⟨hu, ?_⟩
  have e : sortW (mid.take (k + 1)) = Q.reverse ++ (x :: P.reverse) := by
    unfold sortW
    rw [List.take_add_one, hx]
    show (fallW (mid.take k ++ [x])).reverse = _
    rw [fallW_snoc, he, hi]
    simp
  rw [e]
  exact ho
theorem set_swap (A B : List Wri) (y x : Wri) : ((A ++ y :: x :: B).set (A.length + 1) y).set A.length x = A ++ x :: y :: B := by
  rw [List.set_append_right _ _ (by omega), List.set_append_right _ _ (by omega)]
  simp
theorem ins_step {w0 wr : World} {base g n cap : Nat} {pre mid post : List Wri} {k : Nat} {x y : Wri} {P Q : List Wri} (hf : fallW (mid.take k) = P ++ y :: Q) (he : insW x (fallW (mid.take k)) = P ++ insW x (y :: Q)) (hlt : ltW x y = true) (hu : Upd (· = g) w0 wr)
    (ho : Owns wr base 43 3 Wri.enc (.slice (some ⟨g, 0, none⟩) n cap) (pre ++ ((y :: Q).reverse ++ (x :: P.reverse)) ++ mid.drop (k + 1) ++ post)) :
    InsRel w0 (put3 (put3 wr g (pre.length + Q.length + 1) y) g (pre.length + Q.length) x) base g n cap pre mid post k x Q.length := by
  refine ⟨P ++ [y], Q, by rw [hf]; simp, rfl, ?_, (hu.trans (row_upd _ _ _ _) (fun _ _ h => h)).trans (row_upd _ _ _ _) (fun _ _ h => h), ?_⟩
  · rw [he]
    show P ++ (if ltW x y = true then y :: insW x Q else x :: y :: Q) = _
    rw [if_pos hlt]
    simp
  · have hl : pre.length + Q.length + 1 < (pre ++ ((y :: Q).reverse ++ (x :: P.reverse)) ++ mid.drop (k + 1) ++ post).length := by simp; omega
    have h2 := row_put (k := pre.length + Q.length) (x := x) (row_put (k := pre.length + Q.length + 1) (x := y) ho hl) (by rw [List.length_set]; omega)
    have e := set_swap (pre ++ Q.reverse) (P.reverse ++ (mid.drop (k + 1) ++ post)) y x
    simp only [List.length_append, List.length_reverse, List.append_assoc, List.reverse_cons, List.cons_append, List.nil_append, List.reverse_append, List.reverse_nil] at e h2 ⊢
    rw [e] at h2
    exact h2

theorem InsOut.keep {w0 wr w' : World} {base g n cap : Nat} {pre mid post : List Wri} {k : Nat} (h : InsOut w0 wr base g n cap pre mid post k) (hn : New wr w') : InsOut w0 w' base g n cap pre mid post k := ⟨h.1.transNew hn, h.2.new hn⟩
theorem InsRel.keep {w0 wr w' : World} {base g n cap : Nat} {pre mid post : List Wri} {k q : Nat} {x : Wri} (h : InsRel w0 wr base g n cap pre mid post k x q) (hn : New wr w') : InsRel w0 w' base g n cap pre mid post k x q := by
  obtain ⟨P, Q, a, b, c, d, e⟩ := h
  exact ⟨P, Q, a, b, c, d.transNew hn, e.new hn⟩
theorem InsOut.done {w0 wr : World} {base g n cap : Nat} {pre mid post : List Wri} {k : Nat} (h : InsOut w0 wr base g n cap pre mid post k) (hk : mid.length ≤ k) : Upd (· = g) w0 wr ∧ Owns wr base 43 3 Wri.enc (.slice (some ⟨g, 0, none⟩) n cap) (pre ++ (sortW mid ++ post)) := by
  have h2 := h.2
  rw [List.take_of_length_le hk, List.drop_eq_nil_of_le hk, List.append_nil, List.append_assoc] at h2
  exact ⟨h.1, h2⟩
theorem at_len {α : Type} (A B : List α) (x : α) : (A ++ x :: B)[A.length]? = some x := by simp
theorem insW_hold {x y : Wri} {Q : List Wri} (h : ltW x y = false) : insW x (y :: Q) = x :: y :: Q := by
  show (if ltW x y = true then y :: insW x Q else x :: y :: Q) = _
  rw [h]; rfl

set_option maxRecDepth 100000 in
set_option maxHeartbeats 8000000 in
theorem insSort_any (base g n cap : Nat) (pre mid post : List Wri) (w : World) (hn : n ≤ 100000) (hl : n = pre.length + mid.length + post.length) (ho : Owns w base 43 3 Wri.enc (.slice (some ⟨g, 0, none⟩) n cap) (pre ++ mid ++ post)) :
    Calls Try.prog 55 #[.slice (some ⟨g, 0, none⟩) n cap, .int .i64 (pre.length : Int), .int .i64 ((pre.length + mid.length : Nat) : Int), (.func (.func 28) #[] #[])] w fun e w' => e = .returned (.tuple #[]) ∧ Upd (· = g) w w' ∧ Owns w' base 43 3 Wri.enc (.slice (some ⟨g, 0, none⟩) n cap) (pre ++ (sortW mid ++ post)) := by
  have hR0 : Hid (InsOut w w base g n cap pre mid post 1) := Lib.hid (insOut_one (Upd.refl _ w) ho)
  obtain ⟨-, hg, -, hcap⟩ := row_frozen ho
  have HG := Lib.hid hg
  have hlb : pre.length + mid.length ≤ n := by omega
  have HL := Lib.hid hl
  clear ho hg hl
  generalize hb : pre.length + mid.length = b at *
  go_enter Try.func55, Try.ntmps55
  go_wp2_with fail
  go_loopw [8] (fun i wr => ∃ k : Nat, 1 ≤ k ∧ (k ≤ mid.length ∨ k = 1) ∧ i = .int .i64 ((pre.length + k : Nat) : Int) ∧ InsOut w wr base g n cap pre mid post k) (fun i _ => b + 1 - (intOf i).toNat)
  case atStart => exact ⟨1, by omega, by omega, by go_num, hR0.out⟩
  case round =>
    clear hR0
    obtain ⟨k, hk1, hk, rfl, hout⟩ := hrel
    by_cases hlt : k < mid.length
    · have hlt2 : ((pre.length + k : Nat) : Int) < (b : Int) := by omega
      generalize hI : pre.length + k = I at *
      obtain ⟨x, hx⟩ : ∃ x, mid[k]? = some x := ⟨_, List.getElem?_eq_getElem hlt⟩
      have HX := Lib.hid hx
      have HI := Lib.hid (ins_start hx hout)
      clear hx hout
      go_wp2_with fail
      go_loopw [9] (fun j wr => ∃ q : Nat, q ≤ k ∧ j = .int .i64 ((pre.length + q : Nat) : Int) ∧ InsRel w wr base g n cap pre mid post k x q) (fun j _ => (intOf j).toNat)
      case atStart => exact ⟨k, by omega, by rw [hI], HI.out⟩
      case round =>
        obtain ⟨q, hq, rfl, P, Q, hf, hql, he, hu, ho⟩ := hrel
        obtain ⟨hfz, hgl, hnl, -⟩ := row_frozen ho
        go_upto_region 4 with fail
        cases Q with
        | nil =>
          obtain rfl : q = 0 := by simpa using hql.symm
          have HO := Lib.hid (ins_end HX.out he rfl hu ho)
          rw [Nat.add_zero]
          have hd : decide ((pre.length : Int) < (pre.length : Int)) = false := by simp
          clear hf hql he ho hu hnl
          go_quiet (fail)
          go_wp2_with fail
          go_roundw
          case rel => exact ⟨k + 1, by omega, by omega, by go_num, HO.out.keep ((New.refl _).drewN _)⟩
          case measure => simp [intOf]; omega
        | cons y Q =>
          obtain rfl : q = Q.length + 1 := by simpa using hql.symm
          have ey := at_len (pre ++ Q.reverse) (x :: P.reverse ++ mid.drop (k + 1) ++ post) y
          have ex := at_len (pre ++ Q.reverse ++ [y]) (P.reverse ++ mid.drop (k + 1) ++ post) x
          have eL : pre ++ ((y :: Q).reverse ++ (x :: P.reverse)) ++ mid.drop (k + 1) ++ post = pre ++ Q.reverse ++ y :: (x :: P.reverse ++ mid.drop (k + 1) ++ post) := by simp
          have eL2 : pre ++ Q.reverse ++ y :: (x :: P.reverse ++ mid.drop (k + 1) ++ post) = pre ++ Q.reverse ++ [y] ++ x :: (P.reverse ++ mid.drop (k + 1) ++ post) := by simp
          rw [← eL] at ey
          rw [← eL2, ← eL] at ex
          simp only [List.length_append, List.length_reverse, List.length_singleton] at ey ex
          obtain ⟨y0, y1, y2⟩ := row_at ho ey
          obtain ⟨x0, x1, x2⟩ := row_at ho ex
          have hM := (List.getElem?_eq_some_iff.1 ex).1
          rw [← hnl] at hM
          have EX := Lib.hid ex
          have EY := Lib.hid ey
          clear ey ex eL eL2 hnl
          have HO := Lib.hid ho
          have HF := Lib.hid hf
          have HE := Lib.hid he
          have HU := Lib.hid hu
          clear hf he ho hu hql
          rw [← Nat.add_assoc]
          generalize hMM : pre.length + Q.length = M at *
          have hj3 : IntKind.i64.wrap ((M : Int) + 1 - 1) = (M : Int) := by rw [IntWalk.i64_in _ (by omega)]; omega
          have hj3b : IntKind.i64.wrap (M : Int) = (M : Int) := by rw [IntWalk.i64_in _ (by omega)]
          have hj0 : (0 : Int) ≤ (M : Int) + 1 := by omega
          have hj1 : (M : Int) + 1 < (n : Int) := by omega
          have hj4 : (0 : Int) ≤ (M : Int) := by omega
          have hj5 : (M : Int) < (n : Int) := by omega
          have hjt : ((M : Int) + 1).toNat = M + 1 := by omega
          have hd : (pre.length : Int) < (M : Int) + 1 := by omega
          have hdd : decide ((pre.length : Int) < (M : Int) + 1) = true := by rw [decide_eq_true_eq]; exact hd
          refine wp_region_held_drew (S := fun w' => Held wr w') (by kernel_rfl) (Held.of (New.refl _).drew) (fun hHeld => ?_)
          refine wpAnyH_take (i := 0) (oi := { dst := some 18, op := Op.move (Operand.tmp 9), type := 3, pos := "zsortanyfunc.go:12", after := #[], guard := none }) (v := ?_) rfl (by kernel_rfl) (by kernel_rfl) (by kernel_rfl) (fun _ _ _ h => h) (Or.inl ⟨by rfl, ?_⟩) (by assumption) ?_
          rotate_left
          · (intro wq hSw; (try dsimp only at hSw); go_simp; first | done | with_reducible rfl)
          try simp only [Act.put, List.setIfInBounds_toArray, List.set_cons_zero, List.set_cons_succ]
          refine wpAnyH_take (i := 1) (oi := { dst := some 19, op := Op.move (Operand.tmp 1), type := 3, pos := "zsortanyfunc.go:12", after := #[], guard := none }) (v := ?_) rfl (by kernel_rfl) (by kernel_rfl) (by kernel_rfl) (fun _ _ _ h => h) (Or.inl ⟨by rfl, ?_⟩) (by assumption) ?_
          rotate_left
          · (intro wq hSw; (try dsimp only at hSw); go_simp; first | done | with_reducible rfl)
          try simp only [Act.put, List.setIfInBounds_toArray, List.set_cons_zero, List.set_cons_succ]
          refine wpAnyH_take (i := 2) (oi := { dst := some 20, op := Op.binOp BinOp.gtr 3 (Operand.tmp 18) (Operand.tmp 19) 3, type := 4, pos := "zsortanyfunc.go:12", after := #[{ on := 0, ground := Ground.data }, { on := 1, ground := Ground.data }], guard := none }) (v := .bool true) rfl (by kernel_rfl) (by kernel_rfl) (by kernel_rfl) (fun _ _ _ h => h) (Or.inl ⟨by rfl, ?_⟩) (by assumption) ?_
          · (intro wq hSw; (try dsimp only at hSw); go_simp; first | done | with_reducible rfl | simp [hd])
          try simp only [Act.put, List.setIfInBounds_toArray, List.set_cons_zero, List.set_cons_succ]
          refine wpAnyH_take (i := 3) (oi := { dst := some 21, op := Op.move (Operand.tmp 20), type := 4, pos := "zsortanyfunc.go:12", after := #[{ on := 2, ground := Ground.data }], guard := none }) (v := ?_) rfl (by kernel_rfl) (by kernel_rfl) (by kernel_rfl) (fun _ _ _ h => h) (Or.inl ⟨by rfl, ?_⟩) (by assumption) ?_
          rotate_left
          · (intro wq hSw; (try dsimp only at hSw); go_simp; first | done | with_reducible rfl)
          try simp only [Act.put, List.setIfInBounds_toArray, List.set_cons_zero, List.set_cons_succ]
          refine wpAnyH_take (i := 4) (oi := { dst := some 22, op := Op.move (Operand.tmp 3), type := 50, pos := "zsortanyfunc.go:12", after := #[{ on := 3, ground := Ground.guard }], guard := some (3, true) }) (v := ?_) rfl (by kernel_rfl) (by kernel_rfl) (by kernel_rfl) (fun _ _ _ h => h) (Or.inl ⟨by rfl, ?_⟩) (by assumption) ?_
          rotate_left
          · (intro wq hSw; (try dsimp only at hSw); go_simp; first | done | with_reducible rfl)
          try simp only [Act.put, List.setIfInBounds_toArray, List.set_cons_zero, List.set_cons_succ]
          refine wpAnyH_take (i := 5) (oi := { dst := some 23, op := Op.move (Operand.tmp 0), type := 23, pos := "zsortanyfunc.go:12", after := #[{ on := 3, ground := Ground.guard }], guard := some (3, true) }) (v := ?_) rfl (by kernel_rfl) (by kernel_rfl) (by kernel_rfl) (fun _ _ _ h => h) (Or.inl ⟨by rfl, ?_⟩) (by assumption) ?_
          rotate_left
          · (intro wq hSw; (try dsimp only at hSw); go_simp; first | done | with_reducible rfl)
          try simp only [Act.put, List.setIfInBounds_toArray, List.set_cons_zero, List.set_cons_succ]
          refine wpAnyH_take (i := 6) (oi := { dst := some 24, op := Op.move (Operand.tmp 9), type := 3, pos := "zsortanyfunc.go:12", after := #[{ on := 3, ground := Ground.guard }], guard := some (3, true) }) (v := ?_) rfl (by kernel_rfl) (by kernel_rfl) (by kernel_rfl) (fun _ _ _ h => h) (Or.inl ⟨by rfl, ?_⟩) (by assumption) ?_
          rotate_left
          · (intro wq hSw; (try dsimp only at hSw); go_simp; first | done | with_reducible rfl)
          try simp only [Act.put, List.setIfInBounds_toArray, List.set_cons_zero, List.set_cons_succ]
          refine wpAnyH_take (i := 7) (oi := { dst := some 25, op := Op.indexAddr 23 (Operand.tmp 23) (Operand.tmp 24), type := 0, pos := "zsortanyfunc.go:12", after := #[{ on := 5, ground := Ground.data }, { on := 6, ground := Ground.data }, { on := 3, ground := Ground.guard }], guard := some (3, true) }) (v := ?_) rfl (by kernel_rfl) (by kernel_rfl) (by kernel_rfl) (fun _ _ _ h => h) (Or.inl ⟨by rfl, ?_⟩) (by assumption) ?_
          rotate_left
          · (intro wq hSw; (try dsimp only at hSw); go_simp; first | done | with_reducible rfl)
          try simp only [Act.put, List.setIfInBounds_toArray, List.set_cons_zero, List.set_cons_succ]
          refine wpAnyH_take (i := 8) (oi := { dst := some 26, op := Op.load 43 (Operand.tmp 25), type := 43, pos := "zsortanyfunc.go:12", after := #[{ on := 7, ground := Ground.data }, { on := 3, ground := Ground.guard }], guard := some (3, true) }) (v := ?_) rfl (by kernel_rfl) (by kernel_rfl) (by kernel_rfl) (fun _ _ _ h => h) (Or.inl ⟨by rfl, ?_⟩) (by assumption) ?_
          rotate_left
          · (intro wq hSw; (try dsimp only at hSw); go_simp; first | done | with_reducible rfl)
          try simp only [Act.put, List.setIfInBounds_toArray, List.set_cons_zero, List.set_cons_succ]
          refine wpAnyH_take (i := 9) (oi := { dst := some 27, op := Op.move (Operand.tmp 0), type := 23, pos := "zsortanyfunc.go:12", after := #[{ on := 3, ground := Ground.guard }], guard := some (3, true) }) (v := ?_) rfl (by kernel_rfl) (by kernel_rfl) (by kernel_rfl) (fun _ _ _ h => h) (Or.inl ⟨by rfl, ?_⟩) (by assumption) ?_
          rotate_left
          · (intro wq hSw; (try dsimp only at hSw); go_simp; first | done | with_reducible rfl)
          try simp only [Act.put, List.setIfInBounds_toArray, List.set_cons_zero, List.set_cons_succ]
          refine wpAnyH_take (i := 10) (oi := { dst := some 28, op := Op.move (Operand.tmp 9), type := 3, pos := "zsortanyfunc.go:12", after := #[{ on := 3, ground := Ground.guard }], guard := some (3, true) }) (v := ?_) rfl (by kernel_rfl) (by kernel_rfl) (by kernel_rfl) (fun _ _ _ h => h) (Or.inl ⟨by rfl, ?_⟩) (by assumption) ?_
          rotate_left
          · (intro wq hSw; (try dsimp only at hSw); go_simp; first | done | with_reducible rfl)
          try simp only [Act.put, List.setIfInBounds_toArray, List.set_cons_zero, List.set_cons_succ]
          refine wpAnyH_take (i := 11) (oi := { dst := some 29, op := Op.binOp BinOp.sub 3 (Operand.tmp 28) (Operand.const (Value.int IntKind.i64 1)) 3, type := 3, pos := "zsortanyfunc.go:12", after := #[{ on := 10, ground := Ground.data }, { on := 3, ground := Ground.guard }], guard := some (3, true) }) (v := ?_) rfl (by kernel_rfl) (by kernel_rfl) (by kernel_rfl) (fun _ _ _ h => h) (Or.inl ⟨by rfl, ?_⟩) (by assumption) ?_
          rotate_left
          · (intro wq hSw; (try dsimp only at hSw); go_simp; first | done | with_reducible rfl)
          try simp only [Act.put, List.setIfInBounds_toArray, List.set_cons_zero, List.set_cons_succ]
          refine wpAnyH_take (i := 12) (oi := { dst := some 30, op := Op.indexAddr 23 (Operand.tmp 27) (Operand.tmp 29), type := 0, pos := "zsortanyfunc.go:12", after := #[{ on := 9, ground := Ground.data }, { on := 11, ground := Ground.data }, { on := 3, ground := Ground.guard }], guard := some (3, true) }) (v := ?_) rfl (by kernel_rfl) (by kernel_rfl) (by kernel_rfl) (fun _ _ _ h => h) (Or.inl ⟨by rfl, ?_⟩) (by assumption) ?_
          rotate_left
          · (intro wq hSw; (try dsimp only at hSw); go_simp; first | done | with_reducible rfl)
          try simp only [Act.put, List.setIfInBounds_toArray, List.set_cons_zero, List.set_cons_succ]
          refine wpAnyH_take (i := 13) (oi := { dst := some 31, op := Op.load 43 (Operand.tmp 30), type := 43, pos := "zsortanyfunc.go:12", after := #[{ on := 12, ground := Ground.data }, { on := 3, ground := Ground.guard }], guard := some (3, true) }) (v := ?_) rfl (by kernel_rfl) (by kernel_rfl) (by kernel_rfl) (fun _ _ _ h => h) (Or.inl ⟨by rfl, ?_⟩) (by assumption) ?_
          rotate_left
          · (intro wq hSw; (try dsimp only at hSw); go_simp; first | done | with_reducible rfl)
          try simp only [Act.put, List.setIfInBounds_toArray, List.set_cons_zero, List.set_cons_succ]
          refine wpAnyH_ready (rs := [14]) (by kernel_rfl) (by simp) ?_
          refine AllReadyH.cons (o := { dst := some 32, op := Op.call { callee := Callee.value (Operand.tmp 22), args := #[Operand.tmp 26, Operand.tmp 31], argTypes := #[43, 43] }, type := 3, pos := "zsortanyfunc.go:12", after := #[{ on := 4, ground := Ground.data }, { on := 8, ground := Ground.data }, { on := 13, ground := Ground.data }, { on := 3, ground := Ground.chain }, { on := 3, ground := Ground.guard }], guard := some (3, true) }) rfl (fun K hK => ?_) AllReadyH.nil
          go_simp
          refine (sortCmp_any x y _).mono ?_
          rintro e w2 ⟨rfl, hn2⟩
          have hn3 := (New.refl wr).drew.trans hn2
          refine hK.out _ _ ?_ (fun hHeld => ?_)
          · exact Held.of hn3
          clear hK K
          try simp only [Act.put, List.setIfInBounds_toArray, List.set_cons_zero, List.set_cons_succ]
          refine wpAnyH_take (i := 15) (oi := { dst := some 33, op := Op.binOp BinOp.lss 3 (Operand.tmp 32) (Operand.const (Value.int IntKind.i64 0)) 3, type := 4, pos := "zsortanyfunc.go:12", after := #[{ on := 14, ground := Ground.data }, { on := 3, ground := Ground.guard }], guard := some (3, true) }) (v := .bool (ltW x y)) rfl (by kernel_rfl) (by kernel_rfl) (by kernel_rfl) (fun _ _ _ h => h) (Or.inl ⟨by rfl, ?_⟩) (by assumption) ?_
          · (intro wq hSw; (try dsimp only at hSw); go_simp; first | done | with_reducible rfl | (rw [cmpW_lt]; done) | simp only [cmpW_lt])
          try simp only [Act.put, List.setIfInBounds_toArray, List.set_cons_zero, List.set_cons_succ]
          refine wpAnyH_take (i := 16) (oi := { dst := some 34, op := Op.pick (Operand.tmp 21) (Operand.tmp 33) (Operand.const (Value.bool false)), type := 4, pos := "zsortanyfunc.go:12", after := #[{ on := 3, ground := Ground.data }, { on := 15, ground := Ground.data }], guard := none }) (v := ?_) rfl (by kernel_rfl) (by kernel_rfl) (by kernel_rfl) (fun _ _ _ h => h) (Or.inl ⟨by rfl, ?_⟩) (by assumption) ?_
          rotate_left
          · (intro wq hSw; (try dsimp only at hSw); go_simp; first | done | with_reducible rfl)
          try simp only [Act.put, List.setIfInBounds_toArray, List.set_cons_zero, List.set_cons_succ]
          refine wpAnyH_done (by kernel_rfl) ?_ _
          have hU2 := HU.out.transNew hn3
          have hO2 := HO.out.new hn3
          clear x0 x1 x2 y0 y1 y2 hfz hgl hn2 hHeld
          cases hlb : ltW x y with
          | false =>
            have HO2 := Lib.hid (ins_end HX.out HE.out (insW_hold hlb) hU2 hO2)
            clear hU2 hO2 HO HF HE HU hlb hn3
            go_wp2_with fail
            go_roundw
            case rel => exact ⟨k + 1, by omega, by omega, by go_num, HO2.out⟩
            case measure => simp [intOf]; omega
          | true =>
            obtain ⟨hfz, hgl, -, -⟩ := row_frozen hO2
            obtain ⟨y0, y1, y2⟩ := row_at hO2 EY.out
            obtain ⟨x0, x1, x2⟩ := row_at hO2 EX.out
            have hi2 := ins_step HF.out HE.out hlb hU2 hO2
            rw [hMM] at hi2
            have HI2 := Lib.hid hi2
            clear hi2
            clear hU2 hO2 HO HF HE HU hlb hn3 EX EY
            go_wp2_with fail
            go_region
            go_wp2_with fail
            go_roundw
            case rel => exact ⟨Q.length, by omega, by rw [hMM], HI2.out.keep (New.refl _).drew⟩
            case measure => simp [intOf]; omega
    · have hlt2 : ¬ ((pre.length + k : Nat) : Int) < (b : Int) := by omega
      have HD := Lib.hid (hout.done (by omega))
      clear hout
      go_wp2_with fail
      go_end0
      exact ⟨rfl, HD.out⟩
end Go.Proofs.Ytdobingccipkkaa
