/- Chapter 5 (batch): the document's Sorted. Printed by genBat13.py. -/
import Derived.Test.YtdobingccipkkaaBat12
namespace Go.Proofs.Ytdobingccipkkaa
open Go.RowKit Go.Lap
set_option linter.unusedVariables false

/-- So many writes are put in. -/
structure RSo (w0 wr : World) (c r s : Nat) (A : Option Addr) (cap : Nat) (l : List Wri) (k : Nat) (v : Value) : Prop where
  box : Blk wr w0.heap.size 25 #[.int .u64 (c : Int), .int .u64 (r : Int), .int .u64 (s : Int), .slice A l.length cap]
  res : Blk wr (w0.heap.size + 1) 25 #[.int .u64 0, .int .u64 0, .int .u64 0, .slice none 0 0]
  new : New w0 wr
  own : Owns wr (w0.heap.size + 2) 43 3 Wri.enc v (sortW (l.take k))
theorem RSo.keep {w0 wr w' : World} {c r s : Nat} {A : Option Addr} {cap : Nat} {l : List Wri} {k : Nat} {v : Value} (h : RSo w0 wr c r s A cap l k v) (hn : New wr w') : RSo w0 w' c r s A cap l k v :=
  ⟨h.box.new hn, h.res.new hn, h.new.trans hn, h.own.new hn⟩
/-- The inner search: so much of the row behind is passed. -/
def RSin (w0 wr : World) (c r s : Nat) (A : Option Addr) (cap : Nat) (l : List Wri) (k : Nat) (v : Value) (x : Wri) (q : Nat) : Prop := RSo w0 wr c r s A cap l k v ∧ ∃ P Q : List Wri,
  fallW (l.take k) = P ++ Q ∧ Q.length = q ∧ insW x (fallW (l.take k)) = P ++ insW x Q
def RSat (w0 wr : World) (c r s : Nat) (A : Option Addr) (cap : Nat) (l : List Wri) (k : Nat) (v : Value) (x : Wri) (q : Nat) : Prop := RSo w0 wr c r s A cap l k v ∧ q ≤ k ∧ q ≤ (sortW (l.take k)).length ∧
  sortW (l.take (k + 1)) = (sortW (l.take k)).take q ++ [x] ++ (sortW (l.take k)).drop q
theorem rs_end {w0 wr : World} {c r s : Nat} {A : Option Addr} {cap : Nat} {l : List Wri} {k : Nat} {v : Value} {x : Wri} {P Q : List Wri} (hx : l[k]? = some x) (h : RSo w0 wr c r s A cap l k v) (hf : fallW (l.take k) = P ++ Q)
    (he : insW x (fallW (l.take k)) = P ++ insW x Q) (hi : insW x Q = x :: Q) : RSat w0 wr c r s A cap l k v x Q.length := by
  have hk := (List.getElem?_eq_some_iff.1 hx).1
  have e0 : sortW (l.take k) = Q.reverse ++ P.reverse := by unfold sortW; rw [hf]; simp
  have hl := fallW_length (l.take k)
  rw [hf, List.length_take, List.length_append] at hl
  refine ⟨h, by omega, by rw [e0]; simp, ?_⟩
  have e : sortW (l.take (k + 1)) = Q.reverse ++ (x :: P.reverse) := by
    unfold sortW
    rw [List.take_add_one, hx]
    show (fallW (l.take k ++ [x])).reverse = _
    rw [fallW_snoc, he, hi]
    simp
  rw [e, e0, List.take_left' (by simp), List.drop_left' (by simp)]
  simp

theorem row_key {w : World} {base n cap m : Nat} {A : Option Addr} {l : List Wri} {y : Wri} (h : Owns w base 43 3 Wri.enc (.slice A n cap) l) (hy : l[m]? = some y) : ∃ b off, A = some ⟨b, off, none⟩ ∧ w.cell? ⟨b, off + m * 3, none⟩ = some (.string y.key) := by
  obtain ⟨A', c', hv, _, hh⟩ := Owns.slIn Wri.encOk h
  cases hv
  rcases hh with rfl | ⟨b, off, hA, hb, hc⟩
  · simp at hy
  · exact ⟨b, off, hA, (SlIn.three hc hy).1⟩

set_option maxRecDepth 100000 in
set_option maxHeartbeats 8000000 in
theorem refSorted_any (c r s : Nat) (v : Value) (l : List Wri) (w : World) (hl : l.length ≤ 100000) (hs : SlIn w 3 Wri.enc v l) :
    Calls Try.prog 16 #[.agg #[.int .u64 (c : Int), .int .u64 (r : Int), .int .u64 (s : Int), v]] w (SortPost w c r s l) := by
  have HS := Lib.hid hs
  obtain ⟨A, cap, rfl, hlc, hh⟩ := hs
  have hB := ((Blk.mk_new w 25 #[.int .u64 (c : Int), .int .u64 (r : Int), .int .u64 (s : Int), .slice A l.length cap]).alloc (.cells #[.int .u64 0, .int .u64 0, .int .u64 0, .slice none 0 0] 25)).alloc (.cells #[] 43)
  have hR := (Blk.mk_new (w.alloc (.cells #[.int .u64 (c : Int), .int .u64 (r : Int), .int .u64 (s : Int), .slice A l.length cap] 25)) 25 #[.int .u64 0, .int .u64 0, .int .u64 0, .slice none 0 0]).alloc (.cells #[] 43)
  rw [World.size_alloc] at hR
  have hN := (((New.refl w).alloc (.cells #[.int .u64 (c : Int), .int .u64 (r : Int), .int .u64 (s : Int), .slice A l.length cap] 25)).alloc (.cells #[.int .u64 0, .int .u64 0, .int .u64 0, .slice none 0 0] 25)).alloc (.cells #[] 43)
  have hO : Owns (((w.alloc (.cells #[.int .u64 (c : Int), .int .u64 (r : Int), .int .u64 (s : Int), .slice A l.length cap] 25)).alloc (.cells #[.int .u64 0, .int .u64 0, .int .u64 0, .slice none 0 0] 25)).alloc (.cells #[] 43)) (w.heap.size + 2) 43 3 Wri.enc (.slice (some ⟨((w.alloc (.cells #[.int .u64 (c : Int), .int .u64 (r : Int), .int .u64 (s : Int), .slice A l.length cap] 25)).alloc (.cells #[.int .u64 0, .int .u64 0, .int .u64 0, .slice none 0 0] 25)).heap.size, 0, none⟩) 0 0) ([] : List Wri) := World.ownsRow_made _ #[] 0 (by rw [World.size_alloc, World.size_alloc]; omega) (by unfold maxLen; omega) rfl
  rw [World.size_alloc, World.size_alloc] at hO
  have hR0 : Hid (RSo w (((w.alloc (.cells #[.int .u64 (c : Int), .int .u64 (r : Int), .int .u64 (s : Int), .slice A l.length cap] 25)).alloc (.cells #[.int .u64 0, .int .u64 0, .int .u64 0, .slice none 0 0] 25)).alloc (.cells #[] 43)) c r s A cap l 0 (.slice (some ⟨w.heap.size + 2, 0, none⟩) 0 0)) := Lib.hid ⟨hB, hR, hN, hO⟩
  clear hB hR hN hO
  go_enter Try.func16, Try.ntmps16
  go_wp2_with fail
  go_loopw [3, 4] (fun v3 i wr => ∃ k : Nat, k ≤ l.length ∧ i = .int .i64 (k : Int) ∧ RSo w wr c r s A cap l k v3) (fun _ i _ => l.length - (intOf i).toNat)
  case atStart => exact ⟨0, by omega, rfl, hR0.out⟩
  case round =>
    clear hR0
    obtain ⟨k, hk, rfl, hG⟩ := hrel
    obtain ⟨vA, vn, vc, rfl⟩ := (Owns.slIn Wri.encOk hG.own).shape
    obtain ⟨p0, p1, p2, p3, p4, pz⟩ := Blk4F hG.box
    by_cases hlt : k < l.length
    · have hlt2 : (k : Int) < (l.length : Int) := by omega
      have hk0 : (0 : Int) ≤ (k : Int) := by omega
      obtain ⟨x, hx⟩ : ∃ x, l[k]? = some x := ⟨_, List.getElem?_eq_getElem hlt⟩
      have HX := Lib.hid hx
      have hsl : (sortW (l.take k)).length = k := by rw [sortW_length, List.length_take]; omega
      have hvn : vn = k := by rw [← hsl]; exact (SlIn.cap_le (Owns.slIn Wri.encOk hG.own)).2
      subst hvn
      have HI : Hid (RSin w wr c r s A cap l vn (.slice vA vn vc) x vn) := Lib.hid ⟨hG, [], fallW (l.take vn), rfl, by rw [fallW_length, List.length_take]; omega, rfl⟩
      have HSL := Lib.hid hsl
      clear hx hG hsl
      go_wp2_with fail
      go_loopw [5] (fun j wr => ∃ q : Nat, q ≤ vn ∧ j = .int .i64 (q : Int) ∧ RSin w wr c r s A cap l vn (.slice vA vn vc) x q) (fun j _ => (intOf j).toNat)
      case atStart => exact ⟨vn, by omega, rfl, HI.out⟩
      case round =>
        clear HI p0 p1 p2 p3 p4 pz
        obtain ⟨q, hq, rfl, hG, P, Q, hf, hql, he⟩ := hrel
        go_upto_region 6 with fail
        rcases hh with rfl | ⟨b, off, rfl, hbb, hc⟩
        · simp at hlt
        cases Q with
        | nil =>
          have HO : Hid (RSat w wr c r s (some ⟨b, off, none⟩) cap l vn (.slice vA vn vc) x q) := Lib.hid (by rw [← hql]; exact rs_end HX.out hG hf he rfl)
          have hq00 : q = 0 := by simpa using hql.symm
          have hd : decide ((0 : Int) < (q : Int)) = false := by rw [decide_eq_false_iff_not]; omega
          have hd2 : decide (0 < q) = false := by rw [decide_eq_false_iff_not]; omega
          clear hf hql he hq00
          go_quiet (fail)
          have HO : Hid (RSat w (wr.drewN nq) c r s (some ⟨b, off, none⟩) cap l vn (.slice vA vn vc) x q) := Lib.hid ⟨HO.out.1.keep ((New.refl _).drewN _), HO.out.2⟩
          clear hG
          generalize wr.drewN nq = wz at *
          obtain ⟨hG, hqk, hql, hfin⟩ := HO.out
          have HFIN := Lib.hid hfin
          clear hfin HO
          obtain ⟨p0, p1, p2, p3, p4, pz⟩ := Blk4F hG.box
          obtain ⟨x0, x1, x2⟩ := SlIn.three (fun k x h j u hu => (hG.new.cells.1 _ _ hbb).trans (hc k x h j u hu)) HX.out
          have hrz := hG.res.lt
          have hbz : b < wz.heap.size := Nat.lt_of_lt_of_le hbb hG.new.size
          have hvc := (SlIn.cap_le (Owns.slIn Wri.encOk hG.own)).1
          rw [HSL.out] at hvc hql
          have hq0 : (0 : Int) ≤ (q : Int) := by omega
          have hq1 : (q : Int) ≤ (vc : Int) := by omega
          have hq2 : (q : Int) ≤ (vn : Int) := by omega
          have hqn : (q : Int).toNat = q := by omega
          have hT := (Owns.slIn Wri.encOk hG.own).take (k := q) (c' := vc) (by rw [HSL.out]; omega) (by omega)
          have HM1 := Lib.hid (show ([] : List Wri).length + ((sortW (l.take vn)).take q).length ≤ maxLen by unfold maxLen; rw [List.length_take, HSL.out]; simp only [List.length_nil]; omega)
          have HM2 := Lib.hid (show (([] : List Wri).length + ((sortW (l.take vn)).take q).length) * 40 ≤ 140737488355328 by rw [List.length_take, HSL.out]; simp only [List.length_nil]; omega)
          have HM3 := Lib.hid (show ([] ++ (sortW (l.take vn)).take q).length + [x].length ≤ maxLen by unfold maxLen; rw [List.nil_append, List.length_take, HSL.out]; simp only [List.length_singleton]; omega)
          have HM4 := Lib.hid (show (([] ++ (sortW (l.take vn)).take q).length + [x].length) * 40 ≤ 140737488355328 by rw [List.nil_append, List.length_take, HSL.out]; simp only [List.length_singleton]; omega)
          go_upto_region 8 with fail
          refine wp_region_held_drew (S := fun w' => Held wz w') (by kernel_rfl) (Held.of (New.refl _).drew) (fun hHeld => ?_)
          refine wpAnyH_take (i := 1) (oi := { dst := some 37, op := Op.move (Operand.tmp 3), type := 23, pos := "ref.go:41", after := #[], guard := none }) (v := ?_) rfl (by kernel_rfl) (by kernel_rfl) (by kernel_rfl) (fun _ _ _ h => h) (Or.inl ⟨by rfl, ?_⟩) (by assumption) ?_
          rotate_left
          · (intro wq hSw; (try dsimp only at hSw); go_simp; first | done | with_reducible rfl)
          try simp only [Act.put, List.setIfInBounds_toArray, List.set_cons_zero, List.set_cons_succ]
          refine wpAnyH_take (i := 2) (oi := { dst := some 38, op := Op.move (Operand.tmp 5), type := 3, pos := "ref.go:41", after := #[], guard := none }) (v := ?_) rfl (by kernel_rfl) (by kernel_rfl) (by kernel_rfl) (fun _ _ _ h => h) (Or.inl ⟨by rfl, ?_⟩) (by assumption) ?_
          rotate_left
          · (intro wq hSw; (try dsimp only at hSw); go_simp; first | done | with_reducible rfl)
          try simp only [Act.put, List.setIfInBounds_toArray, List.set_cons_zero, List.set_cons_succ]
          refine wpAnyH_take (i := 3) (oi := { dst := some 39, op := Op.slice 23 (Operand.tmp 37) none (some (Operand.tmp 38)) none, type := 23, pos := "ref.go:41", after := #[{ on := 1, ground := Ground.data }, { on := 2, ground := Ground.data }], guard := none }) (v := ?_) rfl (by kernel_rfl) (by kernel_rfl) (by kernel_rfl) (fun _ _ _ h => h) (Or.inl ⟨by rfl, ?_⟩) (by assumption) ?_
          rotate_left
          · (intro wq hSw; (try dsimp only at hSw); go_simp; first | done | with_reducible rfl)
          try simp only [Act.put, List.setIfInBounds_toArray, List.set_cons_zero, List.set_cons_succ]
          refine wpAnyH_take (i := 5) (oi := { dst := some 41, op := Op.fieldAddr 25 (Operand.tmp 1) 3, type := 0, pos := "ref.go:41", after := #[], guard := none }) (v := ?_) rfl (by kernel_rfl) (by kernel_rfl) (by kernel_rfl) (fun _ _ _ h => h) (Or.inl ⟨by rfl, ?_⟩) (by assumption) ?_
          rotate_left
          · (intro wq hSw; (try dsimp only at hSw); go_simp; first | done | with_reducible rfl)
          try simp only [Act.put, List.setIfInBounds_toArray, List.set_cons_zero, List.set_cons_succ]
          refine wpAnyH_take (i := 6) (oi := { dst := some 42, op := Op.load 23 (Operand.tmp 41), type := 23, pos := "ref.go:41", after := #[{ on := 5, ground := Ground.data }], guard := none }) (v := ?_) rfl (by kernel_rfl) (by kernel_rfl) (by kernel_rfl) (fun _ _ _ h => h) (Or.inl ⟨by rfl, ?_⟩) (by assumption) ?_
          rotate_left
          · (intro wq hSw; (try dsimp only at hSw); go_simp; first | done | with_reducible rfl)
          try simp only [Act.put, List.setIfInBounds_toArray, List.set_cons_zero, List.set_cons_succ]
          refine wpAnyH_take (i := 7) (oi := { dst := some 43, op := Op.move (Operand.tmp 4), type := 3, pos := "ref.go:41", after := #[], guard := none }) (v := ?_) rfl (by kernel_rfl) (by kernel_rfl) (by kernel_rfl) (fun _ _ _ h => h) (Or.inl ⟨by rfl, ?_⟩) (by assumption) ?_
          rotate_left
          · (intro wq hSw; (try dsimp only at hSw); go_simp; first | done | with_reducible rfl)
          try simp only [Act.put, List.setIfInBounds_toArray, List.set_cons_zero, List.set_cons_succ]
          refine wpAnyH_take (i := 8) (oi := { dst := some 44, op := Op.indexAddr 23 (Operand.tmp 42) (Operand.tmp 43), type := 0, pos := "ref.go:41", after := #[{ on := 6, ground := Ground.data }, { on := 7, ground := Ground.data }], guard := none }) (v := ?_) rfl (by kernel_rfl) (by kernel_rfl) (by kernel_rfl) (fun _ _ _ h => h) (Or.inl ⟨by rfl, ?_⟩) (by assumption) ?_
          rotate_left
          · (intro wq hSw; (try dsimp only at hSw); go_simp; first | done | with_reducible rfl)
          try simp only [Act.put, List.setIfInBounds_toArray, List.set_cons_zero, List.set_cons_succ]
          refine wpAnyH_take (i := 9) (oi := { dst := some 45, op := Op.load 43 (Operand.tmp 44), type := 43, pos := "ref.go:41", after := #[{ on := 8, ground := Ground.data }], guard := none }) (v := ?_) rfl (by kernel_rfl) (by kernel_rfl) (by kernel_rfl) (fun _ _ _ h => h) (Or.inl ⟨by rfl, ?_⟩) (by assumption) ?_
          rotate_left
          · (intro wq hSw; (try dsimp only at hSw); go_simp; first | done | with_reducible rfl)
          try simp only [Act.put, List.setIfInBounds_toArray, List.set_cons_zero, List.set_cons_succ]
          refine wpAnyH_ready (rs := [0, 10]) (by kernel_rfl) (by simp) ?_
          refine AllReadyH.cons (o := { dst := some 36, op := Op.buildSlice 23 0 #[], type := 23, pos := "ref.go:41", after := #[], guard := none }) rfl (fun K hK => ?_) (AllReadyH.cons (o := { dst := some 46, op := Op.buildSlice 23 1 #[(0, Operand.tmp 45)], type := 23, pos := "ref.go:41", after := #[{ on := 9, ground := Ground.data }], guard := none }) rfl (fun K hK => ?_) AllReadyH.nil)
          · go_simp
            have hn0 := ((New.refl wz).drew).alloc (.cells #[] 43)
            have ho0 : Owns (wz.drew.alloc (.cells #[] 43)) wz.heap.size 43 3 Wri.enc (.slice (some ⟨wz.drew.heap.size, 0, none⟩) 0 0) ([] : List Wri) := World.ownsRow_made wz.drew #[] 0 (by have := ((New.refl wz).drew).size; omega) (by unfold maxLen; omega) rfl
            try rw [World.size_alloc] at ho0
            refine hK.out _ _ ?_ (fun hHeld => ?_)
            · exact Held.of hn0
            clear hK K
            try simp only [Act.put, List.setIfInBounds_toArray, List.set_cons_zero, List.set_cons_succ]
            refine wpAnyH_ready (rs := [4, 10]) (by kernel_rfl) (by simp) ?_
            refine AllReadyH.cons (o := { dst := some 40, op := Op.call { callee := Callee.builtin Builtin.append, args := #[Operand.tmp 36, Operand.tmp 39], argTypes := #[23, 23] }, type := 23, pos := "ref.go:41", after := #[{ on := 0, ground := Ground.data }, { on := 3, ground := Ground.data }], guard := none }) rfl (fun K hK => ?_) (AllReadyH.cons (o := { dst := some 46, op := Op.buildSlice 23 1 #[(0, Operand.tmp 45)], type := 23, pos := "ref.go:41", after := #[{ on := 9, ground := Ground.data }], guard := none }) rfl (fun K hK => ?_) AllReadyH.nil)
            · refine step_app wTy Wri.encOk rfl (.tmp 36) (.tmp 39) rfl rfl rfl ho0 (hT.new (hn0)) HM1.out HM2.out (hn0).size ?_
              intro va1 wa1 ho1 hg1 _
              have hn1 := (hn0).grown hg1 (fun k hk => ho0.blockGe k hk)
              refine hK.out _ _ ?_ (fun hHeld => ?_)
              · exact Held.of hn1
              clear hK K
              try simp only [Act.put, List.setIfInBounds_toArray, List.set_cons_zero, List.set_cons_succ]
              refine wpAnyH_ready (rs := [10]) (by kernel_rfl) (by simp) ?_
              refine AllReadyH.cons (o := { dst := some 46, op := Op.buildSlice 23 1 #[(0, Operand.tmp 45)], type := 23, pos := "ref.go:41", after := #[{ on := 9, ground := Ground.data }], guard := none }) rfl (fun K hK => ?_) AllReadyH.nil
              go_simp
              have hn2 := (hn1).alloc (.cells #[.string x.key, .string x.val, .bool x.gone] 43)
              have hx2 := Blk.mk_new wa1 43 #[.string x.key, .string x.val, .bool x.gone]
              try rw [World.size_alloc] at hx2
              have ho2 := ho1.alloc (.cells #[.string x.key, .string x.val, .bool x.gone] 43)
              refine hK.out _ _ ?_ (fun hHeld => ?_)
              · exact Held.of hn2
              clear hK K
              try simp only [Act.put, List.setIfInBounds_toArray, List.set_cons_zero, List.set_cons_succ]
              refine wpAnyH_ready (rs := [11]) (by kernel_rfl) (by simp) ?_
              refine AllReadyH.cons (o := { dst := some 47, op := Op.call { callee := Callee.builtin Builtin.append, args := #[Operand.tmp 40, Operand.tmp 46], argTypes := #[23, 23] }, type := 23, pos := "ref.go:41", after := #[{ on := 4, ground := Ground.data }, { on := 10, ground := Ground.data }, { on := 4, ground := Ground.chain }], guard := none }) rfl (fun K hK => ?_) AllReadyH.nil
              refine step_app wTy Wri.encOk rfl (.tmp 40) (.tmp 46) rfl rfl rfl ho2 (SlIn.one (x := x) hx2 Wri.encOk rfl) HM3.out HM4.out (hn2).size ?_
              intro va3 wa3 ho3 hg3 _
              have hn3 := (hn2).grown hg3 (fun k hk => ho2.blockGe k hk)
              refine hK.out _ _ ?_ (fun hHeld => ?_)
              · exact Held.of hn3
              clear hK K
              try simp only [Act.put, List.setIfInBounds_toArray, List.set_cons_zero, List.set_cons_succ]
              refine wpAnyH_take (i := 12) (oi := { dst := some 6, op := Op.assign (Operand.tmp 47), type := 23, pos := "ref.go:41", after := #[{ on := 11, ground := Ground.data }, { on := 11, ground := Ground.chain }, { on := 0, ground := Ground.phase }, { on := 1, ground := Ground.phase }, { on := 2, ground := Ground.phase }, { on := 3, ground := Ground.phase }, { on := 4, ground := Ground.phase }, { on := 5, ground := Ground.phase }, { on := 6, ground := Ground.phase }, { on := 7, ground := Ground.phase }, { on := 8, ground := Ground.phase }, { on := 9, ground := Ground.phase }, { on := 10, ground := Ground.phase }, { on := 11, ground := Ground.phase }], guard := none }) (v := ?_) rfl (by kernel_rfl) (by kernel_rfl) (by kernel_rfl) (fun _ _ _ h => h) (Or.inl ⟨by rfl, ?_⟩) (by assumption) ?_
              rotate_left
              · (intro wq hSw; (try dsimp only at hSw); go_simp; first | done | with_reducible rfl)
              try simp only [Act.put, List.setIfInBounds_toArray, List.set_cons_zero, List.set_cons_succ]
              refine wpAnyH_done (by kernel_rfl) ?_ _
              have hG2 := hG.keep hn3
              have hO2 := ho3
              rw [List.nil_append] at hO2
              clear hHeld
              go_upto_region 9 with fail
              generalize wa3 = wl at *
              have HG2 := Lib.hid hG2
              clear hG2
              have HM5 := Lib.hid (show ((sortW (l.take vn)).take q ++ [x]).length + ((sortW (l.take vn)).drop q).length ≤ maxLen by unfold maxLen; rw [List.length_append, List.length_take, List.length_drop, HSL.out]; simp only [List.length_singleton]; omega)
              have HM6 := Lib.hid (show (((sortW (l.take vn)).take q ++ [x]).length + ((sortW (l.take vn)).drop q).length) * 40 ≤ 140737488355328 by rw [List.length_append, List.length_take, List.length_drop, HSL.out]; simp only [List.length_singleton]; omega)
              have hbs : wz.heap.size ≤ wl.heap.size := by have := (hn3).size; omega
              have HO2 := Lib.hid hO2
              have hslz := Owns.slIn Wri.encOk HG2.out.own
              have HSZ := Lib.hid hslz
              clear hslz
              by_cases hvq : vc = q
              · have hD : SlIn wl 3 Wri.enc (.slice vA 0 0) ((sortW (l.take vn)).drop q) := by rw [List.drop_eq_nil_of_le (by rw [HSL.out]; omega)]; exact SlIn.empty _ _ _ _ _
                subst hvq
                go_wp2_with (at_builtin; refine wpList_app wTy Wri.encOk rfl _ _ rfl rfl rfl hO2 hD HM5.out HM6.out hbs ?_; intro v9 w9 ho9 hg9 hb9; have hge := HO2.out.blockGe)
                have ho9b : Owns w9 (w.heap.size + 2) 43 3 Wri.enc v9 (sortW (l.take (vn + 1))) := by rw [HFIN.out]; exact ho9.lower (by omega)
                have hG9 : RSo w w9 c r s (some ⟨b, off, none⟩) cap l (vn + 1) v9 := ⟨HG2.out.box.grown hg9 (fun e => by have := hge _ e.symm; omega), HG2.out.res.grown hg9 (fun e => by have := hge _ e.symm; omega), HG2.out.new.grown hg9 (fun k hk => by have := hge _ hk; omega), ho9b⟩
                go_roundw
                case rel => exact ⟨vn + 1, by omega, by go_num, hG9⟩
                case measure => simp [intOf]; omega
              · have hD := HSZ.out.drop_far (k := q) (by rw [HSL.out]; omega) hvq
                go_wp2_with (at_builtin; refine wpList_app wTy Wri.encOk rfl _ _ rfl rfl rfl hO2 hD HM5.out HM6.out hbs ?_; intro v9 w9 ho9 hg9 hb9; have hge := HO2.out.blockGe)
                have ho9b : Owns w9 (w.heap.size + 2) 43 3 Wri.enc v9 (sortW (l.take (vn + 1))) := by rw [HFIN.out]; exact ho9.lower (by omega)
                have hG9 : RSo w w9 c r s (some ⟨b, off, none⟩) cap l (vn + 1) v9 := ⟨HG2.out.box.grown hg9 (fun e => by have := hge _ e.symm; omega), HG2.out.res.grown hg9 (fun e => by have := hge _ e.symm; omega), HG2.out.new.grown hg9 (fun k hk => by have := hge _ hk; omega), ho9b⟩
                go_roundw
                case rel => exact ⟨vn + 1, by omega, by go_num, hG9⟩
                case measure => simp [intOf]; omega
            · go_simp
              have hn1 := (hn0).alloc (.cells #[.string x.key, .string x.val, .bool x.gone] 43)
              have hx1 := Blk.mk_new (wz.drew.alloc (.cells #[] 43)) 43 #[.string x.key, .string x.val, .bool x.gone]
              try rw [World.size_alloc] at hx1
              have ho1 := ho0.alloc (.cells #[.string x.key, .string x.val, .bool x.gone] 43)
              refine hK.out _ _ ?_ (fun hHeld => ?_)
              · exact Held.of hn1
              clear hK K
              try simp only [Act.put, List.setIfInBounds_toArray, List.set_cons_zero, List.set_cons_succ]
              refine wpAnyH_ready (rs := [4]) (by kernel_rfl) (by simp) ?_
              refine AllReadyH.cons (o := { dst := some 40, op := Op.call { callee := Callee.builtin Builtin.append, args := #[Operand.tmp 36, Operand.tmp 39], argTypes := #[23, 23] }, type := 23, pos := "ref.go:41", after := #[{ on := 0, ground := Ground.data }, { on := 3, ground := Ground.data }], guard := none }) rfl (fun K hK => ?_) AllReadyH.nil
              refine step_app wTy Wri.encOk rfl (.tmp 36) (.tmp 39) rfl rfl rfl ho1 (hT.new (hn1)) HM1.out HM2.out (hn1).size ?_
              intro va2 wa2 ho2 hg2 _
              have hn2 := (hn1).grown hg2 (fun k hk => ho1.blockGe k hk)
              have hx2 := hx1.grown hg2 (by intro e; injection e with e; have e2 : (wz.drew : World).heap.size = (wz : World).heap.size := rfl; dsimp only at e; omega)
              refine hK.out _ _ ?_ (fun hHeld => ?_)
              · exact Held.of hn2
              clear hK K
              try simp only [Act.put, List.setIfInBounds_toArray, List.set_cons_zero, List.set_cons_succ]
              refine wpAnyH_ready (rs := [11]) (by kernel_rfl) (by simp) ?_
              refine AllReadyH.cons (o := { dst := some 47, op := Op.call { callee := Callee.builtin Builtin.append, args := #[Operand.tmp 40, Operand.tmp 46], argTypes := #[23, 23] }, type := 23, pos := "ref.go:41", after := #[{ on := 4, ground := Ground.data }, { on := 10, ground := Ground.data }, { on := 4, ground := Ground.chain }], guard := none }) rfl (fun K hK => ?_) AllReadyH.nil
              refine step_app wTy Wri.encOk rfl (.tmp 40) (.tmp 46) rfl rfl rfl ho2 (SlIn.one (x := x) hx2 Wri.encOk rfl) HM3.out HM4.out (hn2).size ?_
              intro va3 wa3 ho3 hg3 _
              have hn3 := (hn2).grown hg3 (fun k hk => ho2.blockGe k hk)
              refine hK.out _ _ ?_ (fun hHeld => ?_)
              · exact Held.of hn3
              clear hK K
              try simp only [Act.put, List.setIfInBounds_toArray, List.set_cons_zero, List.set_cons_succ]
              refine wpAnyH_take (i := 12) (oi := { dst := some 6, op := Op.assign (Operand.tmp 47), type := 23, pos := "ref.go:41", after := #[{ on := 11, ground := Ground.data }, { on := 11, ground := Ground.chain }, { on := 0, ground := Ground.phase }, { on := 1, ground := Ground.phase }, { on := 2, ground := Ground.phase }, { on := 3, ground := Ground.phase }, { on := 4, ground := Ground.phase }, { on := 5, ground := Ground.phase }, { on := 6, ground := Ground.phase }, { on := 7, ground := Ground.phase }, { on := 8, ground := Ground.phase }, { on := 9, ground := Ground.phase }, { on := 10, ground := Ground.phase }, { on := 11, ground := Ground.phase }], guard := none }) (v := ?_) rfl (by kernel_rfl) (by kernel_rfl) (by kernel_rfl) (fun _ _ _ h => h) (Or.inl ⟨by rfl, ?_⟩) (by assumption) ?_
              rotate_left
              · (intro wq hSw; (try dsimp only at hSw); go_simp; first | done | with_reducible rfl)
              try simp only [Act.put, List.setIfInBounds_toArray, List.set_cons_zero, List.set_cons_succ]
              refine wpAnyH_done (by kernel_rfl) ?_ _
              have hG2 := hG.keep hn3
              have hO2 := ho3
              rw [List.nil_append] at hO2
              clear hHeld
              go_upto_region 9 with fail
              generalize wa3 = wl at *
              have HG2 := Lib.hid hG2
              clear hG2
              have HM5 := Lib.hid (show ((sortW (l.take vn)).take q ++ [x]).length + ((sortW (l.take vn)).drop q).length ≤ maxLen by unfold maxLen; rw [List.length_append, List.length_take, List.length_drop, HSL.out]; simp only [List.length_singleton]; omega)
              have HM6 := Lib.hid (show (((sortW (l.take vn)).take q ++ [x]).length + ((sortW (l.take vn)).drop q).length) * 40 ≤ 140737488355328 by rw [List.length_append, List.length_take, List.length_drop, HSL.out]; simp only [List.length_singleton]; omega)
              have hbs : wz.heap.size ≤ wl.heap.size := by have := (hn3).size; omega
              have HO2 := Lib.hid hO2
              have hslz := Owns.slIn Wri.encOk HG2.out.own
              have HSZ := Lib.hid hslz
              clear hslz
              by_cases hvq : vc = q
              · have hD : SlIn wl 3 Wri.enc (.slice vA 0 0) ((sortW (l.take vn)).drop q) := by rw [List.drop_eq_nil_of_le (by rw [HSL.out]; omega)]; exact SlIn.empty _ _ _ _ _
                subst hvq
                go_wp2_with (at_builtin; refine wpList_app wTy Wri.encOk rfl _ _ rfl rfl rfl hO2 hD HM5.out HM6.out hbs ?_; intro v9 w9 ho9 hg9 hb9; have hge := HO2.out.blockGe)
                have ho9b : Owns w9 (w.heap.size + 2) 43 3 Wri.enc v9 (sortW (l.take (vn + 1))) := by rw [HFIN.out]; exact ho9.lower (by omega)
                have hG9 : RSo w w9 c r s (some ⟨b, off, none⟩) cap l (vn + 1) v9 := ⟨HG2.out.box.grown hg9 (fun e => by have := hge _ e.symm; omega), HG2.out.res.grown hg9 (fun e => by have := hge _ e.symm; omega), HG2.out.new.grown hg9 (fun k hk => by have := hge _ hk; omega), ho9b⟩
                go_roundw
                case rel => exact ⟨vn + 1, by omega, by go_num, hG9⟩
                case measure => simp [intOf]; omega
              · have hD := HSZ.out.drop_far (k := q) (by rw [HSL.out]; omega) hvq
                go_wp2_with (at_builtin; refine wpList_app wTy Wri.encOk rfl _ _ rfl rfl rfl hO2 hD HM5.out HM6.out hbs ?_; intro v9 w9 ho9 hg9 hb9; have hge := HO2.out.blockGe)
                have ho9b : Owns w9 (w.heap.size + 2) 43 3 Wri.enc v9 (sortW (l.take (vn + 1))) := by rw [HFIN.out]; exact ho9.lower (by omega)
                have hG9 : RSo w w9 c r s (some ⟨b, off, none⟩) cap l (vn + 1) v9 := ⟨HG2.out.box.grown hg9 (fun e => by have := hge _ e.symm; omega), HG2.out.res.grown hg9 (fun e => by have := hge _ e.symm; omega), HG2.out.new.grown hg9 (fun k hk => by have := hge _ hk; omega), ho9b⟩
                go_roundw
                case rel => exact ⟨vn + 1, by omega, by go_num, hG9⟩
                case measure => simp [intOf]; omega
          · go_simp
            have hn0 := ((New.refl wz).drew).alloc (.cells #[.string x.key, .string x.val, .bool x.gone] 43)
            have hx0 := Blk.mk_new wz.drew 43 #[.string x.key, .string x.val, .bool x.gone]
            try rw [World.size_alloc] at hx0
            refine hK.out _ _ ?_ (fun hHeld => ?_)
            · exact Held.of hn0
            clear hK K
            try simp only [Act.put, List.setIfInBounds_toArray, List.set_cons_zero, List.set_cons_succ]
            refine wpAnyH_ready (rs := [0]) (by kernel_rfl) (by simp) ?_
            refine AllReadyH.cons (o := { dst := some 36, op := Op.buildSlice 23 0 #[], type := 23, pos := "ref.go:41", after := #[], guard := none }) rfl (fun K hK => ?_) AllReadyH.nil
            go_simp
            have hn1 := (hn0).alloc (.cells #[] 43)
            have ho1 : Owns ((wz.drew.alloc (.cells #[.string x.key, .string x.val, .bool x.gone] 43)).alloc (.cells #[] 43)) wz.heap.size 43 3 Wri.enc (.slice (some ⟨(wz.drew.alloc (.cells #[.string x.key, .string x.val, .bool x.gone] 43)).heap.size, 0, none⟩) 0 0) ([] : List Wri) := World.ownsRow_made (wz.drew.alloc (.cells #[.string x.key, .string x.val, .bool x.gone] 43)) #[] 0 (by have := (hn0).size; omega) (by unfold maxLen; omega) rfl
            try rw [World.size_alloc] at ho1
            have hx1 := hx0.alloc (.cells #[] 43)
            refine hK.out _ _ ?_ (fun hHeld => ?_)
            · exact Held.of hn1
            clear hK K
            try simp only [Act.put, List.setIfInBounds_toArray, List.set_cons_zero, List.set_cons_succ]
            refine wpAnyH_ready (rs := [4]) (by kernel_rfl) (by simp) ?_
            refine AllReadyH.cons (o := { dst := some 40, op := Op.call { callee := Callee.builtin Builtin.append, args := #[Operand.tmp 36, Operand.tmp 39], argTypes := #[23, 23] }, type := 23, pos := "ref.go:41", after := #[{ on := 0, ground := Ground.data }, { on := 3, ground := Ground.data }], guard := none }) rfl (fun K hK => ?_) AllReadyH.nil
            refine step_app wTy Wri.encOk rfl (.tmp 36) (.tmp 39) rfl rfl rfl ho1 (hT.new (hn1)) HM1.out HM2.out (hn1).size ?_
            intro va2 wa2 ho2 hg2 _
            have hn2 := (hn1).grown hg2 (fun k hk => ho1.blockGe k hk)
            have hx2 := hx1.grown hg2 (by intro e; injection e with e; have e2 : (wz.drew : World).heap.size = (wz : World).heap.size := rfl; dsimp only at e; omega)
            refine hK.out _ _ ?_ (fun hHeld => ?_)
            · exact Held.of hn2
            clear hK K
            try simp only [Act.put, List.setIfInBounds_toArray, List.set_cons_zero, List.set_cons_succ]
            refine wpAnyH_ready (rs := [11]) (by kernel_rfl) (by simp) ?_
            refine AllReadyH.cons (o := { dst := some 47, op := Op.call { callee := Callee.builtin Builtin.append, args := #[Operand.tmp 40, Operand.tmp 46], argTypes := #[23, 23] }, type := 23, pos := "ref.go:41", after := #[{ on := 4, ground := Ground.data }, { on := 10, ground := Ground.data }, { on := 4, ground := Ground.chain }], guard := none }) rfl (fun K hK => ?_) AllReadyH.nil
            refine step_app wTy Wri.encOk rfl (.tmp 40) (.tmp 46) rfl rfl rfl ho2 (SlIn.one (x := x) hx2 Wri.encOk rfl) HM3.out HM4.out (hn2).size ?_
            intro va3 wa3 ho3 hg3 _
            have hn3 := (hn2).grown hg3 (fun k hk => ho2.blockGe k hk)
            refine hK.out _ _ ?_ (fun hHeld => ?_)
            · exact Held.of hn3
            clear hK K
            try simp only [Act.put, List.setIfInBounds_toArray, List.set_cons_zero, List.set_cons_succ]
            refine wpAnyH_take (i := 12) (oi := { dst := some 6, op := Op.assign (Operand.tmp 47), type := 23, pos := "ref.go:41", after := #[{ on := 11, ground := Ground.data }, { on := 11, ground := Ground.chain }, { on := 0, ground := Ground.phase }, { on := 1, ground := Ground.phase }, { on := 2, ground := Ground.phase }, { on := 3, ground := Ground.phase }, { on := 4, ground := Ground.phase }, { on := 5, ground := Ground.phase }, { on := 6, ground := Ground.phase }, { on := 7, ground := Ground.phase }, { on := 8, ground := Ground.phase }, { on := 9, ground := Ground.phase }, { on := 10, ground := Ground.phase }, { on := 11, ground := Ground.phase }], guard := none }) (v := ?_) rfl (by kernel_rfl) (by kernel_rfl) (by kernel_rfl) (fun _ _ _ h => h) (Or.inl ⟨by rfl, ?_⟩) (by assumption) ?_
            rotate_left
            · (intro wq hSw; (try dsimp only at hSw); go_simp; first | done | with_reducible rfl)
            try simp only [Act.put, List.setIfInBounds_toArray, List.set_cons_zero, List.set_cons_succ]
            refine wpAnyH_done (by kernel_rfl) ?_ _
            have hG2 := hG.keep hn3
            have hO2 := ho3
            rw [List.nil_append] at hO2
            clear hHeld
            go_upto_region 9 with fail
            generalize wa3 = wl at *
            have HG2 := Lib.hid hG2
            clear hG2
            have HM5 := Lib.hid (show ((sortW (l.take vn)).take q ++ [x]).length + ((sortW (l.take vn)).drop q).length ≤ maxLen by unfold maxLen; rw [List.length_append, List.length_take, List.length_drop, HSL.out]; simp only [List.length_singleton]; omega)
            have HM6 := Lib.hid (show (((sortW (l.take vn)).take q ++ [x]).length + ((sortW (l.take vn)).drop q).length) * 40 ≤ 140737488355328 by rw [List.length_append, List.length_take, List.length_drop, HSL.out]; simp only [List.length_singleton]; omega)
            have hbs : wz.heap.size ≤ wl.heap.size := by have := (hn3).size; omega
            have HO2 := Lib.hid hO2
            have hslz := Owns.slIn Wri.encOk HG2.out.own
            have HSZ := Lib.hid hslz
            clear hslz
            by_cases hvq : vc = q
            · have hD : SlIn wl 3 Wri.enc (.slice vA 0 0) ((sortW (l.take vn)).drop q) := by rw [List.drop_eq_nil_of_le (by rw [HSL.out]; omega)]; exact SlIn.empty _ _ _ _ _
              subst hvq
              go_wp2_with (at_builtin; refine wpList_app wTy Wri.encOk rfl _ _ rfl rfl rfl hO2 hD HM5.out HM6.out hbs ?_; intro v9 w9 ho9 hg9 hb9; have hge := HO2.out.blockGe)
              have ho9b : Owns w9 (w.heap.size + 2) 43 3 Wri.enc v9 (sortW (l.take (vn + 1))) := by rw [HFIN.out]; exact ho9.lower (by omega)
              have hG9 : RSo w w9 c r s (some ⟨b, off, none⟩) cap l (vn + 1) v9 := ⟨HG2.out.box.grown hg9 (fun e => by have := hge _ e.symm; omega), HG2.out.res.grown hg9 (fun e => by have := hge _ e.symm; omega), HG2.out.new.grown hg9 (fun k hk => by have := hge _ hk; omega), ho9b⟩
              go_roundw
              case rel => exact ⟨vn + 1, by omega, by go_num, hG9⟩
              case measure => simp [intOf]; omega
            · have hD := HSZ.out.drop_far (k := q) (by rw [HSL.out]; omega) hvq
              go_wp2_with (at_builtin; refine wpList_app wTy Wri.encOk rfl _ _ rfl rfl rfl hO2 hD HM5.out HM6.out hbs ?_; intro v9 w9 ho9 hg9 hb9; have hge := HO2.out.blockGe)
              have ho9b : Owns w9 (w.heap.size + 2) 43 3 Wri.enc v9 (sortW (l.take (vn + 1))) := by rw [HFIN.out]; exact ho9.lower (by omega)
              have hG9 : RSo w w9 c r s (some ⟨b, off, none⟩) cap l (vn + 1) v9 := ⟨HG2.out.box.grown hg9 (fun e => by have := hge _ e.symm; omega), HG2.out.res.grown hg9 (fun e => by have := hge _ e.symm; omega), HG2.out.new.grown hg9 (fun k hk => by have := hge _ hk; omega), ho9b⟩
              go_roundw
              case rel => exact ⟨vn + 1, by omega, by go_num, hG9⟩
              case measure => simp [intOf]; omega
        | cons y Q =>
          obtain ⟨m, hm⟩ : ∃ m, m = Q.length := ⟨_, rfl⟩
          have hqm : q = m + 1 := by rw [hm]; simpa using hql.symm
          have ey : (sortW (l.take vn))[m]? = some y := by unfold sortW; rw [hf, hm, List.reverse_append, List.reverse_cons, List.append_assoc, ← List.length_reverse]; exact at_len _ _ _
          obtain ⟨b2, off2, rfl, y0⟩ := row_key hG.own ey
          have HF := Lib.hid hf
          have HE := Lib.hid he
          have HG := Lib.hid hG
          obtain ⟨p0, p1, p2, p3, p4, pz⟩ := Blk4F hG.box
          obtain ⟨x0, x1, x2⟩ := SlIn.three (fun k x h j u hu => (hG.new.cells.1 _ _ hbb).trans (hc k x h j u hu)) HX.out
          have hj3 : IntKind.i64.wrap ((q : Int) - 1) = (m : Int) := by rw [IntWalk.i64_in _ (by omega)]; omega
          have hd : decide ((0 : Int) < (q : Int)) = true := by rw [decide_eq_true_eq]; omega
          have hd2 : decide (0 < q) = true := by rw [decide_eq_true_eq]; omega
          have hd3 : 0 < q := by omega
          have hj0 : (0 : Int) ≤ (m : Int) := by omega
          have hj1 : (m : Int) < (vn : Int) := by omega
          have hj1n : m < vn := by omega
          have HM := Lib.hid hm
          have HQ := Lib.hid hqm
          clear hf he hql ey hm hqm
          cases hlx : Op.bytesLess x.key.toList y.key.toList with
          | true =>
            have h3 : Op.bytesLess y.key.toList x.key.toList = false := by have h := le_or y.key x.key; rw [hlx] at h; simp at h; exact h.1
            have h4 : (y.key.toList == x.key.toList) = false := by have h := le_or y.key x.key; rw [hlx, h3] at h; simpa using h
            have HR : Hid (RSin w wr c r s (some ⟨b, off, none⟩) cap l vn (.slice (some ⟨b2, off2, none⟩) vn vc) x m) := Lib.hid ⟨HG.out, P ++ [y], Q, by rw [HF.out]; simp, HM.out.symm, by rw [HE.out]; show P ++ (if ltW x y = true then y :: insW x Q else x :: y :: Q) = _; rw [if_pos (show ltW x y = true from hlx)]; simp⟩
            clear hG HG
            go_quiet (fail)
            go_wp2_with fail
            go_roundw
            case rel => exact ⟨m, by have := HQ.out; omega, rfl, HR.out.1.keep ((New.refl _).drewN _), HR.out.2⟩
            case measure => have := HQ.out; simp [intOf]; omega
          | false =>
            have HO : Hid (RSat w wr c r s (some ⟨b, off, none⟩) cap l vn (.slice (some ⟨b2, off2, none⟩) vn vc) x q) := Lib.hid (by have h := rs_end HX.out hG HF.out HE.out (insW_hold hlx); rw [List.length_cons, ← HM.out, ← HQ.out] at h; exact h)
            cases h3 : Op.bytesLess y.key.toList x.key.toList with
            | true =>
              go_quiet (fail)
              have HO : Hid (RSat w (wr.drewN nq) c r s (some ⟨b, off, none⟩) cap l vn (.slice (some ⟨b2, off2, none⟩) vn vc) x q) := Lib.hid ⟨HO.out.1.keep ((New.refl _).drewN _), HO.out.2⟩
              clear hG
              generalize wr.drewN nq = wz at *
              clear p0 p1 p2 p3 p4 pz x0 x1 x2 y0 HG
              obtain ⟨hG, hqk, hql, hfin⟩ := HO.out
              have HFIN := Lib.hid hfin
              clear hfin HO
              obtain ⟨p0, p1, p2, p3, p4, pz⟩ := Blk4F hG.box
              obtain ⟨x0, x1, x2⟩ := SlIn.three (fun k x h j u hu => (hG.new.cells.1 _ _ hbb).trans (hc k x h j u hu)) HX.out
              have hrz := hG.res.lt
              have hbz : b < wz.heap.size := Nat.lt_of_lt_of_le hbb hG.new.size
              have hvc := (SlIn.cap_le (Owns.slIn Wri.encOk hG.own)).1
              rw [HSL.out] at hvc hql
              have hq0 : (0 : Int) ≤ (q : Int) := by omega
              have hq1 : (q : Int) ≤ (vc : Int) := by omega
              have hq2 : (q : Int) ≤ (vn : Int) := by omega
              have hqn : (q : Int).toNat = q := by omega
              have hT := (Owns.slIn Wri.encOk hG.own).take (k := q) (c' := vc) (by rw [HSL.out]; omega) (by omega)
              have HM1 := Lib.hid (show ([] : List Wri).length + ((sortW (l.take vn)).take q).length ≤ maxLen by unfold maxLen; rw [List.length_take, HSL.out]; simp only [List.length_nil]; omega)
              have HM2 := Lib.hid (show (([] : List Wri).length + ((sortW (l.take vn)).take q).length) * 40 ≤ 140737488355328 by rw [List.length_take, HSL.out]; simp only [List.length_nil]; omega)
              have HM3 := Lib.hid (show ([] ++ (sortW (l.take vn)).take q).length + [x].length ≤ maxLen by unfold maxLen; rw [List.nil_append, List.length_take, HSL.out]; simp only [List.length_singleton]; omega)
              have HM4 := Lib.hid (show (([] ++ (sortW (l.take vn)).take q).length + [x].length) * 40 ≤ 140737488355328 by rw [List.nil_append, List.length_take, HSL.out]; simp only [List.length_singleton]; omega)
              go_upto_region 8 with fail
              refine wp_region_held_drew (S := fun w' => Held wz w') (by kernel_rfl) (Held.of (New.refl _).drew) (fun hHeld => ?_)
              refine wpAnyH_take (i := 1) (oi := { dst := some 37, op := Op.move (Operand.tmp 3), type := 23, pos := "ref.go:41", after := #[], guard := none }) (v := ?_) rfl (by kernel_rfl) (by kernel_rfl) (by kernel_rfl) (fun _ _ _ h => h) (Or.inl ⟨by rfl, ?_⟩) (by assumption) ?_
              rotate_left
              · (intro wq hSw; (try dsimp only at hSw); go_simp; first | done | with_reducible rfl)
              try simp only [Act.put, List.setIfInBounds_toArray, List.set_cons_zero, List.set_cons_succ]
              refine wpAnyH_take (i := 2) (oi := { dst := some 38, op := Op.move (Operand.tmp 5), type := 3, pos := "ref.go:41", after := #[], guard := none }) (v := ?_) rfl (by kernel_rfl) (by kernel_rfl) (by kernel_rfl) (fun _ _ _ h => h) (Or.inl ⟨by rfl, ?_⟩) (by assumption) ?_
              rotate_left
              · (intro wq hSw; (try dsimp only at hSw); go_simp; first | done | with_reducible rfl)
              try simp only [Act.put, List.setIfInBounds_toArray, List.set_cons_zero, List.set_cons_succ]
              refine wpAnyH_take (i := 3) (oi := { dst := some 39, op := Op.slice 23 (Operand.tmp 37) none (some (Operand.tmp 38)) none, type := 23, pos := "ref.go:41", after := #[{ on := 1, ground := Ground.data }, { on := 2, ground := Ground.data }], guard := none }) (v := ?_) rfl (by kernel_rfl) (by kernel_rfl) (by kernel_rfl) (fun _ _ _ h => h) (Or.inl ⟨by rfl, ?_⟩) (by assumption) ?_
              rotate_left
              · (intro wq hSw; (try dsimp only at hSw); go_simp; first | done | with_reducible rfl)
              try simp only [Act.put, List.setIfInBounds_toArray, List.set_cons_zero, List.set_cons_succ]
              refine wpAnyH_take (i := 5) (oi := { dst := some 41, op := Op.fieldAddr 25 (Operand.tmp 1) 3, type := 0, pos := "ref.go:41", after := #[], guard := none }) (v := ?_) rfl (by kernel_rfl) (by kernel_rfl) (by kernel_rfl) (fun _ _ _ h => h) (Or.inl ⟨by rfl, ?_⟩) (by assumption) ?_
              rotate_left
              · (intro wq hSw; (try dsimp only at hSw); go_simp; first | done | with_reducible rfl)
              try simp only [Act.put, List.setIfInBounds_toArray, List.set_cons_zero, List.set_cons_succ]
              refine wpAnyH_take (i := 6) (oi := { dst := some 42, op := Op.load 23 (Operand.tmp 41), type := 23, pos := "ref.go:41", after := #[{ on := 5, ground := Ground.data }], guard := none }) (v := ?_) rfl (by kernel_rfl) (by kernel_rfl) (by kernel_rfl) (fun _ _ _ h => h) (Or.inl ⟨by rfl, ?_⟩) (by assumption) ?_
              rotate_left
              · (intro wq hSw; (try dsimp only at hSw); go_simp; first | done | with_reducible rfl)
              try simp only [Act.put, List.setIfInBounds_toArray, List.set_cons_zero, List.set_cons_succ]
              refine wpAnyH_take (i := 7) (oi := { dst := some 43, op := Op.move (Operand.tmp 4), type := 3, pos := "ref.go:41", after := #[], guard := none }) (v := ?_) rfl (by kernel_rfl) (by kernel_rfl) (by kernel_rfl) (fun _ _ _ h => h) (Or.inl ⟨by rfl, ?_⟩) (by assumption) ?_
              rotate_left
              · (intro wq hSw; (try dsimp only at hSw); go_simp; first | done | with_reducible rfl)
              try simp only [Act.put, List.setIfInBounds_toArray, List.set_cons_zero, List.set_cons_succ]
              refine wpAnyH_take (i := 8) (oi := { dst := some 44, op := Op.indexAddr 23 (Operand.tmp 42) (Operand.tmp 43), type := 0, pos := "ref.go:41", after := #[{ on := 6, ground := Ground.data }, { on := 7, ground := Ground.data }], guard := none }) (v := ?_) rfl (by kernel_rfl) (by kernel_rfl) (by kernel_rfl) (fun _ _ _ h => h) (Or.inl ⟨by rfl, ?_⟩) (by assumption) ?_
              rotate_left
              · (intro wq hSw; (try dsimp only at hSw); go_simp; first | done | with_reducible rfl)
              try simp only [Act.put, List.setIfInBounds_toArray, List.set_cons_zero, List.set_cons_succ]
              refine wpAnyH_take (i := 9) (oi := { dst := some 45, op := Op.load 43 (Operand.tmp 44), type := 43, pos := "ref.go:41", after := #[{ on := 8, ground := Ground.data }], guard := none }) (v := ?_) rfl (by kernel_rfl) (by kernel_rfl) (by kernel_rfl) (fun _ _ _ h => h) (Or.inl ⟨by rfl, ?_⟩) (by assumption) ?_
              rotate_left
              · (intro wq hSw; (try dsimp only at hSw); go_simp; first | done | with_reducible rfl)
              try simp only [Act.put, List.setIfInBounds_toArray, List.set_cons_zero, List.set_cons_succ]
              refine wpAnyH_ready (rs := [0, 10]) (by kernel_rfl) (by simp) ?_
              refine AllReadyH.cons (o := { dst := some 36, op := Op.buildSlice 23 0 #[], type := 23, pos := "ref.go:41", after := #[], guard := none }) rfl (fun K hK => ?_) (AllReadyH.cons (o := { dst := some 46, op := Op.buildSlice 23 1 #[(0, Operand.tmp 45)], type := 23, pos := "ref.go:41", after := #[{ on := 9, ground := Ground.data }], guard := none }) rfl (fun K hK => ?_) AllReadyH.nil)
              · go_simp
                have hn0 := ((New.refl wz).drew).alloc (.cells #[] 43)
                have ho0 : Owns (wz.drew.alloc (.cells #[] 43)) wz.heap.size 43 3 Wri.enc (.slice (some ⟨wz.drew.heap.size, 0, none⟩) 0 0) ([] : List Wri) := World.ownsRow_made wz.drew #[] 0 (by have := ((New.refl wz).drew).size; omega) (by unfold maxLen; omega) rfl
                try rw [World.size_alloc] at ho0
                refine hK.out _ _ ?_ (fun hHeld => ?_)
                · exact Held.of hn0
                clear hK K
                try simp only [Act.put, List.setIfInBounds_toArray, List.set_cons_zero, List.set_cons_succ]
                refine wpAnyH_ready (rs := [4, 10]) (by kernel_rfl) (by simp) ?_
                refine AllReadyH.cons (o := { dst := some 40, op := Op.call { callee := Callee.builtin Builtin.append, args := #[Operand.tmp 36, Operand.tmp 39], argTypes := #[23, 23] }, type := 23, pos := "ref.go:41", after := #[{ on := 0, ground := Ground.data }, { on := 3, ground := Ground.data }], guard := none }) rfl (fun K hK => ?_) (AllReadyH.cons (o := { dst := some 46, op := Op.buildSlice 23 1 #[(0, Operand.tmp 45)], type := 23, pos := "ref.go:41", after := #[{ on := 9, ground := Ground.data }], guard := none }) rfl (fun K hK => ?_) AllReadyH.nil)
                · refine step_app wTy Wri.encOk rfl (.tmp 36) (.tmp 39) rfl rfl rfl ho0 (hT.new (hn0)) HM1.out HM2.out (hn0).size ?_
                  intro va1 wa1 ho1 hg1 _
                  have hn1 := (hn0).grown hg1 (fun k hk => ho0.blockGe k hk)
                  refine hK.out _ _ ?_ (fun hHeld => ?_)
                  · exact Held.of hn1
                  clear hK K
                  try simp only [Act.put, List.setIfInBounds_toArray, List.set_cons_zero, List.set_cons_succ]
                  refine wpAnyH_ready (rs := [10]) (by kernel_rfl) (by simp) ?_
                  refine AllReadyH.cons (o := { dst := some 46, op := Op.buildSlice 23 1 #[(0, Operand.tmp 45)], type := 23, pos := "ref.go:41", after := #[{ on := 9, ground := Ground.data }], guard := none }) rfl (fun K hK => ?_) AllReadyH.nil
                  go_simp
                  have hn2 := (hn1).alloc (.cells #[.string x.key, .string x.val, .bool x.gone] 43)
                  have hx2 := Blk.mk_new wa1 43 #[.string x.key, .string x.val, .bool x.gone]
                  try rw [World.size_alloc] at hx2
                  have ho2 := ho1.alloc (.cells #[.string x.key, .string x.val, .bool x.gone] 43)
                  refine hK.out _ _ ?_ (fun hHeld => ?_)
                  · exact Held.of hn2
                  clear hK K
                  try simp only [Act.put, List.setIfInBounds_toArray, List.set_cons_zero, List.set_cons_succ]
                  refine wpAnyH_ready (rs := [11]) (by kernel_rfl) (by simp) ?_
                  refine AllReadyH.cons (o := { dst := some 47, op := Op.call { callee := Callee.builtin Builtin.append, args := #[Operand.tmp 40, Operand.tmp 46], argTypes := #[23, 23] }, type := 23, pos := "ref.go:41", after := #[{ on := 4, ground := Ground.data }, { on := 10, ground := Ground.data }, { on := 4, ground := Ground.chain }], guard := none }) rfl (fun K hK => ?_) AllReadyH.nil
                  refine step_app wTy Wri.encOk rfl (.tmp 40) (.tmp 46) rfl rfl rfl ho2 (SlIn.one (x := x) hx2 Wri.encOk rfl) HM3.out HM4.out (hn2).size ?_
                  intro va3 wa3 ho3 hg3 _
                  have hn3 := (hn2).grown hg3 (fun k hk => ho2.blockGe k hk)
                  refine hK.out _ _ ?_ (fun hHeld => ?_)
                  · exact Held.of hn3
                  clear hK K
                  try simp only [Act.put, List.setIfInBounds_toArray, List.set_cons_zero, List.set_cons_succ]
                  refine wpAnyH_take (i := 12) (oi := { dst := some 6, op := Op.assign (Operand.tmp 47), type := 23, pos := "ref.go:41", after := #[{ on := 11, ground := Ground.data }, { on := 11, ground := Ground.chain }, { on := 0, ground := Ground.phase }, { on := 1, ground := Ground.phase }, { on := 2, ground := Ground.phase }, { on := 3, ground := Ground.phase }, { on := 4, ground := Ground.phase }, { on := 5, ground := Ground.phase }, { on := 6, ground := Ground.phase }, { on := 7, ground := Ground.phase }, { on := 8, ground := Ground.phase }, { on := 9, ground := Ground.phase }, { on := 10, ground := Ground.phase }, { on := 11, ground := Ground.phase }], guard := none }) (v := ?_) rfl (by kernel_rfl) (by kernel_rfl) (by kernel_rfl) (fun _ _ _ h => h) (Or.inl ⟨by rfl, ?_⟩) (by assumption) ?_
                  rotate_left
                  · (intro wq hSw; (try dsimp only at hSw); go_simp; first | done | with_reducible rfl)
                  try simp only [Act.put, List.setIfInBounds_toArray, List.set_cons_zero, List.set_cons_succ]
                  refine wpAnyH_done (by kernel_rfl) ?_ _
                  have hG2 := hG.keep hn3
                  have hO2 := ho3
                  rw [List.nil_append] at hO2
                  clear hHeld
                  go_upto_region 9 with fail
                  generalize wa3 = wl at *
                  have HG2 := Lib.hid hG2
                  clear hG2
                  have HM5 := Lib.hid (show ((sortW (l.take vn)).take q ++ [x]).length + ((sortW (l.take vn)).drop q).length ≤ maxLen by unfold maxLen; rw [List.length_append, List.length_take, List.length_drop, HSL.out]; simp only [List.length_singleton]; omega)
                  have HM6 := Lib.hid (show (((sortW (l.take vn)).take q ++ [x]).length + ((sortW (l.take vn)).drop q).length) * 40 ≤ 140737488355328 by rw [List.length_append, List.length_take, List.length_drop, HSL.out]; simp only [List.length_singleton]; omega)
                  have hbs : wz.heap.size ≤ wl.heap.size := by have := (hn3).size; omega
                  have HO2 := Lib.hid hO2
                  have hslz := Owns.slIn Wri.encOk HG2.out.own
                  have HSZ := Lib.hid hslz
                  clear hslz
                  by_cases hvq : vc = q
                  · have hD : SlIn wl 3 Wri.enc (.slice (some ⟨b2, off2, none⟩) 0 0) ((sortW (l.take vn)).drop q) := by rw [List.drop_eq_nil_of_le (by rw [HSL.out]; omega)]; exact SlIn.empty _ _ _ _ _
                    subst hvq
                    go_wp2_with (at_builtin; refine wpList_app wTy Wri.encOk rfl _ _ rfl rfl rfl hO2 hD HM5.out HM6.out hbs ?_; intro v9 w9 ho9 hg9 hb9; have hge := HO2.out.blockGe)
                    have ho9b : Owns w9 (w.heap.size + 2) 43 3 Wri.enc v9 (sortW (l.take (vn + 1))) := by rw [HFIN.out]; exact ho9.lower (by omega)
                    have hG9 : RSo w w9 c r s (some ⟨b, off, none⟩) cap l (vn + 1) v9 := ⟨HG2.out.box.grown hg9 (fun e => by have := hge _ e.symm; omega), HG2.out.res.grown hg9 (fun e => by have := hge _ e.symm; omega), HG2.out.new.grown hg9 (fun k hk => by have := hge _ hk; omega), ho9b⟩
                    go_roundw
                    case rel => exact ⟨vn + 1, by omega, by go_num, hG9⟩
                    case measure => simp [intOf]; omega
                  · have hD := HSZ.out.drop_at (k := q) (by rw [HSL.out]; omega) hvq
                    go_wp2_with (at_builtin; refine wpList_app wTy Wri.encOk rfl _ _ rfl rfl rfl hO2 hD HM5.out HM6.out hbs ?_; intro v9 w9 ho9 hg9 hb9; have hge := HO2.out.blockGe)
                    have ho9b : Owns w9 (w.heap.size + 2) 43 3 Wri.enc v9 (sortW (l.take (vn + 1))) := by rw [HFIN.out]; exact ho9.lower (by omega)
                    have hG9 : RSo w w9 c r s (some ⟨b, off, none⟩) cap l (vn + 1) v9 := ⟨HG2.out.box.grown hg9 (fun e => by have := hge _ e.symm; omega), HG2.out.res.grown hg9 (fun e => by have := hge _ e.symm; omega), HG2.out.new.grown hg9 (fun k hk => by have := hge _ hk; omega), ho9b⟩
                    go_roundw
                    case rel => exact ⟨vn + 1, by omega, by go_num, hG9⟩
                    case measure => simp [intOf]; omega
                · go_simp
                  have hn1 := (hn0).alloc (.cells #[.string x.key, .string x.val, .bool x.gone] 43)
                  have hx1 := Blk.mk_new (wz.drew.alloc (.cells #[] 43)) 43 #[.string x.key, .string x.val, .bool x.gone]
                  try rw [World.size_alloc] at hx1
                  have ho1 := ho0.alloc (.cells #[.string x.key, .string x.val, .bool x.gone] 43)
                  refine hK.out _ _ ?_ (fun hHeld => ?_)
                  · exact Held.of hn1
                  clear hK K
                  try simp only [Act.put, List.setIfInBounds_toArray, List.set_cons_zero, List.set_cons_succ]
                  refine wpAnyH_ready (rs := [4]) (by kernel_rfl) (by simp) ?_
                  refine AllReadyH.cons (o := { dst := some 40, op := Op.call { callee := Callee.builtin Builtin.append, args := #[Operand.tmp 36, Operand.tmp 39], argTypes := #[23, 23] }, type := 23, pos := "ref.go:41", after := #[{ on := 0, ground := Ground.data }, { on := 3, ground := Ground.data }], guard := none }) rfl (fun K hK => ?_) AllReadyH.nil
                  refine step_app wTy Wri.encOk rfl (.tmp 36) (.tmp 39) rfl rfl rfl ho1 (hT.new (hn1)) HM1.out HM2.out (hn1).size ?_
                  intro va2 wa2 ho2 hg2 _
                  have hn2 := (hn1).grown hg2 (fun k hk => ho1.blockGe k hk)
                  have hx2 := hx1.grown hg2 (by intro e; injection e with e; have e2 : (wz.drew : World).heap.size = (wz : World).heap.size := rfl; dsimp only at e; omega)
                  refine hK.out _ _ ?_ (fun hHeld => ?_)
                  · exact Held.of hn2
                  clear hK K
                  try simp only [Act.put, List.setIfInBounds_toArray, List.set_cons_zero, List.set_cons_succ]
                  refine wpAnyH_ready (rs := [11]) (by kernel_rfl) (by simp) ?_
                  refine AllReadyH.cons (o := { dst := some 47, op := Op.call { callee := Callee.builtin Builtin.append, args := #[Operand.tmp 40, Operand.tmp 46], argTypes := #[23, 23] }, type := 23, pos := "ref.go:41", after := #[{ on := 4, ground := Ground.data }, { on := 10, ground := Ground.data }, { on := 4, ground := Ground.chain }], guard := none }) rfl (fun K hK => ?_) AllReadyH.nil
                  refine step_app wTy Wri.encOk rfl (.tmp 40) (.tmp 46) rfl rfl rfl ho2 (SlIn.one (x := x) hx2 Wri.encOk rfl) HM3.out HM4.out (hn2).size ?_
                  intro va3 wa3 ho3 hg3 _
                  have hn3 := (hn2).grown hg3 (fun k hk => ho2.blockGe k hk)
                  refine hK.out _ _ ?_ (fun hHeld => ?_)
                  · exact Held.of hn3
                  clear hK K
                  try simp only [Act.put, List.setIfInBounds_toArray, List.set_cons_zero, List.set_cons_succ]
                  refine wpAnyH_take (i := 12) (oi := { dst := some 6, op := Op.assign (Operand.tmp 47), type := 23, pos := "ref.go:41", after := #[{ on := 11, ground := Ground.data }, { on := 11, ground := Ground.chain }, { on := 0, ground := Ground.phase }, { on := 1, ground := Ground.phase }, { on := 2, ground := Ground.phase }, { on := 3, ground := Ground.phase }, { on := 4, ground := Ground.phase }, { on := 5, ground := Ground.phase }, { on := 6, ground := Ground.phase }, { on := 7, ground := Ground.phase }, { on := 8, ground := Ground.phase }, { on := 9, ground := Ground.phase }, { on := 10, ground := Ground.phase }, { on := 11, ground := Ground.phase }], guard := none }) (v := ?_) rfl (by kernel_rfl) (by kernel_rfl) (by kernel_rfl) (fun _ _ _ h => h) (Or.inl ⟨by rfl, ?_⟩) (by assumption) ?_
                  rotate_left
                  · (intro wq hSw; (try dsimp only at hSw); go_simp; first | done | with_reducible rfl)
                  try simp only [Act.put, List.setIfInBounds_toArray, List.set_cons_zero, List.set_cons_succ]
                  refine wpAnyH_done (by kernel_rfl) ?_ _
                  have hG2 := hG.keep hn3
                  have hO2 := ho3
                  rw [List.nil_append] at hO2
                  clear hHeld
                  go_upto_region 9 with fail
                  generalize wa3 = wl at *
                  have HG2 := Lib.hid hG2
                  clear hG2
                  have HM5 := Lib.hid (show ((sortW (l.take vn)).take q ++ [x]).length + ((sortW (l.take vn)).drop q).length ≤ maxLen by unfold maxLen; rw [List.length_append, List.length_take, List.length_drop, HSL.out]; simp only [List.length_singleton]; omega)
                  have HM6 := Lib.hid (show (((sortW (l.take vn)).take q ++ [x]).length + ((sortW (l.take vn)).drop q).length) * 40 ≤ 140737488355328 by rw [List.length_append, List.length_take, List.length_drop, HSL.out]; simp only [List.length_singleton]; omega)
                  have hbs : wz.heap.size ≤ wl.heap.size := by have := (hn3).size; omega
                  have HO2 := Lib.hid hO2
                  have hslz := Owns.slIn Wri.encOk HG2.out.own
                  have HSZ := Lib.hid hslz
                  clear hslz
                  by_cases hvq : vc = q
                  · have hD : SlIn wl 3 Wri.enc (.slice (some ⟨b2, off2, none⟩) 0 0) ((sortW (l.take vn)).drop q) := by rw [List.drop_eq_nil_of_le (by rw [HSL.out]; omega)]; exact SlIn.empty _ _ _ _ _
                    subst hvq
                    go_wp2_with (at_builtin; refine wpList_app wTy Wri.encOk rfl _ _ rfl rfl rfl hO2 hD HM5.out HM6.out hbs ?_; intro v9 w9 ho9 hg9 hb9; have hge := HO2.out.blockGe)
                    have ho9b : Owns w9 (w.heap.size + 2) 43 3 Wri.enc v9 (sortW (l.take (vn + 1))) := by rw [HFIN.out]; exact ho9.lower (by omega)
                    have hG9 : RSo w w9 c r s (some ⟨b, off, none⟩) cap l (vn + 1) v9 := ⟨HG2.out.box.grown hg9 (fun e => by have := hge _ e.symm; omega), HG2.out.res.grown hg9 (fun e => by have := hge _ e.symm; omega), HG2.out.new.grown hg9 (fun k hk => by have := hge _ hk; omega), ho9b⟩
                    go_roundw
                    case rel => exact ⟨vn + 1, by omega, by go_num, hG9⟩
                    case measure => simp [intOf]; omega
                  · have hD := HSZ.out.drop_at (k := q) (by rw [HSL.out]; omega) hvq
                    go_wp2_with (at_builtin; refine wpList_app wTy Wri.encOk rfl _ _ rfl rfl rfl hO2 hD HM5.out HM6.out hbs ?_; intro v9 w9 ho9 hg9 hb9; have hge := HO2.out.blockGe)
                    have ho9b : Owns w9 (w.heap.size + 2) 43 3 Wri.enc v9 (sortW (l.take (vn + 1))) := by rw [HFIN.out]; exact ho9.lower (by omega)
                    have hG9 : RSo w w9 c r s (some ⟨b, off, none⟩) cap l (vn + 1) v9 := ⟨HG2.out.box.grown hg9 (fun e => by have := hge _ e.symm; omega), HG2.out.res.grown hg9 (fun e => by have := hge _ e.symm; omega), HG2.out.new.grown hg9 (fun k hk => by have := hge _ hk; omega), ho9b⟩
                    go_roundw
                    case rel => exact ⟨vn + 1, by omega, by go_num, hG9⟩
                    case measure => simp [intOf]; omega
              · go_simp
                have hn0 := ((New.refl wz).drew).alloc (.cells #[.string x.key, .string x.val, .bool x.gone] 43)
                have hx0 := Blk.mk_new wz.drew 43 #[.string x.key, .string x.val, .bool x.gone]
                try rw [World.size_alloc] at hx0
                refine hK.out _ _ ?_ (fun hHeld => ?_)
                · exact Held.of hn0
                clear hK K
                try simp only [Act.put, List.setIfInBounds_toArray, List.set_cons_zero, List.set_cons_succ]
                refine wpAnyH_ready (rs := [0]) (by kernel_rfl) (by simp) ?_
                refine AllReadyH.cons (o := { dst := some 36, op := Op.buildSlice 23 0 #[], type := 23, pos := "ref.go:41", after := #[], guard := none }) rfl (fun K hK => ?_) AllReadyH.nil
                go_simp
                have hn1 := (hn0).alloc (.cells #[] 43)
                have ho1 : Owns ((wz.drew.alloc (.cells #[.string x.key, .string x.val, .bool x.gone] 43)).alloc (.cells #[] 43)) wz.heap.size 43 3 Wri.enc (.slice (some ⟨(wz.drew.alloc (.cells #[.string x.key, .string x.val, .bool x.gone] 43)).heap.size, 0, none⟩) 0 0) ([] : List Wri) := World.ownsRow_made (wz.drew.alloc (.cells #[.string x.key, .string x.val, .bool x.gone] 43)) #[] 0 (by have := (hn0).size; omega) (by unfold maxLen; omega) rfl
                try rw [World.size_alloc] at ho1
                have hx1 := hx0.alloc (.cells #[] 43)
                refine hK.out _ _ ?_ (fun hHeld => ?_)
                · exact Held.of hn1
                clear hK K
                try simp only [Act.put, List.setIfInBounds_toArray, List.set_cons_zero, List.set_cons_succ]
                refine wpAnyH_ready (rs := [4]) (by kernel_rfl) (by simp) ?_
                refine AllReadyH.cons (o := { dst := some 40, op := Op.call { callee := Callee.builtin Builtin.append, args := #[Operand.tmp 36, Operand.tmp 39], argTypes := #[23, 23] }, type := 23, pos := "ref.go:41", after := #[{ on := 0, ground := Ground.data }, { on := 3, ground := Ground.data }], guard := none }) rfl (fun K hK => ?_) AllReadyH.nil
                refine step_app wTy Wri.encOk rfl (.tmp 36) (.tmp 39) rfl rfl rfl ho1 (hT.new (hn1)) HM1.out HM2.out (hn1).size ?_
                intro va2 wa2 ho2 hg2 _
                have hn2 := (hn1).grown hg2 (fun k hk => ho1.blockGe k hk)
                have hx2 := hx1.grown hg2 (by intro e; injection e with e; have e2 : (wz.drew : World).heap.size = (wz : World).heap.size := rfl; dsimp only at e; omega)
                refine hK.out _ _ ?_ (fun hHeld => ?_)
                · exact Held.of hn2
                clear hK K
                try simp only [Act.put, List.setIfInBounds_toArray, List.set_cons_zero, List.set_cons_succ]
                refine wpAnyH_ready (rs := [11]) (by kernel_rfl) (by simp) ?_
                refine AllReadyH.cons (o := { dst := some 47, op := Op.call { callee := Callee.builtin Builtin.append, args := #[Operand.tmp 40, Operand.tmp 46], argTypes := #[23, 23] }, type := 23, pos := "ref.go:41", after := #[{ on := 4, ground := Ground.data }, { on := 10, ground := Ground.data }, { on := 4, ground := Ground.chain }], guard := none }) rfl (fun K hK => ?_) AllReadyH.nil
                refine step_app wTy Wri.encOk rfl (.tmp 40) (.tmp 46) rfl rfl rfl ho2 (SlIn.one (x := x) hx2 Wri.encOk rfl) HM3.out HM4.out (hn2).size ?_
                intro va3 wa3 ho3 hg3 _
                have hn3 := (hn2).grown hg3 (fun k hk => ho2.blockGe k hk)
                refine hK.out _ _ ?_ (fun hHeld => ?_)
                · exact Held.of hn3
                clear hK K
                try simp only [Act.put, List.setIfInBounds_toArray, List.set_cons_zero, List.set_cons_succ]
                refine wpAnyH_take (i := 12) (oi := { dst := some 6, op := Op.assign (Operand.tmp 47), type := 23, pos := "ref.go:41", after := #[{ on := 11, ground := Ground.data }, { on := 11, ground := Ground.chain }, { on := 0, ground := Ground.phase }, { on := 1, ground := Ground.phase }, { on := 2, ground := Ground.phase }, { on := 3, ground := Ground.phase }, { on := 4, ground := Ground.phase }, { on := 5, ground := Ground.phase }, { on := 6, ground := Ground.phase }, { on := 7, ground := Ground.phase }, { on := 8, ground := Ground.phase }, { on := 9, ground := Ground.phase }, { on := 10, ground := Ground.phase }, { on := 11, ground := Ground.phase }], guard := none }) (v := ?_) rfl (by kernel_rfl) (by kernel_rfl) (by kernel_rfl) (fun _ _ _ h => h) (Or.inl ⟨by rfl, ?_⟩) (by assumption) ?_
                rotate_left
                · (intro wq hSw; (try dsimp only at hSw); go_simp; first | done | with_reducible rfl)
                try simp only [Act.put, List.setIfInBounds_toArray, List.set_cons_zero, List.set_cons_succ]
                refine wpAnyH_done (by kernel_rfl) ?_ _
                have hG2 := hG.keep hn3
                have hO2 := ho3
                rw [List.nil_append] at hO2
                clear hHeld
                go_upto_region 9 with fail
                generalize wa3 = wl at *
                have HG2 := Lib.hid hG2
                clear hG2
                have HM5 := Lib.hid (show ((sortW (l.take vn)).take q ++ [x]).length + ((sortW (l.take vn)).drop q).length ≤ maxLen by unfold maxLen; rw [List.length_append, List.length_take, List.length_drop, HSL.out]; simp only [List.length_singleton]; omega)
                have HM6 := Lib.hid (show (((sortW (l.take vn)).take q ++ [x]).length + ((sortW (l.take vn)).drop q).length) * 40 ≤ 140737488355328 by rw [List.length_append, List.length_take, List.length_drop, HSL.out]; simp only [List.length_singleton]; omega)
                have hbs : wz.heap.size ≤ wl.heap.size := by have := (hn3).size; omega
                have HO2 := Lib.hid hO2
                have hslz := Owns.slIn Wri.encOk HG2.out.own
                have HSZ := Lib.hid hslz
                clear hslz
                by_cases hvq : vc = q
                · have hD : SlIn wl 3 Wri.enc (.slice (some ⟨b2, off2, none⟩) 0 0) ((sortW (l.take vn)).drop q) := by rw [List.drop_eq_nil_of_le (by rw [HSL.out]; omega)]; exact SlIn.empty _ _ _ _ _
                  subst hvq
                  go_wp2_with (at_builtin; refine wpList_app wTy Wri.encOk rfl _ _ rfl rfl rfl hO2 hD HM5.out HM6.out hbs ?_; intro v9 w9 ho9 hg9 hb9; have hge := HO2.out.blockGe)
                  have ho9b : Owns w9 (w.heap.size + 2) 43 3 Wri.enc v9 (sortW (l.take (vn + 1))) := by rw [HFIN.out]; exact ho9.lower (by omega)
                  have hG9 : RSo w w9 c r s (some ⟨b, off, none⟩) cap l (vn + 1) v9 := ⟨HG2.out.box.grown hg9 (fun e => by have := hge _ e.symm; omega), HG2.out.res.grown hg9 (fun e => by have := hge _ e.symm; omega), HG2.out.new.grown hg9 (fun k hk => by have := hge _ hk; omega), ho9b⟩
                  go_roundw
                  case rel => exact ⟨vn + 1, by omega, by go_num, hG9⟩
                  case measure => simp [intOf]; omega
                · have hD := HSZ.out.drop_at (k := q) (by rw [HSL.out]; omega) hvq
                  go_wp2_with (at_builtin; refine wpList_app wTy Wri.encOk rfl _ _ rfl rfl rfl hO2 hD HM5.out HM6.out hbs ?_; intro v9 w9 ho9 hg9 hb9; have hge := HO2.out.blockGe)
                  have ho9b : Owns w9 (w.heap.size + 2) 43 3 Wri.enc v9 (sortW (l.take (vn + 1))) := by rw [HFIN.out]; exact ho9.lower (by omega)
                  have hG9 : RSo w w9 c r s (some ⟨b, off, none⟩) cap l (vn + 1) v9 := ⟨HG2.out.box.grown hg9 (fun e => by have := hge _ e.symm; omega), HG2.out.res.grown hg9 (fun e => by have := hge _ e.symm; omega), HG2.out.new.grown hg9 (fun k hk => by have := hge _ hk; omega), ho9b⟩
                  go_roundw
                  case rel => exact ⟨vn + 1, by omega, by go_num, hG9⟩
                  case measure => simp [intOf]; omega
            | false =>
              have h4 : (y.key.toList == x.key.toList) = true := by have h := le_or y.key x.key; rw [hlx, h3] at h; simpa using h
              go_quiet (fail)
              have HO : Hid (RSat w (wr.drewN nq) c r s (some ⟨b, off, none⟩) cap l vn (.slice (some ⟨b2, off2, none⟩) vn vc) x q) := Lib.hid ⟨HO.out.1.keep ((New.refl _).drewN _), HO.out.2⟩
              clear hG
              generalize wr.drewN nq = wz at *
              clear p0 p1 p2 p3 p4 pz x0 x1 x2 y0 HG
              obtain ⟨hG, hqk, hql, hfin⟩ := HO.out
              have HFIN := Lib.hid hfin
              clear hfin HO
              obtain ⟨p0, p1, p2, p3, p4, pz⟩ := Blk4F hG.box
              obtain ⟨x0, x1, x2⟩ := SlIn.three (fun k x h j u hu => (hG.new.cells.1 _ _ hbb).trans (hc k x h j u hu)) HX.out
              have hrz := hG.res.lt
              have hbz : b < wz.heap.size := Nat.lt_of_lt_of_le hbb hG.new.size
              have hvc := (SlIn.cap_le (Owns.slIn Wri.encOk hG.own)).1
              rw [HSL.out] at hvc hql
              have hq0 : (0 : Int) ≤ (q : Int) := by omega
              have hq1 : (q : Int) ≤ (vc : Int) := by omega
              have hq2 : (q : Int) ≤ (vn : Int) := by omega
              have hqn : (q : Int).toNat = q := by omega
              have hT := (Owns.slIn Wri.encOk hG.own).take (k := q) (c' := vc) (by rw [HSL.out]; omega) (by omega)
              have HM1 := Lib.hid (show ([] : List Wri).length + ((sortW (l.take vn)).take q).length ≤ maxLen by unfold maxLen; rw [List.length_take, HSL.out]; simp only [List.length_nil]; omega)
              have HM2 := Lib.hid (show (([] : List Wri).length + ((sortW (l.take vn)).take q).length) * 40 ≤ 140737488355328 by rw [List.length_take, HSL.out]; simp only [List.length_nil]; omega)
              have HM3 := Lib.hid (show ([] ++ (sortW (l.take vn)).take q).length + [x].length ≤ maxLen by unfold maxLen; rw [List.nil_append, List.length_take, HSL.out]; simp only [List.length_singleton]; omega)
              have HM4 := Lib.hid (show (([] ++ (sortW (l.take vn)).take q).length + [x].length) * 40 ≤ 140737488355328 by rw [List.nil_append, List.length_take, HSL.out]; simp only [List.length_singleton]; omega)
              go_upto_region 8 with fail
              refine wp_region_held_drew (S := fun w' => Held wz w') (by kernel_rfl) (Held.of (New.refl _).drew) (fun hHeld => ?_)
              refine wpAnyH_take (i := 1) (oi := { dst := some 37, op := Op.move (Operand.tmp 3), type := 23, pos := "ref.go:41", after := #[], guard := none }) (v := ?_) rfl (by kernel_rfl) (by kernel_rfl) (by kernel_rfl) (fun _ _ _ h => h) (Or.inl ⟨by rfl, ?_⟩) (by assumption) ?_
              rotate_left
              · (intro wq hSw; (try dsimp only at hSw); go_simp; first | done | with_reducible rfl)
              try simp only [Act.put, List.setIfInBounds_toArray, List.set_cons_zero, List.set_cons_succ]
              refine wpAnyH_take (i := 2) (oi := { dst := some 38, op := Op.move (Operand.tmp 5), type := 3, pos := "ref.go:41", after := #[], guard := none }) (v := ?_) rfl (by kernel_rfl) (by kernel_rfl) (by kernel_rfl) (fun _ _ _ h => h) (Or.inl ⟨by rfl, ?_⟩) (by assumption) ?_
              rotate_left
              · (intro wq hSw; (try dsimp only at hSw); go_simp; first | done | with_reducible rfl)
              try simp only [Act.put, List.setIfInBounds_toArray, List.set_cons_zero, List.set_cons_succ]
              refine wpAnyH_take (i := 3) (oi := { dst := some 39, op := Op.slice 23 (Operand.tmp 37) none (some (Operand.tmp 38)) none, type := 23, pos := "ref.go:41", after := #[{ on := 1, ground := Ground.data }, { on := 2, ground := Ground.data }], guard := none }) (v := ?_) rfl (by kernel_rfl) (by kernel_rfl) (by kernel_rfl) (fun _ _ _ h => h) (Or.inl ⟨by rfl, ?_⟩) (by assumption) ?_
              rotate_left
              · (intro wq hSw; (try dsimp only at hSw); go_simp; first | done | with_reducible rfl)
              try simp only [Act.put, List.setIfInBounds_toArray, List.set_cons_zero, List.set_cons_succ]
              refine wpAnyH_take (i := 5) (oi := { dst := some 41, op := Op.fieldAddr 25 (Operand.tmp 1) 3, type := 0, pos := "ref.go:41", after := #[], guard := none }) (v := ?_) rfl (by kernel_rfl) (by kernel_rfl) (by kernel_rfl) (fun _ _ _ h => h) (Or.inl ⟨by rfl, ?_⟩) (by assumption) ?_
              rotate_left
              · (intro wq hSw; (try dsimp only at hSw); go_simp; first | done | with_reducible rfl)
              try simp only [Act.put, List.setIfInBounds_toArray, List.set_cons_zero, List.set_cons_succ]
              refine wpAnyH_take (i := 6) (oi := { dst := some 42, op := Op.load 23 (Operand.tmp 41), type := 23, pos := "ref.go:41", after := #[{ on := 5, ground := Ground.data }], guard := none }) (v := ?_) rfl (by kernel_rfl) (by kernel_rfl) (by kernel_rfl) (fun _ _ _ h => h) (Or.inl ⟨by rfl, ?_⟩) (by assumption) ?_
              rotate_left
              · (intro wq hSw; (try dsimp only at hSw); go_simp; first | done | with_reducible rfl)
              try simp only [Act.put, List.setIfInBounds_toArray, List.set_cons_zero, List.set_cons_succ]
              refine wpAnyH_take (i := 7) (oi := { dst := some 43, op := Op.move (Operand.tmp 4), type := 3, pos := "ref.go:41", after := #[], guard := none }) (v := ?_) rfl (by kernel_rfl) (by kernel_rfl) (by kernel_rfl) (fun _ _ _ h => h) (Or.inl ⟨by rfl, ?_⟩) (by assumption) ?_
              rotate_left
              · (intro wq hSw; (try dsimp only at hSw); go_simp; first | done | with_reducible rfl)
              try simp only [Act.put, List.setIfInBounds_toArray, List.set_cons_zero, List.set_cons_succ]
              refine wpAnyH_take (i := 8) (oi := { dst := some 44, op := Op.indexAddr 23 (Operand.tmp 42) (Operand.tmp 43), type := 0, pos := "ref.go:41", after := #[{ on := 6, ground := Ground.data }, { on := 7, ground := Ground.data }], guard := none }) (v := ?_) rfl (by kernel_rfl) (by kernel_rfl) (by kernel_rfl) (fun _ _ _ h => h) (Or.inl ⟨by rfl, ?_⟩) (by assumption) ?_
              rotate_left
              · (intro wq hSw; (try dsimp only at hSw); go_simp; first | done | with_reducible rfl)
              try simp only [Act.put, List.setIfInBounds_toArray, List.set_cons_zero, List.set_cons_succ]
              refine wpAnyH_take (i := 9) (oi := { dst := some 45, op := Op.load 43 (Operand.tmp 44), type := 43, pos := "ref.go:41", after := #[{ on := 8, ground := Ground.data }], guard := none }) (v := ?_) rfl (by kernel_rfl) (by kernel_rfl) (by kernel_rfl) (fun _ _ _ h => h) (Or.inl ⟨by rfl, ?_⟩) (by assumption) ?_
              rotate_left
              · (intro wq hSw; (try dsimp only at hSw); go_simp; first | done | with_reducible rfl)
              try simp only [Act.put, List.setIfInBounds_toArray, List.set_cons_zero, List.set_cons_succ]
              refine wpAnyH_ready (rs := [0, 10]) (by kernel_rfl) (by simp) ?_
              refine AllReadyH.cons (o := { dst := some 36, op := Op.buildSlice 23 0 #[], type := 23, pos := "ref.go:41", after := #[], guard := none }) rfl (fun K hK => ?_) (AllReadyH.cons (o := { dst := some 46, op := Op.buildSlice 23 1 #[(0, Operand.tmp 45)], type := 23, pos := "ref.go:41", after := #[{ on := 9, ground := Ground.data }], guard := none }) rfl (fun K hK => ?_) AllReadyH.nil)
              · go_simp
                have hn0 := ((New.refl wz).drew).alloc (.cells #[] 43)
                have ho0 : Owns (wz.drew.alloc (.cells #[] 43)) wz.heap.size 43 3 Wri.enc (.slice (some ⟨wz.drew.heap.size, 0, none⟩) 0 0) ([] : List Wri) := World.ownsRow_made wz.drew #[] 0 (by have := ((New.refl wz).drew).size; omega) (by unfold maxLen; omega) rfl
                try rw [World.size_alloc] at ho0
                refine hK.out _ _ ?_ (fun hHeld => ?_)
                · exact Held.of hn0
                clear hK K
                try simp only [Act.put, List.setIfInBounds_toArray, List.set_cons_zero, List.set_cons_succ]
                refine wpAnyH_ready (rs := [4, 10]) (by kernel_rfl) (by simp) ?_
                refine AllReadyH.cons (o := { dst := some 40, op := Op.call { callee := Callee.builtin Builtin.append, args := #[Operand.tmp 36, Operand.tmp 39], argTypes := #[23, 23] }, type := 23, pos := "ref.go:41", after := #[{ on := 0, ground := Ground.data }, { on := 3, ground := Ground.data }], guard := none }) rfl (fun K hK => ?_) (AllReadyH.cons (o := { dst := some 46, op := Op.buildSlice 23 1 #[(0, Operand.tmp 45)], type := 23, pos := "ref.go:41", after := #[{ on := 9, ground := Ground.data }], guard := none }) rfl (fun K hK => ?_) AllReadyH.nil)
                · refine step_app wTy Wri.encOk rfl (.tmp 36) (.tmp 39) rfl rfl rfl ho0 (hT.new (hn0)) HM1.out HM2.out (hn0).size ?_
                  intro va1 wa1 ho1 hg1 _
                  have hn1 := (hn0).grown hg1 (fun k hk => ho0.blockGe k hk)
                  refine hK.out _ _ ?_ (fun hHeld => ?_)
                  · exact Held.of hn1
                  clear hK K
                  try simp only [Act.put, List.setIfInBounds_toArray, List.set_cons_zero, List.set_cons_succ]
                  refine wpAnyH_ready (rs := [10]) (by kernel_rfl) (by simp) ?_
                  refine AllReadyH.cons (o := { dst := some 46, op := Op.buildSlice 23 1 #[(0, Operand.tmp 45)], type := 23, pos := "ref.go:41", after := #[{ on := 9, ground := Ground.data }], guard := none }) rfl (fun K hK => ?_) AllReadyH.nil
                  go_simp
                  have hn2 := (hn1).alloc (.cells #[.string x.key, .string x.val, .bool x.gone] 43)
                  have hx2 := Blk.mk_new wa1 43 #[.string x.key, .string x.val, .bool x.gone]
                  try rw [World.size_alloc] at hx2
                  have ho2 := ho1.alloc (.cells #[.string x.key, .string x.val, .bool x.gone] 43)
                  refine hK.out _ _ ?_ (fun hHeld => ?_)
                  · exact Held.of hn2
                  clear hK K
                  try simp only [Act.put, List.setIfInBounds_toArray, List.set_cons_zero, List.set_cons_succ]
                  refine wpAnyH_ready (rs := [11]) (by kernel_rfl) (by simp) ?_
                  refine AllReadyH.cons (o := { dst := some 47, op := Op.call { callee := Callee.builtin Builtin.append, args := #[Operand.tmp 40, Operand.tmp 46], argTypes := #[23, 23] }, type := 23, pos := "ref.go:41", after := #[{ on := 4, ground := Ground.data }, { on := 10, ground := Ground.data }, { on := 4, ground := Ground.chain }], guard := none }) rfl (fun K hK => ?_) AllReadyH.nil
                  refine step_app wTy Wri.encOk rfl (.tmp 40) (.tmp 46) rfl rfl rfl ho2 (SlIn.one (x := x) hx2 Wri.encOk rfl) HM3.out HM4.out (hn2).size ?_
                  intro va3 wa3 ho3 hg3 _
                  have hn3 := (hn2).grown hg3 (fun k hk => ho2.blockGe k hk)
                  refine hK.out _ _ ?_ (fun hHeld => ?_)
                  · exact Held.of hn3
                  clear hK K
                  try simp only [Act.put, List.setIfInBounds_toArray, List.set_cons_zero, List.set_cons_succ]
                  refine wpAnyH_take (i := 12) (oi := { dst := some 6, op := Op.assign (Operand.tmp 47), type := 23, pos := "ref.go:41", after := #[{ on := 11, ground := Ground.data }, { on := 11, ground := Ground.chain }, { on := 0, ground := Ground.phase }, { on := 1, ground := Ground.phase }, { on := 2, ground := Ground.phase }, { on := 3, ground := Ground.phase }, { on := 4, ground := Ground.phase }, { on := 5, ground := Ground.phase }, { on := 6, ground := Ground.phase }, { on := 7, ground := Ground.phase }, { on := 8, ground := Ground.phase }, { on := 9, ground := Ground.phase }, { on := 10, ground := Ground.phase }, { on := 11, ground := Ground.phase }], guard := none }) (v := ?_) rfl (by kernel_rfl) (by kernel_rfl) (by kernel_rfl) (fun _ _ _ h => h) (Or.inl ⟨by rfl, ?_⟩) (by assumption) ?_
                  rotate_left
                  · (intro wq hSw; (try dsimp only at hSw); go_simp; first | done | with_reducible rfl)
                  try simp only [Act.put, List.setIfInBounds_toArray, List.set_cons_zero, List.set_cons_succ]
                  refine wpAnyH_done (by kernel_rfl) ?_ _
                  have hG2 := hG.keep hn3
                  have hO2 := ho3
                  rw [List.nil_append] at hO2
                  clear hHeld
                  go_upto_region 9 with fail
                  generalize wa3 = wl at *
                  have HG2 := Lib.hid hG2
                  clear hG2
                  have HM5 := Lib.hid (show ((sortW (l.take vn)).take q ++ [x]).length + ((sortW (l.take vn)).drop q).length ≤ maxLen by unfold maxLen; rw [List.length_append, List.length_take, List.length_drop, HSL.out]; simp only [List.length_singleton]; omega)
                  have HM6 := Lib.hid (show (((sortW (l.take vn)).take q ++ [x]).length + ((sortW (l.take vn)).drop q).length) * 40 ≤ 140737488355328 by rw [List.length_append, List.length_take, List.length_drop, HSL.out]; simp only [List.length_singleton]; omega)
                  have hbs : wz.heap.size ≤ wl.heap.size := by have := (hn3).size; omega
                  have HO2 := Lib.hid hO2
                  have hslz := Owns.slIn Wri.encOk HG2.out.own
                  have HSZ := Lib.hid hslz
                  clear hslz
                  by_cases hvq : vc = q
                  · have hD : SlIn wl 3 Wri.enc (.slice (some ⟨b2, off2, none⟩) 0 0) ((sortW (l.take vn)).drop q) := by rw [List.drop_eq_nil_of_le (by rw [HSL.out]; omega)]; exact SlIn.empty _ _ _ _ _
                    subst hvq
                    go_wp2_with (at_builtin; refine wpList_app wTy Wri.encOk rfl _ _ rfl rfl rfl hO2 hD HM5.out HM6.out hbs ?_; intro v9 w9 ho9 hg9 hb9; have hge := HO2.out.blockGe)
                    have ho9b : Owns w9 (w.heap.size + 2) 43 3 Wri.enc v9 (sortW (l.take (vn + 1))) := by rw [HFIN.out]; exact ho9.lower (by omega)
                    have hG9 : RSo w w9 c r s (some ⟨b, off, none⟩) cap l (vn + 1) v9 := ⟨HG2.out.box.grown hg9 (fun e => by have := hge _ e.symm; omega), HG2.out.res.grown hg9 (fun e => by have := hge _ e.symm; omega), HG2.out.new.grown hg9 (fun k hk => by have := hge _ hk; omega), ho9b⟩
                    go_roundw
                    case rel => exact ⟨vn + 1, by omega, by go_num, hG9⟩
                    case measure => simp [intOf]; omega
                  · have hD := HSZ.out.drop_at (k := q) (by rw [HSL.out]; omega) hvq
                    go_wp2_with (at_builtin; refine wpList_app wTy Wri.encOk rfl _ _ rfl rfl rfl hO2 hD HM5.out HM6.out hbs ?_; intro v9 w9 ho9 hg9 hb9; have hge := HO2.out.blockGe)
                    have ho9b : Owns w9 (w.heap.size + 2) 43 3 Wri.enc v9 (sortW (l.take (vn + 1))) := by rw [HFIN.out]; exact ho9.lower (by omega)
                    have hG9 : RSo w w9 c r s (some ⟨b, off, none⟩) cap l (vn + 1) v9 := ⟨HG2.out.box.grown hg9 (fun e => by have := hge _ e.symm; omega), HG2.out.res.grown hg9 (fun e => by have := hge _ e.symm; omega), HG2.out.new.grown hg9 (fun k hk => by have := hge _ hk; omega), ho9b⟩
                    go_roundw
                    case rel => exact ⟨vn + 1, by omega, by go_num, hG9⟩
                    case measure => simp [intOf]; omega
                · go_simp
                  have hn1 := (hn0).alloc (.cells #[.string x.key, .string x.val, .bool x.gone] 43)
                  have hx1 := Blk.mk_new (wz.drew.alloc (.cells #[] 43)) 43 #[.string x.key, .string x.val, .bool x.gone]
                  try rw [World.size_alloc] at hx1
                  have ho1 := ho0.alloc (.cells #[.string x.key, .string x.val, .bool x.gone] 43)
                  refine hK.out _ _ ?_ (fun hHeld => ?_)
                  · exact Held.of hn1
                  clear hK K
                  try simp only [Act.put, List.setIfInBounds_toArray, List.set_cons_zero, List.set_cons_succ]
                  refine wpAnyH_ready (rs := [4]) (by kernel_rfl) (by simp) ?_
                  refine AllReadyH.cons (o := { dst := some 40, op := Op.call { callee := Callee.builtin Builtin.append, args := #[Operand.tmp 36, Operand.tmp 39], argTypes := #[23, 23] }, type := 23, pos := "ref.go:41", after := #[{ on := 0, ground := Ground.data }, { on := 3, ground := Ground.data }], guard := none }) rfl (fun K hK => ?_) AllReadyH.nil
                  refine step_app wTy Wri.encOk rfl (.tmp 36) (.tmp 39) rfl rfl rfl ho1 (hT.new (hn1)) HM1.out HM2.out (hn1).size ?_
                  intro va2 wa2 ho2 hg2 _
                  have hn2 := (hn1).grown hg2 (fun k hk => ho1.blockGe k hk)
                  have hx2 := hx1.grown hg2 (by intro e; injection e with e; have e2 : (wz.drew : World).heap.size = (wz : World).heap.size := rfl; dsimp only at e; omega)
                  refine hK.out _ _ ?_ (fun hHeld => ?_)
                  · exact Held.of hn2
                  clear hK K
                  try simp only [Act.put, List.setIfInBounds_toArray, List.set_cons_zero, List.set_cons_succ]
                  refine wpAnyH_ready (rs := [11]) (by kernel_rfl) (by simp) ?_
                  refine AllReadyH.cons (o := { dst := some 47, op := Op.call { callee := Callee.builtin Builtin.append, args := #[Operand.tmp 40, Operand.tmp 46], argTypes := #[23, 23] }, type := 23, pos := "ref.go:41", after := #[{ on := 4, ground := Ground.data }, { on := 10, ground := Ground.data }, { on := 4, ground := Ground.chain }], guard := none }) rfl (fun K hK => ?_) AllReadyH.nil
                  refine step_app wTy Wri.encOk rfl (.tmp 40) (.tmp 46) rfl rfl rfl ho2 (SlIn.one (x := x) hx2 Wri.encOk rfl) HM3.out HM4.out (hn2).size ?_
                  intro va3 wa3 ho3 hg3 _
                  have hn3 := (hn2).grown hg3 (fun k hk => ho2.blockGe k hk)
                  refine hK.out _ _ ?_ (fun hHeld => ?_)
                  · exact Held.of hn3
                  clear hK K
                  try simp only [Act.put, List.setIfInBounds_toArray, List.set_cons_zero, List.set_cons_succ]
                  refine wpAnyH_take (i := 12) (oi := { dst := some 6, op := Op.assign (Operand.tmp 47), type := 23, pos := "ref.go:41", after := #[{ on := 11, ground := Ground.data }, { on := 11, ground := Ground.chain }, { on := 0, ground := Ground.phase }, { on := 1, ground := Ground.phase }, { on := 2, ground := Ground.phase }, { on := 3, ground := Ground.phase }, { on := 4, ground := Ground.phase }, { on := 5, ground := Ground.phase }, { on := 6, ground := Ground.phase }, { on := 7, ground := Ground.phase }, { on := 8, ground := Ground.phase }, { on := 9, ground := Ground.phase }, { on := 10, ground := Ground.phase }, { on := 11, ground := Ground.phase }], guard := none }) (v := ?_) rfl (by kernel_rfl) (by kernel_rfl) (by kernel_rfl) (fun _ _ _ h => h) (Or.inl ⟨by rfl, ?_⟩) (by assumption) ?_
                  rotate_left
                  · (intro wq hSw; (try dsimp only at hSw); go_simp; first | done | with_reducible rfl)
                  try simp only [Act.put, List.setIfInBounds_toArray, List.set_cons_zero, List.set_cons_succ]
                  refine wpAnyH_done (by kernel_rfl) ?_ _
                  have hG2 := hG.keep hn3
                  have hO2 := ho3
                  rw [List.nil_append] at hO2
                  clear hHeld
                  go_upto_region 9 with fail
                  generalize wa3 = wl at *
                  have HG2 := Lib.hid hG2
                  clear hG2
                  have HM5 := Lib.hid (show ((sortW (l.take vn)).take q ++ [x]).length + ((sortW (l.take vn)).drop q).length ≤ maxLen by unfold maxLen; rw [List.length_append, List.length_take, List.length_drop, HSL.out]; simp only [List.length_singleton]; omega)
                  have HM6 := Lib.hid (show (((sortW (l.take vn)).take q ++ [x]).length + ((sortW (l.take vn)).drop q).length) * 40 ≤ 140737488355328 by rw [List.length_append, List.length_take, List.length_drop, HSL.out]; simp only [List.length_singleton]; omega)
                  have hbs : wz.heap.size ≤ wl.heap.size := by have := (hn3).size; omega
                  have HO2 := Lib.hid hO2
                  have hslz := Owns.slIn Wri.encOk HG2.out.own
                  have HSZ := Lib.hid hslz
                  clear hslz
                  by_cases hvq : vc = q
                  · have hD : SlIn wl 3 Wri.enc (.slice (some ⟨b2, off2, none⟩) 0 0) ((sortW (l.take vn)).drop q) := by rw [List.drop_eq_nil_of_le (by rw [HSL.out]; omega)]; exact SlIn.empty _ _ _ _ _
                    subst hvq
                    go_wp2_with (at_builtin; refine wpList_app wTy Wri.encOk rfl _ _ rfl rfl rfl hO2 hD HM5.out HM6.out hbs ?_; intro v9 w9 ho9 hg9 hb9; have hge := HO2.out.blockGe)
                    have ho9b : Owns w9 (w.heap.size + 2) 43 3 Wri.enc v9 (sortW (l.take (vn + 1))) := by rw [HFIN.out]; exact ho9.lower (by omega)
                    have hG9 : RSo w w9 c r s (some ⟨b, off, none⟩) cap l (vn + 1) v9 := ⟨HG2.out.box.grown hg9 (fun e => by have := hge _ e.symm; omega), HG2.out.res.grown hg9 (fun e => by have := hge _ e.symm; omega), HG2.out.new.grown hg9 (fun k hk => by have := hge _ hk; omega), ho9b⟩
                    go_roundw
                    case rel => exact ⟨vn + 1, by omega, by go_num, hG9⟩
                    case measure => simp [intOf]; omega
                  · have hD := HSZ.out.drop_at (k := q) (by rw [HSL.out]; omega) hvq
                    go_wp2_with (at_builtin; refine wpList_app wTy Wri.encOk rfl _ _ rfl rfl rfl hO2 hD HM5.out HM6.out hbs ?_; intro v9 w9 ho9 hg9 hb9; have hge := HO2.out.blockGe)
                    have ho9b : Owns w9 (w.heap.size + 2) 43 3 Wri.enc v9 (sortW (l.take (vn + 1))) := by rw [HFIN.out]; exact ho9.lower (by omega)
                    have hG9 : RSo w w9 c r s (some ⟨b, off, none⟩) cap l (vn + 1) v9 := ⟨HG2.out.box.grown hg9 (fun e => by have := hge _ e.symm; omega), HG2.out.res.grown hg9 (fun e => by have := hge _ e.symm; omega), HG2.out.new.grown hg9 (fun k hk => by have := hge _ hk; omega), ho9b⟩
                    go_roundw
                    case rel => exact ⟨vn + 1, by omega, by go_num, hG9⟩
                    case measure => simp [intOf]; omega
              · go_simp
                have hn0 := ((New.refl wz).drew).alloc (.cells #[.string x.key, .string x.val, .bool x.gone] 43)
                have hx0 := Blk.mk_new wz.drew 43 #[.string x.key, .string x.val, .bool x.gone]
                try rw [World.size_alloc] at hx0
                refine hK.out _ _ ?_ (fun hHeld => ?_)
                · exact Held.of hn0
                clear hK K
                try simp only [Act.put, List.setIfInBounds_toArray, List.set_cons_zero, List.set_cons_succ]
                refine wpAnyH_ready (rs := [0]) (by kernel_rfl) (by simp) ?_
                refine AllReadyH.cons (o := { dst := some 36, op := Op.buildSlice 23 0 #[], type := 23, pos := "ref.go:41", after := #[], guard := none }) rfl (fun K hK => ?_) AllReadyH.nil
                go_simp
                have hn1 := (hn0).alloc (.cells #[] 43)
                have ho1 : Owns ((wz.drew.alloc (.cells #[.string x.key, .string x.val, .bool x.gone] 43)).alloc (.cells #[] 43)) wz.heap.size 43 3 Wri.enc (.slice (some ⟨(wz.drew.alloc (.cells #[.string x.key, .string x.val, .bool x.gone] 43)).heap.size, 0, none⟩) 0 0) ([] : List Wri) := World.ownsRow_made (wz.drew.alloc (.cells #[.string x.key, .string x.val, .bool x.gone] 43)) #[] 0 (by have := (hn0).size; omega) (by unfold maxLen; omega) rfl
                try rw [World.size_alloc] at ho1
                have hx1 := hx0.alloc (.cells #[] 43)
                refine hK.out _ _ ?_ (fun hHeld => ?_)
                · exact Held.of hn1
                clear hK K
                try simp only [Act.put, List.setIfInBounds_toArray, List.set_cons_zero, List.set_cons_succ]
                refine wpAnyH_ready (rs := [4]) (by kernel_rfl) (by simp) ?_
                refine AllReadyH.cons (o := { dst := some 40, op := Op.call { callee := Callee.builtin Builtin.append, args := #[Operand.tmp 36, Operand.tmp 39], argTypes := #[23, 23] }, type := 23, pos := "ref.go:41", after := #[{ on := 0, ground := Ground.data }, { on := 3, ground := Ground.data }], guard := none }) rfl (fun K hK => ?_) AllReadyH.nil
                refine step_app wTy Wri.encOk rfl (.tmp 36) (.tmp 39) rfl rfl rfl ho1 (hT.new (hn1)) HM1.out HM2.out (hn1).size ?_
                intro va2 wa2 ho2 hg2 _
                have hn2 := (hn1).grown hg2 (fun k hk => ho1.blockGe k hk)
                have hx2 := hx1.grown hg2 (by intro e; injection e with e; have e2 : (wz.drew : World).heap.size = (wz : World).heap.size := rfl; dsimp only at e; omega)
                refine hK.out _ _ ?_ (fun hHeld => ?_)
                · exact Held.of hn2
                clear hK K
                try simp only [Act.put, List.setIfInBounds_toArray, List.set_cons_zero, List.set_cons_succ]
                refine wpAnyH_ready (rs := [11]) (by kernel_rfl) (by simp) ?_
                refine AllReadyH.cons (o := { dst := some 47, op := Op.call { callee := Callee.builtin Builtin.append, args := #[Operand.tmp 40, Operand.tmp 46], argTypes := #[23, 23] }, type := 23, pos := "ref.go:41", after := #[{ on := 4, ground := Ground.data }, { on := 10, ground := Ground.data }, { on := 4, ground := Ground.chain }], guard := none }) rfl (fun K hK => ?_) AllReadyH.nil
                refine step_app wTy Wri.encOk rfl (.tmp 40) (.tmp 46) rfl rfl rfl ho2 (SlIn.one (x := x) hx2 Wri.encOk rfl) HM3.out HM4.out (hn2).size ?_
                intro va3 wa3 ho3 hg3 _
                have hn3 := (hn2).grown hg3 (fun k hk => ho2.blockGe k hk)
                refine hK.out _ _ ?_ (fun hHeld => ?_)
                · exact Held.of hn3
                clear hK K
                try simp only [Act.put, List.setIfInBounds_toArray, List.set_cons_zero, List.set_cons_succ]
                refine wpAnyH_take (i := 12) (oi := { dst := some 6, op := Op.assign (Operand.tmp 47), type := 23, pos := "ref.go:41", after := #[{ on := 11, ground := Ground.data }, { on := 11, ground := Ground.chain }, { on := 0, ground := Ground.phase }, { on := 1, ground := Ground.phase }, { on := 2, ground := Ground.phase }, { on := 3, ground := Ground.phase }, { on := 4, ground := Ground.phase }, { on := 5, ground := Ground.phase }, { on := 6, ground := Ground.phase }, { on := 7, ground := Ground.phase }, { on := 8, ground := Ground.phase }, { on := 9, ground := Ground.phase }, { on := 10, ground := Ground.phase }, { on := 11, ground := Ground.phase }], guard := none }) (v := ?_) rfl (by kernel_rfl) (by kernel_rfl) (by kernel_rfl) (fun _ _ _ h => h) (Or.inl ⟨by rfl, ?_⟩) (by assumption) ?_
                rotate_left
                · (intro wq hSw; (try dsimp only at hSw); go_simp; first | done | with_reducible rfl)
                try simp only [Act.put, List.setIfInBounds_toArray, List.set_cons_zero, List.set_cons_succ]
                refine wpAnyH_done (by kernel_rfl) ?_ _
                have hG2 := hG.keep hn3
                have hO2 := ho3
                rw [List.nil_append] at hO2
                clear hHeld
                go_upto_region 9 with fail
                generalize wa3 = wl at *
                have HG2 := Lib.hid hG2
                clear hG2
                have HM5 := Lib.hid (show ((sortW (l.take vn)).take q ++ [x]).length + ((sortW (l.take vn)).drop q).length ≤ maxLen by unfold maxLen; rw [List.length_append, List.length_take, List.length_drop, HSL.out]; simp only [List.length_singleton]; omega)
                have HM6 := Lib.hid (show (((sortW (l.take vn)).take q ++ [x]).length + ((sortW (l.take vn)).drop q).length) * 40 ≤ 140737488355328 by rw [List.length_append, List.length_take, List.length_drop, HSL.out]; simp only [List.length_singleton]; omega)
                have hbs : wz.heap.size ≤ wl.heap.size := by have := (hn3).size; omega
                have HO2 := Lib.hid hO2
                have hslz := Owns.slIn Wri.encOk HG2.out.own
                have HSZ := Lib.hid hslz
                clear hslz
                by_cases hvq : vc = q
                · have hD : SlIn wl 3 Wri.enc (.slice (some ⟨b2, off2, none⟩) 0 0) ((sortW (l.take vn)).drop q) := by rw [List.drop_eq_nil_of_le (by rw [HSL.out]; omega)]; exact SlIn.empty _ _ _ _ _
                  subst hvq
                  go_wp2_with (at_builtin; refine wpList_app wTy Wri.encOk rfl _ _ rfl rfl rfl hO2 hD HM5.out HM6.out hbs ?_; intro v9 w9 ho9 hg9 hb9; have hge := HO2.out.blockGe)
                  have ho9b : Owns w9 (w.heap.size + 2) 43 3 Wri.enc v9 (sortW (l.take (vn + 1))) := by rw [HFIN.out]; exact ho9.lower (by omega)
                  have hG9 : RSo w w9 c r s (some ⟨b, off, none⟩) cap l (vn + 1) v9 := ⟨HG2.out.box.grown hg9 (fun e => by have := hge _ e.symm; omega), HG2.out.res.grown hg9 (fun e => by have := hge _ e.symm; omega), HG2.out.new.grown hg9 (fun k hk => by have := hge _ hk; omega), ho9b⟩
                  go_roundw
                  case rel => exact ⟨vn + 1, by omega, by go_num, hG9⟩
                  case measure => simp [intOf]; omega
                · have hD := HSZ.out.drop_at (k := q) (by rw [HSL.out]; omega) hvq
                  go_wp2_with (at_builtin; refine wpList_app wTy Wri.encOk rfl _ _ rfl rfl rfl hO2 hD HM5.out HM6.out hbs ?_; intro v9 w9 ho9 hg9 hb9; have hge := HO2.out.blockGe)
                  have ho9b : Owns w9 (w.heap.size + 2) 43 3 Wri.enc v9 (sortW (l.take (vn + 1))) := by rw [HFIN.out]; exact ho9.lower (by omega)
                  have hG9 : RSo w w9 c r s (some ⟨b, off, none⟩) cap l (vn + 1) v9 := ⟨HG2.out.box.grown hg9 (fun e => by have := hge _ e.symm; omega), HG2.out.res.grown hg9 (fun e => by have := hge _ e.symm; omega), HG2.out.new.grown hg9 (fun k hk => by have := hge _ hk; omega), ho9b⟩
                  go_roundw
                  case rel => exact ⟨vn + 1, by omega, by go_num, hG9⟩
                  case measure => simp [intOf]; omega
    · have hlt2 : ¬ (k : Int) < (l.length : Int) := by omega
      have hG1 := hG.own
      rw [List.take_of_length_le (by omega)] at hG1
      have hu1 : Upd (· = w.heap.size) wr (wr.setCell ⟨w.heap.size, 3, none⟩ (.slice vA vn vc)) := (Upd.refl _ wr).setIn 3 _
      have hB1 : Blk (wr.setCell ⟨w.heap.size, 3, none⟩ (.slice vA vn vc)) w.heap.size 25 #[.int .u64 (c : Int), .int .u64 (r : Int), .int .u64 (s : Int), .slice vA vn vc] := Blk.set_ hG.box 3 _
      have hR1 := hG.res.upd hu1 (by omega)
      have hN1 := hG.new.upd hu1 (fun k hk => by omega)
      have hO1 := hG1.upd hu1 (fun k hk e => by have := (hG1.lt k hk).1; omega)
      clear hG1 hu1
      go_upto_region 11 with fail
      generalize wr.setCell ⟨w.heap.size, 3, none⟩ (.slice vA vn vc) = w5 at *
      obtain ⟨p0, p1, p2, p3, p4, pz⟩ := Blk4F hB1
      obtain ⟨q0, q1, q2, q3, q4, qz⟩ := Blk4F hR1
      clear hG
      go_wp2_with fail
      have hu6 : Upd (· = w.heap.size + 1) w5 ((((w5.setCell ⟨w.heap.size + 1, 0, none⟩ (.int .u64 (c : Int))).setCell ⟨w.heap.size + 1, 1, none⟩ (.int .u64 (r : Int))).setCell ⟨w.heap.size + 1, 2, none⟩ (.int .u64 (s : Int))).setCell ⟨w.heap.size + 1, 3, none⟩ (.slice vA vn vc)) := ((((Upd.refl _ w5).setIn 0 _).setIn 1 _).setIn 2 _).setIn 3 _
      exact bodyPost_ret (v := .agg #[.int .u64 (c : Int), .int .u64 (r : Int), .int .u64 (s : Int), .slice vA vn vc]) (by simp [results, Try.results16, go_sem, q1, q2, q3, q4]) rfl ⟨_, rfl, (hO1.upd hu6 (fun k hk e => by have := (hO1.lt k hk).1; omega)).lower (by omega), hN1.upd hu6 (fun k hk => by omega)⟩
end Go.Proofs.Ytdobingccipkkaa
