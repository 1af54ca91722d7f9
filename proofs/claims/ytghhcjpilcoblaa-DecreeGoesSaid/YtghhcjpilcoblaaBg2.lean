/- Chapter 21 (bag): slices.Clone and slices.Delete at packets; Take, Copy. Printed by genBg2.py. -/
import Derived.Test.YtghhcjpilcoblaaBg
import Derived.Test.YtghhcjpilcoblaaRow2
import Derived.Lib.SliceRun
namespace Go.Proofs.Ytghhcjpilcoblaa
open Go.RowKit Go.Lap
set_option linter.unusedVariables false
section
variable {w w' : World} {S : Nat → Prop} {bb : Nat} {v : Value} {l : List Pk} {base : Nat}
def ClPost (w : World) (l : List Pk) (e : Ending) (w' : World) : Prop := ∃ v', e = .returned v' ∧ Row w' w.heap.size 125 3 pkE v' l ∧ New w w'
set_option maxHeartbeats 1000000 in
theorem pclone (hs : SlIn w 3 pkE v l) (hl : l.length ≤ 1000) : Calls Try.prog 70 #[v] w (ClPost w l) := by
  obtain ⟨A, c, rfl, hlc, hor⟩ := id hs
  have hq := fun (w : World) (a : Option Addr) (n c n' c' : Nat) => Lib.run_eql_slice_nil (P := Try.prog) w 119 125 a n c n' c' Try.underlying119
  cases A with
  | none =>
    obtain rfl : l = [] := by
      rcases hor with h | ⟨b, off, h, _⟩
      · exact h
      · cases h
    clear hs hor
    go_enter Try.func70, Try.ntmps70
    go_wp2
    go_ret
    exact ⟨_, rfl, Row.nil _ _ _ _ _, New.refl _⟩
  | some a =>
    have HM1 := Lib.hid (show ([] : List Pk).length + l.length ≤ maxLen by unfold maxLen; simp; omega)
    have HM2 := Lib.hid (show (([] : List Pk).length + l.length) * 32 ≤ 140737488355328 by simp; omega)
    clear hor
    go_enter Try.func70, Try.ntmps70
    go_wp2_with (at_builtin; have ho0 : Owns _ w.heap.size 125 3 pkE _ ([] : List Pk) := World.ownsRow_made (base := w.heap.size) (e := 125) (size := 3) w #[] 0 (Nat.le_refl _) (by simp) (by simp); refine wpList_app pkTy pkOk rfl (.tmp 5) (.tmp 6) rfl rfl rfl ho0 (hs.alloc _) HM1.out HM2.out (by simp) ?_; intro v1 w1 ho1 hg1 _)
    go_ret
    exact ⟨v1, rfl, Owns.row ho1, ((New.refl w).alloc _).grown hg1 (fun k hk => ho0.blockGe k hk)⟩
theorem zPk (w : World) : (zeroValue 125).run Try.prog w = .ok (.agg #[.int .i64 0, .int .i64 0, .string ⟨#[]⟩]) w := by kernel_rfl
def DelPost (w : World) (g off cap : Nat) (l' : List Pk) (e : Ending) (w' : World) : Prop := ∃ n, n = l'.length ∧ e = .returned (.slice (some ⟨g, off, none⟩) n cap) ∧ RowAt w' 125 3 pkE g off cap l' ∧ Upd (· = g) w w'
set_option maxRecDepth 100000 in
set_option maxHeartbeats 4000000 in
theorem pdelete {g off cap : Nat} (h : RowAt w 125 3 pkE g off cap l) (hl : l.length ≤ 1000) {i j : Nat} (hij : i < j) (hj : j ≤ l.length) :
    Calls Try.prog 76 #[.slice (some ⟨g, off, none⟩) l.length cap, .int .i64 (i : Int), .int .i64 (j : Int)] w (DelPost w g off cap (l.take i ++ l.drop j)) := by
  have hlc := h.len.1
  have hcm := h.len.2
  unfold maxLen at hcm
  have hi1 : i ≤ l.length := by omega
  have HT := Lib.hid (h.take pkOk hi1)
  have hne : ((i : Int) == (j : Int)) = false := by rw [beq_eq_false_iff_ne]; omega
  obtain ⟨n, hn⟩ : ∃ n, (l.take i ++ l.drop j).length = n := ⟨_, rfl⟩
  have HN := Lib.hid hn
  have hn2 : n = i + (l.length - j) := by rw [← hn, List.length_append, List.length_take, List.length_drop]; omega
  have hil : i ≤ cap := by omega
  have hjc : j ≤ cap := by omega
  have hnl : n < l.length := by omega
  have hnc : n ≤ cap := by omega
  have hcj : ¬ cap = n := by omega
  have HLI := Lib.hid (show i = (l.take i).length by rw [List.length_take]; omega)
  have HRM := Lib.hid (show (l.take i).length + (l.drop j).length ≤ cap by rw [List.length_take, List.length_drop]; omega)
  have HK := Lib.hid (show (l.take i ++ l.drop j).length ≤ n by omega)
  have HK2 := Lib.hid (show n + (l.length - n) ≤ cap by omega)
  have HR := Lib.hid (Row.slIn pkOk (h.row (Nat.zero_le _)))
  clear hn hn2 h
  by_cases hcap : cap = j
  · subst hcap
    have HS := Lib.hid (show SlIn w 3 pkE (.slice (some ⟨g, off, none⟩) 0 0) (l.drop cap) by rw [List.drop_eq_nil_of_le hlc]; exact SlIn.empty _ _ _ _ _)
    go_enter Try.func76, Try.ntmps76
    go_wp2_with fail
    refine wp_region_held_drew (S := fun w' => True) (by kernel_rfl) (trivial) (fun hHeld => ?_)
    refine wpAnyH_take (i := 0) (oi := { dst := some 20, op := Op.move (Operand.tmp 0), type := 119, pos := "slices.go:232", after := #[], guard := none }) (v := ?_) rfl (by kernel_rfl) (by kernel_rfl) (by kernel_rfl) (fun _ _ _ h => h) (Or.inl ⟨by rfl, ?_⟩) (by assumption) ?_
    rotate_left
    · (intro wq hSw; (try dsimp only at hSw); go_simp; first | done | with_reducible rfl)
    try simp only [Act.put, List.setIfInBounds_toArray, List.set_cons_zero, List.set_cons_succ]
    refine wpAnyH_take (i := 1) (oi := { dst := some 21, op := Op.move (Operand.tmp 1), type := 3, pos := "slices.go:232", after := #[], guard := none }) (v := ?_) rfl (by kernel_rfl) (by kernel_rfl) (by kernel_rfl) (fun _ _ _ h => h) (Or.inl ⟨by rfl, ?_⟩) (by assumption) ?_
    rotate_left
    · (intro wq hSw; (try dsimp only at hSw); go_simp; first | done | with_reducible rfl)
    try simp only [Act.put, List.setIfInBounds_toArray, List.set_cons_zero, List.set_cons_succ]
    refine wpAnyH_take (i := 2) (oi := { dst := some 22, op := Op.slice 119 (Operand.tmp 20) none (some (Operand.tmp 21)) none, type := 119, pos := "slices.go:232", after := #[{ on := 0, ground := Ground.data }, { on := 1, ground := Ground.data }], guard := none }) (v := ?_) rfl (by kernel_rfl) (by kernel_rfl) (by kernel_rfl) (fun _ _ _ h => h) (Or.inl ⟨by rfl, ?_⟩) (by assumption) ?_
    rotate_left
    · (intro wq hSw; (try dsimp only at hSw); go_simp; first | done | with_reducible rfl)
    try simp only [Act.put, List.setIfInBounds_toArray, List.set_cons_zero, List.set_cons_succ]
    refine wpAnyH_take (i := 3) (oi := { dst := some 23, op := Op.move (Operand.tmp 0), type := 119, pos := "slices.go:232", after := #[], guard := none }) (v := ?_) rfl (by kernel_rfl) (by kernel_rfl) (by kernel_rfl) (fun _ _ _ h => h) (Or.inl ⟨by rfl, ?_⟩) (by assumption) ?_
    rotate_left
    · (intro wq hSw; (try dsimp only at hSw); go_simp; first | done | with_reducible rfl)
    try simp only [Act.put, List.setIfInBounds_toArray, List.set_cons_zero, List.set_cons_succ]
    refine wpAnyH_take (i := 4) (oi := { dst := some 24, op := Op.move (Operand.tmp 2), type := 3, pos := "slices.go:232", after := #[], guard := none }) (v := ?_) rfl (by kernel_rfl) (by kernel_rfl) (by kernel_rfl) (fun _ _ _ h => h) (Or.inl ⟨by rfl, ?_⟩) (by assumption) ?_
    rotate_left
    · (intro wq hSw; (try dsimp only at hSw); go_simp; first | done | with_reducible rfl)
    try simp only [Act.put, List.setIfInBounds_toArray, List.set_cons_zero, List.set_cons_succ]
    refine wpAnyH_take (i := 5) (oi := { dst := some 25, op := Op.slice 119 (Operand.tmp 23) (some (Operand.tmp 24)) none none, type := 119, pos := "slices.go:232", after := #[{ on := 3, ground := Ground.data }, { on := 4, ground := Ground.data }], guard := none }) (v := ?_) rfl (by kernel_rfl) (by kernel_rfl) (by kernel_rfl) (fun _ _ _ h => h) (Or.inl ⟨by rfl, ?_⟩) (by assumption) ?_
    rotate_left
    · (intro wq hSw; (try dsimp only at hSw); go_simp; first | done | with_reducible rfl)
    try simp only [Act.put, List.setIfInBounds_toArray, List.set_cons_zero, List.set_cons_succ]
    refine wpAnyH_ready (rs := [6]) (by kernel_rfl) (by simp) ?_
    refine AllReadyH.cons (o := { dst := some 26, op := Op.call { callee := Callee.builtin Builtin.append, args := #[Operand.tmp 22, Operand.tmp 25], argTypes := #[119, 119] }, type := 119, pos := "slices.go:232", after := #[{ on := 2, ground := Ground.data }, { on := 5, ground := Ground.data }], guard := none }) rfl (fun K hK => ?_) AllReadyH.nil
    refine step_appRoom (g := g) (off := off) (cap := cap) pkTy pkOk rfl (.tmp 22) (.tmp 25) rfl rfl HLI.out HN.out rfl (HT.out.new (New.refl _).drew) (HS.out.new (New.refl _).drew) HRM.out ?_
    intro w2 hr2 hu2 hz2
    refine hK.out _ _ ?_ (fun hHeld => ?_)
    · exact trivial
    clear hK K
    try simp only [Act.put, List.setIfInBounds_toArray, List.set_cons_zero, List.set_cons_succ]
    refine wpAnyH_take (i := 7) (oi := { dst := some 0, op := Op.assign (Operand.tmp 26), type := 119, pos := "slices.go:232", after := #[{ on := 6, ground := Ground.data }, { on := 6, ground := Ground.chain }, { on := 0, ground := Ground.phase }, { on := 1, ground := Ground.phase }, { on := 2, ground := Ground.phase }, { on := 3, ground := Ground.phase }, { on := 4, ground := Ground.phase }, { on := 5, ground := Ground.phase }, { on := 6, ground := Ground.phase }], guard := none }) (v := ?_) rfl (by kernel_rfl) (by kernel_rfl) (by kernel_rfl) (fun _ _ _ h => h) (Or.inl ⟨by rfl, ?_⟩) (by assumption) ?_
    rotate_left
    · (intro wq hSw; (try dsimp only at hSw); go_simp; first | done | with_reducible rfl)
    try simp only [Act.put, List.setIfInBounds_toArray, List.set_cons_zero]
    refine wpAnyH_done (by kernel_rfl) ?_ _
    clear hHeld
    have hfz := hr2.frozen
    go_wp2_with (refine wpList_clearR (g := g) (off := off) (k := n) Try.underlying119 zPk rfl (by simp [Value.cells, Value.oneCell']) pkOk rfl (.tmp 31) rfl rfl hr2 HK.out HK2.out ?_; intro w3 hr3 hu3 hz3)
    go_ret
    exact ⟨n, HN.out.symm, rfl, hr3, ((Upd.refl _ w).drew.trans hu2 (fun _ _ h => h)).trans hu3 (fun _ _ h => h)⟩
  · have HS := Lib.hid (HR.out.drop_at hj hcap)
    go_enter Try.func76, Try.ntmps76
    go_wp2_with fail
    refine wp_region_held_drew (S := fun w' => True) (by kernel_rfl) (trivial) (fun hHeld => ?_)
    refine wpAnyH_take (i := 0) (oi := { dst := some 20, op := Op.move (Operand.tmp 0), type := 119, pos := "slices.go:232", after := #[], guard := none }) (v := ?_) rfl (by kernel_rfl) (by kernel_rfl) (by kernel_rfl) (fun _ _ _ h => h) (Or.inl ⟨by rfl, ?_⟩) (by assumption) ?_
    rotate_left
    · (intro wq hSw; (try dsimp only at hSw); go_simp; first | done | with_reducible rfl)
    try simp only [Act.put, List.setIfInBounds_toArray, List.set_cons_zero, List.set_cons_succ]
    refine wpAnyH_take (i := 1) (oi := { dst := some 21, op := Op.move (Operand.tmp 1), type := 3, pos := "slices.go:232", after := #[], guard := none }) (v := ?_) rfl (by kernel_rfl) (by kernel_rfl) (by kernel_rfl) (fun _ _ _ h => h) (Or.inl ⟨by rfl, ?_⟩) (by assumption) ?_
    rotate_left
    · (intro wq hSw; (try dsimp only at hSw); go_simp; first | done | with_reducible rfl)
    try simp only [Act.put, List.setIfInBounds_toArray, List.set_cons_zero, List.set_cons_succ]
    refine wpAnyH_take (i := 2) (oi := { dst := some 22, op := Op.slice 119 (Operand.tmp 20) none (some (Operand.tmp 21)) none, type := 119, pos := "slices.go:232", after := #[{ on := 0, ground := Ground.data }, { on := 1, ground := Ground.data }], guard := none }) (v := ?_) rfl (by kernel_rfl) (by kernel_rfl) (by kernel_rfl) (fun _ _ _ h => h) (Or.inl ⟨by rfl, ?_⟩) (by assumption) ?_
    rotate_left
    · (intro wq hSw; (try dsimp only at hSw); go_simp; first | done | with_reducible rfl)
    try simp only [Act.put, List.setIfInBounds_toArray, List.set_cons_zero, List.set_cons_succ]
    refine wpAnyH_take (i := 3) (oi := { dst := some 23, op := Op.move (Operand.tmp 0), type := 119, pos := "slices.go:232", after := #[], guard := none }) (v := ?_) rfl (by kernel_rfl) (by kernel_rfl) (by kernel_rfl) (fun _ _ _ h => h) (Or.inl ⟨by rfl, ?_⟩) (by assumption) ?_
    rotate_left
    · (intro wq hSw; (try dsimp only at hSw); go_simp; first | done | with_reducible rfl)
    try simp only [Act.put, List.setIfInBounds_toArray, List.set_cons_zero, List.set_cons_succ]
    refine wpAnyH_take (i := 4) (oi := { dst := some 24, op := Op.move (Operand.tmp 2), type := 3, pos := "slices.go:232", after := #[], guard := none }) (v := ?_) rfl (by kernel_rfl) (by kernel_rfl) (by kernel_rfl) (fun _ _ _ h => h) (Or.inl ⟨by rfl, ?_⟩) (by assumption) ?_
    rotate_left
    · (intro wq hSw; (try dsimp only at hSw); go_simp; first | done | with_reducible rfl)
    try simp only [Act.put, List.setIfInBounds_toArray, List.set_cons_zero, List.set_cons_succ]
    refine wpAnyH_take (i := 5) (oi := { dst := some 25, op := Op.slice 119 (Operand.tmp 23) (some (Operand.tmp 24)) none none, type := 119, pos := "slices.go:232", after := #[{ on := 3, ground := Ground.data }, { on := 4, ground := Ground.data }], guard := none }) (v := ?_) rfl (by kernel_rfl) (by kernel_rfl) (by kernel_rfl) (fun _ _ _ h => h) (Or.inl ⟨by rfl, ?_⟩) (by assumption) ?_
    rotate_left
    · (intro wq hSw; (try dsimp only at hSw); go_simp; first | done | with_reducible rfl)
    try simp only [Act.put, List.setIfInBounds_toArray, List.set_cons_zero, List.set_cons_succ]
    refine wpAnyH_ready (rs := [6]) (by kernel_rfl) (by simp) ?_
    refine AllReadyH.cons (o := { dst := some 26, op := Op.call { callee := Callee.builtin Builtin.append, args := #[Operand.tmp 22, Operand.tmp 25], argTypes := #[119, 119] }, type := 119, pos := "slices.go:232", after := #[{ on := 2, ground := Ground.data }, { on := 5, ground := Ground.data }], guard := none }) rfl (fun K hK => ?_) AllReadyH.nil
    refine step_appRoom (g := g) (off := off) (cap := cap) pkTy pkOk rfl (.tmp 22) (.tmp 25) rfl rfl HLI.out HN.out rfl (HT.out.new (New.refl _).drew) (HS.out.new (New.refl _).drew) HRM.out ?_
    intro w2 hr2 hu2 hz2
    refine hK.out _ _ ?_ (fun hHeld => ?_)
    · exact trivial
    clear hK K
    try simp only [Act.put, List.setIfInBounds_toArray, List.set_cons_zero, List.set_cons_succ]
    refine wpAnyH_take (i := 7) (oi := { dst := some 0, op := Op.assign (Operand.tmp 26), type := 119, pos := "slices.go:232", after := #[{ on := 6, ground := Ground.data }, { on := 6, ground := Ground.chain }, { on := 0, ground := Ground.phase }, { on := 1, ground := Ground.phase }, { on := 2, ground := Ground.phase }, { on := 3, ground := Ground.phase }, { on := 4, ground := Ground.phase }, { on := 5, ground := Ground.phase }, { on := 6, ground := Ground.phase }], guard := none }) (v := ?_) rfl (by kernel_rfl) (by kernel_rfl) (by kernel_rfl) (fun _ _ _ h => h) (Or.inl ⟨by rfl, ?_⟩) (by assumption) ?_
    rotate_left
    · (intro wq hSw; (try dsimp only at hSw); go_simp; first | done | with_reducible rfl)
    try simp only [Act.put, List.setIfInBounds_toArray, List.set_cons_zero]
    refine wpAnyH_done (by kernel_rfl) ?_ _
    clear hHeld
    have hfz := hr2.frozen
    go_wp2_with (refine wpList_clearR (g := g) (off := off) (k := n) Try.underlying119 zPk rfl (by simp [Value.cells, Value.oneCell']) pkOk rfl (.tmp 31) rfl rfl hr2 HK.out HK2.out ?_; intro w3 hr3 hu3 hz3)
    go_ret
    exact ⟨n, HN.out.symm, rfl, hr3, ((Upd.refl _ w).drew.trans hu2 (fun _ _ h => h)).trans hu3 (fun _ _ h => h)⟩
theorem del_erase {l : List Pk} {i : Nat} : l.take i ++ l.drop (i + 1) = l.eraseIdx i := by rw [List.eraseIdx_eq_take_drop_succ]
/-- What Take answers. -/
def TkPost (w : World) (bb : Nat) (v : Value) (l : List Pk) (i : Int) (e : Ending) (w' : World) : Prop :=
  (∀ (k : Nat) (x : Pk), i = (k : Int) → l[k]? = some x → BgPost w bb v (.tuple #[.agg #[.int .i64 x.fr, .int .i64 x.to, .string x.b], .int .i64 0]) (l.eraseIdx k) e w') ∧
  (¬ (0 ≤ i ∧ i < l.length) → e = .returned (.tuple #[.agg #[.int .i64 0, .int .i64 0, .string ⟨#[]⟩], .int .i64 212]) ∧ New w w')
theorem btake_no (h : BgAt w bb v l) (i : Int) (hi : ¬ (0 ≤ i ∧ i < l.length)) :
    Calls Try.prog 61 #[.pointer (some ⟨bb, 0, none⟩), .int .i64 i] w fun e w' => e = .returned (.tuple #[.agg #[.int .i64 0, .int .i64 0, .string ⟨#[]⟩], .int .i64 212]) ∧ New w w' := by
  have HB := Lib.hid (bhas (h.new ((New.refl w).alloc (.cells #[.int .i64 0, .int .i64 0, .string ⟨#[]⟩] 125))) i)
  rw [decide_eq_false hi] at HB
  clear h hi
  go_enter Try.func61, Try.ntmps61
  go_wp2_with (go_at_call 75; refine HB.out.mono ?_; rintro e w1 ⟨rfl, rfl⟩)
  exact bodyPost_ret (v := .tuple #[.agg #[.int .i64 0, .int .i64 0, .string ⟨#[]⟩], .int .i64 212]) (by simp [results, Try.results61, go_sem]) rfl ⟨rfl, by
    repeat (refine New.setCell ?_ (by simp) _)
    exact (New.refl w).alloc _⟩
set_option maxRecDepth 100000 in
set_option maxHeartbeats 4000000 in
theorem btake (h : BgAt w bb v l) {k : Nat} {x : Pk} (hx : l[k]? = some x) :
    Calls Try.prog 61 #[.pointer (some ⟨bb, 0, none⟩), .int .i64 (k : Int)] w (BgPost w bb v (.tuple #[.agg #[.int .i64 x.fr, .int .i64 x.to, .string x.b], .int .i64 0]) (l.eraseIdx k)) := by
  have hk : k < l.length := (List.getElem?_eq_some_iff.1 hx).1
  have hne : l ≠ [] := fun e => by rw [e] at hk; simp at hk
  obtain ⟨g, off, cap, rfl, _, hrow⟩ := h.row.at_ hne
  have hl := h.len
  have c0 := hrow.cell pkOk hx (j := 0) rfl
  have c1 := hrow.cell pkOk hx (j := 1) rfl
  have c2 := hrow.cell pkOk hx (j := 2) rfl
  rw [Nat.add_zero] at c0
  have hk1 : (k : Int) < (l.length : Int) := by omega
  have hk0 : (0 : Int) ≤ (k : Int) := by omega
  have HB := Lib.hid (bhas (h.new ((New.refl w).alloc (.cells #[.int .i64 0, .int .i64 0, .string ⟨#[]⟩] 125))) (k : Int))
  rw [decide_eq_true ⟨hk0, hk1⟩] at HB
  have HH := Lib.hid h
  obtain ⟨hb0, d0, d1, dz⟩ := h.facts
  have hgl := hrow.lt
  have hgb : g ≠ bb := fun e => h.own (by rw [← e]; rfl)
  have HX := Lib.hid hx
  clear h hrow hx
  go_enter Try.func61, Try.ntmps61
  go_wp2_with (first | (go_at_call 75; refine HB.out.mono ?_; rintro e w1 ⟨rfl, rfl⟩))
  have hN0 := ((New.refl w).alloc (.cells #[.int .i64 0, .int .i64 0, .string ⟨#[]⟩] 125)).alloc (.cells #[.int .i64 x.fr, .int .i64 x.to, .string x.b] 125)
  have hA := Blk.mk_new w 125 #[.int .i64 0, .int .i64 0, .string ⟨#[]⟩]
  have hA2 := hA.alloc (.cells #[.int .i64 x.fr, .int .i64 x.to, .string x.b] 125)
  have hC := Blk.mk_new (w.alloc (.cells #[.int .i64 0, .int .i64 0, .string ⟨#[]⟩] 125)) 125 #[.int .i64 x.fr, .int .i64 x.to, .string x.b]
  rw [World.size_alloc] at hC
  refine (pclone (Row.slIn pkOk (HH.out.new hN0).row) (by omega)).mono ?_
  rintro e w1 ⟨v1, rfl, hr1, hn1⟩
  have hA3 := hA2.new hn1
  have hC3 := hC.new hn1
  have hb1 := HH.out.blk.new (hN0.trans hn1)
  have HN1 := Lib.hid (hN0.trans hn1)
  have hsz : w.heap.size + 2 ≤ w1.heap.size := by have := hn1.size; simp at this; omega
  obtain ⟨g1, o1, cap1, rfl, hge, hrow1⟩ := hr1.at_ hne
  have hge2 : w.heap.size + 2 ≤ g1 := by simp at hge; omega
  have HR1 := Lib.hid hrow1
  clear hA hA2 hC hN0 hn1 hge hrow1 hr1
  go_wp2_with fail
  refine (pdelete HR1.out (by omega) (i := k) (j := k + 1) (by omega) hk).mono ?_
  rintro e w2 ⟨n, hn, rfl, hr2, hu2⟩
  have hA4 := hA3.upd hu2 (by omega)
  have hC4 := hC3.upd hu2 (by omega)
  have hb2 := hb1.upd hu2 (by omega)
  have HU2 := Lib.hid ((Upd.new (S := BgF bb (.slice (some ⟨g, off, none⟩) l.length cap)) HN1.out).trans hu2 (fun i hi h => by omega))
  have HR2 := Lib.hid (hr2.row (base := w.heap.size + 2) hge2)
  rw [← hn] at HR2
  have HNL := Lib.hid hn
  clear hA3 hC3 hb1 hu2 hr2 hn
  have f0 := hb2.cell 1
  have fz := hb2.frozen
  have fs := hb2.lt
  have p0 := hA4.cell 0
  have p1 := hA4.cell 1
  have p2 := hA4.cell 2
  have pz := hA4.frozen
  have ps := hA4.lt
  have q0 := hC4.cell 0
  have q1 := hC4.cell 1
  have q2 := hC4.cell 2
  simp at f0 p0 p1 p2 q0 q1 q2
  have HB2 := Lib.hid hb2
  clear hA4 hC4 hb2
  go_wp2_with fail
  have hu := ((HU2.out.setCell (p := ⟨bb, 1, none⟩) (fun _ => .inl rfl) (.slice (some ⟨g1, o1, none⟩) n cap1)).setNew (p := ⟨w.heap.size, 0, none⟩) (Nat.le_refl _) (.int .i64 x.fr)).setNew (p := ⟨w.heap.size, 1, none⟩) (Nat.le_refl _) (.int .i64 x.to) |>.setNew (p := ⟨w.heap.size, 2, none⟩) (Nat.le_refl _) (.string x.b)
  have hu' : Upd (fun k => k = bb ∨ k = w.heap.size) w2 _ := (((Upd.refl _ w2).setCell (p := ⟨bb, 1, none⟩) (fun _ => .inl rfl) (.slice (some ⟨g1, o1, none⟩) n cap1)).setCell (p := ⟨w.heap.size, 0, none⟩) (fun _ => .inr rfl) (.int .i64 x.fr)).setCell (p := ⟨w.heap.size, 1, none⟩) (fun _ => .inr rfl) (.int .i64 x.to) |>.setCell (p := ⟨w.heap.size, 2, none⟩) (fun _ => .inr rfl) (.string x.b)
  have ho : ∀ j, (Value.slice (some ⟨g1, o1, none⟩) n cap1).ownBlock = some j → j = g1 := fun j hj => by injection hj with hj; exact hj.symm
  exact bodyPost_ret (v := .tuple #[.agg #[.int .i64 x.fr, .int .i64 x.to, .string x.b], .int .i64 0]) (by simp [results, Try.results61, go_sem, p0, p1, p2]) rfl
    ⟨.slice (some ⟨g1, o1, none⟩) n cap1, rfl, ⟨(((HB2.out.set_ 1 _).far (by simp; omega) _).far (by simp; omega) _).far (by simp; omega) _, by
      rw [← del_erase]
      exact (HR2.out.upd hu' (fun j hj => by rw [ho j hj]; show ¬ (g1 = bb ∨ g1 = w.heap.size); omega)).lower (Nat.zero_le _), by rw [List.length_eraseIdx_of_lt hk]; omega⟩, hu, fun j hj => .inr (by rw [ho j hj]; omega)⟩
end
end Go.Proofs.Ytghhcjpilcoblaa
