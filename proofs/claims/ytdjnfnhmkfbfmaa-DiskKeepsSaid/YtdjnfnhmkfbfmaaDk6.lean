/- Chapter 6 (disk): Sync, Crash, Copy. Printed by genDk6.py. -/
import Derived.Test.YtdjnfnhmkfbfmaaDk5
namespace Go.Proofs.Ytdjnfnhmkfbfmaa
open Go.RowKit Go.Lap
set_option linter.unusedVariables false

theorem upd_cell {S : Nat → Prop} {w w' : World} (h : Upd S w w') {b : Nat} (hb : b < w.heap.size) (hS : ¬ S b) (o : Nat) : w'.cell? ⟨b, o, none⟩ = w.cell? ⟨b, o, none⟩ := by
  have := h.block b hb hS
  simp [World.cell?, this]
theorem mpPut {P : Program} {kt t e b m : Nat} {κ : Type} [DecidableEq κ] {val : κ → Value} {lit : κ → Lit} {ok : κ → Prop} {w : World} {f : κ → Option Value} (B : KeyB P kt val lit ok) (h : MpAt P kt lit ok w b m f) (ht : P.underlying t = some (.map kt e)) (hmx : m < maxLen) (k : κ) (hk : ok k) (v : Value) :
    ∃ w', (Instr.mapUpdate t (.map (some b)) (val k) v).run P w = .ok () w' ∧ MpAt P kt lit ok w' b (if (f k).isSome then m else m + 1) (fun j => if j = k then some v else f j) ∧ Upd (· = b) w w' := by
  obtain ⟨D, h1, h2, h3, h4⟩ := id h
  obtain ⟨w', hrun, h1', hg'⟩ := h1.update B.keyed ht hmx (B.read k hk) (val := v) (d := .held v) (ps := []) rfl
  exact ⟨w', hrun, h.put_of B hk v h2 h3 h4 h1', grow1 hg'⟩

def syncD (D : Dk) : Dk := { D with G := D.V, L := [] }
/-- What survives: of a write so many bytes. -/
def lkS : List (Int × Int) → Int → Option Int
  | [], _ => none
  | (a, n) :: l, i => if a = i then some n else lkS l i
/-- The ground behind the first k of what was pending. -/
def crashK (s : Sec) (L : List Pd) (left : Int → Option Int) : Nat → Sec
  | 0 => s
  | k + 1 => match L[k]?, left (k : Int) with
    | some p, some n => doP (crashK s L left k) p n
    | _, _ => crashK s L left k
def crashG (D : Dk) (l : List (Int × Int)) : Sec := crashK D.G D.L (lkS l) D.L.length
def crashD (D : Dk) (l : List (Int × Int)) : Dk := { D with V := crashG D l, G := crashG D l, L := [] }

def svE (x : Int × Int) : List Value := [.int .i64 x.1, .int .i64 x.2]
theorem svEOk : Enc svE 2 := fun _ => ⟨rfl, by simp [svE, Value.oneCell']⟩
theorem svTy : SlTy Try.prog 53 71 (.agg #[.int .i64 0, .int .i64 0]) 2 16 := ⟨Try.underlying53, by kernel_rfl, rfl, by decide⟩
theorem zeroI (w : World) : (zeroValue 3).run Try.prog w = .ok (.int .i64 0) w := by kernel_rfl

set_option maxRecDepth 100000 in
set_option maxHeartbeats 4000000 in
theorem dsync {d vm gm : Nat} {u : Value} {D : Dk} (w : World) (h : DkAt w d vm gm u D) :
    Calls Try.prog 32 #[.pointer (some ⟨d, 0, none⟩)] w fun e w' => e = .returned (.tuple #[]) ∧ DkPost w d vm gm u (syncD D) w' := by
  obtain ⟨d0, d1, d2, d3, d4, d5, dz⟩ := Blk5F h.blk
  go_enter Try.func32, Try.ntmps32
  go_wp2_with fail
  refine (copied_any D.V vm w h.vw h.vf h.sz.2).mono ?_
  rintro e w1 ⟨mb, rfl, hmb, hs1, hn1⟩
  have h1 := h.new hn1
  have hB := (h1.blk.set_ 3 (.map (some mb))).set_ 4 (.slice none 0 0)
  obtain ⟨e0, e1, e2, e3, e4, e5, ez⟩ := Blk5F h1.blk
  have hu2 : Upd (· = d) w1 ((w1.setCell ⟨d, 3, none⟩ (.map (some mb))).setCell ⟨d, 4, none⟩ (.slice none 0 0)) := ((Upd.refl (· = d) w1).setCell (p := ⟨d, 3, none⟩) (fun _ => rfl) _).setCell (p := ⟨d, 4, none⟩) (fun _ => rfl) _
  have hT : Turns w1 (· = d) := fun k hk => h1.turns k (.inl hk)
  have had := DkF.addr h1
  have hdm : mb ≠ d := by have := h.blk.lt; omega
  have hvm : vm ≠ mb := by have := h.vw.lt; omega
  clear d0 d1 d2 d3 d4 d5 dz
  go_wp2_with fail
  refine bodyPost_end (v := .tuple #[]) (by kernel_rfl) rfl ?_
  refine ⟨rfl, vm, mb, .slice none 0 0, ⟨hB, h1.vw.upd hu2 (fun e => had.1 e.symm) hT, hs1.upd hu2 hdm hT, ⟨[], Owns.nil _ _ _ _ _, rfl, fun i x p hx => by simp at hx⟩, hvm, h.sz, h.lm, h.vf, h.vf, by simp [syncD]⟩, fun k hk => ?_, (Upd.new hn1).trans hu2 (fun k _ hk => .inl hk)⟩
  rcases hk with rfl | rfl | rfl | hk
  · exact .inl (.inl rfl)
  · exact .inl (.inr (.inl rfl))
  · exact .inr hmb
  · cases hk

theorem crashK_fine {s : Sec} {L : List Pd} {z : Int} (left : Int → Option Int) (h : s.fine z) (hp : ∀ p ∈ L, 0 ≤ p.at_ ∧ p.at_ < z) (hl : ∀ p ∈ L, ∀ a bs, p = .wr a bs → bs.length ≤ 512) : ∀ k, (crashK s L left k).fine z
  | 0 => h
  | k + 1 => by
    unfold crashK
    have ih := crashK_fine left h hp hl k
    split
    · rename_i p n hpk _
      exact fine_doP ih (hp p (List.mem_of_getElem? hpk)) (hl p (List.mem_of_getElem? hpk)) n
    · exact ih
theorem lkS_wf {l : List (Int × Int)} (h : ∀ x ∈ l, okI x.2) {i n : Int} (hn : lkS l i = some n) : okI n := by
  induction l with
  | nil => cases hn
  | cons x l ih =>
    obtain ⟨a, m⟩ := x
    unfold lkS at hn
    split at hn
    · cases hn; exact h _ (List.mem_cons_self ..)
    · exact ih (fun y hy => h y (List.mem_cons_of_mem _ hy)) hn
theorem okI_nat {k : Nat} (h : k ≤ 1000000) : okI (k : Int) := by
  simp only [okI, Lit.wf, IntKind.min, IntKind.max, IntKind.signed, IntKind.bits]; simp; omega
theorem drop_at {α : Type} {l : List α} {m : Nat} {x : α} (h : l[m]? = some x) : l.drop m = x :: l.drop (m + 1) := by
  obtain ⟨hm, rfl⟩ := List.getElem?_eq_some_iff.1 h
  rw [List.drop_eq_getElem_cons hm]


set_option maxRecDepth 100000 in
set_option maxHeartbeats 8000000 in
theorem dcrash {d vm gm : Nat} {u v : Value} {D : Dk} {l : List (Int × Int)} (w : World) (h : DkAt w d vm gm u D) (hs : SlIn w 2 svE v l) (hl : l.length ≤ 100000) (hw : ∀ x ∈ l, okI x.1 ∧ okI x.2) (hL : D.L.length ≤ 100000) :
    Calls Try.prog 34 #[.pointer (some ⟨d, 0, none⟩), v] w fun e w' => e = .returned (.tuple #[]) ∧ DkPost w d vm gm u (crashD D l) w' := by
  have hmk := @run_makeMap Try.prog
  have hm0 := MpAt.made Try.prog 3 litI okI w
  have hn0 := (New.refl w).alloc (.map #[] 0)
  obtain ⟨A, cp, hv, hcp, hor⟩ := id hs
  subst hv
  have HW := Lib.hid hw
  clear hw
  go_enter Try.func34, Try.ntmps34
  go_wp2_with fail
  go_loopw [5] (fun u5 wr => ∃ (k : Int) (m cnt : Nat), k = (m : Int) - 1 ∧ m ≤ l.length ∧ u5 = .int .i64 k ∧ MpAt Try.prog 3 litI okI wr w.heap.size cnt (fun j => (lkS (l.drop m) j).map (Value.int .i64)) ∧ cnt + m ≤ l.length ∧ New w wr) (fun u5 _ => (intOf u5 + 1).toNat)
  case atStart => exact ⟨_, l.length, 0, rfl, Nat.le_refl _, rfl, by rw [List.drop_length]; exact hm0, by omega, hn0⟩
  case round =>
    obtain ⟨k, m, cnt, hk, hm, rfl, hmL, hcn, hnw⟩ := hrel
    cases m with
    | succ m =>
      obtain rfl : k = (m : Int) := by omega
      clear hk
      have hm0' : (0 : Int) ≤ (m : Int) := by omega
      have hml : (m : Int) < (l.length : Int) := by omega
      rcases hor with hor | ⟨b, off, rfl, hb, hc⟩
      · rw [hor] at hm; simp at hm
      obtain ⟨x, hx⟩ : ∃ x, l[m]? = some x := ⟨_, List.getElem?_eq_getElem (by omega)⟩
      obtain ⟨x1, x2⟩ := x
      have f1 : wr.cell? ⟨b, off + m * 2, none⟩ = some (.int .i64 x1) := (hnw.cells.1 _ _ hb).trans (by have := hc _ _ hx 0 _ rfl; simpa using this)
      have f2 : wr.cell? ⟨b, off + m * 2 + 1, none⟩ = some (.int .i64 x2) := (hnw.cells.1 _ _ hb).trans (by have := hc _ _ hx 1 _ rfl; simpa using this)
      have hbr : b < wr.heap.size := Nat.lt_of_lt_of_le hb hnw.size
      have hbl : ¬ b = w.heap.size := by omega
      have HX := Lib.hid hx
      have HX1 := Lib.hid (HW.out _ (List.mem_of_getElem? hx)).1
      have HMX := Lib.hid (show cnt < maxLen by unfold maxLen; omega)
      have HCN := Lib.hid hcn
      clear hc hx hcn hm0 hn0
      · go_upto_region 4 with fail
        refine wp_region_held_drew (S := fun w' => w'.cell? ⟨b, off + m * 2, none⟩ = some (.int .i64 x1) ∧ w'.cell? ⟨b, off + m * 2 + 1, none⟩ = some (.int .i64 x2)) (by kernel_rfl) (⟨f1, f2⟩) (fun hHeld => ?_)
        refine wpAnyH_take (i := 0) (oi := { dst := some 18, op := Op.move (Operand.tmp 4), type := 96, pos := "disk.go:102", after := #[], guard := none }) (v := ?_) rfl (by kernel_rfl) (by kernel_rfl) (by kernel_rfl) (fun _ _ _ h => h) (Or.inl ⟨by rfl, ?_⟩) (by assumption) ?_
        rotate_left
        · (intro wq hSw; (try dsimp only at hSw); go_simp; first | done | with_reducible rfl)
        try simp only [Act.put, List.setIfInBounds_toArray, List.set_cons_zero, List.set_cons_succ]
        refine wpAnyH_take (i := 1) (oi := { dst := some 19, op := Op.move (Operand.tmp 1), type := 53, pos := "disk.go:102", after := #[], guard := none }) (v := ?_) rfl (by kernel_rfl) (by kernel_rfl) (by kernel_rfl) (fun _ _ _ h => h) (Or.inl ⟨by rfl, ?_⟩) (by assumption) ?_
        rotate_left
        · (intro wq hSw; (try dsimp only at hSw); go_simp; first | done | with_reducible rfl)
        try simp only [Act.put, List.setIfInBounds_toArray, List.set_cons_zero, List.set_cons_succ]
        refine wpAnyH_take (i := 2) (oi := { dst := some 20, op := Op.move (Operand.tmp 5), type := 3, pos := "disk.go:102", after := #[], guard := none }) (v := ?_) rfl (by kernel_rfl) (by kernel_rfl) (by kernel_rfl) (fun _ _ _ h => h) (Or.inl ⟨by rfl, ?_⟩) (by assumption) ?_
        rotate_left
        · (intro wq hSw; (try dsimp only at hSw); go_simp; first | done | with_reducible rfl)
        try simp only [Act.put, List.setIfInBounds_toArray, List.set_cons_zero, List.set_cons_succ]
        refine wpAnyH_take (i := 3) (oi := { dst := some 21, op := Op.indexAddr 53 (Operand.tmp 19) (Operand.tmp 20), type := 0, pos := "disk.go:102", after := #[{ on := 1, ground := Ground.data }, { on := 2, ground := Ground.data }], guard := none }) (v := ?_) rfl (by kernel_rfl) (by kernel_rfl) (by kernel_rfl) (fun _ _ _ h => h) (Or.inl ⟨by rfl, ?_⟩) (by assumption) ?_
        rotate_left
        · (intro wq hSw; (try dsimp only at hSw); go_simp; first | done | with_reducible rfl)
        try simp only [Act.put, List.setIfInBounds_toArray, List.set_cons_zero, List.set_cons_succ]
        refine wpAnyH_take (i := 4) (oi := { dst := some 22, op := Op.fieldAddr 71 (Operand.tmp 21) 0, type := 0, pos := "disk.go:102", after := #[{ on := 3, ground := Ground.data }], guard := none }) (v := ?_) rfl (by kernel_rfl) (by kernel_rfl) (by kernel_rfl) (fun _ _ _ h => h) (Or.inl ⟨by rfl, ?_⟩) (by assumption) ?_
        rotate_left
        · (intro wq hSw; (try dsimp only at hSw); go_simp; first | done | with_reducible rfl)
        try simp only [Act.put, List.setIfInBounds_toArray, List.set_cons_zero, List.set_cons_succ]
        refine wpAnyH_take (i := 5) (oi := { dst := some 23, op := Op.load 3 (Operand.tmp 22), type := 3, pos := "disk.go:102", after := #[{ on := 4, ground := Ground.data }], guard := none }) (v := ?_) rfl (by kernel_rfl) (by kernel_rfl) (by kernel_rfl) (fun _ _ _ h => h) (Or.inl ⟨by rfl, ?_⟩) (by assumption) ?_
        rotate_left
        · (intro wq hSw; (try dsimp only at hSw); go_simp; first | done | with_reducible rfl)
        try simp only [Act.put, List.setIfInBounds_toArray, List.set_cons_zero, List.set_cons_succ]
        refine wpAnyH_take (i := 6) (oi := { dst := some 24, op := Op.move (Operand.tmp 1), type := 53, pos := "disk.go:102", after := #[], guard := none }) (v := ?_) rfl (by kernel_rfl) (by kernel_rfl) (by kernel_rfl) (fun _ _ _ h => h) (Or.inl ⟨by rfl, ?_⟩) (by assumption) ?_
        rotate_left
        · (intro wq hSw; (try dsimp only at hSw); go_simp; first | done | with_reducible rfl)
        try simp only [Act.put, List.setIfInBounds_toArray, List.set_cons_zero, List.set_cons_succ]
        refine wpAnyH_take (i := 7) (oi := { dst := some 25, op := Op.move (Operand.tmp 5), type := 3, pos := "disk.go:102", after := #[], guard := none }) (v := ?_) rfl (by kernel_rfl) (by kernel_rfl) (by kernel_rfl) (fun _ _ _ h => h) (Or.inl ⟨by rfl, ?_⟩) (by assumption) ?_
        rotate_left
        · (intro wq hSw; (try dsimp only at hSw); go_simp; first | done | with_reducible rfl)
        try simp only [Act.put, List.setIfInBounds_toArray, List.set_cons_zero, List.set_cons_succ]
        refine wpAnyH_take (i := 8) (oi := { dst := some 26, op := Op.indexAddr 53 (Operand.tmp 24) (Operand.tmp 25), type := 0, pos := "disk.go:102", after := #[{ on := 6, ground := Ground.data }, { on := 7, ground := Ground.data }], guard := none }) (v := ?_) rfl (by kernel_rfl) (by kernel_rfl) (by kernel_rfl) (fun _ _ _ h => h) (Or.inl ⟨by rfl, ?_⟩) (by assumption) ?_
        rotate_left
        · (intro wq hSw; (try dsimp only at hSw); go_simp; first | done | with_reducible rfl)
        try simp only [Act.put, List.setIfInBounds_toArray, List.set_cons_zero, List.set_cons_succ]
        refine wpAnyH_take (i := 9) (oi := { dst := some 27, op := Op.fieldAddr 71 (Operand.tmp 26) 1, type := 0, pos := "disk.go:102", after := #[{ on := 8, ground := Ground.data }], guard := none }) (v := ?_) rfl (by kernel_rfl) (by kernel_rfl) (by kernel_rfl) (fun _ _ _ h => h) (Or.inl ⟨by rfl, ?_⟩) (by assumption) ?_
        rotate_left
        · (intro wq hSw; (try dsimp only at hSw); go_simp; first | done | with_reducible rfl)
        try simp only [Act.put, List.setIfInBounds_toArray, List.set_cons_zero, List.set_cons_succ]
        refine wpAnyH_take (i := 10) (oi := { dst := some 28, op := Op.load 3 (Operand.tmp 27), type := 3, pos := "disk.go:102", after := #[{ on := 9, ground := Ground.data }], guard := none }) (v := ?_) rfl (by kernel_rfl) (by kernel_rfl) (by kernel_rfl) (fun _ _ _ h => h) (Or.inl ⟨by rfl, ?_⟩) (by assumption) ?_
        rotate_left
        · (intro wq hSw; (try dsimp only at hSw); go_simp; first | done | with_reducible rfl)
        try simp only [Act.put, List.setIfInBounds_toArray, List.set_cons_zero, List.set_cons_succ]
        refine wpAnyH_ready (rs := [11]) (by kernel_rfl) (by simp) ?_
        refine AllReadyH.cons (o := { dst := none, op := Op.mapUpdate 96 (Operand.tmp 18) (Operand.tmp 23) (Operand.tmp 28), type := 0, pos := "disk.go:102", after := #[{ on := 0, ground := Ground.data }, { on := 5, ground := Ground.data }, { on := 10, ground := Ground.data }, { on := 0, ground := Ground.phase }, { on := 1, ground := Ground.phase }, { on := 2, ground := Ground.phase }, { on := 3, ground := Ground.phase }, { on := 4, ground := Ground.phase }, { on := 5, ground := Ground.phase }, { on := 6, ground := Ground.phase }, { on := 7, ground := Ground.phase }, { on := 8, ground := Ground.phase }, { on := 9, ground := Ground.phase }, { on := 10, ground := Ground.phase }], guard := none }) rfl (fun K hK => ?_) AllReadyH.nil
        obtain ⟨w6, hrun, hm6, hu6⟩ := mpPut keyD.toKeyB (hmL.new (New.refl wr).drew) Try.underlying96 HMX.out x1 HX1.out (.int .i64 x2)
        go_simp
        have k6 : w6.cell? ⟨b, off + m * 2, none⟩ = some (.int .i64 x1) := (upd_cell hu6 (by show b < wr.heap.size; omega) hbl _).trans f1
        have k7 : w6.cell? ⟨b, off + m * 2 + 1, none⟩ = some (.int .i64 x2) := (upd_cell hu6 (by show b < wr.heap.size; omega) hbl _).trans f2
        refine hK.out _ _ ?_ (fun hHeld => ?_)
        · exact ⟨k6, k7⟩
        clear hK K
        try simp only [Act.put, List.setIfInBounds_toArray, List.set_cons_zero, List.set_cons_succ]
        refine wpAnyH_done (by kernel_rfl) ?_ _
        clear hHeld k6 k7
        have hN6 : New w w6 := (hnw.drew).upd hu6 (fun i hi => by omega)
        go_wp2_with fail
        go_roundw
        case rel =>
          refine ⟨_, m, _, rfl, by omega, rfl, hm6.congr (fun j hj => ?_), ?_, hN6⟩
          · rw [drop_at HX.out]
            show (if j = x1 then _ else _) = Option.map _ (if x1 = j then _ else _)
            by_cases hj1 : j = x1
            · rw [if_pos hj1, if_pos hj1.symm]; rfl
            · rw [if_neg hj1, if_neg (fun e => hj1 e.symm)]
          · have := HCN.out
            split <;> omega
        case measure => simp [intOf]
    | zero =>
      obtain rfl : k = -1 := by omega
      clear hk hcn
      have hml : MpAt Try.prog 3 litI okI wr w.heap.size cnt (fun j => (lkS l j).map (Value.int .i64)) := hmL
      clear hmL
      have h1 := h.new hnw
      obtain ⟨e0, e1, e2, e3, e4, e5, ez⟩ := Blk5F h1.blk
      obtain ⟨xs, ho, hxl, hxs⟩ := h1.pd
      obtain ⟨Au, cu, hu, hcu, horu⟩ := Owns.slIn fvEOk ho
      subst hu
      have hwf5 : ∀ p ∈ D.L, ∀ a bs, p = .wr a bs → bs.length ≤ 512 := by
        intro p hp a bs e
        obtain ⟨i, hi⟩ := List.getElem?_of_mem hp
        have hil := (List.getElem?_eq_some_iff.1 hi).1
        have hx := hxs i _ p (List.getElem?_eq_getElem (by omega)) hi
        subst e
        obtain ⟨_, _, _, _, _, _, _, hl⟩ := hx
        exact hl
      have hck := crashK_fine (lkS l) h1.gf h1.pf hwf5
      have HCK := Lib.hid hck
      have HXS := Lib.hid hxs
      have HXL := Lib.hid hxl
      have hxk : xs.length ≤ 100000 := by omega
      have hT : Turns wr (· = gm) := fun k hk => h1.turns k (.inr (.inr (.inl hk)))
      have had := DkF.addr h1
      have HAD := Lib.hid had
      have hgw : gm ≠ w.heap.size := by have := h.gr.lt; omega
      have HGW := Lib.hid hgw
      clear hxs hxl had hgw hck hwf5
      obtain ⟨wo, rfl⟩ : ∃ wo, wo = wr := ⟨_, rfl⟩
      go_wp2_with fail
      go_loopw [6, 7, 8, 9, 34] (fun _ _ _ _ u34 wr => ∃ k : Nat, k ≤ xs.length ∧ u34 = .int .i64 k ∧ SecM wr gm (crashK D.G D.L (lkS l) k) ∧ Upd (· = gm) wo wr) (fun _ _ _ _ u34 _ => xs.length - (intOf u34).toNat)
      case atStart => exact ⟨0, by omega, rfl, h1.gr, Upd.refl _ _⟩
      case round =>
        obtain ⟨k, hk, rfl, hsk, huk⟩ := hrel
        by_cases hlt : k < xs.length
        · have hlt' : (k : Int) < (xs.length : Int) := by omega
          have hk0 : (0 : Int) ≤ (k : Int) := by omega
          obtain ⟨x, hx⟩ : ∃ x, xs[k]? = some x := ⟨_, List.getElem?_eq_getElem hlt⟩
          obtain ⟨p, hp⟩ : ∃ p, D.L[k]? = some p := ⟨_, List.getElem?_eq_getElem (by rw [← HXL.out]; exact hlt)⟩
          obtain ⟨bu, offu, rfl, hbu, hcu'⟩ := horu.resolve_left (by intro e; rw [e] at hlt; simp at hlt)
          have hpx := (HXS.out k x p hx hp).upd huk hT
          have hbg : ¬ bu = gm := by
            intro e
            obtain ⟨cs, hb'⟩ := ho.blkOf (k := bu) rfl
            exact h1.gr.noBlk (e ▸ hb')
          have f1 : wr.cell? ⟨bu, offu + k, none⟩ = some (.func (.func x.f) #[] x.cs) := (upd_cell huk hbu hbg _).trans (by have := hcu' _ _ hx 0 _ rfl; simpa using this)
          have f4 : wr.cell? ⟨d, 3, none⟩ = some (.map (some gm)) := (upd_cell huk e0 (fun e => HAD.out.2.1 e) _).trans e4
          have hbur : bu < wr.heap.size := Nat.lt_of_lt_of_le hbu huk.size
          have hdr : d < wr.heap.size := Nat.lt_of_lt_of_le e0 huk.size
          have hmr : MpAt Try.prog 3 litI okI wr w.heap.size cnt (fun j => (lkS l j).map (Value.int .i64)) := hml.upd huk (fun e => HGW.out e.symm)
          have hpr := h1.pf p (List.mem_of_getElem? hp)
          have hokk : okI (k : Int) := okI_nat (by omega)
          have HP := Lib.hid hp
          clear hcu' hx hp
          cases hlk : lkS l (k : Int) with
          | none =>
            go_wp2_with (at_lookup; refine wpList_mp_ok keyD.toKeyB rfl _ _ 96 3 rfl Try.underlying96 (zeroI _) rfl hmr (k : Int) hokk rfl ?_; rw [hlk]; dsimp only [Option.map, Option.getD, Option.isSome])
            go_roundw
            case rel => exact ⟨k + 1, by omega, by go_num, by show SecM _ _ (crashK D.G D.L (lkS l) (k + 1)); unfold crashK; rw [HP.out, hlk]; exact hsk, huk⟩
            case measure => simp [intOf]; omega
          | some n =>
            have hokn := lkS_wf (fun x hx => (HW.out x hx).2) hlk
            go_wp2_with (at_lookup; refine wpList_mp_ok keyD.toKeyB rfl _ _ 96 3 rfl Try.underlying96 (zeroI _) rfl hmr (k : Int) hokk rfl ?_; rw [hlk]; dsimp only [Option.map, Option.getD, Option.isSome])
            rw [pd_enter hpx, Oper.upon_enter]
            refine (pd_any x p n _ gm (z := D.size) _ hsk (HCK.out k) h1.sz.2 hpx hpr hokn).mono ?_
            rintro e w7 ⟨rfl, hs7, hu7⟩
            go_wp2_with fail
            go_roundw
            case rel => exact ⟨k + 1, by omega, by go_num, by show SecM _ _ (crashK D.G D.L (lkS l) (k + 1)); unfold crashK; rw [HP.out, hlk]; exact hs7, huk.trans hu7 (fun _ _ h => h)⟩
            case measure => simp [intOf]; omega
        · have hlt' : ¬ (k : Int) < (xs.length : Int) := by omega
          obtain rfl : k = xs.length := by omega
          have f4 : wr.cell? ⟨d, 3, none⟩ = some (.map (some gm)) := (upd_cell huk e0 (fun e => HAD.out.2.1 e) _).trans e4
          have hdr : d < wr.heap.size := Nat.lt_of_lt_of_le e0 huk.size
          have hB3 := h1.blk.upd huk (fun e => HAD.out.2.1 e)
          go_wp2_with fail
          refine (copied_any _ gm _ hsk (HCK.out _) h1.sz.2).mono ?_
          rintro e w8 ⟨mb, rfl, hmb, hs8, hn8⟩
          have hB8 := hB3.new hn8
          obtain ⟨g0, g1, g2, g3, g4, g5, gz⟩ := Blk5F hB8
          have hB9 := (hB8.set_ 2 (.map (some mb))).set_ 4 (.slice none 0 0)
          have hu9 : Upd (· = d) w8 ((w8.setCell ⟨d, 2, none⟩ (.map (some mb))).setCell ⟨d, 4, none⟩ (.slice none 0 0)) := ((Upd.refl (· = d) w8).setCell (p := ⟨d, 2, none⟩) (fun _ => rfl) _).setCell (p := ⟨d, 4, none⟩) (fun _ => rfl) _
          have hT9 : Turns w8 (· = d) := fun k hk t cs hb => by
            subst hk
            have e := Decidable.byContradiction fun hne => hb.ne_ hB8 hne rfl
            subst e
            exact ⟨by decide, by decide, by decide⟩
          clear f4 e0 e1 e2 e3 e4 e5 ez
          go_wp2_with fail
          refine bodyPost_end (v := .tuple #[]) (by kernel_rfl) rfl ?_
          have hcg : crashK D.G D.L (lkS l) xs.length = crashG D l := by rw [HXL.out]; rfl
          rw [hcg] at hsk hs8
          have hfc := HCK.out xs.length
          rw [hcg] at hfc
          have hlo := huk.size
          refine ⟨rfl, mb, gm, .slice none 0 0, ⟨hB9, hs8.upd hu9 (fun e => by have := hdr; omega) hT9, (hsk.new hn8).upd hu9 (fun e => HAD.out.2.1 e.symm) hT9, ⟨[], Owns.nil _ _ _ _ _, rfl, fun i x p hx => by simp at hx⟩, (fun e => by have := hsk.lt; omega), h1.sz, h1.lm, hfc, hfc, by simp [crashD]⟩, fun k hk => ?_, ((Upd.new (S := DkF d vm gm _) hnw).trans huk (fun k _ hk => .inr (.inr (.inl hk)))).trans ((Upd.new (S := (· = d)) hn8).trans hu9 (fun _ _ h => h)) (fun k _ hk => .inl hk)⟩
          rcases hk with rfl | rfl | rfl | hk
          · exact .inl (.inl rfl)
          · exact .inr (by have := hnw.size; omega)
          · exact .inl (.inr (.inr (.inl rfl)))
          · cases hk
end Go.Proofs.Ytdjnfnhmkfbfmaa
