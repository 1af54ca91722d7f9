/- Chapter 18 (pins): each with Floor's closure, Floor. -/
import Derived.Test.YtcganajbfplmpaaPnL
namespace Go.Proofs.Ytcganajbfplmpaa
open Go.RowKit Go.Lap
set_option linter.unusedVariables false

section
variable {w w' : World} {S : Nat → Prop} {p nm lm nn ln : Nat} {N : ByteArray → Option Nat} {L : Nat → Option (Nat × Nat)}
theorem valN_at {N : ByteArray → Option Nat} {s : ByteArray} {v : Value} (h : valN N s = some v) : ∃ n : Nat, N s = some n ∧ v = .int .u64 (n : Int) := by
  unfold valN at h
  cases hN : N s with
  | none => rw [hN] at h; cases h
  | some n => rw [hN] at h; cases h; exact ⟨n, rfl, rfl⟩
theorem Blk1P {w : World} {g t : Nat} {a : Value} (h : Blk w g t #[a]) : g < w.heap.size ∧ w.cell? ⟨g, 0, none⟩ = some a ∧ (∀ i, w.frozen? ⟨g, i, none⟩ = false) := ⟨h.lt, h.cell 0, h.frozen⟩
def PCloPost (w : World) (c n m : Nat) (e : Ending) (w' : World) : Prop := e = .returned (.tuple #[]) ∧ Blk w' c 55 #[.int .u64 ((if n < m then n else m : Nat) : Int)] ∧ Upd (· = c) w w'
set_option maxHeartbeats 1000000 in
theorem pclo (w : World) (c n m : Nat) (h : Blk w c 55 #[.int .u64 (m : Int)]) : Calls Try.prog 47 #[.int .u64 (n : Int), .pointer (some ⟨c, 0, none⟩)] w (PCloPost w c n m) := by
  obtain ⟨d0, d1, dz⟩ := Blk1P h
  have HB := Lib.hid h
  have hend : ∀ k : Nat, k = (if n < m then n else m) → PCloPost w c n m (.returned (.tuple #[])) (w.setCell ⟨c, 0, none⟩ (.int .u64 (k : Int))) := fun k hk => by
    subst hk
    exact ⟨rfl, HB.out.set_ 0 _, (Upd.refl _ _).setIn 0 _⟩
  have HE := Lib.hid hend
  clear hend
  by_cases hlt : n < m
  · have hlt' : (n : Int) < (m : Int) := by omega
    go_enter Try.func47, Try.ntmps47
    go_wp2_with fail
    go_end0
    exact HE.out n (if_pos hlt).symm
  · have hlt' : ¬ (n : Int) < (m : Int) := by omega
    go_enter Try.func47, Try.ntmps47
    go_wp2_with fail
    go_end0
    exact HE.out m (if_neg hlt).symm
def PEachPost (w : World) (c : Nat) (N : ByteArray → Option Nat) (L : Nat → Option (Nat × Nat)) (last : Nat) (e : Ending) (w' : World) : Prop := ∃ r, e = .returned (.tuple #[]) ∧ Blk w' c 55 #[.int .u64 ((r : Nat) : Int)] ∧ FloorIs N L last r ∧ Upd (· = c) w w'
/-- The floor in the midst of the names; of the leases. -/
def MidN (N : ByteArray → Option Nat) (last r : Nat) (left : ByteArray → Bool) : Prop := r ≤ last ∧ (∀ s n, okS s → left s = false → N s = some n → r ≤ n) ∧ (r = last ∨ ∃ s n, N s = some n ∧ r = n)
def MidF (N : ByteArray → Option Nat) (L : Nat → Option (Nat × Nat)) (last r : Nat) (left : Nat → Bool) : Prop := r ≤ last ∧ (∀ s n, okS s → N s = some n → r ≤ n) ∧ (∀ k x, okU k → left k = false → L k = some x → r ≤ x.1) ∧ (r = last ∨ (∃ s n, N s = some n ∧ r = n) ∨ ∃ k x, L k = some x ∧ r = x.1)
theorem MidN.step {last r : Nat} {left : ByteArray → Bool} (h : MidN N last r left) {x : ByteArray} {n : Nat} (hn : N x = some n) : MidN N last (if n < r then n else r) (fun k => left k && !decide (k = x)) := by
  obtain ⟨h1, h2, h3⟩ := h
  refine ⟨by split <;> omega, fun s m hs hl hm => ?_, ?_⟩
  · by_cases hsx : s = x
    · subst hsx
      rw [hn] at hm
      cases hm
      split <;> omega
    · have := h2 s m hs (by simpa [hsx] using hl) hm
      split <;> omega
  · split
    · exact .inr ⟨x, n, hn, rfl⟩
    · exact h3
theorem MidF.step {last r : Nat} {left : Nat → Bool} (h : MidF N L last r left) {x a u : Nat} (hn : L x = some (a, u)) : MidF N L last (if a < r then a else r) (fun k => left k && !decide (k = x)) := by
  obtain ⟨h1, h2, h3, h4⟩ := h
  refine ⟨by split <;> omega, fun s m hs hm => by have := h2 s m hs hm; split <;> omega, fun k y hk hl hm => ?_, ?_⟩
  · by_cases hsx : k = x
    · subst hsx
      rw [hn] at hm
      cases hm
      dsimp only
      split <;> omega
    · have := h3 k y hk (by simpa [hsx] using hl) hm
      split <;> omega
  · split
    · exact .inr (.inr ⟨x, _, hn, rfl⟩)
    · exact h4
set_option maxRecDepth 100000 in
set_option maxHeartbeats 4000000 in
theorem peach (w : World) (h : PnAt w p nm lm N nn L ln) (c last : Nat) (hc : Blk w c 55 #[.int .u64 (last : Int)]) (c1 : c ≠ p) (c2 : c ≠ nm) (c3 : c ≠ lm) :
    Calls Try.prog 46 #[.pointer (some ⟨p, 0, none⟩), .func (.func 47) #[] #[.pointer (some ⟨c, 0, none⟩)]] w (PEachPost w c N L last) := by
  obtain ⟨d0, d1, d2, dz⟩ := Blk2P h.blk
  have hna := h.na
  have HP := Lib.hid h
  have HC := Lib.hid hc
  go_enter Try.func46, Try.ntmps46
  go_wp2_with (at_range; refine wpList_mp_range keyS.toKeyB rfl _ _ 55 rfl Try.underlying99 rfl hna ?_; intro w0 hrg0 hN0 hs0)
  go_frame
  generalize hr : w.heap.size = r at hrg0 ⊢
  have HR := Lib.hid hr
  have hpr := HP.out.blk.lt
  have hlr := HP.out.le.lt
  have hnr := HP.out.na.lt
  have hcr := HC.out.lt
  rw [hr] at hpr hlr hnr hcr
  have HV := Lib.hid (And.intro hpr (And.intro hlr (And.intro hnr hcr)))
  have HC0 := Lib.hid (HC.out.new hN0)
  have HU0 := Lib.hid (Upd.new (S := (· = c)) hN0)
  clear hr hpr hlr hnr hcr hna d0 d1 d2 dz h hc hs0 hN0
  go_loopw [5] (fun _ wr => ∃ (cnt : Nat) (left : ByteArray → Bool) (m : Nat), MpRg Try.prog 9 litS okS wr nm r nn (valN N) left cnt ∧ Blk wr c 55 #[.int .u64 (m : Int)] ∧ MidN N last m left ∧ Upd (· = c) w wr) (fun _ wr => wr.rangeLeft nm r)
  case atStart =>
    refine ⟨_, _, last, hrg0, HC0.out, ⟨Nat.le_refl _, fun s n hs hl hm => ?_, .inl rfl⟩, HU0.out⟩
    have hl' : (valN N s).isSome = false := hl
    rw [valN_some, hm] at hl'
    cases hl'
  case round =>
    obtain ⟨cnt, left, m, hrg, hcb, hmid, hU⟩ := hrel
    have hle := hrg.left_eq
    have HLE := Lib.hid hle
    have HM := Lib.hid hmid
    have HU := Lib.hid hU
    have HCB := Lib.hid hcb
    clear hmid hle hU hcb
    go_wp2_with (at_next; refine wpList_mp_next keyS rfl _ rfl rfl hrg ?_ ?_)
    · intro h0 hl
      have hP1 := HP.out.upd HU.out (fun k hk e => by
        rcases hk with rfl | rfl | rfl
        · exact c1 e.symm
        · exact c2 e.symm
        · exact c3 e.symm)
      obtain ⟨d0, d1, d2, dz⟩ := Blk2P hP1.blk
      have hle := hP1.le
      have HP1 := Lib.hid hP1
      have HL := Lib.hid hl
      clear hP1 hl hrg h0
      go_wp2_with (at_range; refine wpList_mp_range keyN.toKeyB rfl _ _ 137 rfl Try.underlying100 rfl hle ?_; intro w2 hrg2 hN2 hs2)
      go_frame
      obtain ⟨wo, hwo⟩ : ∃ wo, wo = wr := ⟨_, rfl⟩
      subst hwo
      generalize hr : wo.heap.size = r2 at hrg2 ⊢
      have HR2 := Lib.hid hr
      have HPW := Lib.hid (show p < r2 ∧ lm < r2 ∧ c < r2 by have h1 := HP1.out.blk.lt; have h2 := HP1.out.le.lt; have h3 := HCB.out.lt; rw [hr] at h1 h2 h3; exact ⟨h1, h2, h3⟩)
      have HC2 := Lib.hid (HCB.out.new hN2)
      have HU2 := Lib.hid (Upd.new (S := (· = c)) hN2)
      clear hr hle d0 d1 d2 dz hs2 hN2
      go_loopw [7] (fun _ wr => ∃ (cnt : Nat) (left : Nat → Bool) (m : Nat), MpRg Try.prog 55 litU okU wr lm r2 ln (valL L) left cnt ∧ Blk wr c 55 #[.int .u64 (m : Int)] ∧ MidF N L last m left ∧ Upd (· = c) wo wr) (fun _ wr => wr.rangeLeft lm r2)
      case atStart =>
        refine ⟨_, _, m, hrg2, HC2.out, ⟨HM.out.1, fun s n hs hn => HM.out.2.1 s n hs (HL.out s hs) hn, fun k x hk hl hm => ?_, HM.out.2.2.elim .inl fun h => .inr (.inl h)⟩, HU2.out⟩
        have hl' : (valL L k).isSome = false := hl
        rw [valL_some, hm] at hl'
        cases hl'
      case round =>
        obtain ⟨cnt2, left2, m2, hrg2, hcb, hmid, hU⟩ := hrel
        have hle2 := hrg2.left_eq
        have HLE2 := Lib.hid hle2
        have HM2 := Lib.hid hmid
        have HUU := Lib.hid hU
        have HCB2 := Lib.hid hcb
        clear hmid hle2 hU hcb
        go_wp2_with (at_next; refine wpList_mp_next keyN rfl _ rfl rfl hrg2 ?_ ?_)
        · intro h0 hl
          go_wp2_with fail
          go_end0
          exact ⟨m2, rfl, HCB2.out, ⟨HM2.out.1, HM2.out.2.1, fun k x hk hx => HM2.out.2.2.1 k x hk (hl k hk) hx, HM2.out.2.2.2⟩, HU.out.trans HUU.out (fun _ _ h => h)⟩
        · intro x v w1 cnt1 hx hlx hfx hrg1 hlt hu1 hsz1 hen
          obtain ⟨y, hMy, rfl⟩ := valL_at hfx
          obtain ⟨ya, yu⟩ := y
          dsimp only at hen ⊢
          have hC1 := HCB2.out.upd hu1 (fun e => by have := HPW.out.2.2; omega)
          have hBz := Blk.mk_new w1 137 #[.int .u64 0, .int .u64 0]
          have hB := Blk.mk_new w1 137 #[.int .u64 (ya : Int), .int .u64 (yu : Int)]
          obtain ⟨z0, z1, z2, zz⟩ := Blk2P hBz
          obtain ⟨q0, q1, q2, qz⟩ := Blk2P hB
          have hN := (New.refl w1).alloc (.cells #[.int .u64 (ya : Int), .int .u64 (yu : Int)] 137)
          have hC3 := hC1.new hN
          have hrg3 := hrg1.upd (Upd.new (S := fun _ => False) hN) (fun h => h) (fun h => h)
          have HMY := Lib.hid hMy
          have HN := Lib.hid hN
          clear hBz hB hN hMy hfx hrg2 hsz1 hC1
          go_wp2_with (go_at_call 47; refine (pclo _ c ya m2 hC3).mono ?_; rintro e w3 ⟨rfl, hC4, hU4⟩)
          have hrg4 := hrg3.upd hU4 (fun e => c3 e.symm) (fun e => by have := HPW.out.2.2; omega)
          go_roundw
          case rel =>
            exact ⟨cnt1, _, _, hrg4, hC4, HM2.out.step HMY.out, ((HUU.out.trans hu1 (fun i hi e => by have := HR2.out; omega)).trans (Upd.new (S := fun _ => False) HN.out) (fun _ _ h => h.elim)).trans hU4 (fun _ _ h => h)⟩
          case measure =>
            rw [hrg4.left_eq, HLE2.out]
            exact hlt
    · intro x v w1 cnt1 hx hlx hfx hrg1 hlt hu1 hsz1 hen
      obtain ⟨n, hNx, rfl⟩ := valN_at hfx
      have hC1 := HCB.out.upd hu1 (fun e => by have := HV.out.2.2.2; omega)
      go_wp2_with (go_at_call 47; refine (pclo _ c n m hC1).mono ?_; rintro e w2 ⟨rfl, hC2, hU2⟩)
      have hrg3 := hrg1.upd hU2 (fun e => c2 e.symm) (fun e => by have := HV.out.2.2.2; omega)
      go_roundw
      case rel =>
        exact ⟨cnt1, _, _, hrg3, hC2, HM.out.step hNx, (HU.out.trans hu1 (fun i hi e => by have := HR.out; omega)).trans hU2 (fun _ _ h => h)⟩
      case measure =>
        rw [hrg3.left_eq, HLE.out]
        exact hlt
def PFloorPost (w : World) (N : ByteArray → Option Nat) (L : Nat → Option (Nat × Nat)) (last : Nat) (e : Ending) (w' : World) : Prop := ∃ r : Nat, e = .returned (.int .u64 (r : Int)) ∧ FloorIs N L last r ∧ New w w'
set_option maxRecDepth 100000 in
set_option maxHeartbeats 4000000 in
theorem pfloor (w : World) (h : PnAt w p nm lm N nn L ln) (last : Nat) :
    Calls Try.prog 25 #[.pointer (some ⟨p, 0, none⟩), .int .u64 (last : Int)] w (PFloorPost w N L last) := by
  have hB := Blk.mk_new w 55 #[.int .u64 (last : Int)]
  obtain ⟨q0, q1, qz⟩ := Blk1P hB
  have hN := (New.refl w).alloc (.cells #[.int .u64 (last : Int)] 55)
  have hP := h.new hN
  have h1 : w.heap.size ≠ p := fun e => by have := h.blk.lt; omega
  have h2 : w.heap.size ≠ nm := fun e => by have := h.na.lt; omega
  have h3 : w.heap.size ≠ lm := fun e => by have := h.le.lt; omega
  have HN := Lib.hid hN
  clear hN
  go_enter Try.func25, Try.ntmps25
  go_wp2_with (go_at_call 46; refine (peach _ hP w.heap.size last hB h1 h2 h3).mono ?_; rintro e w1 ⟨r, rfl, hC, hF, hU⟩; obtain ⟨e0, e1, ez⟩ := Blk1P hC)
  go_ret
  exact ⟨r, rfl, hF, HN.out.upd hU (fun i hi => by omega)⟩
end
end Go.Proofs.Ytcganajbfplmpaa
