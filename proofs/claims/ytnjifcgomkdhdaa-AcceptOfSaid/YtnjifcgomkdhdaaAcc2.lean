/- Contracts of the reference's Choose, and of the law's own example. -/
import Derived.Test.YtnjifcgomkdhdaaAcc
namespace Go.Proofs.Ytnjifcgomkdhdaa
open Go.RowKit Go.Lap

/-- What the reference's place tells of the best promise so far. -/
def AtIs (own : ByteArray) (l : List Pro) (k : Nat) (a : Int) : Prop :=
  (a = -1 ∧ (Pro.best own (l.take k)).has = false ∧ (Pro.best own (l.take k)).v = own) ∨
  ∃ j : Nat, j < k ∧ a = (j : Int) ∧ l[j]? = some (Pro.best own (l.take k)) ∧ (Pro.best own (l.take k)).has = true

theorem AtIs.start (own : ByteArray) (l : List Pro) : AtIs own l 0 (-1) := .inl ⟨rfl, rfl, rfl⟩
theorem AtIs.same {own : ByteArray} {l : List Pro} {k : Nat} {a : Int} {x : Pro} (h : AtIs own l k a) (hx : l[k]? = some x) (hb : betterB (Pro.best own (l.take k)).has (Pro.best own (l.take k)).r (Pro.best own (l.take k)).n x.has x.r x.n = false) : AtIs own l (k + 1) a := by
  unfold AtIs at h ⊢
  have e := Pro.best_snoc own l k x hx
  rw [e]
  have : (Pro.best own (l.take k)).take x = Pro.best own (l.take k) := by unfold Pro.take; rw [hb]; rfl
  rw [this]
  rcases h with h | ⟨j, hj, h⟩
  · exact .inl h
  · exact .inr ⟨j, by omega, h⟩
theorem AtIs.moved {own : ByteArray} {l : List Pro} {k : Nat} {x : Pro} (hx : l[k]? = some x) (hb : betterB (Pro.best own (l.take k)).has (Pro.best own (l.take k)).r (Pro.best own (l.take k)).n x.has x.r x.n = true) (hh : x.has = true) : AtIs own l (k + 1) (k : Int) := by
  unfold AtIs
  have e := Pro.best_snoc own l k x hx
  rw [e]
  have : (Pro.best own (l.take k)).take x = x := by unfold Pro.take; rw [hb]; rfl
  rw [this]
  exact .inr ⟨k, by omega, rfl, hx, hh⟩

set_option maxHeartbeats 1000000 in
theorem refChoose_some (own : ByteArray) (l : List Pro) (b off c : Nat) (w : World) (hl : l.length ≤ 1000000) (hb : b < w.heap.size)
    (hc : ∀ k x, l[k]? = some x → ∀ j u, (Pro.enc x)[j]? = some u → w.cell? ⟨b, off + k * 4 + j, none⟩ = some u) :
    Calls Try.prog 16 #[.string own, .slice (some ⟨b, off, none⟩) l.length c] w fun e w' => e = .returned (.string (Pro.best own l).v) ∧ New w w' := by
  go_enter Try.func16, Try.ntmps16
  go_wp2_with fail
  go_loopw [5, 6] (fun at_ i wr => ∃ (k : Nat) (a : Int), k ≤ l.length ∧ i = .int .i64 k ∧ at_ = .int .i64 a ∧ New w wr ∧ AtIs own l k a) (fun _ i _ => l.length - (intOf i).toNat)
  case atStart => exact ⟨0, -1, Nat.zero_le _, rfl, rfl, New.refl _, AtIs.start _ _⟩
  case round =>
    obtain ⟨k, a, hk, rfl, rfl, hn, ha⟩ := hrel
    by_cases hlt : k < l.length
    · obtain ⟨x, hx⟩ : ∃ x, l[k]? = some x := ⟨_, List.getElem?_eq_getElem hlt⟩
      have e0 : wr.cell? ⟨b, off + k * 4, none⟩ = some (.bool x.has) := (hn.cells.1 _ _ hb).trans (hc k x hx 0 _ rfl)
      have e1 : wr.cell? ⟨b, off + k * 4 + 1, none⟩ = some (.int .u64 x.r) := (hn.cells.1 _ _ hb).trans (hc k x hx 1 _ rfl)
      have e2 : wr.cell? ⟨b, off + k * 4 + 2, none⟩ = some (.int .u64 x.n) := (hn.cells.1 _ _ hb).trans (hc k x hx 2 _ rfl)
      have hlk : (k : Int) < (l.length : Int) := by omega
      have HX := Lib.hid hx
      clear hx
      obtain ⟨xh, xr, xn, xv⟩ := x
      simp only at e0 e1 e2
      cases xh with
      | false =>
        go_wp2_with fail
        go_quiet (fail)
        go_wp2_with fail
        go_roundw
        case rel => exact ⟨k + 1, a, by omega, by go_num, rfl, hn.drewN _, ha.same HX.out (by simp [betterB])⟩
        case measure => simp [intOf]; omega
      | true =>
        rcases ha with ⟨rfl, hh, hv⟩ | ⟨j, hj, rfl, hxj, hh⟩
        · go_wp2_with fail
          go_quiet (fail)
          go_wp2_with fail
          go_roundw
          case rel => exact ⟨k + 1, k, by omega, by go_num, rfl, hn.drewN _, AtIs.moved HX.out (by simp [betterB, hh]) rfl⟩
          case measure => simp [intOf]; omega
        · have f1 : wr.cell? ⟨b, off + j * 4 + 1, none⟩ = some (.int .u64 (Pro.best own (l.take k)).r) := (hn.cells.1 _ _ hb).trans (hc j _ hxj 1 _ rfl)
          have f2 : wr.cell? ⟨b, off + j * 4 + 2, none⟩ = some (.int .u64 (Pro.best own (l.take k)).n) := (hn.cells.1 _ _ hb).trans (hc j _ hxj 2 _ rfl)
          have hbr : b < wr.heap.size := Nat.lt_of_lt_of_le hb hn.size
          have hj0 : (0 : Int) ≤ (j : Int) := by omega
          have hj1 : (j : Int) < (l.length : Int) := by omega
          have hj2 : decide ((j : Int) < 0) = false := by simp
          have hj3 : j < l.length := by omega
          have HJ := Lib.hid hxj
          have HH := Lib.hid hh
          clear hxj hh
          generalize hbest : Pro.best own (l.take k) = B at *
          have HBe := Lib.hid hbest
          clear hbest
          cases hl : lessB B.r B.n xr xn
          all_goals
            go_wp2_with fail
            go_region_held3 (fun w' => Held wr w') (first | exact Held.of (New.refl _).drew | exact Held.step (by assumption) hb1) (first | (go_at_call 18; refine (refLess_any _ _ _ _ _).mono ?_; rintro e w1 ⟨rfl, hb1⟩))
            go_wp2_with fail
          · go_roundw
            case rel => exact ⟨k + 1, j, by omega, by go_num, rfl, hn.drew.trans hb1, AtIs.same (.inr ⟨j, hj, rfl, by rw [HBe.out]; exact HJ.out, by rw [HBe.out]; exact HH.out⟩) HX.out (by rw [HBe.out]; simp [betterB, hl, HH.out])⟩
            case measure => simp [intOf]; omega
          · go_roundw
            case rel => exact ⟨k + 1, k, by omega, by go_num, rfl, hn.drew.trans hb1, AtIs.moved HX.out (by rw [HBe.out]; simp [betterB, hl]) rfl⟩
            case measure => simp [intOf]; omega
    · have hke : l.take k = l := List.take_of_length_le (by omega)
      have hkn : ¬ (k : Int) < (l.length : Int) := by omega
      rcases ha with ⟨rfl, hh, hv⟩ | ⟨j, hj, rfl, hxj, hh⟩
      · rw [hke] at hv
        have HV := Lib.hid hv
        clear hv hh hke
        go_wp2_with fail
        go_ret
        exact ⟨ret_eq (by rw [HV.out]; rfl), hn⟩
      · rw [hke] at hxj
        have f3 : wr.cell? ⟨b, off + j * 4 + 3, none⟩ = some (.string (Pro.best own l).v) := (hn.cells.1 _ _ hb).trans (hc j _ hxj 3 _ rfl)
        have hj0 : (0 : Int) ≤ (j : Int) := by omega
        have hj1 : (j : Int) < (l.length : Int) := by omega
        have hj3 : j < l.length := by omega
        clear hxj hh hke
        go_wp2_with fail
        go_ret
        exact ⟨rfl, hn⟩

theorem refChoose_any (own : ByteArray) (l : List Pro) (v : Value) (w : World) (hl : l.length ≤ 1000000) (hs : SlIn w 4 Pro.enc v l) :
    Calls Try.prog 16 #[.string own, v] w fun e w' => e = .returned (.string (Pro.best own l).v) ∧ New w w' := by
  obtain ⟨A, c, rfl, _, h⟩ := hs
  rcases h with rfl | ⟨b, off, rfl, hb, hc⟩
  · go_enter Try.func16, Try.ntmps16
    go_wp2_with fail
    refine wp_loop_rounds 1 ?_
    rw [rounds_succ]
    go_wp2_with fail
    go_ret
    exact ⟨rfl, New.refl _⟩
  · exact refChoose_some own l b off c w hl hb hc

end Go.Proofs.Ytnjifcgomkdhdaa
