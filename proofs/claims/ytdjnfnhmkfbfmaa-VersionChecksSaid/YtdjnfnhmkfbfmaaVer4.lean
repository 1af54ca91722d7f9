/- Contracts of Same, Check, Last, few and of the chapter's example (chapter 16). -/
import Derived.Test.YtdjnfnhmkfbfmaaVer3
namespace Go.Proofs.Ytdjnfnhmkfbfmaa
open Go.RowKit Go.Lap
set_option linter.unusedVariables false

set_option maxHeartbeats 1000000 in
theorem same_eq (l : List Ver) (v v' : Value) (w : World) (hl : l.length ≤ 1000000000) (hs : SlIn w 3 Ver.enc v l) (hs' : SlIn w 3 Ver.enc v' l) :
    Calls Try.prog 22 #[v, v'] w fun e w' => e = .returned (.bool true) ∧ New w w' := by
  obtain ⟨A, c, rfl, hlc, h⟩ := hs
  obtain ⟨A', c', rfl, hlc', h'⟩ := hs'
  have hne : ((l.length : Int) != (l.length : Int)) = false := by simp
  go_enter Try.func22, Try.ntmps22
  go_wp2_with fail
  go_loopw [5] (fun i wr => ∃ j : Nat, j ≤ l.length ∧ i = .int .i64 j ∧ New w wr) (fun i _ => l.length - (intOf i).toNat)
  case atStart => exact ⟨0, by omega, rfl, New.refl _⟩
  case round =>
    obtain ⟨j, hj, rfl, hn⟩ := hrel
    by_cases hlt : j < l.length
    · have hlt' : (j : Int) < (l.length : Int) := by omega
      have hj0 : (0 : Int) ≤ (j : Int) := by omega
      rcases h with rfl | ⟨b, off, rfl, hb, hc⟩
      · simp at hlt
      rcases h' with rfl | ⟨b', off', rfl, hb', hc'⟩
      · simp at hlt
      obtain ⟨x, hx⟩ : ∃ x, l[j]? = some x := ⟨_, List.getElem?_eq_getElem (by omega)⟩
      have e1 : wr.cell? ⟨b, off + j * 3, none⟩ = some (.int .u64 x.at_) := (hn.cells.1 _ _ hb).trans (hc _ x hx 0 _ rfl)
      have e2 : wr.cell? ⟨b, off + j * 3 + 1, none⟩ = some (.string x.val) := (hn.cells.1 _ _ hb).trans (hc _ x hx 1 _ rfl)
      have e3 : wr.cell? ⟨b, off + j * 3 + 2, none⟩ = some (.bool x.gone) := (hn.cells.1 _ _ hb).trans (hc _ x hx 2 _ rfl)
      have f1 : wr.cell? ⟨b', off' + j * 3, none⟩ = some (.int .u64 x.at_) := (hn.cells.1 _ _ hb').trans (hc' _ x hx 0 _ rfl)
      have f2 : wr.cell? ⟨b', off' + j * 3 + 1, none⟩ = some (.string x.val) := (hn.cells.1 _ _ hb').trans (hc' _ x hx 1 _ rfl)
      have f3 : wr.cell? ⟨b', off' + j * 3 + 2, none⟩ = some (.bool x.gone) := (hn.cells.1 _ _ hb').trans (hc' _ x hx 2 _ rfl)
      clear hx hc hc'
      go_wp2_with fail
      go_quiet (fail)
      go_wp2_with fail
      go_roundw
      case rel => exact ⟨j + 1, by omega, by go_num, hn.drewN _⟩
      case measure => simp [intOf]; omega
    · have hlt' : ¬ (j : Int) < (l.length : Int) := by omega
      go_wp2_with fail
      go_ret
      exact ⟨rfl, hn⟩

set_option maxHeartbeats 1000000 in
theorem check_any (l : List Ver) (v : Value) (w : World) (hl : l.length ≤ 1000000000) (hs : SlIn w 3 Ver.enc v l) :
    Calls Try.prog 25 #[v] w fun e w' => e = .returned (.bool (riseB l)) ∧ New w w' := by
  obtain ⟨A, c, rfl, hlc, h⟩ := hs
  go_enter Try.func25, Try.ntmps25
  go_wp2_with fail
  go_loopw [3] (fun i wr => ∃ k : Nat, i = .int .i64 k ∧ 1 ≤ k ∧ (k ≤ l.length ∨ k = 1) ∧ New w wr ∧ riseTo l k = true) (fun i _ => l.length - (intOf i).toNat)
  case atStart => exact ⟨1, rfl, by omega, .inr rfl, New.refl _, rfl⟩
  case round =>
    obtain ⟨k, rfl, hk1, hk2, hn, hrt⟩ := hrel
    have HR := Lib.hid hrt
    clear hrt
    by_cases hlt : k < l.length
    · have hlt' : (k : Int) < (l.length : Int) := by omega
      rcases h with rfl | ⟨b, off, rfl, hb, hc⟩
      · simp at hlt
      · obtain ⟨x, hx⟩ : ∃ x, l[k - 1]? = some x := ⟨_, List.getElem?_eq_getElem (by omega)⟩
        obtain ⟨y, hy⟩ : ∃ y, l[k]? = some y := ⟨_, List.getElem?_eq_getElem (by omega)⟩
        have e1 : wr.cell? ⟨b, off + (k - 1) * 3, none⟩ = some (.int .u64 x.at_) := (hn.cells.1 _ _ hb).trans (hc _ x hx 0 _ rfl)
        have e2 : wr.cell? ⟨b, off + k * 3, none⟩ = some (.int .u64 y.at_) := (hn.cells.1 _ _ hb).trans (hc _ y hy 0 _ rfl)
        have hs1 := riseTo_succ l k x y hk1 hx hy
        have HS1 := Lib.hid hs1
        have i1 : (0 : Int) ≤ (k : Int) - 1 := by omega
        have i2 : (k : Int) - 1 < (l.length : Int) := by omega
        clear hs1 hc hx hy
        by_cases hd : y.at_ ≤ x.at_
        · go_wp2_with fail
          go_quiet (fail)
          go_wp2_with fail
          go_ret
          exact ⟨ret_bool (riseB_false l (k + 1) (by omega) (by rw [HS1.out]; simp; omega)), hn.drewN _⟩
        · go_wp2_with fail
          go_quiet (fail)
          go_wp2_with fail
          go_roundw
          case rel => exact ⟨k + 1, by go_num, by omega, .inl (by omega), hn.drewN _, by rw [HS1.out, HR.out]; simp; omega⟩
          case measure => simp [intOf]; omega
    · have hlt' : ¬ (k : Int) < (l.length : Int) := by omega
      go_wp2_with fail
      go_ret
      exact ⟨ret_bool (riseB_true l k (by omega) HR.out), hn⟩

def lastN (l : List Ver) : Int := match l[l.length - 1]? with | some x => x.at_ | none => 0

set_option maxHeartbeats 1000000 in
theorem last_any (l : List Ver) (v : Value) (w : World) (hl : l.length ≤ 1000000000) (hs : SlIn w 3 Ver.enc v l) :
    Calls Try.prog 27 #[v] w fun e w' => e = .returned (.int .u64 (lastN l)) ∧ w = w' := by
  obtain ⟨A, c, rfl, hlc, h⟩ := hs
  rcases h with rfl | ⟨b, off, rfl, hb, hc⟩
  · go_enter Try.func27, Try.ntmps27
    go_wp2_with fail
    go_ret
    exact ⟨rfl, rfl⟩
  · by_cases h0 : l.length = 0
    · obtain rfl : l = [] := List.eq_nil_of_length_eq_zero h0
      go_enter Try.func27, Try.ntmps27
      go_wp2_with fail
      go_ret
      exact ⟨rfl, rfl⟩
    · obtain ⟨x, hx⟩ : ∃ x, l[l.length - 1]? = some x := ⟨_, List.getElem?_eq_getElem (by omega)⟩
      have e1 : w.cell? ⟨b, off + (l.length - 1) * 3, none⟩ = some (.int .u64 x.at_) := hc _ x hx 0 _ rfl
      have h1 : ((l.length : Int) == 0) = false := by simp; exact fun h => h0 (by simp [h])
      have h2 : (1 : Int) ≤ (l.length : Int) := by omega
      have h3 : (0 : Int) ≤ (l.length : Int) - 1 := by omega
      have hla : lastN l = x.at_ := by simp only [lastN, hx]
      have HL := Lib.hid hla
      clear hla hx hc
      go_enter Try.func27, Try.ntmps27
      go_wp2_with fail
      go_ret
      exact ⟨by rw [HL.out]; rfl, rfl⟩

def exampleL : List Ver := [⟨2, ⟨#[97]⟩, false⟩, ⟨5, ⟨#[]⟩, true⟩, ⟨7, ⟨#[98]⟩, false⟩]

set_option maxHeartbeats 1000000 in
theorem example_any (w : World) : Calls Try.prog 42 #[] w fun e w' => ∃ v, e = .returned v ∧ SlIn w' 3 Ver.enc v exampleL ∧ New w w' := by
  go_enter Try.func42, Try.ntmps42
  go_wp2_with fail
  go_ret
  exact ⟨_, rfl, SlIn.lit (l := exampleL) (Blk.mk_new _ _ _) Ver.encOk rfl (by decide), (New.refl _).alloc _⟩

end Go.Proofs.Ytdjnfnhmkfbfmaa
