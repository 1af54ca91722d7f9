/- Chapter 18 (pins), the document's answer: Same, of two rows of the same names. -/
import Derived.Test.YtcganajbfplmpaaPn9
import Derived.Laws.StructEq
namespace Go.Proofs.Ytcganajbfplmpaa
open Go.RowKit Go.Lap
set_option linter.unusedVariables false

theorem pnShape {w : World} {v : Value} {l : List Pnm} (h : SlIn w 2 pnC v l) : ∃ A n c, v = .slice A n c := let ⟨A, c, hv, _⟩ := h; ⟨A, _, c, hv⟩
theorem pn2 {w : World} {b off : Nat} {E : List Pnm} (hc : ∀ k x, E[k]? = some x → ∀ j u, (pnC x)[j]? = some u → w.cell? ⟨b, off + k * 2 + j, none⟩ = some u) {k : Nat} {x : Pnm} (hx : E[k]? = some x) :
    w.cell? ⟨b, off + k * 2, none⟩ = some (.string x.s) ∧ w.cell? ⟨b, off + k * 2 + 1, none⟩ = some (.int .u64 (x.n : Int)) :=
  ⟨by have := hc _ x hx 0 _ rfl; simpa using this, by have := hc _ x hx 1 _ rfl; simpa using this⟩
set_option maxRecDepth 100000 in
set_option maxHeartbeats 4000000 in
theorem psame_eq {v v2 : Value} {E : List Pnm} (w : World) (hs : SlIn w 2 pnC v E) (hs2 : SlIn w 2 pnC v2 E) (hl : E.length ≤ 100000) :
    Calls Try.prog 30 #[v, v2] w fun e w' => e = .returned (.bool true) ∧ New w w' := by
  obtain ⟨A, cp, hv, hcp, hor⟩ := _root_.id hs
  obtain ⟨A2, cp2, hv2, hcp2, hor2⟩ := _root_.id hs2
  subst hv hv2
  go_enter Try.func30, Try.ntmps30
  go_wp2_with fail
  go_loopw [5] (fun i wr => ∃ k : Nat, k ≤ E.length ∧ i = .int .i64 k ∧ New w wr) (fun i _ => E.length - (intOf i).toNat)
  case atStart => exact ⟨0, by omega, rfl, New.refl _⟩
  case round =>
    obtain ⟨k, hk, rfl, hn⟩ := hrel
    have HN := Lib.hid hn
    by_cases hlt : k < E.length
    · have hlt' : (k : Int) < (E.length : Int) := by omega
      have hk0 : (0 : Int) ≤ (k : Int) := by omega
      rcases hor with hor | ⟨b, off, rfl, hb, hc⟩
      · rw [hor] at hlt; simp at hlt
      rcases hor2 with hor2 | ⟨b2, off2, rfl, hb2, hc2⟩
      · rw [hor2] at hlt; simp at hlt
      obtain ⟨x, hx⟩ : ∃ x, E[k]? = some x := ⟨_, List.getElem?_eq_getElem hlt⟩
      obtain ⟨e0, e1⟩ := pn2 (w := wr) (fun k x h j u hu => (hn.cells.1 _ _ hb).trans (hc k x h j u hu)) hx
      obtain ⟨f0, f1⟩ := pn2 (w := wr) (fun k x h j u hu => (hn.cells.1 _ _ hb2).trans (hc2 k x h j u hu)) hx
      have hbl := Nat.lt_of_lt_of_le hb hn.size
      have hbl2 := Nat.lt_of_lt_of_le hb2 hn.size
      clear hc hc2 hx hs hs2 hn
      go_wp2_with fail
      go_quiet (fail)
      go_wp2_with fail
      go_roundw
      case rel => exact ⟨k + 1, by omega, by go_num, HN.out.drewN _⟩
      case measure => simp [intOf]; omega
    · have hlt' : ¬ (k : Int) < (E.length : Int) := by omega
      go_wp2_with fail
      go_ret
      exact ⟨rfl, HN.out⟩
end Go.Proofs.Ytcganajbfplmpaa
