/- Chapter 11 (cache), the document's answer: Drop, Same. -/
import Derived.Test.YtcganajbfplmpaaCaR
namespace Go.Proofs.Ytcganajbfplmpaa
open Go.RowKit Go.Lap
set_option linter.unusedVariables false

theorem wo_del (E : List Ent) (id : Int) : wo E (plcI E id) = delE E id := by
  unfold wo plcI delE
  by_cases h : plc E id < E.length
  · rw [if_pos h, if_neg (by omega)]
    rfl
  · rw [if_neg h, if_pos (by decide)]
    exact (eraseIdx_past E (by unfold plc at h; omega)).symm
theorem plcI_has (E : List Ent) (id : Int) : (0 ≤ plcI E id) ↔ (fnd E id).isSome = true := by
  rw [plc_has]
  unfold plcI
  by_cases h : plc E id < E.length
  · rw [if_pos h]; simp [h]
  · rw [if_neg h]; simp [h]
theorem delE_len (E : List Ent) (id : Int) : (delE E id).length ≤ E.length := (List.eraseIdx_sublist E _).length_le
theorem dropE_len (E : List Ent) : ∀ (ids : List Int), (dropE E ids).1.length ≤ E.length := by
  have key : ∀ (ids : List Int) (p : List Ent × Nat), (ids.foldl dropS p).1.length ≤ p.1.length := by
    intro ids
    induction ids with
    | nil => intro p; exact Nat.le_refl _
    | cons x ids ih => intro p; exact Nat.le_trans (ih (dropS p x)) (delE_len p.1 x)
  exact fun ids => key ids (E, 0)
/-- The row that comes back lies in a new block, or is the old one. -/
def Fresh (w : World) (v u : Value) : Prop := u = v ∨ ∀ b off n c, u = .slice (some ⟨b, off, none⟩) n c → w.heap.size ≤ b
theorem Fresh.of {α : Type} {w w' : World} {v u : Value} {base e size : Nat} {enc : α → List Value} {l : List α} (h : Owns w' base e size enc u l) (hb : w.heap.size ≤ base) : Fresh w v u := .inr fun b off n c e => by have := (h.lt b (by rw [e]; rfl)).1; omega
def RDropPost (w : World) (v : Value) (E : List Ent) (ids : List Int) (e : Ending) (w' : World) : Prop := ∃ u, e = .returned (.tuple #[u, .int .i64 ((dropE E ids).2 : Int)]) ∧ SlIn w' 3 entC u (dropE E ids).1 ∧ New w w' ∧ Fresh w v u

set_option maxRecDepth 100000 in
set_option maxHeartbeats 4000000 in
theorem rdrop_any {v vi : Value} {E : List Ent} {ids : List Int} (w : World) (hs : SlIn w 3 entC v E) (hl : E.length ≤ 100000) (hi : SlIn w 1 iE vi ids) (hil : ids.length ≤ 100000) :
    Calls Try.prog 16 #[v, vi] w (RDropPost w v E ids) := by
  obtain ⟨A0, n0, c0, rfl⟩ := entShape hs
  obtain ⟨A, cp, hv, hcp, hor⟩ := id hi
  subst hv
  have HS := Lib.hid hs
  clear hs hi
  go_enter Try.func16, Try.ntmps16
  go_wp2_with fail
  go_loopw [0, 6, 7, 8] (fun u0 u6 i _ wr => ∃ k : Nat, k ≤ ids.length ∧ i = .int .i64 k ∧ u6 = .int .i64 ((dropE E (ids.take k)).2 : Int) ∧ SlIn wr 3 entC u0 (dropE E (ids.take k)).1 ∧ New w wr ∧ Fresh w (.slice A0 n0 c0) u0) (fun _ _ i _ _ => ids.length - (intOf i).toNat)
  case atStart => exact ⟨0, by omega, rfl, rfl, HS.out, New.refl _, .inl rfl⟩
  case round =>
    obtain ⟨k, hk, rfl, rfl, hse, hn, hfr⟩ := hrel
    have HFR := Lib.hid hfr
    clear hfr
    have hnk := dropE_le E (ids.take k)
    rw [List.length_take] at hnk
    have hlk := dropE_len E (ids.take k)
    obtain ⟨sA, sn, sc, rfl⟩ := entShape hse
    generalize hp : dropE E (ids.take k) = p at hse hnk hlk ⊢
    have HP := Lib.hid hp
    have HSE := Lib.hid hse
    have HN := Lib.hid hn
    clear hp hse
    by_cases hlt : k < ids.length
    · have hlt' : (k : Int) < (ids.length : Int) := by omega
      have hk0 : (0 : Int) ≤ (k : Int) := by omega
      rcases hor with hor | ⟨b, off, rfl, hb, hc⟩
      · rw [hor] at hlt; simp at hlt
      obtain ⟨x, hx⟩ : ∃ x, ids[k]? = some x := ⟨_, List.getElem?_eq_getElem hlt⟩
      have e1 : wr.cell? ⟨b, off + k, none⟩ = some (.int .i64 x) := (hn.cells.1 _ _ hb).trans (by have := hc _ x hx 0 _ rfl; simpa using this)
      have HST := Lib.hid (show dropE E (ids.take (k + 1)) = (wo p.1 (plcI p.1 x), if 0 ≤ plcI p.1 x then p.2 + 1 else p.2) by
        rw [dropE_snoc E ids hx, HP.out, wo_del]
        unfold dropS
        congr 1
        by_cases h : (fnd p.1 x).isSome = true
        · rw [if_pos ((plcI_has p.1 x).2 h)]; exact if_pos h
        · rw [if_neg (fun h2 => h ((plcI_has p.1 x).1 h2))]; exact if_neg h)
      clear hc hx hn
      go_wp2_with fail
      refine (rfind_any wr HSE.out (by omega) x).mono ?_
      rintro e w2 ⟨rfl, rfl⟩
      generalize hq : plcI p.1 x = q at HST
      have HQ := Lib.hid hq
      clear hq
      by_cases hq0 : 0 ≤ q
      · go_wp2_with fail
        refine (rwithout_any w2 HSE.out (by omega) q).mono ?_
        rintro e w3 ⟨u, rfl, ho, hn3⟩
        have HO := Lib.hid (Owns.slIn entOk ho)
        have HFR3 : Hid (Fresh w (.slice A0 n0 c0) u) := Lib.hid (Fresh.of ho HN.out.size)
        have HN3 := Lib.hid (HN.out.trans hn3)
        clear ho hn3
        go_wp2_with fail
        go_roundw
        case rel =>
          have hst := HST.out
          rw [if_pos hq0] at hst
          exact ⟨k + 1, by omega, by go_num, by rw [hst]; go_num, by rw [hst]; exact HO.out, HN3.out, HFR3.out⟩
        case measure => simp [intOf]; omega
      · go_wp2_with fail
        go_roundw
        case rel =>
          have hst := HST.out
          rw [if_neg (by omega)] at hst
          have hwo : wo p.1 q = p.1 := if_pos (by omega)
          rw [hwo] at hst
          exact ⟨k + 1, by omega, by go_num, by rw [hst], by rw [hst]; exact HSE.out, HN.out, HFR.out⟩
        case measure => simp [intOf]; omega
    · have hlt' : ¬ (k : Int) < (ids.length : Int) := by omega
      obtain rfl : k = ids.length := by omega
      rw [List.take_length] at HP
      go_wp2_with fail
      go_ret2
      exact ⟨_, by rw [HP.out]; rfl, by rw [HP.out]; exact HSE.out, HN.out, HFR.out⟩

set_option maxRecDepth 100000 in
set_option maxHeartbeats 4000000 in
theorem rsame_eq {v v2 : Value} {E : List Ent} (w : World) (hs : SlIn w 3 entC v E) (hs2 : SlIn w 3 entC v2 E) (hl : E.length ≤ 100000) :
    Calls Try.prog 19 #[v, v2] w fun e w' => e = .returned (.bool true) ∧ New w w' := by
  obtain ⟨A, cp, hv, hcp, hor⟩ := id hs
  obtain ⟨A2, cp2, hv2, hcp2, hor2⟩ := id hs2
  subst hv hv2
  go_enter Try.func19, Try.ntmps19
  go_wp2_with fail
  go_loopw [5] (fun i wr => ∃ k : Nat, k ≤ E.length ∧ i = .int .i64 k ∧ New w wr) (fun i _ => E.length - (intOf i).toNat)
  case atStart => exact ⟨0, by omega, rfl, New.refl _⟩
  case round =>
    obtain ⟨k, hk, rfl, hn⟩ := hrel
    have HN := Lib.hid hn
    by_cases hlt : k < E.length
    · have hlt' : (k : Int) < (E.length : Int) := by omega
      have hk0 : (0 : Int) ≤ (k : Int) := by omega
      rcases hor with hor | ⟨b, off, rfl, hb, hc⟩
      · rw [hor] at hlt; simp at hlt
      rcases hor2 with hor2 | ⟨b2, off2, rfl, hb2, hc2⟩
      · rw [hor2] at hlt; simp at hlt
      obtain ⟨x, hx⟩ : ∃ x, E[k]? = some x := ⟨_, List.getElem?_eq_getElem hlt⟩
      obtain ⟨e0, e1, e2⟩ := ent3 (w := wr) (fun k x h j u hu => (hn.cells.1 _ _ hb).trans (hc k x h j u hu)) hx
      obtain ⟨f0, f1, f2⟩ := ent3 (w := wr) (fun k x h j u hu => (hn.cells.1 _ _ hb2).trans (hc2 k x h j u hu)) hx
      have hbl := Nat.lt_of_lt_of_le hb hn.size
      have hbl2 := Nat.lt_of_lt_of_le hb2 hn.size
      clear hc hc2 hx hs hs2 hn
      go_wp2_with fail
      go_quiet (fail)
      go_wp2_with fail
      go_roundw
      case rel => exact ⟨k + 1, by omega, by go_num, HN.out.drewN _⟩
      case measure => simp [intOf]; omega
    · have hlt' : ¬ (k : Int) < (E.length : Int) := by omega
      go_wp2_with fail
      go_ret
      exact ⟨rfl, HN.out⟩
end Go.Proofs.Ytcganajbfplmpaa
