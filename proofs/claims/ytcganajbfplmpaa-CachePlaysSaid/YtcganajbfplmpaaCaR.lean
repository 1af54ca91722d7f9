/- Chapter 11 (cache), the document's answer: find, without, Drop, Same. -/
import Derived.Test.YtcganajbfplmpaaCaX
import Derived.Laws.StructEq
import Derived.Deep.QuietTactic
import Derived.BigQuiet
namespace Go.Proofs.Ytcganajbfplmpaa
open Go.RowKit Go.Lap
set_option linter.unusedVariables false

theorem entShape {w : World} {v : Value} {l : List Ent} (h : SlIn w 3 entC v l) : ∃ A n c, v = .slice A n c := let ⟨A, c, hv, _⟩ := h; ⟨A, _, c, hv⟩
/-- The place of a number. -/
def plc (E : List Ent) (id : Int) : Nat := E.findIdx fun x => decide (x.id = id)
def plcI (E : List Ent) (id : Int) : Int := if plc E id < E.length then (plc E id : Int) else -1
theorem plc_has (E : List Ent) (id : Int) : (fnd E id).isSome = decide (plc E id < E.length) := by
  unfold fnd plc
  rw [Bool.eq_iff_iff]
  simp only [List.find?_isSome, decide_eq_true_eq, List.findIdx_lt_length]
theorem plc_at {E : List Ent} {id : Int} {k : Nat} {x : Ent} (hx : E[k]? = some x) (hid : x.id = id) (hf : ∀ j y, j < k → E[j]? = some y → y.id ≠ id) : plc E id = k := by
  obtain ⟨hk, hx'⟩ := List.getElem?_eq_some_iff.1 hx
  refine (List.findIdx_eq hk).2 ⟨by rw [hx']; simpa using hid, fun j hj => ?_⟩
  have := hf j E[j] hj (List.getElem?_eq_getElem (by omega))
  simpa using this
theorem plc_none {E : List Ent} {id : Int} (hf : ∀ (j : Nat) y, E[j]? = some y → y.id ≠ id) : plc E id = E.length := by
  refine List.findIdx_eq_length.2 fun x hx => ?_
  obtain ⟨j, hj⟩ := List.getElem?_of_mem hx
  simpa using hf j x hj
theorem ent3 {w : World} {b off : Nat} {E : List Ent} (hc : ∀ k x, E[k]? = some x → ∀ j u, (entC x)[j]? = some u → w.cell? ⟨b, off + k * 3 + j, none⟩ = some u) {k : Nat} {x : Ent} (hx : E[k]? = some x) :
    w.cell? ⟨b, off + k * 3, none⟩ = some (.int .i64 x.id) ∧ w.cell? ⟨b, off + k * 3 + 1, none⟩ = some (.string x.b) ∧ w.cell? ⟨b, off + k * 3 + 2, none⟩ = some (.bool x.d) :=
  ⟨by have := hc _ x hx 0 _ rfl; simpa using this, by have := hc _ x hx 1 _ rfl; simpa using this, by have := hc _ x hx 2 _ rfl; simpa using this⟩

set_option maxRecDepth 100000 in
set_option maxHeartbeats 4000000 in
theorem rfind_any {v : Value} {E : List Ent} (w : World) (hs : SlIn w 3 entC v E) (hl : E.length ≤ 100000) (id : Int) :
    Calls Try.prog 37 #[v, .int .i64 id] w fun e w' => e = .returned (.int .i64 (plcI E id)) ∧ w' = w := by
  obtain ⟨A, cp, hv, hcp, hor⟩ := _root_.id hs
  subst hv
  go_enter Try.func37, Try.ntmps37
  go_wp2_with fail
  go_loopw [5] (fun i wr => ∃ k : Nat, k ≤ E.length ∧ i = .int .i64 k ∧ wr = w ∧ ∀ (j : Nat) y, j < k → E[j]? = some y → y.id ≠ id) (fun i _ => E.length - (intOf i).toNat)
  case atStart => exact ⟨0, by omega, rfl, rfl, fun j y hj => by omega⟩
  case round =>
    obtain ⟨k, hk, rfl, rfl, hf⟩ := hrel
    by_cases hlt : k < E.length
    · have hlt' : (k : Int) < (E.length : Int) := by omega
      have hk0 : (0 : Int) ≤ (k : Int) := by omega
      rcases hor with hor | ⟨b, off, rfl, hb, hc⟩
      · rw [hor] at hlt; simp at hlt
      obtain ⟨x, hx⟩ : ∃ x, E[k]? = some x := ⟨_, List.getElem?_eq_getElem hlt⟩
      obtain ⟨e0, e1, e2⟩ := ent3 hc hx
      have HX := Lib.hid hx
      have HF := Lib.hid hf
      clear hc hx hf hs
      by_cases hid : x.id = id
      · have hp := plc_at HX.out hid HF.out
        have hpi : plcI E id = (k : Int) := by unfold plcI; rw [hp, if_pos hlt]
        have HPI := Lib.hid hpi
        clear hp hpi
        go_wp2_with fail
        go_ret
        exact ⟨ret_int HPI.out.symm, rfl⟩
      · go_wp2_with fail
        go_roundw
        case rel =>
          refine ⟨k + 1, by omega, by go_num, by first | trivial | rfl, fun j y hj hy => ?_⟩
          by_cases hjk : j < k
          · exact HF.out j y hjk hy
          · obtain rfl : j = k := by omega
            rw [HX.out] at hy
            cases hy
            exact hid
        case measure => simp [intOf]; omega
    · have hlt' : ¬ (k : Int) < (E.length : Int) := by omega
      have hp := plc_none (E := E) (id := id) (fun j y hy => hf j y (by have := (List.getElem?_eq_some_iff.1 hy).1; omega) hy)
      have hpi : plcI E id = -1 := by unfold plcI; rw [hp, if_neg (Nat.lt_irrefl _)]
      have HPI := Lib.hid hpi
      clear hp hpi
      go_wp2_with fail
      go_ret
      exact ⟨ret_int HPI.out.symm, rfl⟩

/-- A row without a place. -/
def wo (E : List Ent) (at_ : Int) : List Ent := if at_ < 0 then E else E.eraseIdx at_.toNat
theorem eraseIdx_past {α : Type} (l : List α) {i : Nat} (h : l.length ≤ i) : l.eraseIdx i = l := List.eraseIdx_of_length_le h
theorem wo_step {E : List Ent} {at_ : Int} {k : Nat} {x : Ent} (hx : E[k]? = some x) : wo (E.take (k + 1)) at_ = if (k : Int) = at_ then wo (E.take k) at_ else wo (E.take k) at_ ++ [x] := by
  have hk := (List.getElem?_eq_some_iff.1 hx).1
  have ht : E.take (k + 1) = E.take k ++ [x] := by rw [List.take_add_one, hx]; rfl
  have hl : (E.take k).length = k := by rw [List.length_take]; omega
  unfold wo
  rw [ht]
  by_cases hn : at_ < 0
  · rw [if_pos hn, if_pos hn, if_neg (by omega)]
  · rw [if_neg hn, if_neg hn]
    by_cases he : (k : Int) = at_
    · rw [if_pos he]
      have : at_.toNat = k := by omega
      rw [this, List.eraseIdx_append_of_length_le (by omega), hl, Nat.sub_self, eraseIdx_past (E.take k) (by omega)]
      simp
    · rw [if_neg he]
      by_cases hlt : at_.toNat < k
      · rw [List.eraseIdx_append_of_lt_length (by omega)]
      · rw [List.eraseIdx_append_of_length_le (by omega), eraseIdx_past _ (by simp; omega), eraseIdx_past (E.take k) (by omega)]
theorem wo_len (E : List Ent) (a : Int) : (wo E a).length ≤ E.length := by
  unfold wo
  split
  · exact Nat.le_refl _
  · exact (List.eraseIdx_sublist E _).length_le
def WoPost (w : World) (L : List Ent) (e : Ending) (w' : World) : Prop := ∃ u, e = .returned u ∧ Owns w' w.heap.size 32 3 entC u L ∧ New w w'
theorem entTy : SlTy Try.prog 28 32 (.agg #[.int .i64 0, .string ⟨#[]⟩, .bool false]) 3 32 := ⟨Try.underlying28, by kernel_rfl, rfl, by decide⟩

set_option maxRecDepth 100000 in
set_option maxHeartbeats 4000000 in
theorem rwithout_any {v : Value} {E : List Ent} (w : World) (hs : SlIn w 3 entC v E) (hl : E.length ≤ 100000) (at_ : Int) :
    Calls Try.prog 38 #[v, .int .i64 at_] w (WoPost w (wo E at_)) := by
  obtain ⟨A, cp, hv, hcp, hor⟩ := id hs
  subst hv
  have ho0 : Owns (w.alloc (.cells #[] 32)) w.heap.size 32 3 entC (.slice (some ⟨w.heap.size, 0, none⟩) 0 0) ([] : List Ent) := World.ownsRow_made (base := w.heap.size) (e := 32) (size := 3) w #[] 0 (Nat.le_refl _) (by simp) (by simp)
  have hn0 := (New.refl w).alloc (.cells #[] 32)
  go_enter Try.func38, Try.ntmps38
  go_wp2_with fail
  go_loopw [5, 6] (fun u i wr => ∃ k : Nat, k ≤ E.length ∧ i = .int .i64 k ∧ Owns wr w.heap.size 32 3 entC u (wo (E.take k) at_) ∧ New w wr) (fun _ i _ => E.length - (intOf i).toNat)
  case atStart => exact ⟨0, by omega, rfl, by simpa [wo] using ho0, hn0⟩
  case round =>
    clear ho0 hn0
    obtain ⟨k, hk, rfl, ho, hn⟩ := hrel
    obtain ⟨sA, sn, sc, rfl⟩ := entShape (Owns.slIn entOk ho)
    by_cases hlt : k < E.length
    · have hlt' : (k : Int) < (E.length : Int) := by omega
      have hk0 : (0 : Int) ≤ (k : Int) := by omega
      rcases hor with hor | ⟨b, off, rfl, hb, hc⟩
      · rw [hor] at hlt; simp at hlt
      obtain ⟨x, hx⟩ : ∃ x, E[k]? = some x := ⟨_, List.getElem?_eq_getElem hlt⟩
      obtain ⟨e0, e1, e2⟩ := ent3 (w := wr) (fun k x h j u hu => (hn.cells.1 _ _ hb).trans (hc k x h j u hu)) hx
      have HST := Lib.hid (wo_step (at_ := at_) hx)
      have hwl := wo_len (E.take k) at_
      rw [List.length_take] at hwl
      have HO := Lib.hid ho
      have HN := Lib.hid hn
      clear hc hx hs hn
      by_cases he : (k : Int) = at_
      · subst he
        clear ho
        go_wp2_with fail
        go_roundw
        case rel => exact ⟨k + 1, by omega, by go_num, by rw [HST.out, if_pos rfl]; exact HO.out, HN.out⟩
        case measure => simp [intOf]; omega
      · have he' : ((k : Int) != at_) = true := by simpa using he
        have hyb := Blk.mk_new wr 32 #[.int .i64 x.id, .string x.b, .bool x.d]
        have hoy := ho.alloc (.cells #[.int .i64 x.id, .string x.b, .bool x.d] 32)
        have hny := HN.out.alloc (.cells #[.int .i64 x.id, .string x.b, .bool x.d] 32)
        have HE := Lib.hid he
        have HM1 := Lib.hid (show (wo (E.take k) at_).length + [x].length ≤ maxLen by unfold maxLen; simp only [List.length_singleton]; omega)
        have HM2 := Lib.hid (show ((wo (E.take k) at_).length + [x].length) * 32 ≤ 140737488355328 by simp only [List.length_singleton]; omega)
        have HM3 := Lib.hid (show w.heap.size ≤ (wr.alloc (.cells #[.int .i64 x.id, .string x.b, .bool x.d] 32)).heap.size from hny.size)
        clear he ho
        go_wp2_with (at_builtin; refine wpList_app entTy entOk rfl _ _ rfl rfl rfl hoy (SlIn.one (x := x) hyb entOk rfl) HM1.out HM2.out HM3.out ?_; intro v9 w9 ho9 hg9 hb9; have hN9 := hny.grown hg9 (fun k0 hk0 => hoy.blockGe k0 hk0))
        go_roundw
        case rel => exact ⟨k + 1, by omega, by go_num, by rw [HST.out, if_neg HE.out]; exact ho9, hN9⟩
        case measure => simp [intOf]; omega
    · have hlt' : ¬ (k : Int) < (E.length : Int) := by omega
      obtain rfl : k = E.length := by omega
      rw [List.take_length] at ho
      go_wp2_with fail
      go_ret
      exact ⟨_, rfl, ho, hn⟩
end Go.Proofs.Ytcganajbfplmpaa
