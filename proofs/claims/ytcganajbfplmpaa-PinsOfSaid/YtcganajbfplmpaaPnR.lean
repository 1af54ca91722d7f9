/- Chapter 18 (pins), the document's answer: find, pin. -/
import Derived.Test.YtcganajbfplmpaaLaw18
import Derived.Test.YtcganajbfplmpaaPnS
namespace Go.Proofs.Ytcganajbfplmpaa
open Go.RowKit Go.Lap
set_option linter.unusedVariables false

/-- The place of a name. -/
def plcP (E : List Pnm) (s : ByteArray) : Nat := E.findIdx fun x => decide (x.s = s)
def plcJ (E : List Pnm) (s : ByteArray) : Int := if plcP E s < E.length then (plcP E s : Int) else -1
theorem plcP_at {E : List Pnm} {s : ByteArray} {k : Nat} {x : Pnm} (hx : E[k]? = some x) (hid : x.s = s) (hf : ∀ j y, j < k → E[j]? = some y → y.s ≠ s) : plcP E s = k := by
  obtain ⟨hk, hx'⟩ := List.getElem?_eq_some_iff.1 hx
  refine (List.findIdx_eq hk).2 ⟨by rw [hx']; simpa using hid, fun j hj => ?_⟩
  have := hf j E[j] hj (List.getElem?_eq_getElem (by omega))
  simpa using this
theorem plcP_none {E : List Pnm} {s : ByteArray} (hf : ∀ (j : Nat) y, E[j]? = some y → y.s ≠ s) : plcP E s = E.length := by
  refine List.findIdx_eq_length.2 fun x hx => ?_
  obtain ⟨j, hj⟩ := List.getElem?_of_mem hx
  simpa using hf j x hj
theorem plcP_has (E : List Pnm) (s : ByteArray) : plcP E s < E.length ↔ (lookE E s).isSome = true := by
  unfold plcP
  rw [List.findIdx_lt_length]
  constructor
  · rintro ⟨x, hx, hd⟩
    cases h : lookE E s with
    | some n => rfl
    | none => exact absurd (by simpa using hd) (lookE_none.1 h x hx)
  · intro h
    obtain ⟨n, hn⟩ := Option.isSome_iff_exists.1 h
    exact ⟨_, lookE_mem hn, by simp⟩
theorem beq_ne {a b : ByteArray} (h : a ≠ b) : (a.toList == b.toList) = false := by
  rw [beq_eq_false_iff_ne]
  exact fun e => h (toList_inj e)
set_option maxRecDepth 100000 in
set_option maxHeartbeats 4000000 in
theorem rpfind_any {v : Value} {E : List Pnm} (w : World) (hs : SlIn w 2 pnC v E) (hl : E.length ≤ 100000) (s : ByteArray) :
    Calls Try.prog 52 #[v, .string s] w fun e w' => e = .returned (.int .i64 (plcJ E s)) ∧ w' = w := by
  obtain ⟨A, cp, hv, hcp, hor⟩ := _root_.id hs
  subst hv
  go_enter Try.func52, Try.ntmps52
  go_wp2_with fail
  go_loopw [5] (fun i wr => ∃ k : Nat, k ≤ E.length ∧ i = .int .i64 k ∧ wr = w ∧ ∀ (j : Nat) y, j < k → E[j]? = some y → y.s ≠ s) (fun i _ => E.length - (intOf i).toNat)
  case atStart => exact ⟨0, by omega, rfl, rfl, fun j y hj => by omega⟩
  case round =>
    obtain ⟨k, hk, rfl, rfl, hf⟩ := hrel
    by_cases hlt : k < E.length
    · have hlt' : (k : Int) < (E.length : Int) := by omega
      have hk0 : (0 : Int) ≤ (k : Int) := by omega
      rcases hor with hor | ⟨b, off, rfl, hb, hc⟩
      · rw [hor] at hlt; simp at hlt
      obtain ⟨x, hx⟩ : ∃ x, E[k]? = some x := ⟨_, List.getElem?_eq_getElem hlt⟩
      obtain ⟨e0, e1⟩ := pn2 hc hx
      have HX := Lib.hid hx
      have HF := Lib.hid hf
      clear hc hx hf hs
      by_cases hid : x.s = s
      · have hp := plcP_at HX.out hid HF.out
        have hpi : plcJ E s = (k : Int) := by unfold plcJ; rw [hp, if_pos hlt]
        have HPI := Lib.hid hpi
        have hbe : (x.s.toList == s.toList) = true := by rw [hid]; simp
        clear hp hpi hid
        go_wp2_with fail
        go_ret
        exact ⟨ret_int HPI.out.symm, rfl⟩
      · have hbe := beq_ne hid
        go_wp2_with fail
        go_roundw
        case rel =>
          refine ⟨k + 1, by omega, by go_num, by first | trivial | rfl, fun j y hj hy => ?_⟩
          by_cases hjk : j < k
          · exact HF.out j y hjk hy
          · obtain rfl : j = k := by omega
            rw [HX.out] at hy
            cases hy
            exact hid
        case measure => simp [intOf]; omega
    · have hlt' : ¬ (k : Int) < (E.length : Int) := by omega
      have hp := plcP_none (E := E) (s := s) (fun j y hy => hf j y (by have := (List.getElem?_eq_some_iff.1 hy).1; omega) hy)
      have hpi : plcJ E s = -1 := by unfold plcJ; rw [hp, if_neg (Nat.lt_irrefl _)]
      have HPI := Lib.hid hpi
      clear hp hpi
      go_wp2_with fail
      go_ret
      exact ⟨ret_int HPI.out.symm, rfl⟩
/-- The row in the midst of pin. -/
def midI (E : List Pnm) (s : ByteArray) (n : Nat) (k : Nat) : List Pnm := if (E.take k).any (fun x => lsS s x.s) then insP (E.take k) s n else E.take k
theorem insP_none {E : List Pnm} {s : ByteArray} (n : Nat) (h : E.any (fun x => lsS s x.s) = false) : insP E s n = E ++ [⟨s, n⟩] := by
  induction E with
  | nil => rfl
  | cons y l ih =>
    rw [List.any_cons, Bool.or_eq_false_iff] at h
    unfold insP
    rw [if_neg (by rw [h.1]; simp), ih h.2]; rfl
theorem insP_snoc_some {E : List Pnm} {s : ByteArray} (n : Nat) (x : Pnm) (h : E.any (fun x => lsS s x.s) = true) : insP (E ++ [x]) s n = insP E s n ++ [x] := by
  induction E with
  | nil => cases h
  | cons y l ih =>
    rw [List.cons_append]
    unfold insP
    by_cases hy : lsS s y.s = true
    · rw [if_pos hy, if_pos hy]; rfl
    · rw [if_neg hy, if_neg hy]
      rw [List.any_cons, Bool.or_eq_true] at h
      rw [ih (h.resolve_left hy)]; rfl
theorem insP_snoc_new {E : List Pnm} {s : ByteArray} (n : Nat) (x : Pnm) (h : E.any (fun x => lsS s x.s) = false) (hx : lsS s x.s = true) : insP (E ++ [x]) s n = E ++ [⟨s, n⟩] ++ [x] := by
  induction E with
  | nil =>
    show (if lsS s x.s = true then _ else _) = _
    rw [if_pos hx]; rfl
  | cons y l ih =>
    rw [List.any_cons, Bool.or_eq_false_iff] at h
    rw [List.cons_append]
    unfold insP
    rw [if_neg (by rw [h.1]; simp), ih h.2]; rfl
def RPinPost (w : World) (E : List Pnm) (s : ByteArray) (n : Nat) (e : Ending) (w' : World) : Prop := ∃ u, e = .returned u ∧ SlIn w' 2 pnC u (insP E s n) ∧ (∀ k, u.ownBlock = some k → w.heap.size ≤ k) ∧ New w w'
def dnV (E : List Pnm) (s : ByteArray) (k : Nat) : Bool := (E.take k).any (fun x => lsS s x.s)
set_option maxRecDepth 100000 in
set_option maxHeartbeats 4000000 in
theorem rppin_any {v : Value} {E : List Pnm} (w : World) (hs : SlIn w 2 pnC v E) (hl : E.length ≤ 100000) (s : ByteArray) (n : Nat) :
    Calls Try.prog 53 #[v, .string s, .int .u64 (n : Int)] w (RPinPost w E s n) := by
  obtain ⟨A, cp, hv, hcp, hor⟩ := _root_.id hs
  subst hv
  have hO0 : Owns (w.alloc (.cells #[] 66)) w.heap.size 66 2 pnC (.slice (some ⟨w.heap.size, 0, none⟩) 0 0) ([] : List Pnm) := World.ownsRow_made (base := w.heap.size) (e := 66) (size := 2) w #[] 0 (Nat.le_refl _) (by simp) (by simp)
  have hN0 := (New.refl w).alloc (.cells #[] 66)
  have HO0 := Lib.hid hO0
  have HN0 := Lib.hid hN0
  clear hO0 hN0 hs
  go_enter Try.func53, Try.ntmps53
  go_wp2_with fail
  go_loopw [7, 8, 9] (fun u d i wr => ∃ k : Nat, k ≤ E.length ∧ i = .int .i64 k ∧ d = .bool (dnV E s k) ∧ Owns wr w.heap.size 66 2 pnC u (midI E s n k) ∧ New w wr) (fun _ _ i _ => E.length - (intOf i).toNat)
  case atStart => exact ⟨0, by omega, rfl, rfl, HO0.out, HN0.out⟩
  case round =>
    clear HO0 HN0
    obtain ⟨k, hk, rfl, rfl, ho, hn⟩ := hrel
    obtain ⟨sA, sn, sc, hsv⟩ := slShape (Owns.slIn pnOk ho)
    subst hsv
    have HN := Lib.hid hn
    by_cases hlt : k < E.length
    · have hlt' : (k : Int) < (E.length : Int) := by omega
      have hk0 : (0 : Int) ≤ (k : Int) := by omega
      rcases hor with hor | ⟨b, off, rfl, hb, hc⟩
      · rw [hor] at hlt; simp at hlt
      obtain ⟨x, hx⟩ : ∃ x, E[k]? = some x := ⟨_, List.getElem?_eq_getElem hlt⟩
      have HCE := Lib.hid (show ∀ wx, New w wx → wx.cell? ⟨b, off + k * 2, none⟩ = some (.string x.s) ∧ wx.cell? ⟨b, off + k * 2 + 1, none⟩ = some (.int .u64 (x.n : Int)) from fun wx hx' => pn2 (fun k x h j u hu => (hx'.cells.1 _ _ hb).trans (hc k x h j u hu)) hx)
      have htk : E.take (k + 1) = E.take k ++ [x] := by rw [List.take_add_one, hx]; rfl
      have hbl := Nat.lt_of_lt_of_le hb hn.size
      obtain ⟨e0, e1⟩ := HCE.out wr hn
      have hdn1 : dnV E s (k + 1) = (dnV E s k || lsS s x.s) := by unfold dnV; rw [htk, List.any_append]; simp
      have hmid : midI E s n (k + 1) = if dnV E s k = true then midI E s n k ++ [x] else if lsS s x.s = true then midI E s n k ++ [⟨s, n⟩] ++ [x] else midI E s n k ++ [x] := by
        unfold midI dnV
        rw [htk, List.any_append]
        cases hd : (E.take k).any (fun x => lsS s x.s) with
        | true =>
          simp only [Bool.true_or, if_true]
          exact insP_snoc_some n x hd
        | false =>
          cases hl : lsS s x.s with
          | true =>
            simp only [List.any_cons, List.any_nil, hl, Bool.or_false, Bool.false_or, if_true, Bool.false_eq_true, if_false]
            exact insP_snoc_new n x hd hl
          | false => simp [hl]
      have hml : (midI E s n k).length ≤ 100001 := by
        unfold midI
        split
        · rw [ins_len, List.length_take]; omega
        · rw [List.length_take]; omega
      have HDN := Lib.hid hdn1
      have HMI := Lib.hid hmid
      generalize midI E s n k = M at ho hml HMI ⊢
      have hfrx := (HN.out.alloc (.cells #[.string x.s, .int .u64 (x.n : Int)] 66)).size
      have hfry := (HN.out.alloc (.cells #[.string s, .int .u64 (n : Int)] 66)).size
      have HM1 := Lib.hid (show M.length + [x].length ≤ maxLen by unfold maxLen; simp only [List.length_singleton]; omega)
      have HM2 := Lib.hid (show (M.length + [x].length) * 24 ≤ 140737488355328 by simp only [List.length_singleton]; omega)
      have HMA1 := Lib.hid (show M.length + [(⟨s, n⟩ : Pnm)].length ≤ maxLen by unfold maxLen; simp only [List.length_singleton]; omega)
      have HMA2 := Lib.hid (show (M.length + [(⟨s, n⟩ : Pnm)].length) * 24 ≤ 140737488355328 by simp only [List.length_singleton]; omega)
      have HMB1 := Lib.hid (show (M ++ [(⟨s, n⟩ : Pnm)]).length + [x].length ≤ maxLen by unfold maxLen; simp only [List.length_append, List.length_singleton]; omega)
      have HMB2 := Lib.hid (show ((M ++ [(⟨s, n⟩ : Pnm)]).length + [x].length) * 24 ≤ 140737488355328 by simp only [List.length_append, List.length_singleton]; omega)
      have HFX := Lib.hid hfrx
      have HFY := Lib.hid hfry
      have HX := Lib.hid hx
      clear hc hx htk hmid hdn1 hfrx hfry hn hml
      cases hd : dnV E s k with
      | true =>
        rw [hd] at HDN HMI
        have hbx := Blk.mk_new wr 66 #[.string x.s, .int .u64 (x.n : Int)]
        have hox := ho.alloc (.cells #[.string x.s, .int .u64 (x.n : Int)] 66)
        clear hd
        go_wp2_with (at_builtin; refine wpList_app pnTy pnOk rfl _ _ rfl rfl rfl hox (SlIn.one (x := (x : Pnm)) hbx pnOk rfl) HM1.out HM2.out HFX.out ?_; intro v9 w9 ho9 hg9 hb9; obtain ⟨A9, n9, c9, hv9⟩ := slShape (Owns.slIn pnOk ho9); subst hv9)
        go_roundw
        case rel => exact ⟨k + 1, by omega, by go_num, by rw [HDN.out]; rfl, by rw [HMI.out]; exact ho9, (HN.out.alloc _).grown hg9 (fun j hj => hox.blockGe j hj)⟩
        case measure => simp [intOf]; omega
      | false =>
        rw [hd] at HDN HMI
        clear hd
        cases hls : Op.bytesLess s.toList x.s.toList with
        | false =>
          have hls2 : lsS s x.s = false := hls
          rw [hls2] at HDN HMI
          have hbx := Blk.mk_new wr 66 #[.string x.s, .int .u64 (x.n : Int)]
          have hox := ho.alloc (.cells #[.string x.s, .int .u64 (x.n : Int)] 66)
          have hle := le_or x.s s
          rw [hls] at hle
          simp only [Bool.not_false, Bool.or_eq_true] at hle
          clear hls2 hls
          rcases hle with hle | hle
          all_goals
            go_wp2_with (at_builtin; refine wpList_app pnTy pnOk rfl _ _ rfl rfl rfl hox (SlIn.one (x := (x : Pnm)) hbx pnOk rfl) HM1.out HM2.out HFX.out ?_; intro v9 w9 ho9 hg9 hb9; obtain ⟨A9, n9, c9, hv9⟩ := slShape (Owns.slIn pnOk ho9); subst hv9)
            go_roundw
            case rel => exact ⟨k + 1, by omega, by go_num, by rw [HDN.out]; rfl, by rw [HMI.out]; exact ho9, (HN.out.alloc _).grown hg9 (fun j hj => hox.blockGe j hj)⟩
            case measure => simp [intOf]; omega
        | true =>
          have hls2 : lsS s x.s = true := hls
          rw [hls2] at HDN HMI
          have hle := le_or x.s s
          rw [hls] at hle
          simp only [Bool.not_true, Bool.or_eq_false_iff] at hle
          obtain ⟨hle1, hle2⟩ := hle
          have hby := Blk.mk_new wr 66 #[.string s, .int .u64 (n : Int)]
          have hoy := ho.alloc (.cells #[.string s, .int .u64 (n : Int)] 66)
          clear hls2
          go_wp2_with (first | (at_builtin; refine wpList_app pnTy pnOk rfl _ _ rfl rfl rfl hoy (SlIn.one (x := (⟨s, n⟩ : Pnm)) hby pnOk rfl) HMA1.out HMA2.out HFY.out ?_; intro v9 w9 ho9 hg9 hb9; obtain ⟨A9, n9, c9, hv9⟩ := slShape (Owns.slIn pnOk ho9); subst hv9; have hN9 := (HN.out.alloc (.cells #[.string s, .int .u64 (n : Int)] 66)).grown hg9 (fun j hj => hoy.blockGe j hj); obtain ⟨f0, f1⟩ := HCE.out w9 hN9; have hbx := Blk.mk_new w9 66 #[.string x.s, .int .u64 (x.n : Int)]; have hox := ho9.alloc (.cells #[.string x.s, .int .u64 (x.n : Int)] 66); have hfx := (hN9.alloc (.cells #[.string x.s, .int .u64 (x.n : Int)] 66)).size; have HF9 := Lib.hid hfx; clear hfx; have hbl9 := Nat.lt_of_lt_of_le hb hN9.size) | (at_builtin; refine wpList_app pnTy pnOk rfl _ _ rfl rfl rfl hox (SlIn.one (x := (x : Pnm)) hbx pnOk rfl) HMB1.out HMB2.out HF9.out ?_; intro v8 w8 ho8 hg8 hb8; obtain ⟨A8, n8, c8, hv8⟩ := slShape (Owns.slIn pnOk ho8); subst hv8))
          go_roundw
          case rel => exact ⟨k + 1, by omega, by go_num, by rw [HDN.out]; rfl, by rw [HMI.out]; exact ho8, (hN9.alloc _).grown hg8 (fun j hj => hox.blockGe j hj)⟩
          case measure => simp [intOf]; omega
    · have hlt' : ¬ (k : Int) < (E.length : Int) := by omega
      obtain rfl : k = E.length := by omega
      have hdE : dnV E s E.length = E.any (fun x => lsS s x.s) := by unfold dnV; rw [List.take_length]
      have hmE : midI E s n E.length = if dnV E s E.length = true then insP E s n else E := by unfold midI dnV; rw [List.take_length]
      cases hd : dnV E s E.length with
      | true =>
        rw [hmE, hd, if_pos rfl] at ho
        have HO := Lib.hid ho
        clear hdE hmE hd ho
        go_wp2_with fail
        go_ret
        exact ⟨_, rfl, Owns.slIn pnOk HO.out, fun j hj => HO.out.blockGe j hj, HN.out⟩
      | false =>
        rw [hmE, hd, if_neg (by simp)] at ho
        have HIN := Lib.hid (insP_none n (hdE ▸ hd : E.any (fun x => lsS s x.s) = false))
        have hby := Blk.mk_new wr 66 #[.string s, .int .u64 (n : Int)]
        have hoy := ho.alloc (.cells #[.string s, .int .u64 (n : Int)] 66)
        have HFY := Lib.hid (HN.out.alloc (.cells #[.string s, .int .u64 (n : Int)] 66)).size
        have HM3 := Lib.hid (show E.length + [(⟨s, n⟩ : Pnm)].length ≤ maxLen by unfold maxLen; simp only [List.length_singleton]; omega)
        have HM4 := Lib.hid (show (E.length + [(⟨s, n⟩ : Pnm)].length) * 24 ≤ 140737488355328 by simp only [List.length_singleton]; omega)
        clear hdE hmE hd hn
        go_wp2_with (at_builtin; refine wpList_app pnTy pnOk rfl _ _ rfl rfl rfl hoy (SlIn.one (x := (⟨s, n⟩ : Pnm)) hby pnOk rfl) HM3.out HM4.out HFY.out ?_; intro v9 w9 ho9 hg9 hb9; obtain ⟨A9, n9, c9, hv9⟩ := slShape (Owns.slIn pnOk ho9); subst hv9)
        go_ret
        exact ⟨_, rfl, by rw [HIN.out]; exact Owns.slIn pnOk ho9, fun j hj => ho9.blockGe j hj, (HN.out.alloc _).grown hg9 (fun j hj => hoy.blockGe j hj)⟩
end Go.Proofs.Ytcganajbfplmpaa
