/- Contracts of the reference of chapter 16: At, Lives, Trim, Same. -/
import Derived.Test.YtdjnfnhmkfbfmaaVer2
namespace Go.Proofs.Ytdjnfnhmkfbfmaa
open Go.RowKit Go.Lap
set_option linter.unusedVariables false

theorem cut_lt (l : List Ver) (a : Int) : ∀ (i : Nat) (x : Ver), l[i]? = some x → i < cutN l a → x.at_ ≤ a := by
  induction l with
  | nil => intro i x h; simp at h
  | cons y l ih =>
    intro i x h hi
    unfold cutN at hi
    rw [List.takeWhile_cons] at hi
    split at hi
    · rename_i hy
      cases i with
      | zero => simp at h; subst h; simpa using hy
      | succ i => exact ih i x (by simpa using h) (by simp at hi; exact hi)
    · simp at hi
theorem cut_ge (l : List Ver) (a : Int) (y : Ver) (h : l[cutN l a]? = some y) : a < y.at_ := by
  induction l with
  | nil => simp at h
  | cons x l ih =>
    unfold cutN at h
    rw [List.takeWhile_cons] at h
    split at h
    · exact ih (by simpa [cutN] using h)
    · rename_i hx
      simp at h
      subst h
      simpa using hx
theorem cut_iff {l : List Ver} (hr : Rise l) {a : Int} {i : Nat} {x : Ver} (h : l[i]? = some x) : x.at_ ≤ a ↔ i < cutN l a := by
  refine ⟨fun hx => ?_, fun hi => cut_lt l a i x h hi⟩
  rcases Nat.lt_or_ge i (cutN l a) with hlt | hge
  · exact hlt
  · have hil := (List.getElem?_eq_some_iff.1 h).1
    have hy := List.getElem?_eq_getElem (l := l) (i := cutN l a) (by omega)
    have h1 := cut_ge l a _ hy
    have h2 := hr.le hy h hge
    omega

set_option maxHeartbeats 1000000 in
theorem refAt_any (l : List Ver) (v : Value) (at_ : Int) (w : World) (hl : l.length ≤ 1000000000) (hr : Rise l) (hs : SlIn w 3 Ver.enc v l) :
    Calls Try.prog 20 #[v, .int .u64 at_] w fun e w' => e = .returned (.tuple #[.string (atV l (cutN l at_)).1, .int .i64 (atV l (cutN l at_)).2]) ∧ New w w' := by
  obtain ⟨A, c, rfl, hlc, h⟩ := hs
  have hkl := cutN_le l at_
  have hci : ∀ i x, l[i]? = some x → (x.at_ ≤ at_ ↔ i < cutN l at_) := fun i x hx => cut_iff hr hx
  have hav : atV l (cutN l at_) = atV l (cutN l at_) := rfl
  generalize hcn : cutN l at_ = n at *
  have HCI := Lib.hid hci
  have HCN := Lib.hid hcn
  clear hci hr hcn hav
  go_enter Try.func20, Try.ntmps20
  go_wp2_with fail
  go_loopw [6, 7] (fun k i wr => ∃ j : Nat, j ≤ l.length ∧ i = .int .i64 j ∧ k = .int .i64 (((min j n : Nat) : Int) - 1) ∧ w = wr) (fun _ i _ => l.length - (intOf i).toNat)
  case atStart => exact ⟨0, by omega, rfl, by simp, rfl⟩
  case round =>
    obtain ⟨j, hj, rfl, rfl, rfl⟩ := hrel
    by_cases hlt : j < l.length
    · have hlt' : (j : Int) < (l.length : Int) := by omega
      rcases h with rfl | ⟨b, off, rfl, hb, hc⟩
      · simp at hlt
      · obtain ⟨x, hx⟩ : ∃ x, l[j]? = some x := ⟨_, List.getElem?_eq_getElem (by omega)⟩
        have e1 : w.cell? ⟨b, off + j * 3, none⟩ = some (.int .u64 x.at_) := hc _ x hx 0 _ rfl
        have hcx := HCI.out j x hx
        clear hc hx
        by_cases hd : x.at_ ≤ at_
        · have hjn : j < n := hcx.1 hd
          clear hcx
          go_wp2_with fail
          go_roundw
          case rel => exact ⟨j + 1, by omega, by go_num, by rw [show min (j + 1) n = j + 1 from by omega]; go_num, by trivial⟩
          case measure => simp [intOf]; omega
        · have hjn : n ≤ j := by
            rcases Nat.lt_or_ge j n with h1 | h1
            · exact absurd (hcx.2 h1) hd
            · exact h1
          clear hcx
          go_wp2_with fail
          go_roundw
          case rel => exact ⟨j + 1, by omega, by go_num, by rw [show min (j + 1) n = min j n from by omega], by trivial⟩
          case measure => simp [intOf]; omega
    · have hlt' : ¬ (j : Int) < (l.length : Int) := by omega
      rw [show ((min j n : Nat) : Int) - 1 = (n : Int) - 1 from by omega]
      by_cases h0 : n = 0
      · subst h0
        go_wp2_with fail
        go_ret2
        exact ⟨rfl, New.refl _⟩
      · obtain ⟨x, hx⟩ : ∃ x, l[n - 1]? = some x := ⟨_, List.getElem?_eq_getElem (by omega)⟩
        rcases h with rfl | ⟨b, off, rfl, hb, hc⟩
        · simp at hx
        · have e1 : w.cell? ⟨b, off + (n - 1) * 3 + 1, none⟩ = some (.string x.val) := hc _ x hx 1 _ rfl
          have e2 : w.cell? ⟨b, off + (n - 1) * 3 + 2, none⟩ = some (.bool x.gone) := hc _ x hx 2 _ rfl
          have hk1 : (1 : Int) ≤ (n : Int) := by omega
          have hk2 : (n : Int) - 1 < (l.length : Int) := by omega
          have hk3 : (0 : Int) ≤ (n : Int) - 1 := by omega
          have hk4 : ¬ (n : Int) - 1 < 0 := by omega
          obtain ⟨xa, xv, xg⟩ := x
          have hat : atV l n = if xg then (⟨#[]⟩, 161) else (xv, 0) := by simp [atV, h0, hx]
          have HAT := Lib.hid hat
          clear hat hx hc
          cases xg
          all_goals
            go_wp2_with fail
            go_ret2
            exact ⟨by rw [HAT.out]; rfl, New.refl _⟩

/-- The reference's Lives, by its text. -/
def livesB (l : List Ver) (i : Nat) (from_ : Int) : Bool :=
  match l[i]? with
  | none => false
  | some x => decide (from_ < x.at_) || ((decide (i + 1 = l.length) || (match l[i + 1]? with | some y => decide (from_ < y.at_) | none => false)) && !x.gone)

theorem livesB_first {l : List Ver} (hr : Rise l) {i : Nat} (hi : i < l.length) (from_ : Int) : livesB l i from_ = decide (firstN l from_ ≤ i) := by
  obtain ⟨x, hx⟩ : ∃ x, l[i]? = some x := ⟨_, List.getElem?_eq_getElem hi⟩
  have hcx := cut_iff (a := from_) hr hx
  have hle := cutN_le l from_
  have hnext : (decide (i + 1 = l.length) || (match l[i + 1]? with | some y => decide (from_ < y.at_) | none => false)) = decide (cutN l from_ ≤ i + 1) := by
    by_cases he : i + 1 = l.length
    · simp [he]; omega
    · obtain ⟨y, hy⟩ : ∃ y, l[i + 1]? = some y := ⟨_, List.getElem?_eq_getElem (by omega)⟩
      have hcy := cut_iff (a := from_) hr hy
      simp only [he, decide_false, Bool.false_or, hy]
      rw [Bool.eq_iff_iff]
      simp
      omega
  unfold livesB
  rw [hx]
  simp only
  rw [hnext]
  unfold firstN
  by_cases h0 : cutN l from_ = 0
  · simp [h0]; left; omega
  · obtain ⟨z, hz⟩ : ∃ z, l[cutN l from_ - 1]? = some z := ⟨_, List.getElem?_eq_getElem (by omega)⟩
    simp only [h0, if_false, hz]
    by_cases he : cutN l from_ = i + 1
    · have : z = x := by rw [he] at hz; simp at hz; rw [hx] at hz; cases hz; rfl
      subst this
      have : ¬ from_ < z.at_ := by have := hcx.2 (by omega); omega
      cases hg : z.gone
      · simp; intro _; omega
      · simp [this]; omega
    · have key : (decide (from_ < x.at_) || decide (cutN l from_ ≤ i + 1) && !x.gone) = decide (cutN l from_ ≤ i) := by
        rw [Bool.eq_iff_iff]
        simp
        constructor
        · rintro (h | ⟨h, _⟩) <;> omega
        · intro h; left; omega
      rw [key]
      cases z.gone
      · simp; omega
      · simp

set_option maxHeartbeats 1000000 in
theorem lives_any (l : List Ver) (v : Value) (i : Nat) (from_ : Int) (w : World) (hl : l.length ≤ 1000000000) (hi : i < l.length) (hs : SlIn w 3 Ver.enc v l) :
    Calls Try.prog 46 #[v, .int .i64 i, .int .u64 from_] w fun e w' => e = .returned (.bool (livesB l i from_)) ∧ w = w' := by
  obtain ⟨A, c, rfl, hlc, h⟩ := hs
  rcases h with rfl | ⟨b, off, rfl, hb, hc⟩
  · simp at hi
  obtain ⟨x, hx⟩ : ∃ x, l[i]? = some x := ⟨_, List.getElem?_eq_getElem hi⟩
  have e1 : w.cell? ⟨b, off + i * 3, none⟩ = some (.int .u64 x.at_) := hc _ x hx 0 _ rfl
  have e2 : w.cell? ⟨b, off + i * 3 + 2, none⟩ = some (.bool x.gone) := hc _ x hx 2 _ rfl
  have hi' : (i : Int) < (l.length : Int) := by omega
  have hi0 : (0 : Int) ≤ (i : Int) := by omega
  by_cases h1 : from_ < x.at_
  · have hlv : livesB l i from_ = true := by simp [livesB, hx, h1]
    have HL := Lib.hid hlv
    clear hlv hc hx
    go_enter Try.func46, Try.ntmps46
    go_wp2_with fail
    go_ret
    exact ⟨ret_bool HL.out.symm, rfl⟩
  · by_cases h2 : i + 1 = l.length
    · have hlv : livesB l i from_ = !x.gone := by simp [livesB, hx, h1, h2]
      have HL := Lib.hid hlv
      have hb2 : (((i : Int) + 1) == (l.length : Int)) = true := by simp; omega
      have H2 := Lib.hid h2
      clear hlv hc hx h2
      go_enter Try.func46, Try.ntmps46
      go_wp2_with fail
      go_ret
      exact ⟨ret_bool HL.out.symm, rfl⟩
    · obtain ⟨y, hy⟩ : ∃ y, l[i + 1]? = some y := ⟨_, List.getElem?_eq_getElem (by omega)⟩
      have e3 : w.cell? ⟨b, off + (i + 1) * 3, none⟩ = some (.int .u64 y.at_) := hc _ y hy 0 _ rfl
      have hlv : livesB l i from_ = (decide (from_ < y.at_) && !x.gone) := by simp [livesB, hx, h1, h2, hy]
      have HL := Lib.hid hlv
      have hb2 : (((i : Int) + 1) == (l.length : Int)) = false := by simp; omega
      have hi2 : (i : Int) + 1 < (l.length : Int) := by omega
      have hi3 : (0 : Int) ≤ (i : Int) + 1 := by omega
      clear hlv hc hx hy
      by_cases h3 : from_ < y.at_
      · go_enter Try.func46, Try.ntmps46
        go_wp2_with fail
        go_ret
        exact ⟨ret_bool (by rw [HL.out]; simp [h3]), rfl⟩
      · have h3' : decide (from_ < y.at_) = false := by simpa using h3
        go_enter Try.func46, Try.ntmps46
        go_wp2_with fail
        go_ret
        exact ⟨ret_bool (by rw [HL.out, h3']; rfl), rfl⟩

theorem eq_not_of_bne {a b : Bool} (h : (a != b) = true) : a = !b := by cases a <;> cases b <;> simp_all
/-- What the reference's Trim has gathered behind i rounds. -/
def keptL (l : List Ver) (f : Nat) (dead : Bool) (i : Nat) : List Ver := if dead then l.take (min i f) else (l.take i).drop f

theorem keptL_add {l : List Ver} {f i : Nat} {dead : Bool} {x : Ver} (hx : l[i]? = some x) (h : (decide (f ≤ i) != dead) = true) : keptL l f dead (i + 1) = keptL l f dead i ++ [x] := by
  obtain ⟨hi, rfl⟩ := List.getElem?_eq_some_iff.1 hx
  cases dead with
  | true =>
    simp at h
    simp only [keptL, if_true]
    rw [show min (i + 1) f = i + 1 from by omega, show min i f = i from by omega, List.take_succ_eq_append_getElem hi]
  | false =>
    simp at h
    simp only [keptL, Bool.false_eq_true, if_false]
    rw [List.take_succ_eq_append_getElem hi, List.drop_append_of_le_length (by simp; omega)]
theorem keptL_same {l : List Ver} {f i : Nat} {dead : Bool} (h : (decide (f ≤ i) != dead) = false) : keptL l f dead (i + 1) = keptL l f dead i := by
  cases dead with
  | true =>
    simp at h
    simp only [keptL, if_true]
    rw [show min (i + 1) f = min i f from by omega]
  | false =>
    simp at h
    simp only [keptL, Bool.false_eq_true, if_false]
    rw [List.drop_eq_nil_of_le (by simp; omega), List.drop_eq_nil_of_le (by simp; omega)]
theorem keptL_end (l : List Ver) (f : Nat) (dead : Bool) (hf : f ≤ l.length) : keptL l f dead l.length = if dead then l.take f else l.drop f := by
  cases dead with
  | true => simp [keptL]; omega
  | false => simp [keptL]
theorem keptL_le (l : List Ver) (f : Nat) (dead : Bool) (i : Nat) : (keptL l f dead i).length ≤ l.length := by
  cases dead <;> simp [keptL] <;> omega

set_option maxRecDepth 100000 in
set_option maxHeartbeats 2000000 in
theorem refTrim_any (l : List Ver) (v : Value) (from_ : Int) (dead : Bool) (w : World) (hl : l.length ≤ 1000000000) (hr : Rise l) (hs : SlIn w 3 Ver.enc v l) :
    Calls Try.prog 23 #[v, .int .u64 from_, .bool dead] w fun e w' => ∃ u, e = .returned u ∧ Owns w' w.heap.size 43 3 Ver.enc u (keptL l (firstN l from_) dead l.length) ∧ New w w' := by
  have hs' := hs
  obtain ⟨A, c, rfl, hlc, h⟩ := hs
  have hfl := firstN_le l from_
  have hlv : ∀ i, i < l.length → livesB l i from_ = decide (firstN l from_ ≤ i) := fun i hi => livesB_first hr hi from_
  generalize firstN l from_ = f at *
  have HLV := Lib.hid hlv
  have HS := Lib.hid hs'
  clear hlv hs' hr
  go_enter Try.func23, Try.ntmps23
  go_wp2_with fail
  go_loopw [7, 8] (fun o i wr => ∃ j : Nat, j ≤ l.length ∧ i = .int .i64 j ∧ New w wr ∧ Owns wr w.heap.size 43 3 Ver.enc o (keptL l f dead j)) (fun _ i _ => l.length - (intOf i).toNat)
  case atStart => exact ⟨0, by omega, rfl, (New.refl _).alloc _, by
    have : keptL l f dead 0 = [] := by cases dead <;> simp [keptL]
    rw [this]
    exact World.ownsRow_made w #[] 0 (Nat.le_refl _) (by simp) (by simp)⟩
  case round =>
    obtain ⟨j, hj, rfl, hn, ho⟩ := hrel
    by_cases hlt : j < l.length
    · have hlt' : (j : Int) < (l.length : Int) := by omega
      have hj0 : (0 : Int) ≤ (j : Int) := by omega
      rcases h with rfl | ⟨b, off, rfl, hb, hc⟩
      · simp at hlt
      · obtain ⟨x, hx⟩ : ∃ x, l[j]? = some x := ⟨_, List.getElem?_eq_getElem (by omega)⟩
        have e1 : wr.cell? ⟨b, off + j * 3, none⟩ = some (.int .u64 x.at_) := (hn.cells.1 _ _ hb).trans (hc _ x hx 0 _ rfl)
        have e2 : wr.cell? ⟨b, off + j * 3 + 1, none⟩ = some (.string x.val) := (hn.cells.1 _ _ hb).trans (hc _ x hx 1 _ rfl)
        have e3 : wr.cell? ⟨b, off + j * 3 + 2, none⟩ = some (.bool x.gone) := (hn.cells.1 _ _ hb).trans (hc _ x hx 2 _ rfl)
        have HX := Lib.hid hx
        clear hx hc
        go_wp2_with fail
        refine (lives_any l _ j from_ wr hl hlt (HS.out.new hn)).mono ?_
        rintro e w1 ⟨rfl, rfl⟩
        rw [HLV.out j hlt]
        have hkl := keptL_le l f dead j
        by_cases hd : (decide (f ≤ j) != dead) = true
        · have hka := keptL_add HX.out hd
          have HK := Lib.hid hka
          clear hka
          have hdd : decide (f ≤ j) = !dead := eq_not_of_bne hd
          rw [hdd]
          clear hd hdd
          have hm1 : (keptL l f dead j).length + [x].length ≤ maxLen := by simp [maxLen]; omega
          have hm2 : ((keptL l f dead j).length + [x].length) * 32 ≤ 140737488355328 := by simp; omega
          have HM1 := Lib.hid hm1
          have HM2 := Lib.hid hm2
          have hsz := hn.size
          clear hm1 hm2 HS HLV HX
          cases dead
          all_goals
            go_wp2_with (at_builtin; refine wpList_app verTy Ver.encOk rfl _ _ rfl rfl rfl (ho.alloc _) (SlIn.one (x := x) (Blk.mk_new _ _ _) Ver.encOk rfl) HM1.out HM2.out (by simp; omega) ?_; intro v' w1 ho' hg' _)
            go_roundw
            case rel => exact ⟨j + 1, by omega, by go_num, (hn.alloc _).grown hg' (fun k hk => (ho.lt k hk).1), by rw [HK.out]; exact ho'⟩
            case measure => simp [intOf]; omega
        · have hd' : (decide (f ≤ j) != dead) = false := by simpa using hd
          have hks := keptL_same (l := l) hd'
          have HK := Lib.hid hks
          have hdd : decide (f ≤ j) = dead := by simpa using hd'
          clear hks hd hd'
          rw [hdd]
          clear hdd
          cases dead
          all_goals
            go_wp2_with fail
            go_roundw
            case rel => exact ⟨j + 1, by omega, by go_num, hn, by rw [HK.out]; exact ho⟩
            case measure => simp [intOf]; omega
    · have hlt' : ¬ (j : Int) < (l.length : Int) := by omega
      have hjl : j = l.length := by omega
      have HJ := Lib.hid hjl
      clear hjl
      go_wp2_with fail
      go_ret
      exact ⟨u7, rfl, by rw [← HJ.out]; exact ho, hn⟩

end Go.Proofs.Ytdjnfnhmkfbfmaa
