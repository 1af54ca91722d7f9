/- Contracts of the package version: own, Trim, Dead, Add; and of the reference. -/
import Derived.Test.YtdjnfnhmkfbfmaaVer
namespace Go.Proofs.Ytdjnfnhmkfbfmaa
open Go.RowKit Go.Lap
set_option linter.unusedVariables false

theorem ownsRow_base {w : World} {base base' : Nat} {e : TypeId} {size : Nat} {v : Value} {n : Nat} {xs : List Value} (h : w.ownsRow base e size v n xs) (hb : base' ≤ base) : w.ownsRow base' e size v n xs := by
  refine ⟨h.1, ?_⟩
  rcases h.2 with h2 | ⟨g, cap, cur, hv, hg, r⟩
  · exact .inl h2
  · exact .inr ⟨g, cap, cur, hv, by omega, r⟩

/-- The first k rise. -/
def riseTo (l : List Ver) (k : Nat) : Bool := (List.range (k - 1)).all fun i => match l[i]?, l[i + 1]? with | some x, some y => decide (x.at_ < y.at_) | _, _ => true
def riseB (l : List Ver) : Bool := riseTo l l.length
theorem riseTo_succ (l : List Ver) (k : Nat) (x y : Ver) (hk : 1 ≤ k) (hx : l[k - 1]? = some x) (hy : l[k]? = some y) : riseTo l (k + 1) = (riseTo l k && decide (x.at_ < y.at_)) := by
  unfold riseTo
  obtain ⟨j, rfl⟩ : ∃ j, k = j + 1 := ⟨k - 1, by omega⟩
  simp only [Nat.add_sub_cancel] at *
  rw [List.range_succ]
  simp [hx, hy]
theorem riseTo_mono (l : List Ver) (k m : Nat) (h : k ≤ m) (hm : riseTo l m = true) : riseTo l k = true := by
  unfold riseTo at *
  rw [List.all_eq_true] at *
  intro i hi
  exact hm i (by simp at *; omega)
theorem riseB_false (l : List Ver) (k : Nat) (hk : k ≤ l.length) (h : riseTo l k = false) : false = riseB l := by
  cases hb : riseB l with
  | false => rfl
  | true => rw [riseTo_mono l k l.length hk hb] at h; cases h
theorem riseB_true (l : List Ver) (k : Nat) (hk : l.length ≤ k) (h : riseTo l k = true) : true = riseB l := (riseTo_mono l _ k hk h).symm
theorem riseB_iff (l : List Ver) : riseB l = true ↔ Rise l := by
  unfold riseB riseTo Rise
  rw [List.all_eq_true]
  constructor
  · intro h i x y hx hy
    have := h i (by have := (List.getElem?_eq_some_iff.1 hy).1; simp; omega)
    simpa [hx, hy] using this
  · intro h i hi
    cases hx : l[i]? with
    | none => rfl
    | some x =>
      cases hy : l[i + 1]? with
      | none => rfl
      | some y => simpa using h i x y hx hy

set_option maxRecDepth 100000 in
set_option maxHeartbeats 1000000 in
theorem own_any (l : List Ver) (v : Value) (w : World) (hl : l.length ≤ 1000000000) (hs : SlIn w 3 Ver.enc v l) :
    Calls Try.prog 44 #[v] w fun e w' => ∃ u, e = .returned u ∧ Owns w' w.heap.size 43 3 Ver.enc u l ∧ New w w' := by
  have hs' := hs
  obtain ⟨A, c, rfl, hlc, h⟩ := hs
  clear h
  have HS := Lib.hid hs'
  clear hs'
  go_enter Try.func44, Try.ntmps44
  have hm1 : 32 * l.length ≤ 281474976710656 := by omega
  have hm2 : l.length ≤ maxLen := by unfold maxLen; omega
  have HM1 := Lib.hid hm1
  have HM2 := Lib.hid hm2
  clear hm1 hm2
  go_wp2_with (first | (at_make; refine wpList_mk (n := l.length) (kl := .i64) (kc := .i64) verTy rfl _ _ rfl rfl rfl HM1.out HM2.out ?_; intro w1 hb1 hn1 hs1) | (refine wpList_copy_all (o := ⟨some 9, _, _, _, _, _⟩) (n := l.length) (cap := l.length) verTy Ver.encOk rfl (.tmp 7) (.tmp 8) _ rfl rfl rfl hb1 (size_madeCells _ _) (Nat.le_refl _) rfl HM2.out rfl (HS.out.new hn1) ?_; intro w2 ho2 hg2))
  go_ret
  exact ⟨_, rfl, ho2, hn1.grown hg2 (fun k hk => by simp at hk; omega)⟩

def trimL (l : List Ver) (from_ : Int) : List Ver := l.drop (firstN l from_)

set_option maxHeartbeats 1000000 in
theorem trim_any (l : List Ver) (v : Value) (at_ : Int) (w : World) (hl : l.length ≤ 1000000000) (hr : Rise l) (hs : SlIn w 3 Ver.enc v l) :
    Calls Try.prog 21 #[v, .int .u64 at_] w fun e w' => ∃ u, e = .returned u ∧ Owns w' w.heap.size 43 3 Ver.enc u (trimL l at_) ∧ New w w' := by
  have hs' := hs
  obtain ⟨A, c, rfl, hlc, h⟩ := hs
  clear h
  have hf := firstN_le l at_
  go_enter Try.func21, Try.ntmps21
  go_wp2_with fail
  refine (first_any l _ at_ w hl hr hs').mono ?_
  rintro e w1 ⟨rfl, hn⟩
  have hle : l.length - firstN l at_ ≤ 1000000000 := by omega
  have hsn := hs'.new hn
  have HS := Lib.hid hsn
  have htl : trimL l at_ = l.drop (firstN l at_) := rfl
  have HTL := Lib.hid htl
  clear hsn hs' htl
  generalize firstN l at_ = k at *
  have hk1 : (k : Int) ≤ (c : Int) := by omega
  have hk2 : (k : Int) ≤ (l.length : Int) := by omega
  have hk3 : (0 : Int) ≤ (k : Int) := by omega
  by_cases hck : c = k
  · subst hck
    go_wp2_with fail
    refine (own_any [] _ w1 (by simp) (SlIn.empty _ _ _ _ _)).mono ?_
    rintro e w2 ⟨u, rfl, ho, hn2⟩
    go_wp2_with fail
    go_ret
    exact ⟨u, rfl, by rw [HTL.out, List.drop_eq_nil_of_le hlc]; exact ownsRow_base ho hn.size, hn.trans hn2⟩
  · go_wp2_with fail
    refine (own_any (l.drop k) _ w1 (by simp; omega) (HS.out.drop_far hf hck)).mono ?_
    rintro e w2 ⟨u, rfl, ho, hn2⟩
    go_wp2_with fail
    go_ret
    exact ⟨u, rfl, by rw [HTL.out]; exact ownsRow_base ho hn.size, hn.trans hn2⟩

set_option maxHeartbeats 1000000 in
theorem dead_any (l : List Ver) (v : Value) (at_ : Int) (w : World) (hl : l.length ≤ 1000000000) (hr : Rise l) (hs : SlIn w 3 Ver.enc v l) :
    Calls Try.prog 24 #[v, .int .u64 at_] w fun e w' => ∃ u, e = .returned u ∧ Owns w' w.heap.size 43 3 Ver.enc u (l.take (firstN l at_)) ∧ New w w' := by
  have hs' := hs
  obtain ⟨A, c, rfl, hlc, h⟩ := hs
  clear h
  have hf := firstN_le l at_
  go_enter Try.func24, Try.ntmps24
  go_wp2_with fail
  refine (first_any l _ at_ w hl hr hs').mono ?_
  rintro e w1 ⟨rfl, hn⟩
  have hsn := hs'.new hn
  have HS := Lib.hid hsn
  have htl : l.take (firstN l at_) = l.take (firstN l at_) := rfl
  have HTL := Lib.hid htl
  clear hsn hs' htl
  generalize hfk : firstN l at_ = k at *
  have HFK := Lib.hid hfk
  clear hfk
  have hk1 : (k : Int) ≤ (c : Int) := by omega
  have hk2 : (k : Int) ≤ (l.length : Int) := by omega
  have hk3 : (0 : Int) ≤ (k : Int) := by omega
  go_wp2_with fail
  refine (own_any (l.take k) _ w1 (by simp; omega) (HS.out.take hf (Nat.le_refl _))).mono ?_
  rintro e w2 ⟨u, rfl, ho, hn2⟩
  go_wp2_with fail
  go_ret
  exact ⟨u, rfl, by rw [HFK.out]; exact ownsRow_base ho hn.size, hn.trans hn2⟩

set_option maxHeartbeats 1000000 in
theorem refCheck_any (l : List Ver) (v : Value) (w : World) (hl : l.length ≤ 1000000000) (hs : SlIn w 3 Ver.enc v l) :
    Calls Try.prog 17 #[v] w fun e w' => e = .returned (.bool (riseB l)) ∧ New w w' := by
  obtain ⟨A, c, rfl, hlc, h⟩ := hs
  go_enter Try.func17, Try.ntmps17
  go_wp2_with fail
  go_loopw [3] (fun i wr => ∃ k : Nat, i = .int .i64 k ∧ 1 ≤ k ∧ (k ≤ l.length ∨ k = 1) ∧ New w wr ∧ riseTo l k = true) (fun i _ => l.length - (intOf i).toNat)
  case atStart => exact ⟨1, rfl, by omega, .inr rfl, New.refl _, rfl⟩
  case round =>
    obtain ⟨k, rfl, hk1, hk2, hn, hrt⟩ := hrel
    have HR := Lib.hid hrt
    clear hrt
    by_cases hlt : k < l.length
    · have hlt' : (k : Int) < (l.length : Int) := by omega
      rcases h with rfl | ⟨b, off, rfl, hb, hc⟩
      · simp at hlt
      · obtain ⟨x, hx⟩ : ∃ x, l[k - 1]? = some x := ⟨_, List.getElem?_eq_getElem (by omega)⟩
        obtain ⟨y, hy⟩ : ∃ y, l[k]? = some y := ⟨_, List.getElem?_eq_getElem (by omega)⟩
        have e1 : wr.cell? ⟨b, off + (k - 1) * 3, none⟩ = some (.int .u64 x.at_) := (hn.cells.1 _ _ hb).trans (hc _ x hx 0 _ rfl)
        have e2 : wr.cell? ⟨b, off + k * 3, none⟩ = some (.int .u64 y.at_) := (hn.cells.1 _ _ hb).trans (hc _ y hy 0 _ rfl)
        have hs1 := riseTo_succ l k x y hk1 hx hy
        have HS1 := Lib.hid hs1
        have i1 : (0 : Int) ≤ (k : Int) - 1 := by omega
        have i2 : (k : Int) - 1 < (l.length : Int) := by omega
        clear hs1 hc hx hy
        by_cases hd : y.at_ ≤ x.at_
        · go_wp2_with fail
          go_quiet (fail)
          go_wp2_with fail
          go_ret
          exact ⟨ret_bool (riseB_false l (k + 1) (by omega) (by rw [HS1.out]; simp; omega)), hn.drewN _⟩
        · go_wp2_with fail
          go_quiet (fail)
          go_wp2_with fail
          go_roundw
          case rel => exact ⟨k + 1, by go_num, by omega, .inl (by omega), hn.drewN _, by rw [HS1.out, HR.out]; simp; omega⟩
          case measure => simp [intOf]; omega
    · have hlt' : ¬ (k : Int) < (l.length : Int) := by omega
      go_wp2_with fail
      go_ret
      exact ⟨ret_bool (riseB_true l k (by omega) HR.out), hn⟩

end Go.Proofs.Ytdjnfnhmkfbfmaa
