/- Chapter 5 (batch): few, Same, Find, Meets, and the document's. Printed by genBat2.py. -/
import Derived.Test.YtdobingccipkkaaBat
namespace Go.Proofs.Ytdobingccipkkaa
open Go.RowKit Go.Lap
set_option linter.unusedVariables false

/-- The law's bound on a batch. -/
def fewB (l : List Wri) : Bool := decide (l.length ≤ 80) && l.all fun x => decide (x.key.size ≤ 5000) && decide (x.val.size ≤ 5000)
def fewF (l : List Wri) : Bool := l.all fun x => decide (x.key.size ≤ 5000) && decide (x.val.size ≤ 5000)
theorem fewF_at {l : List Wri} {k : Nat} {x : Wri} (h : l[k]? = some x) : fewF (l.drop k) = ((decide (x.key.size ≤ 5000) && decide (x.val.size ≤ 5000)) && fewF (l.drop (k + 1))) := by
  obtain ⟨hk, hx⟩ := List.getElem?_eq_some_iff.1 h
  rw [List.drop_eq_getElem_cons hk, hx]
  rfl
def FewRel (l : List Wri) (k : Nat) (w0 wr : World) : Prop := fewF l = fewF (l.drop k) ∧ New w0 wr

set_option maxRecDepth 100000 in
set_option maxHeartbeats 4000000 in
theorem few_any (c r s : Nat) (v : Value) (l : List Wri) (w : World) (hl : l.length ≤ 1000000000) (hs : SlIn w 3 Wri.enc v l) :
    Calls Try.prog 10 #[.agg #[.int .u64 (c : Int), .int .u64 (r : Int), .int .u64 (s : Int), v]] w fun e w' => e = .returned (.bool (fewB l)) ∧ New w w' := by
  obtain ⟨A, cap, rfl, hlc, hh⟩ := hs
  by_cases h8 : 80 < l.length
  · have HF := Lib.hid (show fewB l = false by simp [fewB]; omega)
    have h8' : (80 : Int) < (l.length : Int) := by omega
    go_enter Try.func10, Try.ntmps10
    go_wp2_with fail
    go_ret
    exact ⟨ret_bool (a := false) HF.out.symm, (New.refl w).alloc _⟩
  have h8' : ¬ (80 : Int) < (l.length : Int) := by omega
  have HF := Lib.hid (show fewB l = fewF l by simp [fewB, fewF]; omega)
  have HB0 := Lib.hid (Blk.mk_new w 25 #[.int .u64 (c : Int), .int .u64 (r : Int), .int .u64 (s : Int), .slice A l.length cap])
  have HN0 := Lib.hid ((New.refl w).alloc (.cells #[.int .u64 (c : Int), .int .u64 (r : Int), .int .u64 (s : Int), .slice A l.length cap] 25))
  go_enter Try.func10, Try.ntmps10
  go_wp2_with fail
  go_loopw [3] (fun i wr => ∃ k : Nat, k ≤ l.length ∧ i = .int .i64 k ∧ FewRel l k (w.alloc (.cells #[.int .u64 (c : Int), .int .u64 (r : Int), .int .u64 (s : Int), .slice A l.length cap] 25)) wr) (fun i _ => l.length - (intOf i).toNat)
  case atStart => exact ⟨0, by omega, rfl, rfl, New.refl _⟩
  case round =>
    obtain ⟨k, hk, rfl, hfr, hn⟩ := hrel
    have HFR := Lib.hid hfr
    clear hfr
    have hCo := HN0.out.trans hn
    obtain ⟨p0, p1, p2, p3, p4, pz⟩ := Blk4F (HB0.out.new hn)
    by_cases hlt : k < l.length
    · have hlt2 : (k : Int) < (l.length : Int) := by omega
      have hk0 : (0 : Int) ≤ (k : Int) := by omega
      rcases hh with rfl | ⟨b, off, rfl, hbb, hc⟩
      · simp at hlt
      obtain ⟨x, hx⟩ : ∃ x, l[k]? = some x := ⟨_, List.getElem?_eq_getElem hlt⟩
      obtain ⟨e0, e1, e2⟩ := SlIn.three (fun k x h j u hu => (hCo.cells.1 _ _ hbb).trans (hc k x h j u hu)) hx
      have HFX := Lib.hid (HFR.out.trans (fewF_at hx))
      clear hx hc
      by_cases h1 : 5000 < x.key.size
      · have h1' : (5000 : Int) < (x.key.size : Int) := by omega
        have HF2 := Lib.hid (show fewB l = false by rw [HF.out, HFX.out]; simp; omega)
        go_wp2_with fail
        go_ret
        exact ⟨ret_bool (a := false) HF2.out.symm, hCo⟩
      have h1' : ¬ (5000 : Int) < (x.key.size : Int) := by omega
      by_cases h2 : 5000 < x.val.size
      · have h2' : (5000 : Int) < (x.val.size : Int) := by omega
        have HF2 := Lib.hid (show fewB l = false by rw [HF.out, HFX.out]; simp; omega)
        go_wp2_with fail
        go_ret
        exact ⟨ret_bool (a := false) HF2.out.symm, hCo⟩
      have h2' : ¬ (5000 : Int) < (x.val.size : Int) := by omega
      have HF2 := Lib.hid (show fewF l = fewF (l.drop (k + 1)) by rw [HFX.out]; simp; omega)
      go_wp2_with fail
      go_roundw
      case rel => exact ⟨k + 1, by omega, by go_num, HF2.out, hn⟩
      case measure => simp [intOf]; omega
    · have hlt2 : ¬ (k : Int) < (l.length : Int) := by omega
      have HF2 := Lib.hid (show fewB l = true by rw [HF.out, HFR.out, List.drop_eq_nil_of_le (by omega)]; rfl)
      go_wp2_with fail
      go_ret
      exact ⟨ret_bool (a := true) HF2.out.symm, hCo⟩

theorem take_snoc {l : List Wri} {k : Nat} {x : Wri} (h : l[k]? = some x) : l.take (k + 1) = l.take k ++ [x] := by rw [List.take_add_one, h]; rfl
theorem bytes_inj {a b : ByteArray} (h : a.toList = b.toList) : a = b := by
  rw [toList_data, toList_data] at h
  obtain ⟨⟨a⟩⟩ := a
  obtain ⟨⟨b⟩⟩ := b
  simp at h
  rw [h]
theorem wri_ne {x y : Wri} (h : x ≠ y) : (x.key.toList == y.key.toList && (x.val.toList == y.val.toList && x.gone == y.gone)) = false := by
  by_cases h1 : x.key.toList = y.key.toList
  · by_cases h2 : x.val.toList = y.val.toList
    · by_cases h3 : x.gone = y.gone
      · exact absurd (by obtain ⟨a, b, c⟩ := x; obtain ⟨a', b', c'⟩ := y; simp only at h1 h2 h3; rw [bytes_inj h1, bytes_inj h2, h3]) h
      · simp [h3]
    · simp [h2]
  · simp [h1]
def SameRel (l l' : List Wri) (k : Nat) (w0 wr : World) : Prop := l.take k = l'.take k ∧ New w0 wr
/-- The same batches. -/
def sameB (c r s : Nat) (l : List Wri) (c' r' s' : Nat) (l' : List Wri) : Bool := decide (c = c' ∧ r = r' ∧ s = s' ∧ l = l')

set_option maxRecDepth 100000 in
set_option maxHeartbeats 4000000 in
theorem refSame_any (c r s : Nat) (v : Value) (l : List Wri) (c' r' s' : Nat) (v' : Value) (l' : List Wri) (w : World) (hl : l.length ≤ 1000000000) (hl' : l'.length ≤ 1000000000) (hs : SlIn w 3 Wri.enc v l) (hs' : SlIn w 3 Wri.enc v' l') :
    Calls Try.prog 14 #[.agg #[.int .u64 (c : Int), .int .u64 (r : Int), .int .u64 (s : Int), v], .agg #[.int .u64 (c' : Int), .int .u64 (r' : Int), .int .u64 (s' : Int), v']] w fun e w' => e = .returned (.bool (sameB c r s l c' r' s' l')) ∧ New w w' := by
  obtain ⟨A, cap, rfl, hlc, hh⟩ := hs
  obtain ⟨A', cap', rfl, hlc', hh'⟩ := hs'
  by_cases g0 : c = c'
  rotate_left
  · have HF := Lib.hid (show sameB c r s l c' r' s' l' = false by simp [sameB]; intros; simp_all)
    have t0 : (((c : Nat) : Int) != ((c' : Nat) : Int)) = true := by rw [bne_iff_ne]; omega
    have u0 : (c == c') = false := by simpa using g0
    go_enter Try.func14, Try.ntmps14
    go_wp2_with fail
    go_ret
    exact ⟨ret_bool (a := false) HF.out.symm, ((New.refl w).alloc _).alloc _⟩
  by_cases g1 : r = r'
  rotate_left
  · have HF := Lib.hid (show sameB c r s l c' r' s' l' = false by simp [sameB]; intros; simp_all)
    have t1 : (((r : Nat) : Int) != ((r' : Nat) : Int)) = true := by rw [bne_iff_ne]; omega
    have u1 : (r == r') = false := by simpa using g1
    have t0 : (((c : Nat) : Int) != ((c' : Nat) : Int)) = false := by rw [g0]; simp
    go_enter Try.func14, Try.ntmps14
    go_wp2_with fail
    go_ret
    exact ⟨ret_bool (a := false) HF.out.symm, ((New.refl w).alloc _).alloc _⟩
  by_cases g2 : s = s'
  rotate_left
  · have HF := Lib.hid (show sameB c r s l c' r' s' l' = false by simp [sameB]; intros; simp_all)
    have t2 : (((s : Nat) : Int) != ((s' : Nat) : Int)) = true := by rw [bne_iff_ne]; omega
    have u2 : (s == s') = false := by simpa using g2
    have t0 : (((c : Nat) : Int) != ((c' : Nat) : Int)) = false := by rw [g0]; simp
    have t1 : (((r : Nat) : Int) != ((r' : Nat) : Int)) = false := by rw [g1]; simp
    go_enter Try.func14, Try.ntmps14
    go_wp2_with fail
    go_ret
    exact ⟨ret_bool (a := false) HF.out.symm, ((New.refl w).alloc _).alloc _⟩
  by_cases g3 : l.length = l'.length
  rotate_left
  · have HF := Lib.hid (show sameB c r s l c' r' s' l' = false by simp [sameB]; intros; intro hh; subst hh; exact g3 rfl)
    have t3 : (((l.length : Nat) : Int) != ((l'.length : Nat) : Int)) = true := by rw [bne_iff_ne]; omega
    have u3 : (l.length == l'.length) = false := by simpa using g3
    have t0 : (((c : Nat) : Int) != ((c' : Nat) : Int)) = false := by rw [g0]; simp
    have t1 : (((r : Nat) : Int) != ((r' : Nat) : Int)) = false := by rw [g1]; simp
    have t2 : (((s : Nat) : Int) != ((s' : Nat) : Int)) = false := by rw [g2]; simp
    go_enter Try.func14, Try.ntmps14
    go_wp2_with fail
    go_ret
    exact ⟨ret_bool (a := false) HF.out.symm, ((New.refl w).alloc _).alloc _⟩
  subst g0 g1 g2
  have HF := Lib.hid (show sameB c r s l c r s l' = decide (l = l') by simp [sameB])
  have HG3 := Lib.hid g3
  have t3 : (((l.length : Nat) : Int) != ((l'.length : Nat) : Int)) = false := by rw [g3]; simp
  have u3 : (l.length == l'.length) = true := by simpa using g3
  clear g3
  have hB1 := (Blk.mk_new w 25 #[.int .u64 (c : Int), .int .u64 (r : Int), .int .u64 (s : Int), .slice A l.length cap]).alloc (.cells #[.int .u64 (c : Int), .int .u64 (r : Int), .int .u64 (s : Int), .slice A' l'.length cap'] 25)
  have hB2 := Blk.mk_new (w.alloc (.cells #[.int .u64 (c : Int), .int .u64 (r : Int), .int .u64 (s : Int), .slice A l.length cap] 25)) 25 #[.int .u64 (c : Int), .int .u64 (r : Int), .int .u64 (s : Int), .slice A' l'.length cap']
  rw [World.size_alloc] at hB2
  have HB1 := Lib.hid hB1
  have HB2 := Lib.hid hB2
  clear hB1 hB2
  have HN0 := Lib.hid (((New.refl w).alloc (.cells #[.int .u64 (c : Int), .int .u64 (r : Int), .int .u64 (s : Int), .slice A l.length cap] 25)).alloc (.cells #[.int .u64 (c : Int), .int .u64 (r : Int), .int .u64 (s : Int), .slice A' l'.length cap'] 25))
  go_enter Try.func14, Try.ntmps14
  go_wp2_with fail
  go_loopw [5] (fun i wr => ∃ k : Nat, k ≤ l.length ∧ i = .int .i64 k ∧ SameRel l l' k ((w.alloc (.cells #[.int .u64 (c : Int), .int .u64 (r : Int), .int .u64 (s : Int), .slice A l.length cap] 25)).alloc (.cells #[.int .u64 (c : Int), .int .u64 (r : Int), .int .u64 (s : Int), .slice A' l'.length cap'] 25)) wr) (fun  i _ => l.length - (intOf i).toNat)
  case atStart => exact ⟨0, by omega, rfl, rfl, New.refl _⟩
  case round =>
    obtain ⟨k, hk, rfl, hfr, hn⟩ := hrel
    have HFR := Lib.hid hfr
    clear hfr
    have hCo := HN0.out.trans hn
    obtain ⟨p0, p1, p2, p3, p4, pz⟩ := Blk4F (HB1.out.new hn)
    obtain ⟨q0, q1, q2, q3, q4, qz⟩ := Blk4F (HB2.out.new hn)
    by_cases hlt : k < l.length
    · have hlt2 : (k : Int) < (l.length : Int) := by omega
      have hk0 : (0 : Int) ≤ (k : Int) := by omega
      have hlt' : k < l'.length := by rw [← HG3.out]; exact hlt
      have hlt2' : (k : Int) < (l'.length : Int) := by omega
      rcases hh with rfl | ⟨b, off, rfl, hbb, hc⟩
      · simp at hlt
      rcases hh' with rfl | ⟨b', off', rfl, hbb', hc'⟩
      · simp at hlt'
      obtain ⟨x, hx⟩ : ∃ x, l[k]? = some x := ⟨_, List.getElem?_eq_getElem hlt⟩
      obtain ⟨y, hy⟩ : ∃ y, l'[k]? = some y := ⟨_, List.getElem?_eq_getElem hlt'⟩
      obtain ⟨e0, e1, e2⟩ := SlIn.three (fun k x h j u hu => (hCo.cells.1 _ _ hbb).trans (hc k x h j u hu)) hx
      obtain ⟨f0, f1, f2⟩ := SlIn.three (fun k x h j u hu => (hCo.cells.1 _ _ hbb').trans (hc' k x h j u hu)) hy
      have HX := Lib.hid hx
      have HY := Lib.hid hy
      clear hx hy hc hc' hlt'
      by_cases hxy : x = y
      · subst hxy
        have HF2 := Lib.hid (show l.take (k + 1) = l'.take (k + 1) by rw [take_snoc HX.out, take_snoc HY.out, HFR.out])
        go_wp2_with fail
        go_quiet (fail)
        go_wp2_with fail
        go_roundw
        case rel => exact ⟨k + 1, by omega, by go_num, HF2.out, hn.drewN _⟩
        case measure => simp [intOf]; omega
      · have HF2 := Lib.hid (show sameB c r s l c r s l' = false by rw [HF.out]; simp; intro e; subst e; exact hxy (Option.some.inj (HX.out.symm.trans HY.out)))
        obtain ⟨xk, xv, xg⟩ := x
        obtain ⟨yk, yv, yg⟩ := y
        simp only at e0 e1 e2 f0 f1 f2
        clear HX HY
        by_cases k1 : xk = yk
        rotate_left
        · have t1 : ¬ xk.toList = yk.toList := fun e => k1 (bytes_inj e)
          go_wp2_with fail
          go_quiet (fail)
          go_wp2_with fail
          go_ret
          exact ⟨ret_bool (a := false) HF2.out.symm, hCo.drewN _⟩
        subst k1
        by_cases k2 : xv = yv
        rotate_left
        · have t2 : ¬ xv.toList = yv.toList := fun e => k2 (bytes_inj e)
          go_wp2_with fail
          go_quiet (fail)
          go_wp2_with fail
          go_ret
          exact ⟨ret_bool (a := false) HF2.out.symm, hCo.drewN _⟩
        subst k2
        have k3 : ¬ xg = yg := fun e => hxy (by rw [e])
        clear hxy
        go_wp2_with fail
        go_quiet (fail)
        go_wp2_with fail
        go_ret
        exact ⟨ret_bool (a := false) HF2.out.symm, hCo.drewN _⟩
    · have hlt2 : ¬ (k : Int) < (l.length : Int) := by omega
      have HF2 := Lib.hid (show sameB c r s l c r s l' = true by rw [HF.out]; have h := HFR.out; rw [List.take_of_length_le (by omega), List.take_of_length_le (by rw [← HG3.out]; omega)] at h; simp [h])
      go_wp2_with fail
      go_ret
      exact ⟨ret_bool (a := true) HF2.out.symm, hCo⟩
set_option maxRecDepth 100000 in
set_option maxHeartbeats 4000000 in
theorem same_any (c r s : Nat) (v : Value) (l : List Wri) (c' r' s' : Nat) (v' : Value) (l' : List Wri) (w : World) (hl : l.length ≤ 1000000000) (hl' : l'.length ≤ 1000000000) (hs : SlIn w 3 Wri.enc v l) (hs' : SlIn w 3 Wri.enc v' l') :
    Calls Try.prog 23 #[.agg #[.int .u64 (c : Int), .int .u64 (r : Int), .int .u64 (s : Int), v], .agg #[.int .u64 (c' : Int), .int .u64 (r' : Int), .int .u64 (s' : Int), v']] w fun e w' => e = .returned (.bool (sameB c r s l c' r' s' l')) ∧ New w w' := by
  obtain ⟨A, cap, rfl, hlc, hh⟩ := hs
  obtain ⟨A', cap', rfl, hlc', hh'⟩ := hs'
  by_cases g0 : c = c'
  rotate_left
  · have HF := Lib.hid (show sameB c r s l c' r' s' l' = false by simp [sameB]; intros; simp_all)
    have t0 : (((c : Nat) : Int) != ((c' : Nat) : Int)) = true := by rw [bne_iff_ne]; omega
    have u0 : (c == c') = false := by simpa using g0
    go_enter Try.func23, Try.ntmps23
    go_wp2_with fail
    go_ret
    exact ⟨ret_bool (a := false) HF.out.symm, ((New.refl w).alloc _).alloc _⟩
  by_cases g1 : r = r'
  rotate_left
  · have HF := Lib.hid (show sameB c r s l c' r' s' l' = false by simp [sameB]; intros; simp_all)
    have t1 : (((r : Nat) : Int) != ((r' : Nat) : Int)) = true := by rw [bne_iff_ne]; omega
    have u1 : (r == r') = false := by simpa using g1
    have t0 : (((c : Nat) : Int) != ((c' : Nat) : Int)) = false := by rw [g0]; simp
    go_enter Try.func23, Try.ntmps23
    go_wp2_with fail
    go_ret
    exact ⟨ret_bool (a := false) HF.out.symm, ((New.refl w).alloc _).alloc _⟩
  by_cases g2 : s = s'
  rotate_left
  · have HF := Lib.hid (show sameB c r s l c' r' s' l' = false by simp [sameB]; intros; simp_all)
    have t2 : (((s : Nat) : Int) != ((s' : Nat) : Int)) = true := by rw [bne_iff_ne]; omega
    have u2 : (s == s') = false := by simpa using g2
    have t0 : (((c : Nat) : Int) != ((c' : Nat) : Int)) = false := by rw [g0]; simp
    have t1 : (((r : Nat) : Int) != ((r' : Nat) : Int)) = false := by rw [g1]; simp
    go_enter Try.func23, Try.ntmps23
    go_wp2_with fail
    go_ret
    exact ⟨ret_bool (a := false) HF.out.symm, ((New.refl w).alloc _).alloc _⟩
  by_cases g3 : l.length = l'.length
  rotate_left
  · have HF := Lib.hid (show sameB c r s l c' r' s' l' = false by simp [sameB]; intros; intro hh; subst hh; exact g3 rfl)
    have t3 : (((l.length : Nat) : Int) != ((l'.length : Nat) : Int)) = true := by rw [bne_iff_ne]; omega
    have u3 : (l.length == l'.length) = false := by simpa using g3
    have t0 : (((c : Nat) : Int) != ((c' : Nat) : Int)) = false := by rw [g0]; simp
    have t1 : (((r : Nat) : Int) != ((r' : Nat) : Int)) = false := by rw [g1]; simp
    have t2 : (((s : Nat) : Int) != ((s' : Nat) : Int)) = false := by rw [g2]; simp
    go_enter Try.func23, Try.ntmps23
    go_wp2_with fail
    go_ret
    exact ⟨ret_bool (a := false) HF.out.symm, ((New.refl w).alloc _).alloc _⟩
  subst g0 g1 g2
  have HF := Lib.hid (show sameB c r s l c r s l' = decide (l = l') by simp [sameB])
  have HG3 := Lib.hid g3
  have t3 : (((l.length : Nat) : Int) != ((l'.length : Nat) : Int)) = false := by rw [g3]; simp
  have u3 : (l.length == l'.length) = true := by simpa using g3
  clear g3
  have hB1 := (Blk.mk_new w 25 #[.int .u64 (c : Int), .int .u64 (r : Int), .int .u64 (s : Int), .slice A l.length cap]).alloc (.cells #[.int .u64 (c : Int), .int .u64 (r : Int), .int .u64 (s : Int), .slice A' l'.length cap'] 25)
  have hB2 := Blk.mk_new (w.alloc (.cells #[.int .u64 (c : Int), .int .u64 (r : Int), .int .u64 (s : Int), .slice A l.length cap] 25)) 25 #[.int .u64 (c : Int), .int .u64 (r : Int), .int .u64 (s : Int), .slice A' l'.length cap']
  rw [World.size_alloc] at hB2
  have HB1 := Lib.hid hB1
  have HB2 := Lib.hid hB2
  clear hB1 hB2
  have HN0 := Lib.hid (((New.refl w).alloc (.cells #[.int .u64 (c : Int), .int .u64 (r : Int), .int .u64 (s : Int), .slice A l.length cap] 25)).alloc (.cells #[.int .u64 (c : Int), .int .u64 (r : Int), .int .u64 (s : Int), .slice A' l'.length cap'] 25))
  go_enter Try.func23, Try.ntmps23
  go_wp2_with fail
  go_loopw [5, 37] (fun _ i wr => ∃ k : Nat, k ≤ l.length ∧ i = .int .i64 k ∧ SameRel l l' k ((w.alloc (.cells #[.int .u64 (c : Int), .int .u64 (r : Int), .int .u64 (s : Int), .slice A l.length cap] 25)).alloc (.cells #[.int .u64 (c : Int), .int .u64 (r : Int), .int .u64 (s : Int), .slice A' l'.length cap'] 25)) wr) (fun _  i _ => l.length - (intOf i).toNat)
  case atStart => exact ⟨0, by omega, rfl, rfl, New.refl _⟩
  case round =>
    obtain ⟨k, hk, rfl, hfr, hn⟩ := hrel
    have HFR := Lib.hid hfr
    clear hfr
    have hCo := HN0.out.trans hn
    obtain ⟨p0, p1, p2, p3, p4, pz⟩ := Blk4F (HB1.out.new hn)
    obtain ⟨q0, q1, q2, q3, q4, qz⟩ := Blk4F (HB2.out.new hn)
    by_cases hlt : k < l.length
    · have hlt2 : (k : Int) < (l.length : Int) := by omega
      have hk0 : (0 : Int) ≤ (k : Int) := by omega
      have hlt' : k < l'.length := by rw [← HG3.out]; exact hlt
      have hlt2' : (k : Int) < (l'.length : Int) := by omega
      rcases hh with rfl | ⟨b, off, rfl, hbb, hc⟩
      · simp at hlt
      rcases hh' with rfl | ⟨b', off', rfl, hbb', hc'⟩
      · simp at hlt'
      obtain ⟨x, hx⟩ : ∃ x, l[k]? = some x := ⟨_, List.getElem?_eq_getElem hlt⟩
      obtain ⟨y, hy⟩ : ∃ y, l'[k]? = some y := ⟨_, List.getElem?_eq_getElem hlt'⟩
      obtain ⟨e0, e1, e2⟩ := SlIn.three (fun k x h j u hu => (hCo.cells.1 _ _ hbb).trans (hc k x h j u hu)) hx
      obtain ⟨f0, f1, f2⟩ := SlIn.three (fun k x h j u hu => (hCo.cells.1 _ _ hbb').trans (hc' k x h j u hu)) hy
      have HX := Lib.hid hx
      have HY := Lib.hid hy
      clear hx hy hc hc' hlt'
      by_cases hxy : x = y
      · subst hxy
        have HF2 := Lib.hid (show l.take (k + 1) = l'.take (k + 1) by rw [take_snoc HX.out, take_snoc HY.out, HFR.out])
        go_wp2_with fail
        go_quiet (fail)
        go_wp2_with fail
        go_roundw
        case rel => exact ⟨k + 1, by omega, by go_num, HF2.out, hn.drewN _⟩
        case measure => simp [intOf]; omega
      · have HF2 := Lib.hid (show sameB c r s l c r s l' = false by rw [HF.out]; simp; intro e; subst e; exact hxy (Option.some.inj (HX.out.symm.trans HY.out)))
        obtain ⟨xk, xv, xg⟩ := x
        obtain ⟨yk, yv, yg⟩ := y
        simp only at e0 e1 e2 f0 f1 f2
        clear HX HY
        by_cases k1 : xk = yk
        rotate_left
        · have t1 : ¬ xk.toList = yk.toList := fun e => k1 (bytes_inj e)
          go_wp2_with fail
          go_quiet (fail)
          go_wp2_with fail
          go_ret
          exact ⟨ret_bool (a := false) HF2.out.symm, hCo.drewN _⟩
        subst k1
        by_cases k2 : xv = yv
        rotate_left
        · have t2 : ¬ xv.toList = yv.toList := fun e => k2 (bytes_inj e)
          go_wp2_with fail
          go_quiet (fail)
          go_wp2_with fail
          go_ret
          exact ⟨ret_bool (a := false) HF2.out.symm, hCo.drewN _⟩
        subst k2
        have k3 : ¬ xg = yg := fun e => hxy (by rw [e])
        clear hxy
        go_wp2_with fail
        go_quiet (fail)
        go_wp2_with fail
        go_ret
        exact ⟨ret_bool (a := false) HF2.out.symm, hCo.drewN _⟩
    · have hlt2 : ¬ (k : Int) < (l.length : Int) := by omega
      have HF2 := Lib.hid (show sameB c r s l c r s l' = true by rw [HF.out]; have h := HFR.out; rw [List.take_of_length_le (by omega), List.take_of_length_le (by rw [← HG3.out]; omega)] at h; simp [h])
      go_wp2_with fail
      go_ret
      exact ⟨ret_bool (a := true) HF2.out.symm, hCo⟩
end Go.Proofs.Ytdobingccipkkaa
