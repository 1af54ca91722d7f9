/- Chapter 18 (pins), the document's answer: Of. -/
import Derived.Test.YtcganajbfplmpaaPnP
import Derived.Test.YtcganajbfplmpaaPnS
import Derived.Test.YtcganajbfplmpaaPnR
import Derived.Test.YtcganajbfplmpaaRef03e
namespace Go.Proofs.Ytcganajbfplmpaa
open Go.RowKit Go.Lap
set_option linter.unusedVariables false

theorem Blk5Q {w : World} {g t : Nat} {a b c d e : Value} (h : Blk w g t #[a, b, c, d, e]) : g < w.heap.size ∧ w.cell? ⟨g, 0, none⟩ = some a ∧ w.cell? ⟨g, 1, none⟩ = some b ∧ w.cell? ⟨g, 2, none⟩ = some c ∧ w.cell? ⟨g, 3, none⟩ = some d ∧ w.cell? ⟨g, 4, none⟩ = some e ∧ (∀ i, w.frozen? ⟨g, i, none⟩ = false) := ⟨h.lt, h.cell 0, h.cell 1, h.cell 2, h.cell 3, h.cell 4, h.frozen⟩
def ROfPost (w : World) (r : Option (List Pnm × List UInt8)) (e : Ending) (w' : World) : Prop := New w w' ∧
  match r with
  | none => e = .returned (.tuple #[.slice none 0 0, .bool false])
  | some (E, bs) => ∃ u, e = .returned (.tuple #[u, .bool (decide (bs = []))]) ∧ SlIn w' 2 pnC u E
theorem str_empty (bs : List UInt8) : (str bs).toList.isEmpty = decide (bs = []) := by
  rw [ByteArray.toList_eq, str_list]
  cases bs <;> simp
set_option maxRecDepth 100000 in
set_option maxHeartbeats 8000000 in
theorem rof_any (bs : List UInt8) (w : World) (hb : bs.length ≤ 100000000) : Calls Try.prog 35 #[.string (str bs)] w (ROfPost w (rOf bs)) := by
  have HRO := Lib.hid (show rOf bs = if (numR bs 0).2.2 = 0 ∧ (numR bs 0).1 ≤ 16 then rOfRounds (numR bs 0).1 [] (numR bs 0).2.1 else none from rfl)
  have hok := numR_okU bs 0
  have hl3 := numR_lenE bs 0
  generalize rOf bs = res at HRO ⊢
  go_enter Try.func35, Try.ntmps35
  go_wp2_with fail
  refine (refNum_any bs w (by omega)).mono ?_
  rintro e w1 ⟨rfl, hn1⟩
  generalize numR bs 0 = r at *
  obtain ⟨n, b3, e3⟩ := r
  simp only at HRO hok hl3 ⊢
  by_cases he : e3 = 0
  rotate_left
  · have hne : (e3 != 0) = true := by simpa using he
    have HNO := Lib.hid (HRO.out.trans (if_neg fun h => he h.1))
    clear he HRO hok
    go_wp2_with fail
    go_ret2
    refine ⟨hn1, ?_⟩
    rw [HNO.out]
    rfl
  subst he
  by_cases h16 : n ≤ 16
  rotate_left
  · have h16' : (16 : Int) < (n : Int) := by omega
    have HNO := Lib.hid (HRO.out.trans (if_neg fun h => h16 h.2))
    clear h16 HRO hok
    go_wp2_with fail
    go_ret2
    refine ⟨hn1, ?_⟩
    rw [HNO.out]
    rfl
  have h16' : ¬ (16 : Int) < (n : Int) := by omega
  have HR0 := Lib.hid (HRO.out.trans (if_pos ⟨rfl, h16⟩))
  have hO0 : Owns (w1.alloc (.cells #[] 66)) w1.heap.size 66 2 pnC (.slice (some ⟨w1.heap.size, 0, none⟩) 0 0) ([] : List Pnm) := World.ownsRow_made (base := w1.heap.size) (e := 66) (size := 2) w1 #[] 0 (Nat.le_refl _) (by simp) (by simp)
  have HO0 := Lib.hid (hO0.lower hn1.size)
  have HN0 := Lib.hid (hn1.alloc (.cells #[] 66))
  clear hO0 hok HRO
  go_wp2_with fail
  go_loopw [5, 7, 8, 9, 10, 11, 12, 13, 14] (fun rs u i _ _ _ _ _ _ wr => ∃ k : Nat, k ≤ n ∧ i = .int .u64 (k : Int) ∧ ∃ (E : List Pnm) (bs' : List UInt8), rs = .string (str bs') ∧ E.length = k ∧ res = rOfRounds (n - k) E bs' ∧ Owns wr w.heap.size 66 2 pnC u E ∧ bs'.length ≤ 100000000 ∧ New w wr) (fun _ _ i _ _ _ _ _ _ _ => n - (intOf i).toNat)
  case atStart => exact ⟨0, by omega, rfl, [], b3, rfl, rfl, HR0.out, HO0.out, by omega, HN0.out⟩
  case round =>
    clear HR0 HO0 HN0
    obtain ⟨k, hk, rfl, E, bs', rfl, hEl, hres, ho, hbl, hn⟩ := hrel
    subst hEl
    have HRS := Lib.hid hres
    have HN := Lib.hid hn
    obtain ⟨sA, sc, hsv, hcp, hor⟩ := Owns.slIn pnOk ho
    subst hsv
    clear hres
    by_cases hlt : E.length < n
    · have hlt' : (E.length : Int) < (n : Int) := by omega
      rw [show n - E.length = (n - (E.length + 1)) + 1 by omega] at HRS
      have HSTEP := Lib.hid (show rOfRounds (n - (E.length + 1) + 1) E bs' = if rOfOk E bs' then rOfRounds (n - (E.length + 1)) (E ++ [⟨str (textR bs' 0).1, (numR (textR bs' 0).2.1 0).1⟩]) (numR (textR bs' 0).2.1 0).2.1 else none from rfl)
      have HOK := Lib.hid (show rOfOk E bs' ↔ ((textR bs' 0).2.2 = 0 ∧ (numR (textR bs' 0).2.1 0).2.2 = 0 ∧ ¬ (str (textR bs' 0).1).size < 1 ∧ ¬ 32 < (str (textR bs' 0).1).size ∧ lastOk E (str (textR bs' 0).1) = true) from Iff.rfl)
      have hl1 := textR_lenE bs' 0
      have htk := refTake_any 1 0 bs' wr (.inr (.inl rfl)) (by omega) (by decide)
      rw [show takeF 1 0 bs' 0 = (⟨1, 0, str (textR bs' 0).1, false, 0⟩, (textR bs' 0).2) from rfl] at htk
      dsimp only at htk
      go_wp2_with fail
      refine htk.mono ?_
      rintro e w3 ⟨rfl, hn3⟩
      have hl2 := numR_lenE (textR bs' 0).2.1 0
      generalize textR bs' 0 = t at *
      obtain ⟨tb, b5, e5⟩ := t
      simp only at hl1 hl2 HSTEP HOK ⊢
      generalize str tb = s at *
      have hBz := Blk.mk_new w3 133 #[.int .i64 0, .int .u64 0, .string ⟨#[]⟩, .bool false, .int .i64 0]
      obtain ⟨z0, z1, z2, z3, z4, z5, zz⟩ := Blk5Q hBz
      have hB := Blk.mk_new w3 133 #[.int .i64 1, .int .u64 0, .string s, .bool false, .int .i64 0]
      obtain ⟨q0, q1, q2, q3, q4, q5, qz⟩ := Blk5Q hB
      have HN4 := Lib.hid ((HN.out.trans hn3).alloc (.cells #[.int .i64 1, .int .u64 0, .string s, .bool false, .int .i64 0] 133))
      have HNA := Lib.hid (hn3.alloc (.cells #[.int .i64 1, .int .u64 0, .string s, .bool false, .int .i64 0] 133))
      have HB := Lib.hid hB
      clear htk hn3 hBz hB hn
      go_wp2_with fail
      refine (refNum_any b5 _ (by omega)).mono ?_
      rintro e w5 ⟨rfl, hn5⟩
      have hl4 := numR_lenE b5 0
      have hok := numR_okU b5 0
      have HN5 := Lib.hid (HN4.out.trans hn5)
      have HW5 := Lib.hid (HNA.out.trans hn5)
      have HO5 := Lib.hid (ho.new HW5.out)
      have hF5 := HB.out.new hn5
      clear q0 q1 q2 q3 q4 q5 qz z0 z1 z2 z3 z4 z5 zz
      obtain ⟨q0, q1, q2, q3, q4, q5, qz⟩ := Blk5Q hF5
      generalize numR b5 0 = t at *
      obtain ⟨at_, b6, e6⟩ := t
      simp only at hl2 hl4 hok HSTEP HOK ⊢
      clear hn5 ho
      by_cases h5 : e5 = 0
      rotate_left
      · have ha : (e5 != 0) = true := by simpa using h5
        have HNO := Lib.hid (HRS.out.trans (HSTEP.out.trans (if_neg (fun hq => by exact h5 (HOK.out.1 hq).1))))
        clear HRS HSTEP HOK
        go_wp2_with fail
        go_quiet (fail)
        go_wp2_with fail
        go_ret2
        refine ⟨HN5.out.drewN _, ?_⟩
        rw [HNO.out]
        rfl
      subst h5
      by_cases h6 : e6 = 0
      rotate_left
      · have ha : (e6 != 0) = true := by simpa using h6
        have HNO := Lib.hid (HRS.out.trans (HSTEP.out.trans (if_neg (fun hq => by exact h6 (HOK.out.1 hq).2.1))))
        clear HRS HSTEP HOK
        go_wp2_with fail
        go_quiet (fail)
        go_wp2_with fail
        go_ret2
        refine ⟨HN5.out.drewN _, ?_⟩
        rw [HNO.out]
        rfl
      subst h6
      by_cases h1 : s.size < 1
      · have ha : decide ((s.size : Int) < 1) = true := decide_eq_true (by omega)
        have ha2 : decide (s.size < 1) = true := decide_eq_true h1
        have ha3 : s.size = 0 := by omega
        have HNO := Lib.hid (HRS.out.trans (HSTEP.out.trans (if_neg (fun hq => by exact (HOK.out.1 hq).2.2.1 h1))))
        clear HRS HSTEP HOK
        go_wp2_with fail
        go_quiet (fail)
        go_wp2_with fail
        go_ret2
        refine ⟨HN5.out.drewN _, ?_⟩
        rw [HNO.out]
        rfl
      by_cases h32 : 32 < s.size
      · have hs1 : decide ((s.size : Int) < 1) = false := decide_eq_false (by omega)
        have hs2 : decide (s.size < 1) = false := decide_eq_false (by omega)
        have hs3 : ¬ s.size = 0 := by omega
        have ha : decide ((32 : Int) < (s.size : Int)) = true := decide_eq_true (by omega)
        have ha2 : decide (32 < s.size) = true := decide_eq_true h32
        have HNO := Lib.hid (HRS.out.trans (HSTEP.out.trans (if_neg (fun hq => by exact (HOK.out.1 hq).2.2.2.1 h32))))
        clear HRS HSTEP HOK
        go_wp2_with fail
        go_quiet (fail)
        go_wp2_with fail
        go_ret2
        refine ⟨HN5.out.drewN _, ?_⟩
        rw [HNO.out]
        rfl
      have hs1 : decide ((s.size : Int) < 1) = false := decide_eq_false (by omega)
      have hs2 : decide (s.size < 1) = false := decide_eq_false (by omega)
      have hs3 : ¬ s.size = 0 := by omega
      have ht1 : decide ((32 : Int) < (s.size : Int)) = false := decide_eq_false (by omega)
      have ht2 : decide (32 < s.size) = false := decide_eq_false (by omega)
      by_cases hk0 : E.length = 0
      · have hk1 : decide ((0 : Int) < (E.length : Int)) = false := decide_eq_false (by omega)
        have hk2 : decide (0 < E.length) = false := decide_eq_false (by omega)
        have HNX0 := Lib.hid (show lastOk E s = true by rw [List.length_eq_zero_iff.1 hk0]; rfl)
        clear hk0
        have HNX := Lib.hid (HRS.out.trans (HSTEP.out.trans (if_pos (HOK.out.2 ⟨rfl, rfl, h1, h32, HNX0.out⟩))))
        clear HRS HSTEP HOK
        go_wp2_with fail
        go_quiet (fail)
        have hbx := Blk.mk_new (w5.drewN nq) 66 #[.string s, .int .u64 (at_ : Int)]
        have hox := (HO5.out.new ((New.refl w5).drewN nq)).alloc (.cells #[.string s, .int .u64 (at_ : Int)] 66)
        have HN9 := Lib.hid (((New.refl w5).drewN nq).alloc (.cells #[.string s, .int .u64 (at_ : Int)] 66))
        have HM1 := Lib.hid (show E.length + [(⟨s, at_⟩ : Pnm)].length ≤ maxLen by unfold maxLen; simp only [List.length_singleton]; omega)
        have HM2 := Lib.hid (show (E.length + [(⟨s, at_⟩ : Pnm)].length) * 24 ≤ 140737488355328 by simp only [List.length_singleton]; omega)
        have HM3 := Lib.hid (show w.heap.size ≤ ((w5.drewN nq).alloc (.cells #[.string s, .int .u64 (at_ : Int)] 66)).heap.size by have := HN9.out.size; have := HN5.out.size; omega)
        have HF9 := Lib.hid hF5
        go_wp2_with (at_builtin; refine wpList_app pnTy pnOk rfl _ _ rfl rfl rfl hox (SlIn.one (x := (⟨s, at_⟩ : Pnm)) hbx pnOk rfl) HM1.out HM2.out HM3.out ?_; intro v9 w9 ho9 hg9 hb9; obtain ⟨A9, n9, c9, hv9⟩ := slShape (Owns.slIn pnOk ho9); subst hv9)
        go_roundw
        case rel => exact ⟨E.length + 1, by omega, by go_num, _, b6, rfl, by simp, HNX.out, ho9, by omega, (HN5.out.trans HN9.out).grown hg9 (fun j hj => hox.blockGe j hj)⟩
        case measure => simp [intOf]; omega
      have hk1 : decide ((0 : Int) < (E.length : Int)) = true := decide_eq_true (by omega)
      have hk2 : decide (0 < E.length) = true := decide_eq_true (by omega)
      rcases hor with hor | ⟨b9, off9, rfl, hb9, hc9⟩
      · rw [hor] at hk0; simp at hk0
      obtain ⟨q, hq⟩ : ∃ q, E.length = q + 1 := ⟨E.length - 1, by omega⟩
      have hqm : (E.length : Int) - 1 = (q : Int) := by omega
      have hqw : IntKind.u64.wrap ((E.length : Int) - 1) = (q : Int) := by rw [IntKind.wrap_u64]; omega
      have hq0 : (0 : Int) ≤ (q : Int) := by omega
      have hql : (q : Int) < (E.length : Int) := by omega
      obtain ⟨y, hy⟩ : ∃ y, E[q]? = some y := ⟨_, List.getElem?_eq_getElem (by omega)⟩
      have HLO := Lib.hid (show lastOk E s = lsS y.s s by unfold lastOk; rw [List.getLast?_eq_getElem?, show E.length - 1 = q by omega, hy])
      obtain ⟨f0, f1⟩ := pn2 (w := w5) (fun k x h j u hu => (HW5.out.cells.1 _ _ hb9).trans (hc9 k x h j u hu)) hy
      have hb9l := Nat.lt_of_lt_of_le hb9 HW5.out.size
      clear hc9 hy hq hk0
      cases hls : Op.bytesLess y.s.toList s.toList with
      | false =>
        have hle := le_or s y.s
        rw [hls] at hle
        simp only [Bool.not_false, Bool.or_eq_true] at hle
        have HNO := Lib.hid (HRS.out.trans (HSTEP.out.trans (if_neg (fun hq => by have := (HOK.out.1 hq).2.2.2.2; rw [HLO.out] at this; have h2 : Op.bytesLess y.s.toList s.toList = true := this; rw [hls] at h2; cases h2))))
        clear HRS HSTEP HOK hls
        rcases hle with hle | hle
        all_goals
          go_wp2_with fail
          go_quiet (fail)
          go_wp2_with fail
          go_ret2
          refine ⟨HN5.out.drewN _, ?_⟩
          rw [HNO.out]
          rfl
      | true =>
        have hle := le_or s y.s
        rw [hls] at hle
        simp only [Bool.not_true, Bool.or_eq_false_iff] at hle
        obtain ⟨hle1, hle2⟩ := hle
        have HNX0 := Lib.hid (show lastOk E s = true by rw [HLO.out]; exact hls)
        clear hls
        have HNX := Lib.hid (HRS.out.trans (HSTEP.out.trans (if_pos (HOK.out.2 ⟨rfl, rfl, h1, h32, HNX0.out⟩))))
        clear HRS HSTEP HOK
        go_wp2_with fail
        go_quiet (fail)
        have hbx := Blk.mk_new (w5.drewN nq) 66 #[.string s, .int .u64 (at_ : Int)]
        have hox := (HO5.out.new ((New.refl w5).drewN nq)).alloc (.cells #[.string s, .int .u64 (at_ : Int)] 66)
        have HN9 := Lib.hid (((New.refl w5).drewN nq).alloc (.cells #[.string s, .int .u64 (at_ : Int)] 66))
        have HM1 := Lib.hid (show E.length + [(⟨s, at_⟩ : Pnm)].length ≤ maxLen by unfold maxLen; simp only [List.length_singleton]; omega)
        have HM2 := Lib.hid (show (E.length + [(⟨s, at_⟩ : Pnm)].length) * 24 ≤ 140737488355328 by simp only [List.length_singleton]; omega)
        have HM3 := Lib.hid (show w.heap.size ≤ ((w5.drewN nq).alloc (.cells #[.string s, .int .u64 (at_ : Int)] 66)).heap.size by have := HN9.out.size; have := HN5.out.size; omega)
        have HF9 := Lib.hid hF5
        go_wp2_with (at_builtin; refine wpList_app pnTy pnOk rfl _ _ rfl rfl rfl hox (SlIn.one (x := (⟨s, at_⟩ : Pnm)) hbx pnOk rfl) HM1.out HM2.out HM3.out ?_; intro v9 w9 ho9 hg9 hb9; obtain ⟨A9, n9, c9, hv9⟩ := slShape (Owns.slIn pnOk ho9); subst hv9)
        go_roundw
        case rel => exact ⟨E.length + 1, by omega, by go_num, _, b6, rfl, by simp, HNX.out, ho9, by omega, (HN5.out.trans HN9.out).grown hg9 (fun j hj => hox.blockGe j hj)⟩
        case measure => simp [intOf]; omega
    · have hlt' : ¬ (E.length : Int) < (n : Int) := by omega
      obtain rfl : E.length = n := by omega
      rw [Nat.sub_self] at HRS
      have hend : res = some (E, bs') := HRS.out
      have HEND := Lib.hid hend
      have hse := str_empty bs'
      have HO := Lib.hid ho
      clear hend ho hor hn
      go_wp2_with fail
      go_ret2
      refine ⟨HN.out, ?_⟩
      rw [HEND.out]
      exact ⟨_, by rw [← hse]; rfl, Owns.slIn pnOk HO.out⟩
end Go.Proofs.Ytcganajbfplmpaa
