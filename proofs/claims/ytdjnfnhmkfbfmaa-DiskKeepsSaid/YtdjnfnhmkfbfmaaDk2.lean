/- Chapter 6 (disk): New, the functions that wait, and what they do. -/
import Derived.Test.YtdjnfnhmkfbfmaaDk
namespace Go.Proofs.Ytdjnfnhmkfbfmaa
open Go.RowKit Go.Lap
set_option linter.unusedVariables false

theorem writing_any (a : Int) (v : Value) (bs : List UInt8) (w : World) (h : Owns w 0 5 1 byE v bs) (hl : bs.length ≤ 512) :
    Calls Try.prog 54 #[.int .i64 a, v] w fun e w' => ∃ x : Fv, e = .returned (.func (.func x.f) #[] x.cs) ∧ PdIn w' x (.wr a bs) ∧ New w w' := by
  obtain ⟨A, cp, rfl, -, -⟩ := Owns.slIn byEOk h
  have h1 := Blk.mk_new w 3 #[.int .i64 a]
  have h2 := Blk.mk_new (w.alloc (.cells #[.int .i64 a] 3)) 63 #[.slice A bs.length cp]
  have hn := ((New.refl w).alloc (.cells #[.int .i64 a] 3)).alloc (.cells #[.slice A bs.length cp] 63)
  rw [World.size_alloc] at h2
  go_enter Try.func54, Try.ntmps54
  go_wp2_with fail
  go_ret
  refine ⟨⟨_, _⟩, rfl, ⟨w.heap.size + 1, w.heap.size, _, rfl, h2, Owns.new h hn, h1.alloc _, hl⟩, hn⟩
theorem freeing_any (a : Int) (w : World) :
    Calls Try.prog 55 #[.int .i64 a] w fun e w' => ∃ x : Fv, e = .returned (.func (.func x.f) #[] x.cs) ∧ PdIn w' x (.fr a) ∧ New w w' := by
  have h1 := Blk.mk_new w 3 #[.int .i64 a]
  have hn := ((New.refl w).alloc (.cells #[.int .i64 a] 3))
  go_enter Try.func55, Try.ntmps55
  go_wp2_with fail
  go_ret
  refine ⟨⟨_, _⟩, rfl, ⟨w.heap.size, rfl, h1⟩, hn⟩

theorem sec_some {w : World} {s : Sec} {f : Int → Option Value} (hf : ∀ k, okI k → (f k = .none ∧ s.f k = .none) ∨ ∃ v bs, f k = some v ∧ s.f k = some bs ∧ Owns w 0 5 1 byE v bs) {a : Int} (ha : okI a) : (f a).isSome = (s.f a).isSome := by
  rcases hf a ha with h | ⟨v, bs, e1, e2, _⟩
  · rw [h.1, h.2]; rfl
  · rw [e1, e2]; rfl
theorem zeroBy (w : World) : (zeroValue 63).run Try.prog w = .ok (.slice none 0 0) w := by kernel_rfl
theorem sl_shape {α : Type} {w : World} {size : Nat} {enc : α → List Value} {v : Value} {l : List α} (h : SlIn w size enc v l) : ∃ A n c, v = .slice A n c := let ⟨A, c, hv, _⟩ := h; ⟨A, _, c, hv⟩
theorem grow1 {w w' : World} {b : Nat} (h : w.grownBy w' (some b)) : Upd (· = b) w w' := ⟨h.os, h.tape, h.output, h.size, fun i hi hn => h.block i hi (by simpa using hn)⟩
set_option maxRecDepth 100000 in
theorem fr_any (a n : Int) (s : Sec) (mb g : Nat) (w : World) (hs : SecM w mb s) (ha : okI a) (h1 : Blk w g 3 #[.int .i64 a]) :
    Calls Try.prog 57 #[.map (some mb), .int .i64 n, .pointer (some ⟨g, 0, none⟩)] w fun e w' => e = .returned (.tuple #[]) ∧ SecM w' mb (s.del a) ∧ Upd (· = mb) w w' := by
  obtain ⟨f, hm, hf⟩ := hs
  have hc := h1.cell 0
  simp at hc
  have hl1 := h1.lt
  go_enter Try.func57, Try.ntmps57
  go_wp2_with (at_delete; refine wpList_mp_del keyD.toKeyB rfl _ _ 87 63 rfl Try.underlying87 rfl hm a ha rfl ?_; intro w1 hm1 hg1)
  have hm1' : MpAt Try.prog 3 litI okI w1 mb (s.del a).n (fun j => if j = a then Option.none else f j) := by
    have : (f a).isSome = (s.f a).isSome := sec_some hf ha
    show MpAt _ _ _ _ _ _ (if (s.f a).isSome then s.n - 1 else s.n) _
    rw [← this]
    exact hm1
  refine bodyPost_end (v := .tuple #[]) (by kernel_rfl) rfl ?_
  refine ⟨rfl, ⟨_, hm1', fun k hk => ?_⟩, grow1 hg1⟩
  by_cases hka : k = a
  · subst hka; exact .inl ⟨if_pos rfl, if_pos rfl⟩
  · have hka' : ¬ k = a := hka
    show ((if k = a then _ else f k) = .none ∧ (if k = a then _ else s.f k) = .none) ∨ ∃ v bs, (if k = a then _ else f k) = some v ∧ (if k = a then _ else s.f k) = some bs ∧ _
    rw [if_neg hka, if_neg hka]
    rcases hf k hk with h | ⟨v, bs, e1, e2, h3⟩
    · exact .inl h
    · exact .inr ⟨v, bs, e1, e2, h3.upd (S := (· = mb)) (grow1 hg1) (fun j hj e => by
        obtain ⟨cs, hb⟩ := h3.blkOf hj
        subst e
        exact hm.noBlk hb)⟩
theorem wr_end {w w8 w9 : World} {mb base : Nat} {s : Sec} {f : Int → Option Value} (hf : ∀ k, okI k → (f k = .none ∧ s.f k = .none) ∨ ∃ v bs, f k = some v ∧ s.f k = some bs ∧ Owns w 0 5 1 byE v bs) {a n : Int} (ha : okI a) {bs bs' : List UInt8} {v : Value}
    (hm : MpAt Try.prog 3 litI okI w mb s.n f) (hN : New w w8) (hm9 : MpAt Try.prog 3 litI okI w9 mb (if (f a).isSome then s.n else s.n + 1) (fun j => if j = a then some v else f j)) (hg9 : w8.grownBy w9 (some mb)) (ho : Owns w8 base 5 1 byE v bs')
    (hb : wrB ((s.f a).getD []) bs n = bs') : SecM w9 mb (doP s (.wr a bs) n) ∧ Upd (· = mb) w w9 := by
  have hu := grow1 hg9
  have hm8 := hm.new hN
  have hne : ∀ {v : Value} {bs : List UInt8} {b : Nat}, Owns w8 b 5 1 byE v bs → Owns w9 0 5 1 byE v bs := fun h3 => (h3.lower (Nat.zero_le _)).upd (S := (· = mb)) hu (fun j hj e => by
    obtain ⟨cs, hb⟩ := h3.blkOf hj
    subst e
    exact hm8.noBlk hb)
  refine ⟨⟨fun j => if j = a then some v else f j, ?_, fun k hk => ?_⟩, (Upd.new hN).trans hu (fun _ _ h => h)⟩
  · show MpAt _ _ _ _ _ _ (if (s.f a).isSome then s.n else s.n + 1) _
    rw [← sec_some hf ha]
    exact hm9
  · by_cases hka : k = a
    · refine .inr ⟨v, bs', if_pos hka, ?_, hne ho⟩
      show (if k = a then some _ else s.f k) = _
      rw [if_pos hka, hb]
    · have g1 : (fun j => if j = a then some v else f j) k = f k := if_neg hka
      have g2 : (doP s (.wr a bs) n).f k = s.f k := if_neg hka
      rw [g1, g2]
      rcases hf k hk with h | ⟨v, bs, e1, e2, h3⟩
      · exact .inl h
      · exact .inr ⟨v, bs, e1, e2, hne (h3.new hN)⟩
set_option maxRecDepth 100000 in
set_option maxHeartbeats 2000000 in
theorem wr_any (a n : Int) (bs : List UInt8) (s : Sec) (mb g1 g2 : Nat) (u : Value) (w : World) (hs : SecM w mb s) (hb : ∀ bs, s.f a = some bs → bs.length ≤ 512) (hn : s.n ≤ 65536) (ha : okI a) (hnw : okI n) (h1 : Blk w g1 63 #[u]) (ho : Owns w 0 5 1 byE u bs) (h2 : Blk w g2 3 #[.int .i64 a]) (hl : bs.length ≤ 512) :
    Calls Try.prog 56 #[.map (some mb), .int .i64 n, .pointer (some ⟨g1, 0, none⟩), .pointer (some ⟨g2, 0, none⟩)] w fun e w' => e = .returned (.tuple #[]) ∧ SecM w' mb (doP s (.wr a bs) n) ∧ Upd (· = mb) w w' := by
  obtain ⟨f, hm, hf⟩ := hs
  have hsl := Owns.slIn byEOk ho
  have hc1 := h1.cell 0
  have hc2 := h2.cell 0
  simp at hc1 hc2
  have hl1 := h1.lt
  have hl2 := h2.lt
  obtain ⟨M, hM, hMn⟩ : ∃ M : Nat, M = (max n 0).toNat ∧ (if n < 0 then 0 else n) = (M : Int) := ⟨_, rfl, by split <;> omega⟩
  obtain ⟨c, hc, hcn⟩ : ∃ c : Nat, c = min M bs.length ∧ (if bs.length < M then (bs.length : Int) else (M : Int)) = (c : Int) := ⟨_, rfl, by split <;> omega⟩
  have hcl : c ≤ bs.length := by omega
  have hcN : cutN6 n bs.length = c := by unfold cutN6; omega
  have HM := Lib.hid hM
  have HC := Lib.hid hc
  have HCN := Lib.hid hcN
  clear hM hc hcN
  -- what is there already
  obtain ⟨old, uo, hold, hfo, hso, hol⟩ : ∃ (old : List UInt8) (uo : Value), (f a).getD (.slice none 0 0) = uo ∧ (s.f a).getD [] = old ∧ Owns w 0 5 1 byE uo old ∧ old.length ≤ 512 := by
    rcases hf a ha with h | ⟨v, b', e1, e2, h3⟩
    · exact ⟨[], .slice none 0 0, by rw [h.1]; rfl, by rw [h.2]; rfl, Owns.nil _ _ _ _ _, by simp⟩
    · exact ⟨b', v, by rw [e1]; rfl, by rw [e2]; rfl, h3, hb b' e2⟩
  have HF := Lib.hid hf
  have HB := Lib.hid hb
  have HSO := Lib.hid hfo
  clear hf hb hfo
  have ho0 : Owns (w.alloc (.cells #[] 5)) w.heap.size 5 1 byE (.slice (some ⟨w.heap.size, 0, none⟩) 0 0) ([] : List UInt8) := World.ownsRow_made (base := w.heap.size) (e := 5) (size := 1) w #[] 0 (Nat.le_refl _) (by simp) (by simp)
  obtain ⟨A, cp, rfl, hcp, hor⟩ := id hsl
  have HST := Lib.hid (SlIn.take (c' := cp) (hsl.alloc (.cells #[] 5)) hcl (Nat.le_trans hcl hcp))
  have hlt : (bs.take c).length = c := by rw [List.length_take]; omega
  have HM1 := Lib.hid (show ([] : List UInt8).length + (bs.take c).length ≤ maxLen by unfold maxLen; rw [hlt]; simp; omega)
  have HM2 := Lib.hid (show (([] : List UInt8).length + (bs.take c).length) * 1 ≤ 140737488355328 by rw [hlt]; simp; omega)
  clear hor
  -- ROUNDS
  have hcc1 : ∀ wx, New w wx → wx.cell? ⟨g1, 0, none⟩ = some (.slice A bs.length cp) := fun wx hx => (hx.cells.1 _ _ hl1).trans hc1
  have hcc2 : ∀ wx, New w wx → wx.cell? ⟨g2, 0, none⟩ = some (.int .i64 a) := fun wx hx => (hx.cells.1 _ _ hl2).trans hc2
  have HMX := Lib.hid (show s.n < maxLen by unfold maxLen; omega)
  have HLT := Lib.hid hlt
  cases A with
  | none =>
    by_cases hq1 : c < bs.length
    · obtain rfl : c = M := by have := HC.out; omega
      have hd1 : (c : Int) < (bs.length : Int) := by omega
      have hd3 : ¬ bs.length < c := by omega
      clear hcn
      by_cases hq2 : c < old.length
      · have hd2 : (c : Int) < (old.length : Int) := by omega
        rcases hso.2 with ⟨hn0, hlen0⟩ | ⟨go, cpo, curo, huo, -, hgo, hno, hmo, hsz, htk⟩
        · omega
        obtain rfl : uo = .slice (some ⟨go, 0, none⟩) old.length cpo := huo
        have hcpo : ¬ cpo = c := by omega
        have HSD : Hid (∀ wx, New w wx → SlIn wx 1 byE (.slice (some ⟨go, c, none⟩) (old.length - c) (cpo - c)) (old.drop c)) := Lib.hid (fun wx hx => by have := SlIn.drop_at (k := c) ((Owns.slIn byEOk hso).new hx) (by omega) hcpo; rwa [Nat.zero_add, Nat.mul_one] at this)
        have HM3 := Lib.hid (show (bs.take c).length + (old.drop c).length ≤ maxLen by unfold maxLen; rw [List.length_take, List.length_drop]; omega)
        have HM4 := Lib.hid (show ((bs.take c).length + (old.drop c).length) * 1 ≤ 140737488355328 by rw [List.length_take, List.length_drop]; omega)
        clear htk hsz hn hl hol
        go_enter Try.func56, Try.ntmps56
        go_wp2_with (first | (at_builtin; refine wpList_app byTy byEOk rfl _ _ rfl rfl rfl ho0 HST.out HM1.out HM2.out (by simp) ?_; intro v1 w1 ho1 hg1 hb1; have HN1 : New w w1 := ((New.refl w).alloc _).grown hg1 (fun k hk => ho0.blockGe k hk); have hc1' := hcc1 w1 HN1; have hc2' := hcc2 w1 HN1; have hlb1 : g1 < w1.heap.size := Nat.lt_of_lt_of_le hl1 HN1.size; have hlb2 : g2 < w1.heap.size := Nat.lt_of_lt_of_le hl2 HN1.size; have hm1 := hm.new HN1; obtain ⟨A1, cp1, hv1, -, -⟩ := Owns.slIn byEOk ho1; rw [List.nil_append] at ho1 hv1; rw [HLT.out] at hv1; subst hv1) | (at_lookup; refine wpList_mp_at keyD.toKeyB rfl _ _ 87 63 rfl Try.underlying87 (zeroBy _) rfl hm1 a ha rfl ?_; rw [hold]) | (at_builtin; refine wpList_app byTy byEOk rfl _ _ rfl rfl rfl ho1 (HSD.out w1 HN1) HM3.out HM4.out HN1.size ?_; intro v2 w2 ho2 hg2 hb2; have HN2 : New w w2 := HN1.grown hg2 (fun k hk => ho1.blockGe k hk); have hc1'' := hcc1 w2 HN2; have hc2'' := hcc2 w2 HN2; have hld1 : g1 < w2.heap.size := Nat.lt_of_lt_of_le hl1 HN2.size; have hld2 : g2 < w2.heap.size := Nat.lt_of_lt_of_le hl2 HN2.size; have hm2 := hm.new HN2; obtain ⟨A2, n2, cp2, hv2⟩ := sl_shape (Owns.slIn byEOk ho2); subst hv2) | (at_mapUpdate; refine wpList_mp_put keyD.toKeyB rfl _ _ _ 87 63 rfl Try.underlying87 rfl hm2 HMX.out a ha rfl _ rfl ?_; intro w9 hm9 hg9))
        refine bodyPost_end (v := .tuple #[]) (by kernel_rfl) rfl ?_
        exact ⟨rfl, wr_end HF.out ha hm HN2 hm9 hg9 ho2 (by unfold wrB; rw [HCN.out, HSO.out]; rw [if_pos ⟨hq1, hq2⟩])⟩
      · have hd2 : ¬ (c : Int) < (old.length : Int) := by omega
        obtain ⟨Ao, cpo, huo, -, -⟩ := Owns.slIn byEOk hso
        subst huo
        clear hn hl hol
        go_enter Try.func56, Try.ntmps56
        go_wp2_with (first | (at_builtin; refine wpList_app byTy byEOk rfl _ _ rfl rfl rfl ho0 HST.out HM1.out HM2.out (by simp) ?_; intro v1 w1 ho1 hg1 hb1; have HN1 : New w w1 := ((New.refl w).alloc _).grown hg1 (fun k hk => ho0.blockGe k hk); have hc1' := hcc1 w1 HN1; have hc2' := hcc2 w1 HN1; have hlb1 : g1 < w1.heap.size := Nat.lt_of_lt_of_le hl1 HN1.size; have hlb2 : g2 < w1.heap.size := Nat.lt_of_lt_of_le hl2 HN1.size; have hm1 := hm.new HN1; obtain ⟨A1, cp1, hv1, -, -⟩ := Owns.slIn byEOk ho1; rw [List.nil_append] at ho1 hv1; rw [HLT.out] at hv1; subst hv1) | (at_lookup; refine wpList_mp_at keyD.toKeyB rfl _ _ 87 63 rfl Try.underlying87 (zeroBy _) rfl hm1 a ha rfl ?_; rw [hold]) | (at_mapUpdate; refine wpList_mp_put keyD.toKeyB rfl _ _ _ 87 63 rfl Try.underlying87 rfl hm1 HMX.out a ha rfl _ rfl ?_; intro w9 hm9 hg9))
        refine bodyPost_end (v := .tuple #[]) (by kernel_rfl) rfl ?_
        exact ⟨rfl, wr_end HF.out ha hm HN1 hm9 hg9 ho1 (by unfold wrB; rw [HCN.out, HSO.out]; rw [if_neg (fun h => hq2 h.2), List.append_nil])⟩
    · have hd1 : ¬ (c : Int) < (bs.length : Int) := by omega
      obtain ⟨Ao, cpo, huo, -, -⟩ := Owns.slIn byEOk hso
      subst huo
      clear hn hl hol
      go_enter Try.func56, Try.ntmps56
      go_wp2_with (first | (at_builtin; refine wpList_app byTy byEOk rfl _ _ rfl rfl rfl ho0 HST.out HM1.out HM2.out (by simp) ?_; intro v1 w1 ho1 hg1 hb1; have HN1 : New w w1 := ((New.refl w).alloc _).grown hg1 (fun k hk => ho0.blockGe k hk); have hc1' := hcc1 w1 HN1; have hc2' := hcc2 w1 HN1; have hlb1 : g1 < w1.heap.size := Nat.lt_of_lt_of_le hl1 HN1.size; have hlb2 : g2 < w1.heap.size := Nat.lt_of_lt_of_le hl2 HN1.size; have hm1 := hm.new HN1; obtain ⟨A1, cp1, hv1, -, -⟩ := Owns.slIn byEOk ho1; rw [List.nil_append] at ho1 hv1; rw [HLT.out] at hv1; subst hv1) | (at_lookup; refine wpList_mp_at keyD.toKeyB rfl _ _ 87 63 rfl Try.underlying87 (zeroBy _) rfl hm1 a ha rfl ?_; rw [hold]) | (at_mapUpdate; refine wpList_mp_put keyD.toKeyB rfl _ _ _ 87 63 rfl Try.underlying87 rfl hm1 HMX.out a ha rfl _ rfl ?_; intro w9 hm9 hg9))
      refine bodyPost_end (v := .tuple #[]) (by kernel_rfl) rfl ?_
      exact ⟨rfl, wr_end HF.out ha hm HN1 hm9 hg9 ho1 (by unfold wrB; rw [HCN.out, HSO.out]; rw [if_neg (fun h => hq1 h.1), List.append_nil])⟩
  | some ad =>
    by_cases hq1 : c < bs.length
    · obtain rfl : c = M := by have := HC.out; omega
      have hd1 : (c : Int) < (bs.length : Int) := by omega
      have hd3 : ¬ bs.length < c := by omega
      clear hcn
      by_cases hq2 : c < old.length
      · have hd2 : (c : Int) < (old.length : Int) := by omega
        rcases hso.2 with ⟨hn0, hlen0⟩ | ⟨go, cpo, curo, huo, -, hgo, hno, hmo, hsz, htk⟩
        · omega
        obtain rfl : uo = .slice (some ⟨go, 0, none⟩) old.length cpo := huo
        have hcpo : ¬ cpo = c := by omega
        have HSD : Hid (∀ wx, New w wx → SlIn wx 1 byE (.slice (some ⟨go, c, none⟩) (old.length - c) (cpo - c)) (old.drop c)) := Lib.hid (fun wx hx => by have := SlIn.drop_at (k := c) ((Owns.slIn byEOk hso).new hx) (by omega) hcpo; rwa [Nat.zero_add, Nat.mul_one] at this)
        have HM3 := Lib.hid (show (bs.take c).length + (old.drop c).length ≤ maxLen by unfold maxLen; rw [List.length_take, List.length_drop]; omega)
        have HM4 := Lib.hid (show ((bs.take c).length + (old.drop c).length) * 1 ≤ 140737488355328 by rw [List.length_take, List.length_drop]; omega)
        clear htk hsz hn hl hol
        go_enter Try.func56, Try.ntmps56
        go_wp2_with (first | (at_builtin; refine wpList_app byTy byEOk rfl _ _ rfl rfl rfl ho0 HST.out HM1.out HM2.out (by simp) ?_; intro v1 w1 ho1 hg1 hb1; have HN1 : New w w1 := ((New.refl w).alloc _).grown hg1 (fun k hk => ho0.blockGe k hk); have hc1' := hcc1 w1 HN1; have hc2' := hcc2 w1 HN1; have hlb1 : g1 < w1.heap.size := Nat.lt_of_lt_of_le hl1 HN1.size; have hlb2 : g2 < w1.heap.size := Nat.lt_of_lt_of_le hl2 HN1.size; have hm1 := hm.new HN1; obtain ⟨A1, cp1, hv1, -, -⟩ := Owns.slIn byEOk ho1; rw [List.nil_append] at ho1 hv1; rw [HLT.out] at hv1; subst hv1) | (at_lookup; refine wpList_mp_at keyD.toKeyB rfl _ _ 87 63 rfl Try.underlying87 (zeroBy _) rfl hm1 a ha rfl ?_; rw [hold]) | (at_builtin; refine wpList_app byTy byEOk rfl _ _ rfl rfl rfl ho1 (HSD.out w1 HN1) HM3.out HM4.out HN1.size ?_; intro v2 w2 ho2 hg2 hb2; have HN2 : New w w2 := HN1.grown hg2 (fun k hk => ho1.blockGe k hk); have hc1'' := hcc1 w2 HN2; have hc2'' := hcc2 w2 HN2; have hld1 : g1 < w2.heap.size := Nat.lt_of_lt_of_le hl1 HN2.size; have hld2 : g2 < w2.heap.size := Nat.lt_of_lt_of_le hl2 HN2.size; have hm2 := hm.new HN2; obtain ⟨A2, n2, cp2, hv2⟩ := sl_shape (Owns.slIn byEOk ho2); subst hv2) | (at_mapUpdate; refine wpList_mp_put keyD.toKeyB rfl _ _ _ 87 63 rfl Try.underlying87 rfl hm2 HMX.out a ha rfl _ rfl ?_; intro w9 hm9 hg9))
        refine bodyPost_end (v := .tuple #[]) (by kernel_rfl) rfl ?_
        exact ⟨rfl, wr_end HF.out ha hm HN2 hm9 hg9 ho2 (by unfold wrB; rw [HCN.out, HSO.out]; rw [if_pos ⟨hq1, hq2⟩])⟩
      · have hd2 : ¬ (c : Int) < (old.length : Int) := by omega
        obtain ⟨Ao, cpo, huo, -, -⟩ := Owns.slIn byEOk hso
        subst huo
        clear hn hl hol
        go_enter Try.func56, Try.ntmps56
        go_wp2_with (first | (at_builtin; refine wpList_app byTy byEOk rfl _ _ rfl rfl rfl ho0 HST.out HM1.out HM2.out (by simp) ?_; intro v1 w1 ho1 hg1 hb1; have HN1 : New w w1 := ((New.refl w).alloc _).grown hg1 (fun k hk => ho0.blockGe k hk); have hc1' := hcc1 w1 HN1; have hc2' := hcc2 w1 HN1; have hlb1 : g1 < w1.heap.size := Nat.lt_of_lt_of_le hl1 HN1.size; have hlb2 : g2 < w1.heap.size := Nat.lt_of_lt_of_le hl2 HN1.size; have hm1 := hm.new HN1; obtain ⟨A1, cp1, hv1, -, -⟩ := Owns.slIn byEOk ho1; rw [List.nil_append] at ho1 hv1; rw [HLT.out] at hv1; subst hv1) | (at_lookup; refine wpList_mp_at keyD.toKeyB rfl _ _ 87 63 rfl Try.underlying87 (zeroBy _) rfl hm1 a ha rfl ?_; rw [hold]) | (at_mapUpdate; refine wpList_mp_put keyD.toKeyB rfl _ _ _ 87 63 rfl Try.underlying87 rfl hm1 HMX.out a ha rfl _ rfl ?_; intro w9 hm9 hg9))
        refine bodyPost_end (v := .tuple #[]) (by kernel_rfl) rfl ?_
        exact ⟨rfl, wr_end HF.out ha hm HN1 hm9 hg9 ho1 (by unfold wrB; rw [HCN.out, HSO.out]; rw [if_neg (fun h => hq2 h.2), List.append_nil])⟩
    · have hd1 : ¬ (c : Int) < (bs.length : Int) := by omega
      obtain ⟨Ao, cpo, huo, -, -⟩ := Owns.slIn byEOk hso
      subst huo
      clear hn hl hol
      go_enter Try.func56, Try.ntmps56
      go_wp2_with (first | (at_builtin; refine wpList_app byTy byEOk rfl _ _ rfl rfl rfl ho0 HST.out HM1.out HM2.out (by simp) ?_; intro v1 w1 ho1 hg1 hb1; have HN1 : New w w1 := ((New.refl w).alloc _).grown hg1 (fun k hk => ho0.blockGe k hk); have hc1' := hcc1 w1 HN1; have hc2' := hcc2 w1 HN1; have hlb1 : g1 < w1.heap.size := Nat.lt_of_lt_of_le hl1 HN1.size; have hlb2 : g2 < w1.heap.size := Nat.lt_of_lt_of_le hl2 HN1.size; have hm1 := hm.new HN1; obtain ⟨A1, cp1, hv1, -, -⟩ := Owns.slIn byEOk ho1; rw [List.nil_append] at ho1 hv1; rw [HLT.out] at hv1; subst hv1) | (at_lookup; refine wpList_mp_at keyD.toKeyB rfl _ _ 87 63 rfl Try.underlying87 (zeroBy _) rfl hm1 a ha rfl ?_; rw [hold]) | (at_mapUpdate; refine wpList_mp_put keyD.toKeyB rfl _ _ _ 87 63 rfl Try.underlying87 rfl hm1 HMX.out a ha rfl _ rfl ?_; intro w9 hm9 hg9))
      refine bodyPost_end (v := .tuple #[]) (by kernel_rfl) rfl ?_
      exact ⟨rfl, wr_end HF.out ha hm HN1 hm9 hg9 ho1 (by unfold wrB; rw [HCN.out, HSO.out]; rw [if_neg (fun h => hq1 h.1), List.append_nil])⟩
end Go.Proofs.Ytdjnfnhmkfbfmaa
