/- Chapter 6 (disk): New, copied, do, Write, Read, Free. -/
import Derived.Test.YtdjnfnhmkfbfmaaDk2
import Derived.Laws.StructEq
namespace Go.Proofs.Ytdjnfnhmkfbfmaa
open Go.RowKit Go.Lap
set_option linter.unusedVariables false

theorem wrB_full (old bs : List UInt8) : wrB old bs (bs.length : Int) = bs := by
  unfold wrB cutN6
  have h : min (max (bs.length : Int) 0).toNat bs.length = bs.length := by omega
  rw [h, List.take_length, if_neg (by omega), List.append_nil]
theorem wrB_len (old bs : List UInt8) (n : Int) (h1 : old.length ≤ 512) (h2 : bs.length ≤ 512) : (wrB old bs n).length ≤ 512 := by
  unfold wrB
  rw [List.length_append, List.length_take]
  split
  · rw [List.length_drop]; omega
  · simp; omega
theorem fine_doP {s : Sec} {z : Int} (h : s.fine z) {p : Pd} (hp : 0 ≤ p.at_ ∧ p.at_ < z) (hl : ∀ a bs, p = .wr a bs → bs.length ≤ 512) (n : Int) : (doP s p n).fine z := by
  intro k bs hk
  cases p with
  | wr a b =>
    have hk' : (if k = a then some (wrB ((s.f a).getD []) b n) else s.f k) = some bs := hk
    split at hk'
    · rename_i e
      subst e
      cases hk'
      refine ⟨hp.1, hp.2, wrB_len _ _ _ ?_ (hl _ _ rfl)⟩
      cases hf : s.f k with
      | none => simp
      | some o => exact (h k o hf).2.2
    · exact h k bs hk'
  | fr a =>
    have hk' : (if k = a then .none else s.f k) = some bs := hk
    split at hk'
    · cases hk'
    · exact h k bs hk'
theorem SecM.congr {w : World} {mb : Nat} {s s' : Sec} (h : SecM w mb s) (he : ∀ k, okI k → s.f k = s'.f k) (hn : s.n = s'.n) : SecM w mb s' := by
  obtain ⟨f, h1, h2⟩ := h
  rw [hn] at h1
  exact ⟨f, h1, fun k hk => by rw [← he k hk]; exact h2 k hk⟩
theorem okI_range {k z : Int} (h0 : 0 ≤ k) (h1 : k < z) (hz : z ≤ 65536) : okI k := by
  simp only [okI, Lit.wf, IntKind.min, IntKind.max, IntKind.signed, IntKind.bits]; simp; omega

def CopPost (w : World) (s : Sec) (e : Ending) (w' : World) : Prop := ∃ mb', e = .returned (.map (some mb')) ∧ w.heap.size ≤ mb' ∧ SecM w' mb' s ∧ New w w'
set_option maxRecDepth 100000 in
set_option maxHeartbeats 4000000 in
theorem copied_any (s : Sec) (mb : Nat) (w : World) {z : Int} (h : SecM w mb s) (hf : s.fine z) (hz : z ≤ 65536) : Calls Try.prog 50 #[.map (some mb)] w (CopPost w s) := by
  obtain ⟨f, hm, hfs⟩ := id h
  have hm0 := MpAt.made Try.prog 3 litI okI w
  have hn0 := (New.refl w).alloc (.map #[] 0)
  have hmm := hm.new hn0
  have HFS := Lib.hid hfs
  have HF := Lib.hid hf
  clear hfs hf
  have hmk := @run_makeMap Try.prog
  go_enter Try.func50, Try.ntmps50
  go_wp2_with (at_range; refine wpList_mp_range keyD.toKeyB rfl _ _ 63 rfl Try.underlying87 rfl hmm ?_; intro w0 hrg0 hN0 hs0)
  go_frame
  have hE0 : SecM w0 w.heap.size Sec.none := ⟨_, hm0.new hN0, fun k hk => .inl ⟨rfl, rfl⟩⟩
  have hNN := hn0.trans hN0
  rw [World.size_alloc] at hrg0 ⊢
  generalize hr : w.heap.size + 1 = r at hrg0 ⊢
  have HR := Lib.hid hr
  have hml := h.lt
  clear hr hm0 hn0 hmm hN0 hs0
  go_loopw [4, 5] (fun _ _ wr => ∃ (cnt : Nat) (left : Int → Bool) (s' : Sec), MpRg Try.prog 3 litI okI wr mb r s.n f left cnt ∧ SecM wr w.heap.size s' ∧ (∀ k, okI k → s'.f k = if left k then .none else s.f k) ∧ (∀ k, (s'.f k).isSome = true → okI k) ∧ New w wr) (fun _ _ wr => wr.rangeLeft mb r)
  case atStart =>
    refine ⟨_, _, Sec.none, hrg0, hE0, fun k hk => ?_, ?_, hNN⟩
    · rcases HFS.out k hk with h | ⟨v, bs, e1, e2, _⟩
      · rw [h.1, h.2]; simp [Sec.none]
      · rw [e1]; rfl
    · intro k hk; cases hk
  case round =>
    obtain ⟨cnt, left, s', hrg, hs', hls, hok, hnw⟩ := hrel
    have HLS := Lib.hid hls
    have HOK := Lib.hid hok
    have hle := hrg.left_eq
    have HLE := Lib.hid hle
    have hrn := hrg.ne
    have hrl := hrg.lt
    have hrw : r = w.heap.size + 1 := HR.out.symm
    have HRW := Lib.hid hrw
    have HRN := Lib.hid hrn
    clear hls hok hle hrw hrn
    go_wp2_with (at_next; refine wpList_mp_next keyD rfl _ rfl rfl hrg ?_ ?_)
    · intro h0 hl
      go_wp2_with fail
      go_ret
      have hall : ∀ k, okI k → s'.f k = s.f k := fun k hk => by rw [HLS.out k hk, hl k hk]; rfl
      exact ⟨_, rfl, Nat.le_refl _, hs'.congr hall (hs'.n_eq h hall), hnw⟩
    · intro x v w1 cnt1 hx hlx hfx hrg1 hlt hu1 hsz1 hen
      obtain ⟨bs, hsx, hob⟩ : ∃ bs, s.f x = some bs ∧ Owns w 0 5 1 byE v bs := by
        rcases HFS.out x hx with h | ⟨v', bs, e1, e2, h3⟩
        · rw [h.1] at hfx; cases hfx
        · rw [e1] at hfx; cases hfx; exact ⟨bs, e2, h3⟩
      have hN1 : New w w1 := hnw.upd hu1 (fun i hi => by have := HRW.out; omega)
      have hs1 : SecM w1 w.heap.size s' := hs'.upd hu1 (fun e => by have := HRW.out; omega) (fun k hk t cs hb => by
        obtain ⟨D, L, ⟨es, clock, since, seen, c0, g1, F, hs, hD, g2, rest⟩, h2⟩ := hrg
        subst hk
        unfold Blk at hb
        rw [g2] at hb
        cases hb)
      have hbl := (HF.out x bs hsx).2.2
      have hc := hs1.count (z := 65536) (fun k b hk => by
        have hko := HOK.out k (by rw [hk]; rfl)
        have := HLS.out k hko
        rw [hk] at this
        split at this
        · cases this
        · have h3 := HF.out k b this.symm
          exact ⟨h3.1, by omega, h3.2.2⟩) (by omega)
      have HHX := Lib.hid hx
      have HSX := Lib.hid hsx
      have HLX := Lib.hid hlx
      clear hfx hrg hs' hsx hlx
      obtain ⟨A, n, cp, hv⟩ := sl_shape (Owns.slIn byEOk hob)
      subst hv
      have HSZ := Lib.hid hsz1
      clear hsz1
      have ho0 : Owns (w1.alloc (.cells #[] 5)) w1.heap.size 5 1 byE (.slice (some ⟨w1.heap.size, 0, none⟩) 0 0) ([] : List UInt8) := World.ownsRow_made (base := w1.heap.size) (e := 5) (size := 1) w1 #[] 0 (Nat.le_refl _) (by simp) (by simp)
      have hob1 := (Owns.slIn byEOk hob).new (hN1.alloc (.cells #[] 5))
      have HM1 := Lib.hid (show ([] : List UInt8).length + bs.length ≤ maxLen by unfold maxLen; simp; omega)
      have HM2 := Lib.hid (show (([] : List UInt8).length + bs.length) * 1 ≤ 140737488355328 by simp; omega)
      have HM3 := Lib.hid (show w1.heap.size ≤ (w1.alloc (.cells #[] 5)).heap.size by simp)
      obtain ⟨f', hm', hf'⟩ := id hs1
      have HF' := Lib.hid hf'
      have HMX := Lib.hid (show s'.n < maxLen by unfold maxLen; omega)
      have HBL := Lib.hid hbl
      clear hf' hbl hc
      have hrl1 := hrg1.lt
      go_wp2_with (first | (at_builtin; refine wpList_app byTy byEOk rfl _ _ rfl rfl rfl ho0 hob1 HM1.out HM2.out HM3.out ?_; intro v2 w2 ho2 hg2 hb2; have HN2 : New w1 w2 := ((New.refl w1).alloc _).grown hg2 (fun k hk => ho0.blockGe k hk); have hm2 := hm'.new HN2; obtain ⟨A2, n2, cp2, hv2⟩ := sl_shape (Owns.slIn byEOk ho2); subst hv2; rw [List.nil_append] at ho2) | (at_mapUpdate; refine wpList_mp_put keyD.toKeyB rfl _ _ _ 87 63 rfl Try.underlying87 rfl hm2 HMX.out x HHX.out rfl _ rfl ?_; intro w9 hm9 hg9))
      have hend := wr_end (n := (bs.length : Int)) (bs := bs) HF'.out HHX.out hm' HN2 hm9 hg9 ho2 (wrB_full _ _)
      have hfk : ∀ k, (doP s' (.wr x bs) (bs.length : Int)).f k = if k = x then some bs else s'.f k := fun k => by
        show (if k = x then some (wrB _ bs _) else s'.f k) = _
        rw [wrB_full]
      go_roundw
      case rel =>
        refine ⟨cnt1, _, hrg1.upd hend.2 (fun e => by have := hml; omega) (fun e => by have := HRW.out; omega), _, hend.1, fun k hk => ?_, fun k hk => ?_, hN1.upd hend.2 (fun i hi => by omega)⟩
        · rw [hfk]
          by_cases hkx : k = x
          · subst hkx
            simp [HSX.out]
          · rw [if_neg hkx, HLS.out k hk]
            simp [hkx]
        · rw [hfk] at hk
          split at hk
          · rename_i e; rw [e]; exact HHX.out
          · exact HOK.out k hk
      case measure =>
        rw [(hrg1.upd hend.2 (fun e => by have := hml; omega) (fun e => by have := HRW.out; omega)).left_eq, HLE.out]
        exact hlt
end Go.Proofs.Ytdjnfnhmkfbfmaa
