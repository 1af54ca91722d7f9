/- Chapter 22 (decree): any, other, all. Printed by genDg3.py. -/
import Derived.Test.YtghhcjpilcoblaaDg2
namespace Go.Proofs.Ytghhcjpilcoblaa
open Go.RowKit Go.Lap
set_option linter.unusedVariables false
section
variable {w w' w'' : World} {S : Nat → Prop} {gp n B : Nat} {L : GpL} {g : Gm}
theorem nany (nb : Nat) (i : Int) (w : World) : Calls Try.prog 49 #[.pointer (some ⟨nb, 0, none⟩), .int .i64 i] w fun e w' => e = .returned (.bool true) ∧ w' = w := by
  go_enter Try.func49, Try.ntmps49
  go_wp2_with fail
  go_ret
  exact ⟨rfl, rfl⟩
theorem nother {nb : Nat} {id i : Int} (hc : w.cell? ⟨nb, 0, none⟩ = some (.int .i64 id)) : Calls Try.prog 50 #[.pointer (some ⟨nb, 0, none⟩), .int .i64 i] w fun e w' => e = .returned (.bool (i != id)) ∧ w' = w := by
  go_enter Try.func50, Try.ntmps50
  go_wp2_with fail
  go_ret
  exact ⟨rfl, rfl⟩
theorem sendTo_snoc (b : List Pkt) (fr : Nat) (m : Msg) (l : List Nat) (k : Nat) : sendTo b fr m (l ++ [k]) = sendB (sendTo b fr m l) ⟨fr, k, m⟩ := by unfold sendTo; rw [List.foldl_append]; rfl
theorem filter_yes (p : Nat → Bool) (k : Nat) (h : p k = true) : (List.range (k + 1)).filter p = (List.range k).filter p ++ [k] := by rw [List.range_succ, List.filter_append]; simp [h]
theorem filter_no (p : Nat → Bool) (k : Nat) (h : p k = false) : (List.range (k + 1)).filter p = (List.range k).filter p := by rw [List.range_succ, List.filter_append]; simp [h]
theorem SdPost.refl (h : GpAt w gp n B L g) : SdPost w gp n B L g g.bg w := ⟨L.lv, h, Upd.refl _ _, fun _ h => .inl h⟩
theorem SdPost.trans {b' b2 : List Pkt} {v' : Value} (hg : GpAt w' gp n B { L with lv := v' } { g with bg := b' }) (hu : Upd (BgF L.bb L.lv) w w') (hv : ∀ k, v'.ownBlock = some k → L.lv.ownBlock = some k ∨ w.heap.size ≤ k) (h2 : SdPost w' gp n B { L with lv := v' } { g with bg := b' } b2 w'') : SdPost w gp n B L g b2 w'' := by
  obtain ⟨v2, h3, h4, h5⟩ := h2
  refine ⟨v2, h3, hu.trans h4 (fun i hi hk => ?_), fun k hk => ?_⟩
  · rcases hk with e | e
    · exact .inl e
    · rcases hv i e with e | e
      · exact .inr e
      · omega
  · rcases h5 k hk with e | e
    · exact hv k e
    · exact .inr (Nat.le_trans hu.size e)
set_option maxRecDepth 100000 in
set_option maxHeartbeats 8000000 in
theorem gall_any (h : GpAt w gp n B L g) (fr : Nat) (m : Msg) (hm : m.good) (nb : Nat) (hn : n ≤ 1000) :
    Calls Try.prog 48 #[.pointer (some ⟨gp, 0, none⟩), .int .i64 (fr : Int), m.val, .func (.func 49) #[.pointer (some ⟨nb, 0, none⟩)] #[]] w (fun e w' => e = .returned (.tuple #[]) ∧ SdPost w gp n B L g (sendTo g.bg fr m ((List.range n).filter (fun _ => true))) w') := by
  have HSD := Lib.hid (fun (w : World) (L : GpL) (g : Gm) (h : GpAt w gp n B L g) (ds : Nat) => gsend h fr ds m hm)
  obtain ⟨mk, ms, mr, mn, mv, mh, mhr, mhn, mhv⟩ := m
  have hN := (New.refl w).alloc (.cells #[.int .i64 (mk : Int), .int .u64 (ms : Int), .int .u64 (mr : Int), .int .u64 (mn : Int), .string mv, .bool mh, .int .u64 (mhr : Int), .int .u64 (mhn : Int), .string mhv] 107)
  have hM := Blk.mk_new w 107 #[.int .i64 (mk : Int), .int .u64 (ms : Int), .int .u64 (mr : Int), .int .u64 (mn : Int), .string mv, .bool mh, .int .u64 (mhr : Int), .int .u64 (mhn : Int), .string mhv]
  have hML : ∀ k, BgF L.bb L.lv k → k < w.heap.size := h.bag.lt
  have HML := Lib.hid hML
  have HOG : Hid (¬ BgF L.bb L.lv gp) := Lib.hid (by
    rintro (e | e)
    · exact Blk.ne_ h.blk h.bag.blk (by decide) e
    · exact h.bag.row.ne_blk h.blk (by decide) e)
  have HH := Lib.hid (h.new hN)
  obtain ⟨g0, c0, c1, cz⟩ := (h.new hN).facts
  obtain ⟨A, c, hnv⟩ := h.nvs
  rw [hnv] at c0
  have HMB := Lib.hid hM
  have HN := Lib.hid hN
  have HG : Hid (gp < w.heap.size) := Lib.hid h.blk.lt
  clear h hN hM hm hML hnv
  go_enter Try.func48, Try.ntmps48
  go_wp2_with fail
  have HZW : Hid ((w.alloc (.cells #[.int .i64 (mk : Int), .int .u64 (ms : Int), .int .u64 (mr : Int), .int .u64 (mn : Int), .string mv, .bool mh, .int .u64 (mhr : Int), .int .u64 (mhn : Int), .string mhv] 107)).heap.size = w.heap.size + 1) := Lib.hid (by simp)
  generalize w.alloc (.cells #[.int .i64 (mk : Int), .int .u64 (ms : Int), .int .u64 (mr : Int), .int .u64 (mn : Int), .string mv, .bool mh, .int .u64 (mhr : Int), .int .u64 (mhn : Int), .string mhv] 107) = wz at *
  clear c0 c1 cz g0
  go_loopw [8, 14] (fun _ i wr => ∃ k : Nat, k ≤ n ∧ i = .int .i64 (k : Int) ∧ SdPost wz gp n B L g (sendTo g.bg fr ⟨mk, ms, mr, mn, mv, mh, mhr, mhn, mhv⟩ ((List.range k).filter (fun _ => true))) wr) (fun _ i _ => n - (intOf i).toNat)
  case atStart => exact ⟨0, Nat.zero_le _, rfl, SdPost.refl HH.out⟩
  case round =>
    obtain ⟨k, hk, rfl, v', hg, hu, hv⟩ := hrel
    have hMr := HMB.out.upd hu (fun hk => by have := HML.out _ hk; omega)
    obtain ⟨p0, a0, a1, a2, a3, a4, a5, a6, a7, a8, az⟩ := Blk9F hMr
    have HGR := Lib.hid hg
    have HUR := Lib.hid hu
    have HVR := Lib.hid hv
    clear hMr hg hu hv
    by_cases hlt : k < n
    · have hlt' : (k : Int) < (n : Int) := by omega
      go_wp2_with (go_at_call 49; refine (nany _ _ _).mono ?_; rintro e wq ⟨rfl, hwq⟩; subst wq)
      refine (HSD.out _ _ _ HGR.out k).mono ?_
      rintro e w2 ⟨rfl, hs2⟩
      have HS2 := Lib.hid (SdPost.trans HGR.out HUR.out HVR.out hs2)
      rw [← sendTo_snoc] at HS2
      clear hs2
      go_wp2_with fail
      go_roundw
      case rel => exact ⟨k + 1, by omega, by go_num, by rw [filter_yes _ k rfl]; exact HS2.out⟩
      case measure => simp [intOf]; omega
    · have hge : ¬ (k : Int) < (n : Int) := by omega
      have hkn : k = n := by omega
      subst hkn
      go_wp2_with fail
      go_end0
      exact ⟨rfl, v', HGR.out, Upd.trans (S := BgF L.bb L.lv) (Upd.new HN.out) HUR.out (fun _ _ h => h), fun j hj => (HVR.out j hj).elim .inl (fun h => .inr (by have := HZW.out; omega))⟩
set_option maxRecDepth 100000 in
set_option maxHeartbeats 8000000 in
theorem gall_other (h : GpAt w gp n B L g) (fr : Nat) (m : Msg) (hm : m.good) (nb : Nat) (hc : w.cell? ⟨nb, 0, none⟩ = some (.int .i64 (fr : Int))) (hnb : nb < w.heap.size) (hno : ¬ BgF L.bb L.lv nb) (hn : n ≤ 1000) :
    Calls Try.prog 48 #[.pointer (some ⟨gp, 0, none⟩), .int .i64 (fr : Int), m.val, .func (.func 50) #[.pointer (some ⟨nb, 0, none⟩)] #[]] w (fun e w' => e = .returned (.tuple #[]) ∧ SdPost w gp n B L g (sendTo g.bg fr m ((List.range n).filter (notB fr))) w') := by
  have HSD := Lib.hid (fun (w : World) (L : GpL) (g : Gm) (h : GpAt w gp n B L g) (ds : Nat) => gsend h fr ds m hm)
  obtain ⟨mk, ms, mr, mn, mv, mh, mhr, mhn, mhv⟩ := m
  have hN := (New.refl w).alloc (.cells #[.int .i64 (mk : Int), .int .u64 (ms : Int), .int .u64 (mr : Int), .int .u64 (mn : Int), .string mv, .bool mh, .int .u64 (mhr : Int), .int .u64 (mhn : Int), .string mhv] 107)
  have hM := Blk.mk_new w 107 #[.int .i64 (mk : Int), .int .u64 (ms : Int), .int .u64 (mr : Int), .int .u64 (mn : Int), .string mv, .bool mh, .int .u64 (mhr : Int), .int .u64 (mhn : Int), .string mhv]
  have hML : ∀ k, BgF L.bb L.lv k → k < w.heap.size := h.bag.lt
  have HML := Lib.hid hML
  have HOG : Hid (¬ BgF L.bb L.lv gp) := Lib.hid (by
    rintro (e | e)
    · exact Blk.ne_ h.blk h.bag.blk (by decide) e
    · exact h.bag.row.ne_blk h.blk (by decide) e)
  have HH := Lib.hid (h.new hN)
  obtain ⟨g0, c0, c1, cz⟩ := (h.new hN).facts
  obtain ⟨A, c, hnv⟩ := h.nvs
  rw [hnv] at c0
  have HMB := Lib.hid hM
  have HN := Lib.hid hN
  have HG : Hid (gp < w.heap.size) := Lib.hid h.blk.lt
  have HNB : Hid (nb < (w.alloc (.cells #[.int .i64 (mk : Int), .int .u64 (ms : Int), .int .u64 (mr : Int), .int .u64 (mn : Int), .string mv, .bool mh, .int .u64 (mhr : Int), .int .u64 (mhn : Int), .string mhv] 107)).heap.size ∧ ¬ BgF L.bb L.lv nb ∧ (w.alloc (.cells #[.int .i64 (mk : Int), .int .u64 (ms : Int), .int .u64 (mr : Int), .int .u64 (mn : Int), .string mv, .bool mh, .int .u64 (mhr : Int), .int .u64 (mhn : Int), .string mhv] 107)).cell? ⟨nb, 0, none⟩ = some (.int .i64 (fr : Int))) := Lib.hid ⟨by simp; omega, hno, (keepC (S := fun _ => False) (Upd.new hN) hnb (fun h => h) 0).trans hc⟩
  clear hc hnb hno
  clear h hN hM hm hML hnv
  go_enter Try.func48, Try.ntmps48
  go_wp2_with fail
  have HZW : Hid ((w.alloc (.cells #[.int .i64 (mk : Int), .int .u64 (ms : Int), .int .u64 (mr : Int), .int .u64 (mn : Int), .string mv, .bool mh, .int .u64 (mhr : Int), .int .u64 (mhn : Int), .string mhv] 107)).heap.size = w.heap.size + 1) := Lib.hid (by simp)
  generalize w.alloc (.cells #[.int .i64 (mk : Int), .int .u64 (ms : Int), .int .u64 (mr : Int), .int .u64 (mn : Int), .string mv, .bool mh, .int .u64 (mhr : Int), .int .u64 (mhn : Int), .string mhv] 107) = wz at *
  clear c0 c1 cz g0
  go_loopw [8, 14] (fun _ i wr => ∃ k : Nat, k ≤ n ∧ i = .int .i64 (k : Int) ∧ SdPost wz gp n B L g (sendTo g.bg fr ⟨mk, ms, mr, mn, mv, mh, mhr, mhn, mhv⟩ ((List.range k).filter (notB fr))) wr) (fun _ i _ => n - (intOf i).toNat)
  case atStart => exact ⟨0, Nat.zero_le _, rfl, SdPost.refl HH.out⟩
  case round =>
    obtain ⟨k, hk, rfl, v', hg, hu, hv⟩ := hrel
    have hMr := HMB.out.upd hu (fun hk => by have := HML.out _ hk; omega)
    obtain ⟨p0, a0, a1, a2, a3, a4, a5, a6, a7, a8, az⟩ := Blk9F hMr
    have HGR := Lib.hid hg
    have HUR := Lib.hid hu
    have HVR := Lib.hid hv
    clear hMr hg hu hv
    by_cases hlt : k < n
    · have hlt' : (k : Int) < (n : Int) := by omega
      have hcr : wr.cell? ⟨nb, 0, none⟩ = some (.int .i64 (fr : Int)) := (keepC HUR.out HNB.out.1 HNB.out.2.1 0).trans HNB.out.2.2
      by_cases hkf : k = fr
      · have HP : Hid (notB fr k = false) := Lib.hid (by simp [notB, hkf])
        have hb : ((k : Int) != (fr : Int)) = false := by simp [hkf]
        clear hkf
        go_wp2_with (go_at_call 50; refine (nother hcr).mono ?_; rw [hb]; rintro e wq ⟨rfl, hwq⟩; subst wq)
        go_roundw
        case rel => exact ⟨k + 1, by omega, by go_num, by rw [filter_no _ k HP.out]; exact ⟨v', HGR.out, HUR.out, HVR.out⟩⟩
        case measure => simp [intOf]; omega
      · have HP : Hid (notB fr k = true) := Lib.hid (by simp [notB, hkf])
        have hb : ((k : Int) != (fr : Int)) = true := by rw [bne_iff_ne]; omega
        clear hkf
        go_wp2_with (go_at_call 50; refine (nother hcr).mono ?_; rw [hb]; rintro e wq ⟨rfl, hwq⟩; subst wq)
        refine (HSD.out _ _ _ HGR.out k).mono ?_
        rintro e w2 ⟨rfl, hs2⟩
        have HS2 := Lib.hid (SdPost.trans HGR.out HUR.out HVR.out hs2)
        rw [← sendTo_snoc] at HS2
        clear hs2
        go_wp2_with fail
        go_roundw
        case rel => exact ⟨k + 1, by omega, by go_num, by rw [filter_yes _ k HP.out]; exact HS2.out⟩
        case measure => simp [intOf]; omega
    · have hge : ¬ (k : Int) < (n : Int) := by omega
      have hkn : k = n := by omega
      subst hkn
      go_wp2_with fail
      go_end0
      exact ⟨rfl, v', HGR.out, Upd.trans (S := BgF L.bb L.lv) (Upd.new HN.out) HUR.out (fun _ _ h => h), fun j hj => (HVR.out j hj).elim .inl (fun h => .inr (by have := HZW.out; omega))⟩
end
end Go.Proofs.Ytghhcjpilcoblaa
