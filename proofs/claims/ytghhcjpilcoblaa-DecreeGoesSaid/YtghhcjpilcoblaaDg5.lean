/- Chapter 22 (decree): Copy, Lose, Log. -/
import Derived.Test.YtghhcjpilcoblaaDg4
namespace Go.Proofs.Ytghhcjpilcoblaa
open Go.RowKit Go.Lap
set_option linter.unusedVariables false
section
variable {w w' w'' : World} {S : Nat → Prop} {gp n B : Nat} {L : GpL} {g : Gm}
set_option maxHeartbeats 1000000 in
theorem gcopy_no (h : GpAt w gp n B L g) (i : Int) (hi : ¬ (0 ≤ i ∧ i < g.bg.length)) : Calls Try.prog 53 #[.pointer (some ⟨gp, 0, none⟩), .int .i64 i] w fun e w' => e = .returned (.int .i64 223) ∧ w' = w := by
  obtain ⟨g0, c0, c1, cz⟩ := h.facts
  have HL := Lib.hid (bcopy_no h.bag i (by rw [List.length_map]; exact hi))
  clear h hi
  go_enter Try.func53, Try.ntmps53
  go_wp2_with (go_at_call 68; refine HL.out.mono ?_; rintro e w1 ⟨rfl, hw1⟩; subst w1)
  go_ret
  exact ⟨rfl, rfl⟩
set_option maxHeartbeats 1000000 in
theorem gcopy_full (h : GpAt w gp n B L g) (i : Int) (hi : 0 ≤ i ∧ i < g.bg.length) (hf : g.bg.length = 256) : Calls Try.prog 53 #[.pointer (some ⟨gp, 0, none⟩), .int .i64 i] w fun e w' => e = .returned (.int .i64 211) ∧ New w w' := by
  obtain ⟨g0, c0, c1, cz⟩ := h.facts
  have HL := Lib.hid (bcopy_full h.bag i (by rw [List.length_map]; exact hi) (by rw [List.length_map]; exact hf))
  clear h hi hf
  go_enter Try.func53, Try.ntmps53
  go_wp2_with (go_at_call 68; refine HL.out.mono ?_; rintro e w1 ⟨rfl, hn1⟩)
  go_ret
  exact ⟨rfl, hn1⟩
set_option maxHeartbeats 1000000 in
theorem gcopy (h : GpAt w gp n B L g) {i : Nat} {p : Pkt} (hp : g.bg[i]? = some p) (hf : g.bg.length < 256) : Calls Try.prog 53 #[.pointer (some ⟨gp, 0, none⟩), .int .i64 (i : Int)] w (ActPost w gp n B L (.int .i64 0) (g.copy i)) := by
  obtain ⟨g0, c0, c1, cz⟩ := h.facts
  have HL := Lib.hid (bcopy h.bag (k := i) (x := p.pk) (by rw [List.getElem?_map, hp]; rfl) (by rw [List.length_map]; exact hf))
  have HG := Lib.hid (show g.copy i = { g with bg := g.bg ++ [p] } by unfold Gm.copy; rw [hp]; show Gm.mk _ (sendB _ _) = _; unfold sendB; rw [if_pos hf])
  have HH := Lib.hid h
  clear h hp hf
  go_enter Try.func53, Try.ntmps53
  go_wp2_with fail
  refine HL.out.mono ?_
  intro e w1 hb
  rw [show g.bg.map Pkt.pk ++ [p.pk] = (g.bg ++ [p]).map Pkt.pk by simp] at hb
  obtain ⟨rfl, hs⟩ := HH.out.bagPost hb
  have HS := Lib.hid hs
  clear hb hs
  go_wp2_with fail
  go_ret
  exact ⟨rfl, by rw [HG.out]; exact HS.out.gr⟩
theorem lost_pk (fr dt : Int) (p : Pkt) : lostB fr dt p.pk = p.lost fr dt := rfl
set_option maxHeartbeats 1000000 in
theorem glose (h : GpAt w gp n B L g) (fr dt : Int) : Calls Try.prog 31 #[.pointer (some ⟨gp, 0, none⟩), .int .i64 fr, .int .i64 dt] w (ActPost w gp n B L (.int .i64 ((g.bg.length - (g.lose fr dt).bg.length : Nat) : Int)) (g.lose fr dt)) := by
  obtain ⟨g0, c0, c1, cz⟩ := h.facts
  have HL := Lib.hid (blose h.bag fr dt)
  have HF := Lib.hid (show ((g.bg.map Pkt.pk).filter fun x => !lostB fr dt x) = (g.lose fr dt).bg.map Pkt.pk by rw [List.filter_map]; rfl)
  rw [HF.out, List.length_map, List.length_map] at HL
  have HH := Lib.hid h
  clear h
  go_enter Try.func31, Try.ntmps31
  go_wp2_with fail
  refine HL.out.mono ?_
  intro e w1 hb
  obtain ⟨rfl, hs⟩ := HH.out.bagPost hb
  have HS := Lib.hid hs
  clear hb hs
  go_wp2_with fail
  go_ret
  exact ⟨rfl, HS.out.gr⟩
/-- What Log answers. -/
def LogPost (w : World) (l : List ByteArray) (e : Ending) (w' : World) : Prop := ∃ v, e = .returned v ∧ Row w' w.heap.size 9 1 sEnc v l ∧ New w w'
set_option maxHeartbeats 1000000 in
theorem glog_no (h : GpAt w gp n B L g) (i : Int) (hi : ¬ (0 ≤ i ∧ i < n)) : Calls Try.prog 23 #[.pointer (some ⟨gp, 0, none⟩), .int .i64 i] w (LogPost w []) := by
  have HA := Lib.hid (gat_no h i hi)
  clear h hi
  go_enter Try.func23, Try.ntmps23
  go_wp2_with (go_at_call 46; refine HA.out.mono ?_; rintro e w1 ⟨rfl, hw1⟩; subst w1)
  go_ret
  exact ⟨_, rfl, Row.nil _ _ _ _ _, New.refl _⟩
theorem log_take (x : Nod) (k : Nat) : ((List.range (k + 1)).map fun s => (x.lg s).getD E0) = ((List.range k).map fun s => (x.lg s).getD E0) ++ [(x.lg k).getD E0] := by rw [List.range_succ, List.map_append]; rfl
def lgL (x : Nod) (k : Nat) : List ByteArray := (List.range k).map fun s => (x.lg s).getD E0
theorem lgL_succ (x : Nod) (k : Nat) : lgL x (k + 1) = lgL x k ++ [(x.lg k).getD E0] := log_take x k
theorem lgL_len (x : Nod) (k : Nat) : (lgL x k).length = k := by unfold lgL; simp
set_option maxRecDepth 100000 in
set_option maxHeartbeats 4000000 in
theorem glog (h : GpAt w gp n B L g) {i : Nat} (hi : i < n) (hok : NodOk B (g.nd i)) (hB : B ≤ 100000000) : Calls Try.prog 23 #[.pointer (some ⟨gp, 0, none⟩), .int .i64 (i : Int)] w (LogPost w (g.nd i).log) := by
  have HA := Lib.hid (gat h hi)
  have hx := h.nd i hi
  obtain ⟨hf, hfB⟩ := hok.first (by omega)
  have HFI := Lib.hid (nfirst hx hf (by omega))
  obtain ⟨s, hs⟩ : ∃ s, (g.nd i).first = s := ⟨_, rfl⟩
  have HLOG := Lib.hid (show (g.nd i).log = lgL (g.nd i) s by rw [← hs]; rfl)
  rw [hs] at HFI hfB
  have HX := Lib.hid hx
  generalize g.nd i = x at *
  clear h hi hok hf hs hx
  go_enter Try.func23, Try.ntmps23
  go_wp2_with (first | (go_at_call 46; refine HA.out.mono ?_; rintro e w1 ⟨rfl, hw1⟩; subst w1) | (go_at_call 47; refine HFI.out.mono ?_; rintro e w1 ⟨rfl, hw1⟩; subst w1))
  go_loopw [6, 7, 15] (fun v _ i wr => ∃ (k : Nat) (A : Option Addr) (nn c : Nat), k ≤ s ∧ i = .int .u64 (k : Int) ∧ v = .slice A nn c ∧ Row wr w.heap.size 9 1 sEnc (.slice A nn c) (lgL x k) ∧ New w wr) (fun _ _ i _ => s - (intOf i).toNat)
  case atStart => exact ⟨0, none, 0, 0, Nat.zero_le _, rfl, rfl, Row.nil _ _ _ _ _, New.refl _⟩
  case round =>
    obtain ⟨k, A, nn, c, hk, rfl, rfl, hr, hn⟩ := hrel
    have hx := HX.out.new hn
    obtain ⟨g0, c0, c1, c2, c3, c4, c5, cz⟩ := Blk6F hx.blk
    obtain ⟨m, _, hmp⟩ := hx.lg
    have HM := Lib.hid hmp
    have HR := Lib.hid hr
    have HN := Lib.hid hn
    clear hx hmp hr hn
    by_cases hlt : k < s
    · have hlt' : (k : Int) < (s : Int) := by omega
      have hv := lgV_get x.lg k
      obtain ⟨u, hu⟩ : ∃ u, (x.lg k).getD E0 = u := ⟨_, rfl⟩
      rw [hu] at hv
      have HSN := Lib.hid (lgL_succ x k)
      rw [hu] at HSN
      clear hu
      have HA1 := Lib.hid ((New.refl wr).alloc (.cells #[.string u] 9))
      have HM1 := Lib.hid (show (lgL x k).length + [u].length ≤ maxLen by rw [lgL_len]; unfold maxLen; simp; omega)
      have HM2 := Lib.hid (show ((lgL x k).length + [u].length) * 16 ≤ 140737488355328 by rw [lgL_len]; simp; omega)
      have HBS := Lib.hid (show w.heap.size ≤ (wr.alloc (.cells #[.string u] 9)).heap.size by have := HN.out.size; have := HA1.out.size; omega)
      go_wp2_with (first | (at_lookup; refine wpList_mp_at keyS64 rfl _ _ 97 9 rfl Try.underlying97 (zeroS _) rfl HM.out k (okU_lt (by omega)) rfl ?_; rw [hv]) | (at_builtin; refine wpList_appR strTy sEncOk rfl (.tmp 18) (.tmp 25) rfl rfl rfl (HR.out.new HA1.out) (SlIn.one (x := u) (Blk.mk_new wr _ _) sEncOk rfl) HM1.out HM2.out HBS.out ?_; intro v2 w2 hr2 hg2 hb2; obtain ⟨A2, n2, c2, rfl⟩ := hr2.shp))
      have HN2 := Lib.hid ((HN.out.trans HA1.out).grown hg2 (fun j hj => (HR.out.lt j hj).1))
      have HR2 := Lib.hid hr2
      clear hr2 hg2 hb2
      go_roundw
      case rel => exact ⟨k + 1, A2, n2, c2, by omega, by go_num, rfl, by rw [HSN.out]; exact HR2.out, HN2.out⟩
      case measure => simp [intOf]; omega
    · have hlt' : ¬ (k : Int) < (s : Int) := by omega
      have hks : k = s := by omega
      subst hks
      go_wp2_with fail
      go_ret
      exact ⟨_, rfl, by rw [HLOG.out]; exact HR.out, HN.out⟩
end
end Go.Proofs.Ytghhcjpilcoblaa
