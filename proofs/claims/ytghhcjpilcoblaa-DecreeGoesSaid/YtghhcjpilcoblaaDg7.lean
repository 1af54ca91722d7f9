/- Chapter 22 (decree): Tick. -/
import Derived.Test.YtghhcjpilcoblaaDg6
namespace Go.Proofs.Ytghhcjpilcoblaa
open Go.RowKit Go.Lap
set_option linter.unusedVariables false
section
variable {w w' w'' wa w2 : World} {S : Nat → Prop} {gp n B k : Nat} {L : GpL} {g : Gm}
theorem filter_all (n : Nat) : (List.range n).filter (fun _ => true) = allOf n := List.filter_eq_self.2 fun _ _ => rfl
theorem mAsk_good {s : Nat} (h : s < 18446744073709551616) : (mAsk s).good := ⟨by show 6 ≤ 6; omega, h, by show 0 < 18446744073709551616; omega, by show 0 < 18446744073709551616; omega, by show 0 ≤ 65536; omega, by show 0 < 18446744073709551616; omega, by show 0 < 18446744073709551616; omega, by show 0 ≤ 65536; omega⟩
theorem mPrep_good {s r i : Nat} (h : s < 18446744073709551616) (hr : r < 18446744073709551616) (hi : i < 18446744073709551616) : (mPrep s r i).good := ⟨by show 0 ≤ 6; omega, h, hr, hi, by show 0 ≤ 65536; omega, by show 0 < 18446744073709551616; omega, by show 0 < 18446744073709551616; omega, by show 0 ≤ 65536; omega⟩
theorem GpAt.nb_lt (h : GpAt w gp n B L g) {i : Nat} (hi : i < n) : L.nb i < w.heap.size ∧ ¬ BgF L.bb L.lv (L.nb i) := ⟨h.lt i hi _ (h.nd i hi).f1.1, fun e => h.out i hi _ (h.nd i hi).f1.1 (.inr (.inr e))⟩
theorem gtick_no (h : GpAt w gp n B L g) (i : Int) (hi : ¬ (0 ≤ i ∧ i < n)) : Calls Try.prog 21 #[.pointer (some ⟨gp, 0, none⟩), .int .i64 i] w fun e w' => e = .returned (.int .i64 221) ∧ w' = w := by
  have HA := Lib.hid (gat_no h i hi)
  clear h hi
  go_enter Try.func21, Try.ntmps21
  go_wp2_with (go_at_call 46; refine HA.out.mono ?_; rintro e w1 ⟨rfl, hw1⟩; subst w1)
  go_ret
  exact ⟨rfl, rfl⟩
theorem tick_empty {i : Nat} (hp : (g.nd i).pe = []) : g.tick n i = { g with bg := sendTo g.bg i (mAsk (g.nd i).first) (othersOf n i) } := by unfold Gm.tick; simp [hp]
theorem tick_begin {i : Nat} (hp : (g.nd i).pe ≠ []) : g.tick n i = { nd := set g.nd i { g.nd i with rd := (g.nd i).rd + 1, nw := some ⟨(g.nd i).first, (g.nd i).rd + 1, i, [], [], [], E0, false⟩ }, bg := sendTo (sendTo g.bg i (mPrep (g.nd i).first ((g.nd i).rd + 1) i) (allOf n)) i (mAsk (g.nd i).first) (othersOf n i) } := by unfold Gm.tick; simp [hp]
set_option maxRecDepth 100000 in
set_option maxHeartbeats 8000000 in
theorem gtick_empty (h : GpAt w gp n B L g) {i : Nat} (hi : i < n) (hok : NodOk B (g.nd i)) (hB : B ≤ 100000000) (hn : n ≤ 7) (hp : (g.nd i).pe = []) : Calls Try.prog 21 #[.pointer (some ⟨gp, 0, none⟩), .int .i64 (i : Int)] w (ActPost w gp n B L (.int .i64 0) (g.tick n i)) := by
  have HA := Lib.hid (gat h hi)
  have hx := h.nd i hi
  obtain ⟨hf, hfB⟩ := hok.first (by omega)
  have HFI := Lib.hid (nfirst hx hf (by omega))
  have HT := Lib.hid (tick_empty (n := n) hp)
  obtain ⟨s, hs⟩ : ∃ s, (g.nd i).first = s := ⟨_, rfl⟩
  rw [hs] at HFI hfB HT
  obtain ⟨g0, c0, c1, c2, c3, c4, c5, cz⟩ := Blk6F hx.blk
  obtain ⟨A, c, hpv⟩ := hx.pe.shape
  rw [hp] at hpv
  rw [hpv] at c4
  have HS := Lib.hid (gall_other h i (mAsk s) (mAsk_good (by omega)) (L.nb i) c0 (h.nb_lt hi).1 (h.nb_lt hi).2 (by omega))
  clear h hok hf hs hx hpv hp
  go_enter Try.func21, Try.ntmps21
  go_wp2_with (first | (go_at_call 46; refine HA.out.mono ?_; rintro e w1 ⟨rfl, hw1⟩; subst w1) | (go_at_call 47; refine HFI.out.mono ?_; rintro e w1 ⟨rfl, hw1⟩; subst w1) | (go_at_call 48; refine HS.out.mono ?_; rintro e w2 ⟨rfl, hs2⟩))
  go_ret
  exact ⟨rfl, by rw [HT.out]; exact hs2.gr⟩
theorem NwAt.ptr {F : Nat → Prop} {am lm : Nat} {pw : Value} {nw : Option Prs} (h : NwAt w F am lm pw nw) : ∃ q, pw = .pointer q := by
  cases nw with
  | none => exact ⟨_, h⟩
  | some p => obtain ⟨P, e, _⟩ := h; exact ⟨_, e⟩
theorem ndGro {i : Nat} (hi : i < n) {F' : Nat → Prop} {l' : NdL} (hG : Gro (L.Fn i) F' w w') : Gro (GpF gp n L) (GpF gp n { L with Fn := set L.Fn i F', nl := set L.nl i l' }) w w' := fun k hk => by
  rcases hk with hk | ⟨j, hj, hk⟩
  · exact .inl (.inl hk)
  · dsimp only at hk
    by_cases hji : j = i
    · rw [hji, set_same] at hk
      rcases hG k hk with h1 | h1
      · exact .inl (.inr ⟨i, hi, h1⟩)
      · exact .inr h1
    · rw [set_ne _ _ hji] at hk
      exact .inl (.inr ⟨j, hj, hk⟩)
/-- A new proposal in memory. -/
theorem NdAt.begin_ {F : Nat → Prop} {nb : Nat} {id : Int} {l : NdL} {x : Nod} {rd s i z : Nat} {rdi : Int} (h : NdAt w F nb id B l x) (hr : rdi = (rd : Int)) (hz : wa.heap.size = z) (hF : ∀ k, F k → k < w.heap.size) (hu : Upd (· = nb) w wa) (hb : Blk wa nb 100 #[.int .i64 id, .map (some l.am), .map (some l.lm), .int .u64 rdi, l.pv, l.pw]) :
    ∃ l', NdAt ((((wa.alloc (.map #[] 0)).alloc (.map #[] 0)).alloc (.cells #[.int .u64 (s : Int), .int .u64 rdi, .int .u64 (i : Int), .slice none 0 0, .map (some z), .map (some (z + 1)), .string ⟨#[]⟩, .bool false] 104)).setCell ⟨nb, 5, none⟩ (.pointer (some ⟨z + 1 + 1, 0, none⟩)))
      (fun k => F k ∨ k = z ∨ k = z + 1 ∨ k = z + 1 + 1) nb id B l' { x with rd := rd, nw := some ⟨s, rd, i, [], [], [], E0, false⟩ } ∧ l'.pw = .pointer (some ⟨z + 1 + 1, 0, none⟩) := by
  subst hr hz
  have h1 := MpAt.made Try.prog 3 litI okI wa
  have h2 := MpAt.made Try.prog 3 litI okI (wa.alloc (.map #[] 0))
  rw [World.size_alloc] at h2
  have hp := Blk.mk_new ((wa.alloc (.map #[] 0)).alloc (.map #[] 0)) 104 #[.int .u64 (s : Int), .int .u64 (rd : Int), .int .u64 (i : Int), .slice none 0 0, .map (some wa.heap.size), .map (some (wa.heap.size + 1)), .string ⟨#[]⟩, .bool false]
  rw [World.size_alloc, World.size_alloc] at hp
  have hn3 := (((New.refl wa).alloc (.map #[] 0)).alloc (.map #[] 0)).alloc (.cells #[.int .u64 (s : Int), .int .u64 (rd : Int), .int .u64 (i : Int), .slice none 0 0, .map (some wa.heap.size), .map (some (wa.heap.size + 1)), .string ⟨#[]⟩, .bool false] 104)
  have hn1 := ((New.refl (wa.alloc (.map #[] 0))).alloc (.map #[] 0)).alloc (.cells #[.int .u64 (s : Int), .int .u64 (rd : Int), .int .u64 (i : Int), .slice none 0 0, .map (some wa.heap.size), .map (some (wa.heap.size + 1)), .string ⟨#[]⟩, .bool false] 104)
  have hn2 := (New.refl ((wa.alloc (.map #[] 0)).alloc (.map #[] 0))).alloc (.cells #[.int .u64 (s : Int), .int .u64 (rd : Int), .int .u64 (i : Int), .slice none 0 0, .map (some wa.heap.size), .map (some (wa.heap.size + 1)), .string ⟨#[]⟩, .bool false] 104)
  have hs := hu.size
  have hnb : nb < wa.heap.size := hb.lt
  have hset := fun (W : World) => (Upd.refl (· = nb) W).setIn (g := nb) 5 (.pointer (some ⟨wa.heap.size + 1 + 1, 0, none⟩))
  have hU : Upd (· = nb) w ((((wa.alloc (.map #[] 0)).alloc (.map #[] 0)).alloc (.cells #[.int .u64 (s : Int), .int .u64 (rd : Int), .int .u64 (i : Int), .slice none 0 0, .map (some wa.heap.size), .map (some (wa.heap.size + 1)), .string ⟨#[]⟩, .bool false] 104)).setCell ⟨nb, 5, none⟩ (.pointer (some ⟨wa.heap.size + 1 + 1, 0, none⟩))) := (hu.transNew hn3).setIn 5 _
  have hx := (h.mono (G := fun k => F k ∨ k = wa.heap.size ∨ k = wa.heap.size + 1 ∨ k = wa.heap.size + 1 + 1) (fun k hk => .inl hk) (Nat.le_refl _))
  refine ⟨_, hx.block hU ((hb.new hn3).set_ 5 _) (h.pe.upd hU (fun k hk e => h.pe.ne_blk h.blk (by decide) (e ▸ hk))) (fun k hk => .inl (h.f2 k hk)) ?_, rfl⟩
  have ha := hF _ h.f1.2.1
  have hl := hF _ h.f1.2.2
  refine ⟨⟨wa.heap.size + 1 + 1, wa.heap.size, wa.heap.size + 1, .slice none 0 0⟩, rfl, (hp.upd (hset _) (by show ¬ _ = _; omega)), Row.nil _ _ _ _ _, ((h1.new hn1).upd (hset _) (by show ¬ _ = _; omega)).congr (fun k _ => by simp [setV]), ((h2.new hn2).upd (hset _) (by show ¬ _ = _; omega)).congr (fun k _ => by simp [setV]), ?_, ⟨?_, ?_⟩, ⟨?_, ?_⟩, ⟨.inr (.inr (.inr rfl)), .inr (.inl rfl), .inr (.inr (.inl rfl))⟩, fun k hk => by cases hk⟩
  all_goals (dsimp only; omega)
set_option maxRecDepth 100000 in
set_option maxHeartbeats 8000000 in
theorem gtick_begin (h : GpAt w gp n B L g) {i : Nat} (hi : i < n) (hok : NodOk B (g.nd i)) (hB : B ≤ 100000000) (hn : n ≤ 7) (hp : (g.nd i).pe ≠ []) : Calls Try.prog 21 #[.pointer (some ⟨gp, 0, none⟩), .int .i64 (i : Int)] w (ActPost w gp n B L (.int .i64 0) (g.tick n i)) := by
  have HA := Lib.hid (gat h hi)
  have hmk := @run_makeMap Try.prog
  have hx := h.nd i hi
  obtain ⟨hf, hfB⟩ := hok.first (by omega)
  have HFI := Lib.hid (nfirst hx hf (by omega))
  have HT := Lib.hid (tick_begin (n := n) hp)
  obtain ⟨s, hs⟩ : ∃ s, (g.nd i).first = s := ⟨_, rfl⟩
  rw [hs] at HFI hfB HT
  have hrd := hok.rd
  obtain ⟨g0, c0, c1, c2, c3, c4, c5, cz⟩ := Blk6F hx.blk
  obtain ⟨A, c, hpv⟩ := hx.pe.shape
  have hpl : 0 < (g.nd i).pe.length := List.length_pos_iff.2 hp
  have hpl2 : (0 : Int) < ((g.nd i).pe.length : Int) := by omega
  rw [hpv] at c4
  obtain ⟨q, hq⟩ := hx.nw.ptr
  rw [hq] at c5
  obtain ⟨x, hxe⟩ : ∃ x, g.nd i = x := ⟨_, rfl⟩
  have HXE := Lib.hid hxe
  rw [hxe] at hx hrd c3 c4 hpl hpl2 HT
  have hwr : IntKind.u64.wrap ((x.rd : Int) + 1) = (x.rd : Int) + 1 := by rw [IntKind.wrap_u64]; omega
  have hwi : IntKind.u64.wrap (i : Int) = (i : Int) := by rw [IntKind.wrap_u64]; omega
  have hsz : (w.setCell ⟨L.nb i, 3, none⟩ (.int .u64 ((x.rd : Int) + 1))).heap.size = w.heap.size := by simp [World.setCell]
  have hu1 : Upd (· = L.nb i) w (w.setCell ⟨L.nb i, 3, none⟩ (.int .u64 ((x.rd : Int) + 1))) := (Upd.refl _ w).setIn 3 _
  have hb1 := hx.blk.set_ 3 (.int .u64 ((x.rd : Int) + 1))
  obtain ⟨l', hnew, hpw⟩ := hx.begin_ (s := s) (i := i) (rd := x.rd + 1) (rdi := (x.rd : Int) + 1) (by omega) hsz (h.lt i hi) hu1 hb1
  have hb3 := ((hb1.alloc (.map #[] 0)).alloc (.map #[] 0)).alloc (.cells #[.int .u64 (s : Int), .int .u64 ((x.rd : Int) + 1), .int .u64 (i : Int), .slice none 0 0, .map (some w.heap.size), .map (some (w.heap.size + 1)), .string ⟨#[]⟩, .bool false] 104)
  have k5 := hb3.cell 5
  have kz := hb3.frozen
  have kl := hb3.lt
  simp only [hq] at k5
  simp at k5
  have hUF : Upd (L.Fn i) w (w.setCell ⟨L.nb i, 3, none⟩ (.int .u64 ((x.rd : Int) + 1))) := hu1.mono fun k _ e => by rw [e]; exact hx.f1.1
  have HNEW := Lib.hid hnew
  have HUF := Lib.hid hUF
  have HSZ := Lib.hid hsz
  have HH := Lib.hid h
  have HOK := Lib.hid (show s < 18446744073709551616 ∧ x.rd + 1 < 18446744073709551616 ∧ i < 18446744073709551616 by omega)
  clear h hok hf hs hpv hp hxe hq hnew hu1 hb1 hb3 hUF hsz hx
  go_enter Try.func21, Try.ntmps21
  go_upto_region 8 with (first | (go_at_call 46; refine HA.out.mono ?_; rintro e w1 ⟨rfl, hw1⟩; subst w1) | (go_at_call 47; refine HFI.out.mono ?_; rintro e w1 ⟨rfl, hw1⟩; subst w1))
  have hUB : Upd (L.Fn i) w (((((w.setCell ⟨L.nb i, 3, none⟩ (.int .u64 ((x.rd : Int) + 1))).alloc (.map #[] 0)).alloc (.map #[] 0)).alloc (.cells #[.int .u64 (s : Int), .int .u64 ((x.rd : Int) + 1), .int .u64 (i : Int), .slice none 0 0, .map (some w.heap.size), .map (some (w.heap.size + 1)), .string ⟨#[]⟩, .bool false] 104)).setCell ⟨L.nb i, 5, none⟩ (.pointer (some ⟨w.heap.size + 1 + 1, 0, none⟩))) := (((HUF.out.alloc _).alloc _).alloc _).setCell (fun _ => HNEW.out.f1.1.elim (fun h => h) (fun h => by exfalso; omega)) _
  have HBZ := Lib.hid (show (((((w.setCell ⟨L.nb i, 3, none⟩ (.int .u64 ((x.rd : Int) + 1))).alloc (.map #[] 0)).alloc (.map #[] 0)).alloc (.cells #[.int .u64 (s : Int), .int .u64 ((x.rd : Int) + 1), .int .u64 (i : Int), .slice none 0 0, .map (some w.heap.size), .map (some (w.heap.size + 1)), .string ⟨#[]⟩, .bool false] 104)).setCell ⟨L.nb i, 5, none⟩ (.pointer (some ⟨w.heap.size + 1 + 1, 0, none⟩))).heap.size = w.heap.size + 3 by simp [World.setCell])
  generalize ((((w.setCell ⟨L.nb i, 3, none⟩ (.int .u64 ((x.rd : Int) + 1))).alloc (.map #[] 0)).alloc (.map #[] 0)).alloc (.cells #[.int .u64 (s : Int), .int .u64 ((x.rd : Int) + 1), .int .u64 (i : Int), .slice none 0 0, .map (some w.heap.size), .map (some (w.heap.size + 1)), .string ⟨#[]⟩, .bool false] 104)).setCell ⟨L.nb i, 5, none⟩ (.pointer (some ⟨w.heap.size + 1 + 1, 0, none⟩)) = wb at *
  have hGR : Gro (L.Fn i) (fun k => L.Fn i k ∨ k = w.heap.size ∨ k = w.heap.size + 1 ∨ k = w.heap.size + 1 + 1) w wb := fun k hk => by
    rcases hk with hk | hk
    · exact .inl hk
    · exact .inr (by have := HBZ.out; omega)
  have hg2 := HH.out.setNd hi hUB HNEW.out hGR (Nat.le_refl _)
  have hgro := ndGro (gp := gp) (L := L) (l' := l') hi hGR
  have hupd : Upd (GpF gp n L) w wb := hUB.mono fun k _ hk => .inr ⟨i, hi, hk⟩
  have hx2 := HNEW.out
  obtain ⟨⟨pb, fm, bm, qv⟩, e, hP⟩ := hx2.nw
  rw [hpw] at e
  have e2 : pb = w.heap.size + 1 + 1 := by injection e with e; injection e with e; injection e with e; exact e.symm
  subst e2
  clear e
  clear g0 c0 c1 c2 c3 c4 c5 cz k5 kz kl hUB hGR
  obtain ⟨d, d0, d1, d2, d3, d4, d5, dz⟩ := Blk6F hx2.blk
  rw [hpw] at d5
  obtain ⟨q0, e0, e1, e2, e3, e4, e5, e6, e7, ez⟩ := Blk8F hP.blk
  have HS1 := Lib.hid (gall_any hg2 i (mPrep s (x.rd + 1) i) (mPrep_good HOK.out.1 HOK.out.2.1 HOK.out.2.2) (L.nb i) (by omega))
  have HGRO := Lib.hid hgro
  have HUPD := Lib.hid hupd
  clear hx2 hP hg2 hgro hupd hpw
  go_wp2_with fail
  refine HS1.out.mono ?_
  rintro e w2 ⟨rfl, v2, hg3, hu3, hv3⟩
  have HG3 := Lib.hid hg3
  have HU3 := Lib.hid hu3
  have HV3 := Lib.hid hv3
  have hc := ((hg3.nd i hi).blk).cell 0
  have HS2 := Lib.hid (gall_other hg3 i (mAsk s) (mAsk_good HOK.out.1) (L.nb i) hc (hg3.nb_lt hi).1 (hg3.nb_lt hi).2 (by omega))
  clear hg3 hu3 hv3 hc d d0 d1 d2 d3 d4 d5 dz q0 e0 e1 e2 e3 e4 e5 e6 e7 ez
  go_wp2_with fail
  refine HS2.out.mono ?_
  rintro e w4 ⟨rfl, hs4⟩
  have HS4 := Lib.hid hs4
  clear hs4
  go_wp2_with fail
  go_ret
  refine ⟨rfl, ?_⟩
  rw [HT.out]
  refine GrPost.trans HGRO.out HUPD.out ?_
  rw [← filter_all]
  exact (SdPost.trans (g := { nd := set g.nd i { x with rd := x.rd + 1, nw := some ⟨s, x.rd + 1, i, [], [], [], E0, false⟩ }, bg := g.bg }) (L := { L with Fn := set L.Fn i (fun k => L.Fn i k ∨ k = w.heap.size ∨ k = w.heap.size + 1 ∨ k = w.heap.size + 1 + 1), nl := set L.nl i l' }) HG3.out HU3.out HV3.out HS4.out).gr
theorem gtick (h : GpAt w gp n B L g) {i : Nat} (hi : i < n) (hok : NodOk B (g.nd i)) (hB : B ≤ 100000000) (hn : n ≤ 7) : Calls Try.prog 21 #[.pointer (some ⟨gp, 0, none⟩), .int .i64 (i : Int)] w (ActPost w gp n B L (.int .i64 0) (g.tick n i)) := by
  by_cases hp : (g.nd i).pe = []
  · exact gtick_empty h hi hok hB hn hp
  · exact gtick_begin h hi hok hB hn hp
end
end Go.Proofs.Ytghhcjpilcoblaa
