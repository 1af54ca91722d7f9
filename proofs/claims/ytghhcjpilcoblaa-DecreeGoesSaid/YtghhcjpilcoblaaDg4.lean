/- Chapter 22 (decree): Propose, Crash, Pending, Under, Copy, Lose, Log. -/
import Derived.Test.YtghhcjpilcoblaaDg3
namespace Go.Proofs.Ytghhcjpilcoblaa
open Go.RowKit Go.Lap
set_option linter.unusedVariables false
section
variable {w w' w'' : World} {S : Nat → Prop} {gp n B : Nat} {L : GpL} {g : Gm}
/-- What an act of a group leaves. -/
def GrPost (w : World) (gp n B : Nat) (L : GpL) (g' : Gm) (w' : World) : Prop := ∃ L', GpAt w' gp n B L' g' ∧ Gro (GpF gp n L) (GpF gp n L') w w' ∧ Upd (GpF gp n L) w w'
def ActPost (w : World) (gp n B : Nat) (L : GpL) (r : Value) (g' : Gm) (e : Ending) (w' : World) : Prop := e = .returned r ∧ GrPost w gp n B L g' w'
theorem GrPost.refl (h : GpAt w gp n B L g) : GrPost w gp n B L g w := ⟨L, h, fun _ h => .inl h, Upd.refl _ _⟩
theorem GrPost.new (h : GpAt w gp n B L g) (hn : New w w') : GrPost w gp n B L g w' := ⟨L, h.new hn, fun _ h => .inl h, Upd.new hn⟩
theorem GrPost.mono {C : Nat} (h : GrPost w gp n B L g w') (hB : B ≤ C) : GrPost w gp n C L g w' := let ⟨L', h1, h2⟩ := h; ⟨L', h1.mono hB, h2⟩
theorem Gro.trans {F G H : Nat → Prop} (h1 : Gro F G w w') (h2 : Gro G H w' w'') (hs : w.heap.size ≤ w'.heap.size) (hs2 : w'.heap.size ≤ w''.heap.size) : Gro F H w w'' := fun k hk => by
  rcases h2 k hk with h | h
  · rcases h1 k h with h | h
    · exact .inl h
    · exact .inr ⟨h.1, by omega⟩
  · exact .inr ⟨by omega, h.2⟩
theorem Upd.transG {F G : Nat → Prop} (h1 : Upd F w w') (h2 : Upd G w' w'') (hg : Gro F G w w') : Upd F w w'' := h1.trans h2 (fun i hi hG => (hg i hG).elim (fun h => h) (fun h => by omega))
theorem GrPost.trans {C : Nat} {g2 : Gm} {L' : GpL} (hg : Gro (GpF gp n L) (GpF gp n L') w w') (hu : Upd (GpF gp n L) w w') (h2 : GrPost w' gp n C L' g2 w'') : GrPost w gp n C L g2 w'' := by
  obtain ⟨L2, h3, h4, h5⟩ := h2
  exact ⟨L2, h3, hg.trans h4 hu.size h5.size, Upd.transG hu h5 hg⟩
theorem GpAt.ndPost (h : GpAt w gp n B L g) {i C : Nat} (hi : i < n) {F' : Nat → Prop} {l' : NdL} {x' : Nod} (hu : Upd (L.Fn i) w w') (hx : NdAt w' F' (L.nb i) (i : Int) C l' x') (hG : Gro (L.Fn i) F' w w') (hB : B ≤ C) :
    GrPost w gp n C L { g with nd := set g.nd i x' } w' := by
  refine ⟨_, h.setNd hi hu hx hG hB, fun k hk => ?_, hu.mono fun k _ hk => .inr ⟨i, hi, hk⟩⟩
  rcases hk with hk | ⟨j, hj, hk⟩
  · exact .inl (.inl hk)
  · dsimp only at hk
    by_cases hji : j = i
    · rw [hji, set_same] at hk
      rcases hG k hk with h1 | h1
      · exact .inl (.inr ⟨i, hi, h1⟩)
      · exact .inr h1
    · rw [set_ne _ _ hji] at hk
      exact .inl (.inr ⟨j, hj, hk⟩)
theorem GpAt.npost (h : GpAt w gp n B L g) {i C : Nat} (hi : i < n) {x' : Nod} (hx : NPost w (L.Fn i) (L.nb i) (i : Int) C x' w') (hB : B ≤ C) : GrPost w gp n C L { g with nd := set g.nd i x' } w' := by
  obtain ⟨F', L', h1, h2, h3⟩ := hx
  exact h.ndPost hi h3 h1 h2 hB
theorem SdPost.gr {b' : List Pkt} (h : SdPost w gp n B L g b' w') : GrPost w gp n B L { g with bg := b' } w' := by
  obtain ⟨v', h1, h2, h3⟩ := h
  refine ⟨_, h1, fun k hk => ?_, h2.mono fun k _ hk => .inl (.inr (.inr hk))⟩
  rcases hk with hk | ⟨j, hj, hk⟩
  · rcases hk with e | e | e | e
    · exact .inl (.inl (.inl e))
    · exact .inl (.inl (.inr (.inl e)))
    · exact .inl (.inl (.inr (.inr (.inl e))))
    · rcases h3 k e with e2 | e2
      · exact .inl (.inl (.inr (.inr (.inr e2))))
      · exact .inr ⟨e2, h1.o_lt k (.inr (.inr (.inr e)))⟩
  · exact .inl (.inr ⟨j, hj, hk⟩)
theorem GpAt.bagPost (h : GpAt w gp n B L g) {r : Value} {b' : List Pkt} {e : Ending} (hp : BgPost w L.bb L.lv r (b'.map Pkt.pk) e w') : e = .returned r ∧ SdPost w gp n B L g b' w' := by
  obtain ⟨v', rfl, h1, h2, h3⟩ := hp
  exact ⟨rfl, v', h.setBag h1 h2 h3, h2, h3⟩
set_option maxHeartbeats 1000000 in
theorem gunder (h : GpAt w gp n B L g) : Calls Try.prog 27 #[.pointer (some ⟨gp, 0, none⟩)] w fun e w' => e = .returned (.int .i64 (g.bg.length : Int)) ∧ w' = w := by
  obtain ⟨g0, c0, c1, cz⟩ := h.facts
  have HL := Lib.hid (blen h.bag)
  rw [List.length_map] at HL
  clear h
  go_enter Try.func27, Try.ntmps27
  go_wp2_with (go_at_call 52; refine HL.out.mono ?_; rintro e w1 ⟨rfl, hw1⟩; subst w1)
  go_ret
  exact ⟨rfl, rfl⟩
set_option maxHeartbeats 1000000 in
theorem gpending_no (h : GpAt w gp n B L g) (i : Int) (hi : ¬ (0 ≤ i ∧ i < n)) : Calls Try.prog 24 #[.pointer (some ⟨gp, 0, none⟩), .int .i64 i] w fun e w' => e = .returned (.int .i64 0) ∧ w' = w := by
  have HA := Lib.hid (gat_no h i hi)
  clear h hi
  go_enter Try.func24, Try.ntmps24
  go_wp2_with (go_at_call 46; refine HA.out.mono ?_; rintro e w1 ⟨rfl, hw1⟩; subst w1)
  go_ret
  exact ⟨rfl, rfl⟩
set_option maxHeartbeats 1000000 in
theorem gpending (h : GpAt w gp n B L g) {i : Nat} (hi : i < n) : Calls Try.prog 24 #[.pointer (some ⟨gp, 0, none⟩), .int .i64 (i : Int)] w fun e w' => e = .returned (.int .i64 ((g.nd i).pe.length : Int)) ∧ w' = w := by
  have HA := Lib.hid (gat h hi)
  obtain ⟨g0, c0, c1, c2, c3, c4, c5, cz⟩ := Blk6F (h.nd i hi).blk
  obtain ⟨A, c, hv⟩ := (h.nd i hi).pe.shape
  rw [hv] at c4
  clear h hi hv
  go_enter Try.func24, Try.ntmps24
  go_wp2_with (go_at_call 46; refine HA.out.mono ?_; rintro e w1 ⟨rfl, hw1⟩; subst w1)
  go_ret
  exact ⟨rfl, rfl⟩
set_option maxHeartbeats 1000000 in
theorem gcrash_no (h : GpAt w gp n B L g) (i : Int) (hi : ¬ (0 ≤ i ∧ i < n)) : Calls Try.prog 22 #[.pointer (some ⟨gp, 0, none⟩), .int .i64 i] w fun e w' => e = .returned (.int .i64 221) ∧ w' = w := by
  have HA := Lib.hid (gat_no h i hi)
  clear h hi
  go_enter Try.func22, Try.ntmps22
  go_wp2_with (go_at_call 46; refine HA.out.mono ?_; rintro e w1 ⟨rfl, hw1⟩; subst w1)
  go_ret
  exact ⟨rfl, rfl⟩
set_option maxHeartbeats 1000000 in
theorem gcrash (h : GpAt w gp n B L g) {i : Nat} (hi : i < n) : Calls Try.prog 22 #[.pointer (some ⟨gp, 0, none⟩), .int .i64 (i : Int)] w (ActPost w gp n B L (.int .i64 0) (g.crash i)) := by
  have HA := Lib.hid (gat h hi)
  have HH := Lib.hid h
  have hx := h.nd i hi
  obtain ⟨g0, c0, c1, c2, c3, c4, c5, cz⟩ := Blk6F hx.blk
  have HX := Lib.hid ((hx.setPe (pv := .slice none 0 0) (pe := []) (Row.nil _ _ _ _ _) (fun k hk => by cases hk)).setNow0)
  have HU : Hid (Upd (L.Fn i) w ((w.setCell ⟨L.nb i, 4, none⟩ (.slice none 0 0)).setCell ⟨L.nb i, 5, none⟩ (.pointer none))) := Lib.hid (((Upd.refl _ w).setCell (fun _ => hx.f1.1) _).setCell (fun _ => hx.f1.1) _)
  clear h hx
  go_enter Try.func22, Try.ntmps22
  go_wp2_with (go_at_call 46; refine HA.out.mono ?_; rintro e w1 ⟨rfl, hw1⟩; subst w1)
  go_ret
  exact ⟨rfl, HH.out.ndPost hi HU.out HX.out (fun k hk => .inl hk) (Nat.le_refl _)⟩
theorem strTy : SlTy Try.prog 22 9 (.string ⟨#[]⟩) 1 16 := ⟨Try.underlying22, by kernel_rfl, rfl, by decide⟩
set_option maxHeartbeats 1000000 in
theorem gpropose_no (h : GpAt w gp n B L g) (i : Int) (v : ByteArray) (hi : ¬ (0 ≤ i ∧ i < n)) : Calls Try.prog 20 #[.pointer (some ⟨gp, 0, none⟩), .int .i64 i, .string v] w fun e w' => e = .returned (.int .i64 221) ∧ w' = w := by
  have HA := Lib.hid (gat_no h i hi)
  clear h hi
  go_enter Try.func20, Try.ntmps20
  go_wp2_with (go_at_call 46; refine HA.out.mono ?_; rintro e w1 ⟨rfl, hw1⟩; subst w1)
  go_ret
  exact ⟨rfl, rfl⟩
theorem emptyB (s : ByteArray) : s.toList.isEmpty = decide (s.size = 0) := by
  rw [ByteArray.toList_eq]
  obtain ⟨⟨l⟩⟩ := s
  cases l <;> simp [ByteArray.size]
set_option maxHeartbeats 2000000 in
theorem gpropose_bad (h : GpAt w gp n B L g) {i : Nat} (hi : i < n) (v : ByteArray) (hv : ¬ (1 ≤ v.size ∧ v.size ≤ 64)) : Calls Try.prog 20 #[.pointer (some ⟨gp, 0, none⟩), .int .i64 (i : Int), .string v] w fun e w' => e = .returned (.int .i64 222) ∧ w' = w := by
  have HA := Lib.hid (gat h hi)
  clear h hi
  have he := emptyB v
  by_cases h0 : v.size = 0
  · rw [decide_eq_true h0] at he
    clear hv h0
    go_enter Try.func20, Try.ntmps20
    go_wp2_with (go_at_call 46; refine HA.out.mono ?_; rintro e w1 ⟨rfl, hw1⟩; subst w1)
    go_ret
    exact ⟨rfl, rfl⟩
  · rw [decide_eq_false h0] at he
    have h64 : (64 : Int) < (v.size : Int) := by omega
    clear hv h0
    go_enter Try.func20, Try.ntmps20
    go_wp2_with (go_at_call 46; refine HA.out.mono ?_; rintro e w1 ⟨rfl, hw1⟩; subst w1)
    go_ret
    exact ⟨rfl, rfl⟩
theorem NdAt.pushPe {F : Nat → Prop} {nb B : Nat} {id : Int} {l : NdL} {x : Nod} (h : NdAt w F nb id B l x) {pv : Value} {pe : List ByteArray} (hu : Upd (fun k => l.pv.ownBlock = some k) w w') (hr : Row w' 0 9 1 sEnc pv pe) :
    NdAt (w'.setCell ⟨nb, 4, none⟩ pv) (fun k => F k ∨ pv.ownBlock = some k) nb id B { l with pv := pv } { x with pe := pe } := by
  have hb1 := h.blk.upd hu (h.pe.ne_blk h.blk (by decide))
  have hU : Upd (fun k => l.pv.ownBlock = some k ∨ k = nb) w (w'.setCell ⟨nb, 4, none⟩ pv) := (hu.mono fun _ _ h => .inl h).setCell (fun _ => .inr rfl) _
  have hu2 : Upd (· = nb) w' (w'.setCell ⟨nb, 4, none⟩ pv) := (Upd.refl _ w').setIn (g := nb) 4 pv
  have hb : ∀ {t : TypeId} {cs : Array Value} {b : Nat}, Blk w b t cs → t ≠ 9 → t ≠ 100 → ¬ (l.pv.ownBlock = some b ∨ b = nb) := fun hb h1 h2 hh => by
    rcases hh with e | e
    · exact h.pe.ne_blk hb (fun e => h1 e.symm) e
    · exact Blk.ne_ hb h.blk h2 e
  have hm : ∀ {kt : TypeId} {κ : Type} {lit : κ → Lit} {ok : κ → Prop} {b m : Nat} {f : κ → Option Value}, MpAt Try.prog kt lit ok w b m f → ¬ (l.pv.ownBlock = some b ∨ b = nb) := fun hmp hh => by
    rcases hh with e | e
    · exact Row.ne_map h.pe hmp e
    · exact Blk.ne_map h.blk hmp e.symm
  obtain ⟨m, hm1, hmp⟩ := h.ac.mp
  obtain ⟨ml, hml, hlp⟩ := h.lg
  refine ⟨hb1.set_ 4 pv, ⟨⟨m, hm1, hmp.upd hU (hm hmp)⟩, fun s a ha => ⟨Blk.upd (h.ac.at_ s a ha).1 hU (hb (h.ac.at_ s a ha).1 (by decide) (by decide)), .inl (h.ac.at_ s a ha).2⟩, h.ac.inj⟩, ⟨ml, hml, hlp.upd hU (hm hlp)⟩, hr.upd hu2 (fun k hk e => hr.ne_blk hb1 (by decide) (e ▸ hk)), ?_, h.n1, ⟨.inl h.f1.1, .inl h.f1.2.1, .inl h.f1.2.2⟩, fun k hk => .inr hk⟩
  have hn := h.nw
  cases hnw : x.nw with
  | none => rw [hnw] at hn; exact hn
  | some p =>
    rw [hnw] at hn
    obtain ⟨P, e, hP⟩ := hn
    refine ⟨P, e, hP.blk.upd hU (hb hP.blk (by decide) (by decide)), hP.row.upd hU (fun k hk hh => ?_), hP.fm.upd hU (hm hP.fm), hP.bm.upd hU (hm hP.bm), hP.n1, hP.n2, hP.n3, ⟨.inl hP.f1.1, .inl hP.f1.2.1, .inl hP.f1.2.2⟩, fun k hk => .inl (hP.f2 k hk)⟩
    rcases hh with e2 | e2
    · exact Row.ne_row hP.row h.pe (by decide) hk e2
    · exact hP.row.ne_blk h.blk (by decide) (e2 ▸ hk)
set_option maxRecDepth 100000 in
set_option maxHeartbeats 4000000 in
theorem gpropose (h : GpAt w gp n B L g) {i : Nat} (hi : i < n) (v : ByteArray) (hv : 1 ≤ v.size ∧ v.size ≤ 64) (hpl : (g.nd i).pe.length ≤ 1000000000) : Calls Try.prog 20 #[.pointer (some ⟨gp, 0, none⟩), .int .i64 (i : Int), .string v] w (ActPost w gp n B L (.int .i64 0) (g.propose i v)) := by
  have HA := Lib.hid (gat h hi)
  have HH := Lib.hid h
  have hx := h.nd i hi
  have he := emptyB v
  rw [decide_eq_false (by omega)] at he
  have h64 : ¬ (64 : Int) < (v.size : Int) := by omega
  obtain ⟨g0, c0, c1, c2, c3, c4, c5, cz⟩ := Blk6F hx.blk
  have HM1 := Lib.hid (show (g.nd i).pe.length + [v].length ≤ maxLen by unfold maxLen; simp; omega)
  have HM2 := Lib.hid (show ((g.nd i).pe.length + [v].length) * 16 ≤ 140737488355328 by simp; omega)
  obtain ⟨A, c, hpv⟩ := hx.pe.shape
  have HN := Lib.hid ((New.refl w).alloc (.cells #[.string v] 9))
  have hx1 := hx.new HN.out
  have hpe1 := hx1.pe
  have HX1 := Lib.hid hx1
  rw [hpv] at c4 hpe1
  have HPE := Lib.hid hpe1
  have HPV := Lib.hid hpv
  clear h hx hv hpl hpv hx1 hpe1
  go_enter Try.func20, Try.ntmps20
  go_wp2_with (first | (go_at_call 46; refine HA.out.mono ?_; rintro e w1 ⟨rfl, hw1⟩; subst w1) | (at_builtin; refine wpList_appR strTy sEncOk rfl (.tmp 26) (.tmp 28) rfl rfl rfl HPE.out (SlIn.one (x := v) (Blk.mk_new w _ _) sEncOk rfl) HM1.out HM2.out (Nat.zero_le _) ?_; intro v2 w2 hr2 hg2 hb2; have hu2 : Upd (fun k => Value.ownBlock (.slice A (g.nd i).pe.length c) = some k) _ w2 := (Upd.refl _ _).grown hg2 (fun k _ hk => hk); have hb2' := HX1.out.blk.upd hu2 (HPE.out.ne_blk HX1.out.blk (by decide)); obtain ⟨k0, d0, d1, d2, d3, d4, d5, dz⟩ := Blk6F hb2'; obtain ⟨A2, n2, c2, rfl⟩ := hr2.shp))
  go_ret
  have hu2n : Upd (L.Fn i) (w.alloc (.cells #[.string v] 9)) w2 := hu2.mono fun k _ hk => HX1.out.f2 k (by rw [HPV.out]; exact hk)
  have hx2 := HX1.out.pushPe (by rw [HPV.out]; exact hu2) hr2
  have hs2 := HN.out.size
  have hs3 := hu2.size
  refine ⟨rfl, HH.out.ndPost hi ((Upd.new HN.out).trans hu2n (fun _ _ h => h) |>.setCell (fun _ => HX1.out.f1.1) _) hx2 (fun k hk => ?_) (Nat.le_refl _)⟩
  rcases hk with hk | hk
  · exact .inl hk
  · rcases hb2 with e | e
    · exact .inl (HX1.out.f2 k (by rw [HPV.out]; rw [e] at hk; exact hk))
    · rw [e] at hk
      injection hk with hk
      have hl := (hr2.lt k (by rw [e, hk])).2
      exact .inr ⟨by omega, by simpa [World.setCell] using hl⟩
end
end Go.Proofs.Ytghhcjpilcoblaa
