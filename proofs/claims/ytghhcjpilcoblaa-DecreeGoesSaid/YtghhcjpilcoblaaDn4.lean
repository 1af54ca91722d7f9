/- Chapter 22 (decree): a value becomes known. -/
import Derived.Test.YtghhcjpilcoblaaDn2
import Derived.Test.YtghhcjpilcoblaaRow2
namespace Go.Proofs.Ytghhcjpilcoblaa
open Go.RowKit Go.Lap
set_option linter.unusedVariables false
section
variable {w w' w'' : World} {S F G : Nat → Prop} {am lm nb B : Nat} {ab : Nat → Nat} {ac : Nat → Option Acr} {lg : Nat → Option ByteArray} {id : Int} {L : NdL} {x : Nod}
/-- The node's own block turns. -/
theorem NdAt.block (h : NdAt w F nb id B L x) {rd : Nat} {pv pw : Value} {pe : List ByteArray} {nw : Option Prs} (hu : Upd (· = nb) w w') (hb : Blk w' nb 100 #[.int .i64 id, .map (some L.am), .map (some L.lm), .int .u64 (rd : Int), pv, pw])
    (hpe : Row w' 0 9 1 sEnc pv pe) (hown : ∀ k, pv.ownBlock = some k → F k) (hnw : NwAt w' F L.am L.lm pw nw) : NdAt w' F nb id B { L with pv := pv, pw := pw } { x with rd := rd, pe := pe, nw := nw } := by
  obtain ⟨m, hm, hmp⟩ := h.ac.mp
  obtain ⟨ml, hml, hlp⟩ := h.lg
  exact ⟨hb, ⟨⟨m, hm, hmp.upd hu (fun e => Blk.ne_map h.blk hmp e.symm)⟩, fun s a ha => ⟨Blk.upd (h.ac.at_ s a ha).1 hu (fun e => Blk.ne_ (h.ac.at_ s a ha).1 h.blk (by decide) e), (h.ac.at_ s a ha).2⟩, h.ac.inj⟩, ⟨ml, hml, hlp.upd hu (fun e => Blk.ne_map h.blk hlp e.symm)⟩, hpe, hnw, h.n1, h.f1, hown⟩
theorem NdAt.setNow0 (h : NdAt w F nb id B L x) : NdAt (w.setCell ⟨nb, 5, none⟩ (.pointer none)) F nb id B { L with pw := .pointer none } { x with nw := none } := by
  have hu : Upd (· = nb) w _ := (Upd.refl _ w).setIn (g := nb) 5 (.pointer none)
  exact h.block hu (h.blk.set_ 5 _) (h.pe.upd hu (fun k hk e => h.pe.ne_blk h.blk (by decide) (e ▸ hk))) h.f2 rfl
theorem NdAt.setPe (h : NdAt w F nb id B L x) {pv : Value} {pe : List ByteArray} (hpe : Row w 0 9 1 sEnc pv pe) (hown : ∀ k, pv.ownBlock = some k → F k) : NdAt (w.setCell ⟨nb, 4, none⟩ pv) F nb id B { L with pv := pv } { x with pe := pe } := by
  have hu : Upd (· = nb) w _ := (Upd.refl _ w).setIn (g := nb) 4 pv
  exact h.block hu (h.blk.set_ 4 _) (hpe.upd hu (fun k hk e => hpe.ne_blk h.blk (by decide) (e ▸ hk))) hown (h.nw.far h.blk (by decide) (by decide) hu)
/-- A value is put into the map of those that are known. -/
theorem NdAt.setLg (h : NdAt w F nb id B L x) {s m : Nat} {v : ByteArray} (hs : x.lg s = none) (hm : m ≤ B) (hmp : MpU w L.lm m (lgV x.lg)) (hm' : MpU w' L.lm (m + 1) (fun j => if j = s then some (.string v) else lgV x.lg j)) (hu : Upd (· = L.lm) w w') :
    NdAt w' F nb id (B + 1) L { x with lg := set x.lg s (some v) } := by
  obtain ⟨ma, hma, hap⟩ := h.ac.mp
  refine ⟨h.blk.upd hu (fun e => Blk.ne_map h.blk hmp e), ⟨⟨ma, by omega, hap.upd hu h.n1⟩, fun s a ha => ⟨Blk.upd (h.ac.at_ s a ha).1 hu (fun e => Blk.ne_map (h.ac.at_ s a ha).1 hmp e), (h.ac.at_ s a ha).2⟩, h.ac.inj⟩, ⟨m + 1, by omega, hm'.congr fun k _ => ?_⟩, h.pe.upd hu (fun k hk e => Row.ne_map h.pe hmp (e ▸ hk)), h.nw.farMap hmp (.inr rfl) hu, h.n1, h.f1, h.f2⟩
  unfold lgV
  dsimp only
  by_cases hk : k = s
  · subst hk; rw [if_pos rfl, set_same]; rfl
  · rw [if_neg hk, set_ne _ _ hk]
theorem lgV_none (lg : Nat → Option ByteArray) (s : Nat) (h : lg s = none) : lgV lg s = none := by unfold lgV; rw [h]; rfl
theorem growL {b : Nat} (hg : w.grownBy w' (some b)) : Upd (· = b) w w' := (Upd.refl _ _).grown hg (fun k _ e => by injection e with e; exact e.symm)
def KnPost (w : World) (F : Nat → Prop) (nb : Nat) (id : Int) (B lm : Nat) (x' : Nod) (e : Ending) (w' : World) : Prop := e = .returned (.tuple #[]) ∧ ∃ L', NdAt w' F nb id B L' x' ∧ Upd (fun k => k = nb ∨ k = lm) w w'
theorem know_old {s : Nat} {v u : ByteArray} (h : x.lg s = some u) : x.know s v = x := by unfold Nod.know; rw [h]; rfl
theorem know_head {s : Nat} {v : ByteArray} (h : x.lg s = none) (hp : x.pe.head? = some v) : x.know s v = { x with lg := set x.lg s (some v), pe := x.pe.tail, nw := none } := by unfold Nod.know; rw [h]; simp [hp]
theorem know_drop {s : Nat} {v : ByteArray} {p : Prs} (h : x.lg s = none) (hp : x.pe.head? ≠ some v) (hn : x.nw = some p) (hs : p.s = s) : x.know s v = { x with lg := set x.lg s (some v), nw := none } := by unfold Nod.know; rw [h]; simp [hp, hn, hs]
theorem know_keep {s : Nat} {v : ByteArray} (h : x.lg s = none) (hp : x.pe.head? ≠ some v) (hn : ∀ p, x.nw = some p → p.s ≠ s) : x.know s v = { x with lg := set x.lg s (some v) } := by
  unfold Nod.know
  rw [h]
  cases hnw : x.nw with
  | none => simp [hp]
  | some p => simp [hp, hn p hnw]
theorem nw_slot (h : NdAt w F nb id B L x) {p : Prs} (hn : x.nw = some p) {pb : Nat} (hw : L.pw = .pointer (some ⟨pb, 0, none⟩)) : w.cell? ⟨pb, 0, none⟩ = some (.int .u64 (p.s : Int)) := by
  have := h.nw
  rw [hn] at this
  obtain ⟨P, e, hP⟩ := this
  rw [hw] at e
  cases e
  exact hP.blk.cell 0
theorem nw_lt (h : NdAt w F nb id B L x) {p : Prs} (hn : x.nw = some p) {pb : Nat} (hw : L.pw = .pointer (some ⟨pb, 0, none⟩)) : pb < w.heap.size := by
  have := h.nw
  rw [hn] at this
  obtain ⟨P, e, hP⟩ := this
  rw [hw] at e
  cases e
  exact hP.blk.lt
theorem pe_form {base e : Nat} {v : Value} {l : List ByteArray} (h : Row w base e 1 sEnc v l) : (l = [] ∧ ∃ c A, v = .slice A 0 c) ∨ ∃ hd tl g off c, l = hd :: tl ∧ v = .slice (some ⟨g, off, none⟩) (tl.length + 1) (c + 1) := by
  cases l with
  | nil => obtain ⟨A, c, hv⟩ := h.shape; exact .inl ⟨rfl, c, A, hv⟩
  | cons hd tl =>
    obtain ⟨g, off, cap, hv, _, hr⟩ := h.at_ (by simp)
    have := hr.len.1
    simp at this
    exact .inr ⟨hd, tl, g, off, cap - 1, rfl, by rw [hv]; simp; omega⟩
theorem row_head {base e g off n c : Nat} {hd : ByteArray} {tl : List ByteArray} (h : Row w base e 1 sEnc (.slice (some ⟨g, off, none⟩) n c) (hd :: tl)) : w.cell? ⟨g, off, none⟩ = some (.string hd) := by
  obtain ⟨g', off', cap, hv, _, hr⟩ := h.at_ (by simp)
  cases hv
  simpa using hr.cell sEncOk (k := 0) (x := hd) rfl (j := 0) rfl
theorem row_lt {base e g off n c : Nat} {l : List ByteArray} (h : Row w base e 1 sEnc (.slice (some ⟨g, off, none⟩) n c) l) : g < w.heap.size := (h.lt g rfl).2
theorem row_tail {base e g off n c : Nat} {hd : ByteArray} {tl : List ByteArray} (hc : ¬ c + 1 = 1) (h : Row w base e 1 sEnc (.slice (some ⟨g, off, none⟩) n (c + 1)) (hd :: tl)) : Row w base e 1 sEnc (.slice (some ⟨g, off + 1, none⟩) (n - 1) c) tl := by
  have := h.drop (k := 1) sEncOk (by simp)
  rw [if_neg hc] at this
  simpa [Addr.add] using this
theorem row_tail0 {base e g off n : Nat} {hd : ByteArray} {tl : List ByteArray} (h : Row w base e 1 sEnc (.slice (some ⟨g, off, none⟩) n (0 + 1)) (hd :: tl)) : Row w base e 1 sEnc (.slice (some ⟨g, off, none⟩) (n - 1) 0) tl := by
  have := h.drop (k := 1) sEncOk (by simp)
  rw [if_pos rfl] at this
  exact this
theorem list_ne {a b : ByteArray} (h : a ≠ b) : (a.toList == b.toList) = false := by
  rw [beq_eq_false_iff_ne, ByteArray.toList_eq, ByteArray.toList_eq]
  intro e
  refine h ?_
  obtain ⟨a⟩ := a
  obtain ⟨b⟩ := b
  simp at e
  rw [e]
set_option maxRecDepth 100000 in
set_option maxHeartbeats 4000000 in
theorem nknow (h : NdAt w F nb id B L x) {s : Nat} (hs : s < 18446744073709551616) (v : ByteArray) (hB : B ≤ 1000000000000) (hpl : x.pe.length ≤ 1000000000000) :
    Calls Try.prog 67 #[.pointer (some ⟨nb, 0, none⟩), .int .u64 (s : Int), .string v] w (KnPost w F nb id (B + 1) L.lm (x.know s v)) := by
  obtain ⟨g0, c0, c1, c2, c3, c4, c5, cz⟩ := Blk6F h.blk
  obtain ⟨m, hm, hmp⟩ := h.lg
  have HM := Lib.hid hmp
  have HOK := Lib.hid (okU_lt hs)
  have HH := Lib.hid h
  cases hl : x.lg s with
  | some u =>
    have hi := lgV_some x.lg s
    rw [hl] at hi
    have HK := Lib.hid (know_old (v := v) hl)
    clear hl h hmp
    go_enter Try.func67, Try.ntmps67
    go_wp2_with (at_lookup; refine wpList_mp_ok keyS64 rfl _ _ 97 9 rfl Try.underlying97 (zeroS _) rfl HM.out s HOK.out rfl ?_; rw [hi])
    go_end0
    exact ⟨rfl, L, by rw [HK.out]; exact HH.out.mono (fun _ h => h) (by omega), Upd.refl _ _⟩
  | none =>
    have hv := lgV_none x.lg s hl
    have HMX := Lib.hid (show m < maxLen by unfold maxLen; omega)
    have HSET := Lib.hid (fun (w5 : World) (hm5 : MpU w5 L.lm (if (lgV x.lg s).isSome then m else m + 1) (fun j => if j = s then some (.string v) else lgV x.lg j)) (hg5 : w.grownBy w5 (some L.lm)) => (h.setLg hl hm hmp (by rw [hv, if_neg (by simp)] at hm5; exact hm5) (growL hg5) : NdAt w5 F nb id (B + 1) L { x with lg := set x.lg s (some v) }))
    have hpe := pe_form h.pe
    have HU := Lib.hid (fun (w5 : World) (hg5 : w.grownBy w5 (some L.lm)) => ((growL hg5).mono (fun k _ e => .inr e) : Upd (fun k => k = nb ∨ k = L.lm) w w5))
    have hnwa := h.nw
    clear h hmp hm
    cases hnw : x.nw with
    | none =>
      rw [hnw] at hnwa
      have HPW : Hid (L.pw = .pointer none) := Lib.hid hnwa
      rw [HPW.out] at c5
      have hnone := hnw
      rcases hpe with ⟨hp, c, A, hpv⟩ | ⟨hd, tl, g, off, c, hp, hpv⟩
      · have HK := Lib.hid (know_keep (v := v) hl (by rw [hp]; simp) (fun p hq => by rw [hnone] at hq; cases hq))
        rw [hpv] at c4
        have HPV := Lib.hid hpv
        clear hl hp hpv hnone hnw hnwa
        go_enter Try.func67, Try.ntmps67
        go_wp2_with (first | (at_lookup; refine wpList_mp_ok keyS64 rfl _ _ 97 9 rfl Try.underlying97 (zeroS _) rfl HM.out s HOK.out rfl ?_; rw [hv]; dsimp only [Option.isSome, Option.getD]) | (at_mapUpdate; refine wpList_mp_put keyS64 rfl _ _ _ 97 9 rfl Try.underlying97 rfl HM.out HMX.out s HOK.out rfl _ rfl ?_; intro w5 hm5 hg5; have h5 := HSET.out w5 hm5 hg5; obtain ⟨g5, e0, e1, e2, e3, e4, e5, ez⟩ := Blk6F h5.blk; rw [HPW.out] at e5; rw [HPV.out] at e4; have H5 := Lib.hid h5; clear hm5 h5))
        go_end0
        exact ⟨rfl, _, by rw [HK.out]; exact H5.out, HU.out w5 hg5⟩
      rw [hpv] at c4
      have HPV := Lib.hid hpv
      have HP := Lib.hid hp
      by_cases hv9 : hd = v
      · subst hv9
        have HK := Lib.hid (know_head hl (by rw [hp]; rfl))
        rw [hp] at HK
        clear hl hp hpv hnone hnw hnwa
        by_cases hc : c = 0
        · subst hc
          go_enter Try.func67, Try.ntmps67
          go_wp2_with (first | (at_lookup; refine wpList_mp_ok keyS64 rfl _ _ 97 9 rfl Try.underlying97 (zeroS _) rfl HM.out s HOK.out rfl ?_; rw [hv]; dsimp only [Option.isSome, Option.getD]) | (at_mapUpdate; refine wpList_mp_put keyS64 rfl _ _ _ 97 9 rfl Try.underlying97 rfl HM.out HMX.out s HOK.out rfl _ rfl ?_; intro w5 hm5 hg5; have h5 := HSET.out w5 hm5 hg5; obtain ⟨g5, e0, e1, e2, e3, e4, e5, ez⟩ := Blk6F h5.blk; rw [HPW.out] at e5; rw [HPV.out] at e4; have hrow := h5.pe; dsimp only at hrow; rw [HPV.out, HP.out] at hrow; have r0 := row_head hrow; have rl := row_lt hrow; have hgn : g ≠ nb := fun e => hrow.ne_blk h5.blk (by decide) (by rw [e]; rfl); have HROW := Lib.hid hrow; clear hrow; have H5 := Lib.hid h5; clear hm5 h5))
          go_end0
          exact ⟨rfl, _, by rw [HK.out]; exact (H5.out.setPe (row_tail0 HROW.out) (fun j hj => HH.out.f2 j (by rw [HPV.out]; exact hj))).setNow0, ((HU.out w5 hg5).setCell (fun _ => .inl rfl) _).setCell (fun _ => .inl rfl) _⟩
        · have hc2 : ¬ (c : Int) + 1 = 1 := by omega
          have hc3 : ¬ c + 1 = 1 := by omega
          go_enter Try.func67, Try.ntmps67
          go_wp2_with (first | (at_lookup; refine wpList_mp_ok keyS64 rfl _ _ 97 9 rfl Try.underlying97 (zeroS _) rfl HM.out s HOK.out rfl ?_; rw [hv]; dsimp only [Option.isSome, Option.getD]) | (at_mapUpdate; refine wpList_mp_put keyS64 rfl _ _ _ 97 9 rfl Try.underlying97 rfl HM.out HMX.out s HOK.out rfl _ rfl ?_; intro w5 hm5 hg5; have h5 := HSET.out w5 hm5 hg5; obtain ⟨g5, e0, e1, e2, e3, e4, e5, ez⟩ := Blk6F h5.blk; rw [HPW.out] at e5; rw [HPV.out] at e4; have hrow := h5.pe; dsimp only at hrow; rw [HPV.out, HP.out] at hrow; have r0 := row_head hrow; have rl := row_lt hrow; have hgn : g ≠ nb := fun e => hrow.ne_blk h5.blk (by decide) (by rw [e]; rfl); have HROW := Lib.hid hrow; clear hrow; have H5 := Lib.hid h5; clear hm5 h5))
          go_end0
          exact ⟨rfl, _, by rw [HK.out]; exact (H5.out.setPe (row_tail hc3 HROW.out) (fun j hj => HH.out.f2 j (by rw [HPV.out]; exact hj))).setNow0, ((HU.out w5 hg5).setCell (fun _ => .inl rfl) _).setCell (fun _ => .inl rfl) _⟩
      · have HK := Lib.hid (know_keep (v := v) hl (by rw [hp]; simpa using hv9) (fun p hq => by rw [hnone] at hq; cases hq))
        have hdv2 : (hd.toList == v.toList) = false := list_ne hv9
        clear hl hp hpv hv9 hnone hnw hnwa
        go_enter Try.func67, Try.ntmps67
        go_wp2_with (first | (at_lookup; refine wpList_mp_ok keyS64 rfl _ _ 97 9 rfl Try.underlying97 (zeroS _) rfl HM.out s HOK.out rfl ?_; rw [hv]; dsimp only [Option.isSome, Option.getD]) | (at_mapUpdate; refine wpList_mp_put keyS64 rfl _ _ _ 97 9 rfl Try.underlying97 rfl HM.out HMX.out s HOK.out rfl _ rfl ?_; intro w5 hm5 hg5; have h5 := HSET.out w5 hm5 hg5; obtain ⟨g5, e0, e1, e2, e3, e4, e5, ez⟩ := Blk6F h5.blk; rw [HPW.out] at e5; rw [HPV.out] at e4; have hrow := h5.pe; dsimp only at hrow; rw [HPV.out, HP.out] at hrow; have r0 := row_head hrow; have rl := row_lt hrow; have hgn : g ≠ nb := fun e => hrow.ne_blk h5.blk (by decide) (by rw [e]; rfl); have HROW := Lib.hid hrow; clear hrow; have H5 := Lib.hid h5; clear hm5 h5))
        go_end0
        exact ⟨rfl, _, by rw [HK.out]; exact H5.out, HU.out w5 hg5⟩
    | some p =>
      rw [hnw] at hnwa
      obtain ⟨P, hpw, hP⟩ := hnwa
      have HPW := Lib.hid hpw
      have HNW := Lib.hid hnw
      have s0 := hP.blk.cell 0
      have sl := hP.blk.lt
      rw [hpw] at c5
      by_cases hps : p.s = s
      · have HPS := Lib.hid hps
        rcases hpe with ⟨hp, c, A, hpv⟩ | ⟨hd, tl, g, off, c, hp, hpv⟩
        · have HK := Lib.hid (know_drop (v := v) hl (by rw [hp]; simp) hnw hps)
          rw [hpv] at c4
          have HPV := Lib.hid hpv
          clear hl hp hpv hnw hps s0 sl hP hpw
          go_enter Try.func67, Try.ntmps67
          go_wp2_with (first | (at_lookup; refine wpList_mp_ok keyS64 rfl _ _ 97 9 rfl Try.underlying97 (zeroS _) rfl HM.out s HOK.out rfl ?_; rw [hv]; dsimp only [Option.isSome, Option.getD]) | (at_mapUpdate; refine wpList_mp_put keyS64 rfl _ _ _ 97 9 rfl Try.underlying97 rfl HM.out HMX.out s HOK.out rfl _ rfl ?_; intro w5 hm5 hg5; have h5 := HSET.out w5 hm5 hg5; obtain ⟨g5, e0, e1, e2, e3, e4, e5, ez⟩ := Blk6F h5.blk; rw [HPW.out] at e5; have f0 := nw_slot h5 HNW.out HPW.out; rw [HPS.out] at f0; have fl := nw_lt h5 HNW.out HPW.out; rw [HPV.out] at e4; have H5 := Lib.hid h5; clear hm5 h5))
          go_end0
          exact ⟨rfl, _, by rw [HK.out]; exact H5.out.setNow0, (HU.out w5 hg5).setCell (fun _ => .inl rfl) _⟩
        rw [hpv] at c4
        have HPV := Lib.hid hpv
        have HP := Lib.hid hp
        by_cases hv9 : hd = v
        · subst hv9
          have HK := Lib.hid (know_head hl (by rw [hp]; rfl))
          rw [hp] at HK
          clear hl hp hpv hnw hps s0 sl hP hpw
          by_cases hc : c = 0
          · subst hc
            go_enter Try.func67, Try.ntmps67
            go_wp2_with (first | (at_lookup; refine wpList_mp_ok keyS64 rfl _ _ 97 9 rfl Try.underlying97 (zeroS _) rfl HM.out s HOK.out rfl ?_; rw [hv]; dsimp only [Option.isSome, Option.getD]) | (at_mapUpdate; refine wpList_mp_put keyS64 rfl _ _ _ 97 9 rfl Try.underlying97 rfl HM.out HMX.out s HOK.out rfl _ rfl ?_; intro w5 hm5 hg5; have h5 := HSET.out w5 hm5 hg5; obtain ⟨g5, e0, e1, e2, e3, e4, e5, ez⟩ := Blk6F h5.blk; rw [HPW.out] at e5; have f0 := nw_slot h5 HNW.out HPW.out; rw [HPS.out] at f0; have fl := nw_lt h5 HNW.out HPW.out; rw [HPV.out] at e4; have hrow := h5.pe; dsimp only at hrow; rw [HPV.out, HP.out] at hrow; have r0 := row_head hrow; have rl := row_lt hrow; have hgn : g ≠ nb := fun e => hrow.ne_blk h5.blk (by decide) (by rw [e]; rfl); have HROW := Lib.hid hrow; clear hrow; have H5 := Lib.hid h5; clear hm5 h5))
            go_end0
            exact ⟨rfl, _, by rw [HK.out]; exact (H5.out.setNow0.setPe (row_tail0 (HROW.out.upd (S := (· = nb)) ((Upd.refl _ w5).setIn 5 _) (fun k hk e => HROW.out.ne_blk H5.out.blk (by decide) (e ▸ hk)))) (fun j hj => HH.out.f2 j (by rw [HPV.out]; exact hj))).setNow0, ((((HU.out w5 hg5).setCell (fun _ => .inl rfl) _)).setCell (fun _ => .inl rfl) _).setCell (fun _ => .inl rfl) _⟩
          · have hc2 : ¬ (c : Int) + 1 = 1 := by omega
            have hc3 : ¬ c + 1 = 1 := by omega
            go_enter Try.func67, Try.ntmps67
            go_wp2_with (first | (at_lookup; refine wpList_mp_ok keyS64 rfl _ _ 97 9 rfl Try.underlying97 (zeroS _) rfl HM.out s HOK.out rfl ?_; rw [hv]; dsimp only [Option.isSome, Option.getD]) | (at_mapUpdate; refine wpList_mp_put keyS64 rfl _ _ _ 97 9 rfl Try.underlying97 rfl HM.out HMX.out s HOK.out rfl _ rfl ?_; intro w5 hm5 hg5; have h5 := HSET.out w5 hm5 hg5; obtain ⟨g5, e0, e1, e2, e3, e4, e5, ez⟩ := Blk6F h5.blk; rw [HPW.out] at e5; have f0 := nw_slot h5 HNW.out HPW.out; rw [HPS.out] at f0; have fl := nw_lt h5 HNW.out HPW.out; rw [HPV.out] at e4; have hrow := h5.pe; dsimp only at hrow; rw [HPV.out, HP.out] at hrow; have r0 := row_head hrow; have rl := row_lt hrow; have hgn : g ≠ nb := fun e => hrow.ne_blk h5.blk (by decide) (by rw [e]; rfl); have HROW := Lib.hid hrow; clear hrow; have H5 := Lib.hid h5; clear hm5 h5))
            go_end0
            exact ⟨rfl, _, by rw [HK.out]; exact (H5.out.setNow0.setPe (row_tail hc3 (HROW.out.upd (S := (· = nb)) ((Upd.refl _ w5).setIn 5 _) (fun k hk e => HROW.out.ne_blk H5.out.blk (by decide) (e ▸ hk)))) (fun j hj => HH.out.f2 j (by rw [HPV.out]; exact hj))).setNow0, ((((HU.out w5 hg5).setCell (fun _ => .inl rfl) _)).setCell (fun _ => .inl rfl) _).setCell (fun _ => .inl rfl) _⟩
        · have HK := Lib.hid (know_drop (v := v) hl (by rw [hp]; simpa using hv9) hnw hps)
          have hdv2 : (hd.toList == v.toList) = false := list_ne hv9
          clear hl hp hpv hv9 hnw hps s0 sl hP hpw
          go_enter Try.func67, Try.ntmps67
          go_wp2_with (first | (at_lookup; refine wpList_mp_ok keyS64 rfl _ _ 97 9 rfl Try.underlying97 (zeroS _) rfl HM.out s HOK.out rfl ?_; rw [hv]; dsimp only [Option.isSome, Option.getD]) | (at_mapUpdate; refine wpList_mp_put keyS64 rfl _ _ _ 97 9 rfl Try.underlying97 rfl HM.out HMX.out s HOK.out rfl _ rfl ?_; intro w5 hm5 hg5; have h5 := HSET.out w5 hm5 hg5; obtain ⟨g5, e0, e1, e2, e3, e4, e5, ez⟩ := Blk6F h5.blk; rw [HPW.out] at e5; have f0 := nw_slot h5 HNW.out HPW.out; rw [HPS.out] at f0; have fl := nw_lt h5 HNW.out HPW.out; rw [HPV.out] at e4; have hrow := h5.pe; dsimp only at hrow; rw [HPV.out, HP.out] at hrow; have r0 := row_head hrow; have rl := row_lt hrow; have hgn : g ≠ nb := fun e => hrow.ne_blk h5.blk (by decide) (by rw [e]; rfl); have HROW := Lib.hid hrow; clear hrow; have H5 := Lib.hid h5; clear hm5 h5))
          go_end0
          exact ⟨rfl, _, by rw [HK.out]; exact H5.out.setNow0, (HU.out w5 hg5).setCell (fun _ => .inl rfl) _⟩
      · have hpsi : ((p.s : Int) == (s : Int)) = false := by rw [beq_eq_false_iff_ne]; omega
        rcases hpe with ⟨hp, c, A, hpv⟩ | ⟨hd, tl, g, off, c, hp, hpv⟩
        · have HK := Lib.hid (know_keep (v := v) hl (by rw [hp]; simp) (fun r hq => by rw [hnw] at hq; cases hq; exact hps))
          rw [hpv] at c4
          have HPV := Lib.hid hpv
          clear hl hp hpv hnw hps s0 sl hP hpw
          go_enter Try.func67, Try.ntmps67
          go_wp2_with (first | (at_lookup; refine wpList_mp_ok keyS64 rfl _ _ 97 9 rfl Try.underlying97 (zeroS _) rfl HM.out s HOK.out rfl ?_; rw [hv]; dsimp only [Option.isSome, Option.getD]) | (at_mapUpdate; refine wpList_mp_put keyS64 rfl _ _ _ 97 9 rfl Try.underlying97 rfl HM.out HMX.out s HOK.out rfl _ rfl ?_; intro w5 hm5 hg5; have h5 := HSET.out w5 hm5 hg5; obtain ⟨g5, e0, e1, e2, e3, e4, e5, ez⟩ := Blk6F h5.blk; rw [HPW.out] at e5; have f0 := nw_slot h5 HNW.out HPW.out; have fl := nw_lt h5 HNW.out HPW.out; rw [HPV.out] at e4; have H5 := Lib.hid h5; clear hm5 h5))
          go_end0
          exact ⟨rfl, _, by rw [HK.out]; exact H5.out, HU.out w5 hg5⟩
        rw [hpv] at c4
        have HPV := Lib.hid hpv
        have HP := Lib.hid hp
        by_cases hv9 : hd = v
        · subst hv9
          have HK := Lib.hid (know_head hl (by rw [hp]; rfl))
          rw [hp] at HK
          clear hl hp hpv hnw hps s0 sl hP hpw
          by_cases hc : c = 0
          · subst hc
            go_enter Try.func67, Try.ntmps67
            go_wp2_with (first | (at_lookup; refine wpList_mp_ok keyS64 rfl _ _ 97 9 rfl Try.underlying97 (zeroS _) rfl HM.out s HOK.out rfl ?_; rw [hv]; dsimp only [Option.isSome, Option.getD]) | (at_mapUpdate; refine wpList_mp_put keyS64 rfl _ _ _ 97 9 rfl Try.underlying97 rfl HM.out HMX.out s HOK.out rfl _ rfl ?_; intro w5 hm5 hg5; have h5 := HSET.out w5 hm5 hg5; obtain ⟨g5, e0, e1, e2, e3, e4, e5, ez⟩ := Blk6F h5.blk; rw [HPW.out] at e5; have f0 := nw_slot h5 HNW.out HPW.out; have fl := nw_lt h5 HNW.out HPW.out; rw [HPV.out] at e4; have hrow := h5.pe; dsimp only at hrow; rw [HPV.out, HP.out] at hrow; have r0 := row_head hrow; have rl := row_lt hrow; have hgn : g ≠ nb := fun e => hrow.ne_blk h5.blk (by decide) (by rw [e]; rfl); have HROW := Lib.hid hrow; clear hrow; have H5 := Lib.hid h5; clear hm5 h5))
            go_end0
            exact ⟨rfl, _, by rw [HK.out]; exact (H5.out.setPe (row_tail0 HROW.out) (fun j hj => HH.out.f2 j (by rw [HPV.out]; exact hj))).setNow0, ((HU.out w5 hg5).setCell (fun _ => .inl rfl) _).setCell (fun _ => .inl rfl) _⟩
          · have hc2 : ¬ (c : Int) + 1 = 1 := by omega
            have hc3 : ¬ c + 1 = 1 := by omega
            go_enter Try.func67, Try.ntmps67
            go_wp2_with (first | (at_lookup; refine wpList_mp_ok keyS64 rfl _ _ 97 9 rfl Try.underlying97 (zeroS _) rfl HM.out s HOK.out rfl ?_; rw [hv]; dsimp only [Option.isSome, Option.getD]) | (at_mapUpdate; refine wpList_mp_put keyS64 rfl _ _ _ 97 9 rfl Try.underlying97 rfl HM.out HMX.out s HOK.out rfl _ rfl ?_; intro w5 hm5 hg5; have h5 := HSET.out w5 hm5 hg5; obtain ⟨g5, e0, e1, e2, e3, e4, e5, ez⟩ := Blk6F h5.blk; rw [HPW.out] at e5; have f0 := nw_slot h5 HNW.out HPW.out; have fl := nw_lt h5 HNW.out HPW.out; rw [HPV.out] at e4; have hrow := h5.pe; dsimp only at hrow; rw [HPV.out, HP.out] at hrow; have r0 := row_head hrow; have rl := row_lt hrow; have hgn : g ≠ nb := fun e => hrow.ne_blk h5.blk (by decide) (by rw [e]; rfl); have HROW := Lib.hid hrow; clear hrow; have H5 := Lib.hid h5; clear hm5 h5))
            go_end0
            exact ⟨rfl, _, by rw [HK.out]; exact (H5.out.setPe (row_tail hc3 HROW.out) (fun j hj => HH.out.f2 j (by rw [HPV.out]; exact hj))).setNow0, ((HU.out w5 hg5).setCell (fun _ => .inl rfl) _).setCell (fun _ => .inl rfl) _⟩
        · have HK := Lib.hid (know_keep (v := v) hl (by rw [hp]; simpa using hv9) (fun r hq => by rw [hnw] at hq; cases hq; exact hps))
          have hdv2 : (hd.toList == v.toList) = false := list_ne hv9
          clear hl hp hpv hv9 hnw hps s0 sl hP hpw
          go_enter Try.func67, Try.ntmps67
          go_wp2_with (first | (at_lookup; refine wpList_mp_ok keyS64 rfl _ _ 97 9 rfl Try.underlying97 (zeroS _) rfl HM.out s HOK.out rfl ?_; rw [hv]; dsimp only [Option.isSome, Option.getD]) | (at_mapUpdate; refine wpList_mp_put keyS64 rfl _ _ _ 97 9 rfl Try.underlying97 rfl HM.out HMX.out s HOK.out rfl _ rfl ?_; intro w5 hm5 hg5; have h5 := HSET.out w5 hm5 hg5; obtain ⟨g5, e0, e1, e2, e3, e4, e5, ez⟩ := Blk6F h5.blk; rw [HPW.out] at e5; have f0 := nw_slot h5 HNW.out HPW.out; have fl := nw_lt h5 HNW.out HPW.out; rw [HPV.out] at e4; have hrow := h5.pe; dsimp only at hrow; rw [HPV.out, HP.out] at hrow; have r0 := row_head hrow; have rl := row_lt hrow; have hgn : g ≠ nb := fun e => hrow.ne_blk h5.blk (by decide) (by rw [e]; rfl); have HROW := Lib.hid hrow; clear hrow; have H5 := Lib.hid h5; clear hm5 h5))
          go_end0
          exact ⟨rfl, _, by rw [HK.out]; exact H5.out, HU.out w5 hg5⟩
end
end Go.Proofs.Ytghhcjpilcoblaa
