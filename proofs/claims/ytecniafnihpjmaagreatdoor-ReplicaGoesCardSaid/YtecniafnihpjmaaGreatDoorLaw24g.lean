/- Chapter 24 (replica): the chain in memory from where on all members know the newest configuration. Printed by genLaw24.py. -/
import Derived.Test.YtecniafnihpjmaaGreatDoorMg15
import Derived.Test.YtecniafnihpjmaaGreatDoorMg17
import Derived.Test.YtecniafnihpjmaaGreatDoorRpB
namespace Go.Proofs.YtecniafnihpjmaaGreatDoor
open Go.RowKit Go.Lap C
set_option linter.unusedVariables false
set_option linter.unusedSimpArgs false
structure PSt (W wr : World) (n B bx a8 : Nat) (nv : CfgV) (L : ChL) (x : Chn) : Prop where
  ch : ChAt wr n B L x
  ok : ChOk n x
  on : OnOk n x
  nb : ActB n (B + 1) x
  ul : x.un.length ≤ 300
  cl : x.cs.length ≤ 81
  ge : ∀ b, ChF n L b → W.heap.size ≤ b
  bk : Blk wr bx 64 #[L.lv, L.uv, L.cv]
  bg : W.heap.size ≤ bx
  ak : Blk wr a8 25 #[.int .u64 (nv.c.e : Int), .slice nv.A nv.c.ms.length nv.n]
  na : ¬ ChF n L a8
  ts : TSl wr 3 1 iEnc (.slice nv.A nv.c.ms.length nv.n) nv.c.ms
  le : nv.c.e < big
  ne : x.newest = nv.c
  nw : New W wr
section
variable {W w w' wr w5 : World} {n B C M bx a8 i k : Nat} {nv : CfgV} {L L' : ChL} {x y : Chn} {s : StV} {r : Rpl}
theorem ActB.mono {K M : Nat} (h : ActB n K x) (hM : K ≤ M) : ActB n M x := ⟨fun y hy => (h.1 y hy).mono hM, fun nt hnt => Nat.le_trans (h.2 nt hnt) hM⟩
theorem PSt.new (h : PSt W wr n B bx a8 nv L x) (hn : New wr w') : PSt W w' n B bx a8 nv L x := { h with ch := h.ch.new hn, bk := h.bk.new hn, ak := h.ak.new hn, ts := h.ts.new hn, nw := h.nw.trans hn }
theorem PSt.mono (h : PSt W wr n B bx a8 nv L x) (hB : B ≤ C) : PSt W wr n C bx a8 nv L x := { h with ch := h.ch.mono hB, nb := h.nb.mono (by omega) }
/-- One replica turns. -/
theorem PSt.rp (h : PSt W wr n B bx a8 nv L x) (hi : i < n) (hp : RpPost wr (L.rp i) C (L.rl i) r w') (hC : B ≤ C) (hok : ChOk n { x with rp := setD x.rp i r }) (hon : OnOk n { x with rp := setD x.rp i r }) (hnb : RpB (B + 1) r) :
    ∃ L', PSt W w' n C bx a8 nv L' { x with rp := setD x.rp i r } := by
  have hu : Upd (RpF (L.rp i) (L.rl i)) wr w' := let ⟨_, _, _, h⟩ := hp; h
  obtain ⟨L1, hc1, hu1, hc1v, -⟩ := ChPost.setRp h.ch hi hp hC
  have hI := (h.ch.rp i hi).offI
  have hA : Off wr 25 (RpF (L.rp i) (L.rl i)) := (h.ch.rp i hi).off (by decide) (by decide) (by decide) (by decide)
  refine ⟨L1, ⟨hc1.1, hok, hon, (h.nb.set_ hnb).mono (by omega), h.ul, h.cl, fun b hb => ?_, ?_, h.bg, h.ak.upd hu (hA a8 _ h.ak), fun hb => ?_, h.ts.upd hu hI, h.le, h.ne, h.nw.upd hc1.2.2.2.2 h.ge⟩⟩
  · rcases hc1.2.2.2.1 b hb with hb | hb
    · exact h.ge b hb
    · exact Nat.le_trans h.nw.size hb
  · rw [hc1.2.1, hu1, hc1v]
    exact h.bk.upd hc1.2.2.2.2 (h.ch.boxF h.bk).1
  · rcases hc1.2.2.2.1 a8 hb with hb | hb
    · exact h.na hb
    · have := h.ak.lt; omega
/-- What the law's functions on chains leave, stored in the box. -/
theorem PSt.post (h : PSt W wr n B bx a8 nv L x) (hp : ChPost wr n C L y L' w5) (hw : w' = ((w5.setCell ⟨bx, 0, none⟩ L'.lv).setCell ⟨bx, 1, none⟩ L'.uv).setCell ⟨bx, 2, none⟩ L'.cv)
    (hok : ChOk n y) (hon : OnOk n y) (hnb : ActB n (C + 1) y) (hul : y.un.length ≤ 300) (hcs : y.cs = x.cs) : PSt W w' n C bx a8 nv L' y := by
  have hbx5 := h.bk.upd hp.2.2.2.2 (h.ch.boxF h.bk).1
  have hak5 := h.ak.upd hp.2.2.2.2 h.na
  have hts5 := h.ts.upd hp.2.2.2.2 (h.ch.off (by decide) (by decide) (by decide) (by decide) (by decide))
  have hu : Upd (· = bx) w5 w' := by rw [hw]; exact (((Upd.refl _ w5).setIn 0 _).setIn 1 _).setIn 2 _
  have hne : ¬ a8 = bx := Blk.ne_ h.ak h.bk (by decide)
  refine ⟨hp.1.box hbx5 hu, hok, hon, hnb, hul, by rw [hcs]; exact h.cl, fun b hb => ?_, ?_, h.bg, hak5.upd hu hne, fun hb => ?_, hts5.upd hu (Off.blk hbx5 (by decide)), h.le, by unfold Chn.newest; rw [hcs]; exact h.ne, (h.nw.upd hp.2.2.2.2 h.ge).upd hu (fun i e => by have := h.bg; omega)⟩
  · rcases hp.2.2.2.1 b hb with hb | hb
    · exact h.ge b hb
    · exact Nat.le_trans h.nw.size hb
  · rw [hw]; exact ((hbx5.set_ 0 _).set_ 1 _).set_ 2 _
  · rcases hp.2.2.2.1 a8 hb with hb | hb
    · exact h.na hb
    · have := h.ak.lt; omega
def dlv : StV := ⟨1, 0, 0, ⟨0, 0, 0, []⟩, none, 0⟩
theorem dlv_ok (w : World) : StOk w dlv := ⟨SlIn.empty _ _ _ _ _, by decide, by decide, by decide, by decide, by decide, by decide⟩
theorem act1_cs (x : Chn) (n : Nat) : (x.act n dlv.stp).cs = x.cs := by
  unfold Chn.act
  rw [if_neg (show ¬ dlv.stp.kind = 0 by decide), if_pos (show dlv.stp.kind = 1 ∨ dlv.stp.kind = 3 from .inl rfl)]
  split
  · rfl
  · rw [if_pos (show dlv.stp.kind = 1 from rfl)]
    unfold Chn.arrive
    split <;> rfl
theorem ActB.act1 (h : ActB n M x) (hu : x.un.length ≤ 300) (hn : 0 < n) : ActB n (M + 1) ((x.act n dlv.stp).gather n) := ((show ChB n M x from ⟨h.1, h.2, hu⟩).act hn dlv.stp).gather |> fun h => ⟨h.rp, h.un⟩
theorem PSt.gath (h : PSt W wr n B bx a8 nv L x) (hn : n ≤ 7) (hB : B ≤ 1000000) : Calls Tryz.prog 29 #[.agg #[L.lv, L.uv, L.cv]] wr (ChRet wr n B L (x.gather n)) :=
  gather_any h.ch hn hB (by have := h.ul; omega)
theorem PSt.gath_post (h : PSt W wr n B bx a8 nv L x) (hp : ChPost wr n B L (x.gather n) L' w5) (hw : w' = ((w5.setCell ⟨bx, 0, none⟩ L'.lv).setCell ⟨bx, 1, none⟩ L'.uv).setCell ⟨bx, 2, none⟩ L'.cv) : PSt W w' n B bx a8 nv L' (x.gather n) :=
  h.post hp hw h.ok.gather h.on.gather (let g := h.nb.gather; ⟨g.rp, g.un⟩) (List.length_take_le _ _) rfl
theorem PSt.deliver (h : PSt W wr n B bx a8 nv L x) (hn0 : 0 < n) (hn : n ≤ 7) (hB : B ≤ 979000) : Calls Tryz.prog 24 #[.agg #[L.lv, L.uv, L.cv], dlv.val] wr (ChRet wr n (B + 20) L (x.step n dlv.stp)) :=
  step_any h.ch hn0 hn hB h.ul (dlv_ok wr) h.ok.cs (by have := h.cl; omega) (fun nt hnt => by have := h.nb.2 nt hnt; unfold big; omega)
theorem PSt.deliver_post (h : PSt W wr n B bx a8 nv L x) (hn0 : 0 < n) (hB : B ≤ 979000) (hp : ChPost wr n (B + 20) L (x.step n dlv.stp) L' w5) (hw : w' = ((w5.setCell ⟨bx, 0, none⟩ L'.lv).setCell ⟨bx, 1, none⟩ L'.uv).setCell ⟨bx, 2, none⟩ L'.cv) : PSt W w' n (B + 20) bx a8 nv L' (x.step n dlv.stp) :=
  h.post hp hw (h.ok.step hn0 _) (h.on.step h.ok (fun y hy => by have := (h.nb.1 y hy).1; unfold maxT; omega) hn0 _) ((h.nb.act1 h.ul hn0).mono (by omega)) (List.length_take_le _ _) (act1_cs x n)
theorem ChAt.newest_at (h : ChAt w n B L x) (hcs : CsOk n x.cs x.newest) : ∃ nv : CfgV, nv.c = x.newest ∧ CfgAt w nv ∧ ∃ g off cap m, x.cs.length = m + 1 ∧ L.cv = .slice (some ⟨g, off, none⟩) (m + 1) cap ∧ g < w.heap.size ∧
    w.cell? ⟨g, off + m * 2, none⟩ = some (.int .u64 (nv.c.e : Int)) ∧ w.cell? ⟨g, off + m * 2 + 1, none⟩ = some (.slice nv.A nv.c.ms.length nv.n) := by
  obtain ⟨ps, hps, hrc, hca⟩ := h.cs
  have hpl : ps.length = x.cs.length := by rw [← hps, List.length_map]
  have hlt := (List.getElem?_eq_some_iff.1 hcs.nwAt).1
  obtain ⟨m, hm⟩ : ∃ m, x.cs.length = m + 1 := ⟨x.cs.length - 1, by omega⟩
  have hl1 : m < ps.length := by omega
  obtain ⟨nv, hnv⟩ : ∃ p, ps[m]? = some p := ⟨_, List.getElem?_eq_getElem hl1⟩
  have hc : nv.c = x.newest := by
    have h1 : (ps.map CfgV.c)[m]? = some nv.c := by rw [List.getElem?_map, hnv]; rfl
    rw [hps] at h1
    have h2 := hcs.nwAt
    rw [hm, Nat.add_sub_cancel] at h2
    rw [h1] at h2
    exact Option.some.inj h2
  obtain ⟨g, off, cap, hcv, _, hA⟩ := hrc.at_ (by intro e; rw [e] at hl1; simp at hl1)
  refine ⟨nv, hc, hca nv (List.mem_of_getElem? hnv), g, off, cap, m, hm, by rw [hcv, hpl, hm], hA.lt, hA.cell CfgV.encOk hnv (j := 0) rfl, hA.cell CfgV.encOk hnv (j := 1) rfl⟩
theorem CSt.phase (h : CSt W wr n k bx L x) (hk : k ≤ 80) {nv : CfgV} (hnc : nv.c = x.newest) (hna : CfgAt wr nv) (hz : wr.heap.size = a8) :
    PSt W ((wr.alloc (.cells #[.int .u64 (nv.c.e : Int), .slice nv.A nv.c.ms.length nv.n] 25)).setCell ⟨bx, 1, none⟩ (.slice none 0 0)) n 1600 bx a8 nv { L with uv := .slice none 0 0 } { x with un := [] } := by
  subst hz
  have hn := (New.refl wr).alloc (.cells #[.int .u64 (nv.c.e : Int), .slice nv.A nv.c.ms.length nv.n] 25)
  have hb := h.bk.new hn
  have ha := Blk.mk_new wr 25 #[.int .u64 (nv.c.e : Int), .slice nv.A nv.c.ms.length nv.n]
  have hts := (show TSl wr 3 1 iEnc (.slice nv.A nv.c.ms.length nv.n) nv.c.ms from hna.sl).new hn
  generalize wr.alloc (.cells #[.int .u64 (nv.c.e : Int), .slice nv.A nv.c.ms.length nv.n] 25) = w2 at *
  obtain ⟨h1, h2, h3⟩ := (h.ch.new hn).newUn (New.refl w2) (NtRow.nil w2 0) (fun k e => by cases e)
  have hu : Upd (· = bx) w2 (w2.setCell ⟨bx, 1, none⟩ (.slice none 0 0)) := (Upd.refl _ w2).setIn 1 _
  have hlt := h.bk.lt
  have hks : ∀ b, ChF n { L with uv := .slice none 0 0 } b → ChF n L b := fun b hb => by
    rcases hb with hb | hb | hb
    · exact .inl hb
    · cases hb
    · exact .inr (.inr hb)
  exact ⟨(h1.box hb hu).mono (by omega), h.ok.setUn (fun nt hnt => by cases hnt), h.on, ⟨fun y hy => (h.nb.rp y hy).mono (by omega), fun nt hnt => by cases hnt⟩, Nat.zero_le _, by have := h.cl; show x.cs.length ≤ 81; omega, fun b hb => h.ge b (hks b hb), hb.set_ 1 _, h.bg, ha.upd hu (by omega), fun hb => by have := h.ch.lt _ (hks _ hb); omega, hts.upd hu (Off.blk hb (by decide)), hna.e, hnc.symm, ((h.nw.trans hn)).upd hu (fun i e => by have := h.bg; omega)⟩
theorem PSt.mem_at {p gm om : Nat} (h : PSt W wr n B bx a8 nv L x) (hA : nv.A = some ⟨gm, om, none⟩) (hp : p < nv.c.ms.length) : gm < wr.heap.size ∧ wr.cell? ⟨gm, om + p, none⟩ = some (.int .i64 ((idn nv.c p : Nat) : Int)) ∧ ∀ z, z < n → ¬ RpF (L.rp z) (L.rl z) gm := by
  have hw := NwOk.of h.ok h.ne
  obtain ⟨A', c', hv', _, hh⟩ := h.ts
  rcases hh with h0 | ⟨b, off, cs, hb, hblk, hc⟩
  · rw [h0] at hp; simp at hp
  · simp only [Value.slice.injEq] at hv'
    have e1 := hv'.1.symm.trans hA
    rw [hb] at e1
    cases e1
    have e2 := hc p (mem nv.c p) (_root_.Go.Proofs.YtecniafnihpjmaaGreatDoor.mem_at hp) 0 _ rfl
    refine ⟨hblk.lt, ?_, fun z hz hk => (h.ch.rp z hz).offI gm cs hblk hk⟩
    rw [idn_int hw hp, hblk.cell]
    simpa using e2
theorem PSt.some_A (h : PSt W wr n B bx a8 nv L x) : ∃ gm om, nv.A = some ⟨gm, om, none⟩ := by
  have hw := NwOk.of h.ok h.ne
  obtain ⟨A', c', hv', _, hh⟩ := h.ts
  rcases hh with h0 | ⟨b, off, cs, hb, hblk, hc⟩
  · have := hw.r0; rw [h0] at this; simp at this
  · simp only [Value.slice.injEq] at hv'
    exact ⟨b, off, hv'.1.trans hb⟩
end
end Go.Proofs.YtecniafnihpjmaaGreatDoor
