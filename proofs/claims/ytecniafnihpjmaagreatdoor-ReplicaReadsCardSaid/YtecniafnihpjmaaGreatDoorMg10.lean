/- The parts RpH, RpG, RpF, joined. -/
import Derived.Test.YtecniafnihpjmaaGreatDoorRpZ2
import Derived.Test.YtecniafnihpjmaaGreatDoorMg5
import Derived.Test.YtecniafnihpjmaaGreatDoorTk
import Derived.Deep.RegionHeld3
/- Chapter 24 (replica): the law's chain in memory. -/
namespace Go.Proofs.YtecniafnihpjmaaGreatDoor
open Go.RowKit Go.Lap C
set_option linter.unusedVariables false
def ptrE (g : Nat) : List Value := [.pointer (some ⟨g, 0, none⟩)]
theorem ptrOk : Enc ptrE 1 := fun x => ⟨rfl, by simp [ptrE, Value.oneCell']⟩
theorem ptrTy : SlTy Tryz.prog 61 45 (.pointer none) 1 8 := ⟨Tryz.underlying61, by kernel_rfl, rfl, by decide⟩
/-- A configuration in a slice. -/
structure CfgV where
  c : Cfg
  A : Option Addr
  n : Nat
def CfgV.sl (x : CfgV) : Value := .slice x.A x.c.ms.length x.n
def CfgV.enc (x : CfgV) : List Value := [.int .u64 (x.c.e : Int), x.sl]
theorem CfgV.encOk : Enc CfgV.enc 2 := fun x => ⟨rfl, by simp [CfgV.enc, CfgV.sl, Value.oneCell']⟩
theorem cfgTy : SlTy Tryz.prog 62 25 (.agg #[.int .u64 0, .slice none 0 0]) 2 32 := ⟨Tryz.underlying62, by kernel_rfl, rfl, by decide⟩
structure CfgAt (w : World) (x : CfgV) : Prop where
  sl : TSl w 3 1 iEnc x.sl x.c.ms
  l : x.c.ms.length ≤ 1000
  e : x.c.e < big
def CfRow (w : World) (base : Nat) (v : Value) (l : List Cfg) : Prop := ∃ ps : List CfgV, ps.map CfgV.c = l ∧ Row w base 25 2 CfgV.enc v ps ∧ ∀ p ∈ ps, CfgAt w p
structure ChL where
  lv : Value
  uv : Value
  cv : Value
  rp : Nat → Nat
  rl : Nat → RpL
def ChR (n : Nat) (L : ChL) (k : Nat) : Prop := ∃ i, i < n ∧ RpF (L.rp i) (L.rl i) k
def ChF (n : Nat) (L : ChL) (k : Nat) : Prop := ChR n L k ∨ L.uv.ownBlock = some k ∨ L.cv.ownBlock = some k
structure ChAt (w : World) (n B : Nat) (L : ChL) (x : Chn) : Prop where
  l : Row w 0 45 1 ptrE L.lv ((List.range n).map L.rp)
  un : NtRow w 0 L.uv x.un
  cs : CfRow w 0 L.cv x.cs
  rp : ∀ i, i < n → RpAt w (L.rp i) B (L.rl i) (x.rp i)
  dj : ∀ i j, i < n → j < n → i ≠ j → ∀ k, RpF (L.rp i) (L.rl i) k → ¬ RpF (L.rp j) (L.rl j) k
  out : ∀ k, ChR n L k → ¬ L.uv.ownBlock = some k
section
variable {w w' W wa : World} {S : Nat → Prop} {n B D : Nat} {L : ChL} {x : Chn}
theorem CfgAt.upd {y : CfgV} (h : CfgAt w y) (hu : Upd S w w') (hI : Off w 3 S) : CfgAt w' y := ⟨h.sl.upd hu hI, h.l, h.e⟩
theorem CfRow.upd {base : Nat} {v : Value} {l : List Cfg} (h : CfRow w base v l) (hu : Upd S w w') (hv : ∀ k, v.ownBlock = some k → ¬ S k) (hI : Off w 3 S) : CfRow w' base v l := by
  obtain ⟨ps, h1, h2, h3⟩ := h
  exact ⟨ps, h1, h2.upd hu hv, fun p hp => (h3 p hp).upd hu hI⟩
theorem ChAt.offR (h : ChAt w n B L x) {e : TypeId} (h1 : 107 ≠ e) (h2 : 138 ≠ e) (h3 : 40 ≠ e) (h4 : 93 ≠ e) : Off w e (ChR n L) := fun b cs hb ⟨i, hi, hk⟩ => (h.rp i hi).off h1 h2 h3 h4 b cs hb hk
theorem ChAt.off (h : ChAt w n B L x) {e : TypeId} (h1 : 107 ≠ e) (h2 : 138 ≠ e) (h3 : 40 ≠ e) (h4 : 93 ≠ e) (h5 : 25 ≠ e) : Off w e (ChF n L) := by
  obtain ⟨ps, _, hps, _⟩ := h.un
  obtain ⟨qs, _, hqs, _⟩ := h.cs
  exact (h.offR h1 h2 h3 h4).or ((Off.row hps h4).or (Off.row hqs h5))
theorem ChAt.lt (h : ChAt w n B L x) : ∀ k, ChF n L k → k < w.heap.size := by
  obtain ⟨qs, _, hqs, _⟩ := h.cs
  rintro k (⟨i, hi, hk⟩ | hk | hk)
  · exact (h.rp i hi).lt k hk
  · exact (h.un.lt k hk).2
  · exact (hqs.lt k hk).2
theorem ChAt.upd (h : ChAt w n B L x) (hu : Upd S w w') (hS : ∀ k, ChF n L k → ¬ S k) (hl : ∀ k, L.lv.ownBlock = some k → ¬ S k) (hW : Off w 97 S) (hI : Off w 3 S) : ChAt w' n B L x :=
  ⟨h.l.upd hu hl, h.un.upd hu (fun k hk => hS k (.inr (.inl hk))) hW, h.cs.upd hu (fun k hk => hS k (.inr (.inr hk))) hI, fun i hi => (h.rp i hi).upd hu (fun k hk => hS k (.inl ⟨i, hi, hk⟩)) hW hI, h.dj, h.out⟩
theorem ChAt.new (h : ChAt w n B L x) (hn : New w w') : ChAt w' n B L x := h.upd (S := fun _ => False) (Upd.new hn) (fun _ _ x => x) (fun _ _ x => x) (Off.no _ _) (Off.no _ _)
theorem ChAt.mono {C : Nat} (h : ChAt w n B L x) (hB : B ≤ C) : ChAt w n C L x := { h with rp := fun i hi => (h.rp i hi).mono hB }
/-- The row of pointers is nobody else's. -/
theorem ChAt.lvF (h : ChAt w n B L x) : ∀ k, L.lv.ownBlock = some k → ¬ ChF n L k := by
  intro k hk hf
  obtain ⟨ps, _, hps, _⟩ := h.un
  obtain ⟨qs, _, hqs, _⟩ := h.cs
  rcases hf with ⟨i, hi, hf⟩ | hf | hf
  · have hr := h.rp i hi
    obtain ⟨us, _, hus, _⟩ := hr.l
    obtain ⟨vs, _, hvs, _⟩ := hr.out
    obtain ⟨m, _, hm⟩ := hr.j.wh
    obtain ⟨m2, _, hm2⟩ := hr.j.sn
    rcases hf with rfl | (rfl | rfl | rfl) | hf | hf
    · exact h.l.ne_blk hr.blk (by decide) hk
    · exact h.l.ne_blk hr.j.blk (by decide) hk
    · exact Row.ne_map h.l hm hk
    · exact Row.ne_map h.l hm2 hk
    · exact Row.ne_row h.l hus (by decide) hk hf
    · exact Row.ne_row h.l hvs (by decide) hk hf
  · exact Row.ne_row h.l hps (by decide) hk hf
  · exact Row.ne_row h.l hqs (by decide) hk hf
/-- The row of configurations is nobody else's. -/
theorem ChAt.cvF (h : ChAt w n B L x) : ∀ k, L.cv.ownBlock = some k → ¬ (ChR n L k ∨ L.uv.ownBlock = some k) := by
  intro k hk hf
  obtain ⟨ps, _, hps, _⟩ := h.un
  obtain ⟨qs, _, hqs, _⟩ := h.cs
  rcases hf with ⟨i, hi, hf⟩ | hf
  · have hr := h.rp i hi
    obtain ⟨us, _, hus, _⟩ := hr.l
    obtain ⟨vs, _, hvs, _⟩ := hr.out
    obtain ⟨m, _, hm⟩ := hr.j.wh
    obtain ⟨m2, _, hm2⟩ := hr.j.sn
    rcases hf with rfl | (rfl | rfl | rfl) | hf | hf
    · exact hqs.ne_blk hr.blk (by decide) hk
    · exact hqs.ne_blk hr.j.blk (by decide) hk
    · exact Row.ne_map hqs hm hk
    · exact Row.ne_map hqs hm2 hk
    · exact Row.ne_row hqs hus (by decide) hk hf
    · exact Row.ne_row hqs hvs (by decide) hk hf
  · exact Row.ne_row hqs hps (by decide) hk hf
/-- One replica turns. -/
theorem ChAt.setRp (h : ChAt w n B L x) {i C : Nat} (hi : i < n) {r : Rpl} (hp : RpPost w (L.rp i) C (L.rl i) r w') (hC : B ≤ C) :
    ∃ L1, ChAt w' n C { L with rl := setD L.rl i L1 } { x with rp := setD x.rp i r } ∧ (∀ k, ChF n { L with rl := setD L.rl i L1 } k → ChF n L k ∨ w.heap.size ≤ k) ∧ Upd (ChF n L) w w' := by
  obtain ⟨L1, h1, h2, h3⟩ := hp
  have hr := h.rp i hi
  have hW := hr.offW
  have hI := hr.offI
  have hnot : ∀ j, j < n → j ≠ i → ∀ k, RpF (L.rp j) (L.rl j) k → ¬ RpF (L.rp i) (L.rl i) k := fun j hj hji => h.dj j i hj hi hji
  refine ⟨L1, ⟨h.l.upd h3 (fun k hk hf => h.lvF k hk (.inl ⟨i, hi, hf⟩)), h.un.upd h3 (fun k hk hf => h.out k ⟨i, hi, hf⟩ hk) hW, h.cs.upd h3 (fun k hk hf => h.cvF k hk (.inl ⟨i, hi, hf⟩)) hI, fun j hj => ?_, fun j k hj hk hjk b hb hb2 => ?_, ?_⟩, ?_, h3.mono (fun k _ hk => .inl ⟨i, hi, hk⟩)⟩
  · dsimp only
    by_cases hji : j = i
    · subst hji; rw [setD_same, setD_same]; exact h1
    · rw [setD_ne _ _ hji, setD_ne _ _ hji]
      exact ((h.rp j hj).upd h3 (fun k hk => hnot j hj hji k hk) hW hI).mono hC
  · dsimp only at hb hb2
    by_cases hji : j = i <;> by_cases hki : k = i
    · exact hjk (hji.trans hki.symm)
    · rw [hji, setD_same] at hb
      rw [setD_ne _ _ hki] at hb2
      rcases h2 b hb with hb3 | hb3
      · exact h.dj i k hi hk (fun e => hki e.symm) b hb3 hb2
      · have := (h.rp k hk).lt b hb2; omega
    · rw [setD_ne _ _ hji] at hb
      rw [hki, setD_same] at hb2
      rcases h2 b hb2 with hb3 | hb3
      · exact h.dj j i hj hi hji b hb hb3
      · have := (h.rp j hj).lt b hb; omega
    · rw [setD_ne _ _ hji] at hb
      rw [setD_ne _ _ hki] at hb2
      exact h.dj j k hj hk hjk b hb hb2
  · rintro k ⟨j, hj, hk⟩ hu
    dsimp only at hk hu
    by_cases hji : j = i
    · rw [hji, setD_same] at hk
      rcases h2 k hk with hk3 | hk3
      · exact h.out k ⟨i, hi, hk3⟩ hu
      · have := (h.un.lt k hu).2; omega
    · rw [setD_ne _ _ hji] at hk
      exact h.out k ⟨j, hj, hk⟩ hu
  · rintro k (⟨j, hj, hk⟩ | hk | hk)
    · dsimp only at hk
      by_cases hji : j = i
      · rw [hji, setD_same] at hk
        exact (h2 k hk).imp (fun h => .inl ⟨i, hi, h⟩) (fun h => h)
      · rw [setD_ne _ _ hji] at hk
        exact .inl (.inl ⟨j, hj, hk⟩)
    · exact .inl (.inr (.inl hk))
    · exact .inl (.inr (.inr hk))
theorem ChAt.node (h : ChAt w n B L x) {i : Nat} (hi : i < n) : ∃ b off c, L.lv = .slice (some ⟨b, off, none⟩) n c ∧ n ≤ c ∧ w.cell? ⟨b, off + i, none⟩ = some (.pointer (some ⟨L.rp i, 0, none⟩)) ∧ b < w.heap.size := by
  have hne : (List.range n).map L.rp ≠ [] := fun e => by have := congrArg List.length e; simp at this; omega
  obtain ⟨b, off, c, hv, _, hr⟩ := h.l.at_ hne
  have hl := hr.len.1
  have := hr.cell ptrOk (k := i) (x := L.rp i) (by simp [hi]) (j := 0) rfl
  simp at hv hl this
  exact ⟨b, off, c, hv, hl, this, hr.lt⟩
end
end Go.Proofs.YtecniafnihpjmaaGreatDoor

/- Chapter 24 (replica): the law's gather. Printed by genRpG.py. -/
namespace Go.Proofs.YtecniafnihpjmaaGreatDoor
open Go.RowKit Go.Lap C
set_option linter.unusedVariables false
set_option linter.unusedSimpArgs false
section
variable {w w' W wa : World} {S : Nat → Prop} {n B D a : Nat} {L : ChL} {x : Chn}
theorem Blk3G {w : World} {g t : Nat} {a b c : Value} (h : Blk w g t #[a, b, c]) : g < w.heap.size ∧ w.cell? ⟨g, 0, none⟩ = some a ∧ w.cell? ⟨g, 1, none⟩ = some b ∧ w.cell? ⟨g, 2, none⟩ = some c ∧ (∀ i, w.frozen? ⟨g, i, none⟩ = false) := ⟨h.lt, h.cell 0, h.cell 1, h.cell 2, h.frozen⟩
/-- A box of the law's own type is none of the chain's blocks. -/
theorem ChAt.boxF (h : ChAt w n B L x) {cs : Array Value} (hb : Blk w a 64 cs) : ¬ ChF n L a ∧ L.lv.ownBlock ≠ some a :=
  ⟨h.off (by decide) (by decide) (by decide) (by decide) (by decide) a cs hb, h.l.ne_blk hb (by decide)⟩
theorem ChAt.box (h : ChAt w n B L x) {cs : Array Value} (hb : Blk w a 64 cs) (hu : Upd (· = a) w w') : ChAt w' n B L x :=
  h.upd hu (fun k hk e => (h.boxF hb).1 (e ▸ hk)) (fun k hk e => (h.boxF hb).2 (e ▸ hk)) (Off.blk hb (by decide)) (Off.blk hb (by decide))
/-- The notes turn. -/
theorem ChAt.setUn (h : ChAt w n B L x) {v : Value} {u : List Nt} (hu : NtRow w' 0 v u) (hg : w.grownBy w' L.uv.ownBlock) (hv : v.ownBlock = L.uv.ownBlock ∨ v.ownBlock = some w.heap.size) :
    ChAt w' n B { L with uv := v } { x with un := u } ∧ (∀ k, ChF n { L with uv := v } k → ChF n L k ∨ w.heap.size ≤ k) ∧ Upd (ChF n L) w w' := by
  obtain ⟨ps, _, hps, _⟩ := h.un
  obtain ⟨qs, _, hqs, _⟩ := h.cs
  have hup : Upd (fun k => L.uv.ownBlock = some k) w w' := (Upd.refl _ w).grown hg (fun k _ e => e)
  have hW : Off w 97 (fun k => L.uv.ownBlock = some k) := Off.row hps (by decide)
  have hI : Off w 3 (fun k => L.uv.ownBlock = some k) := Off.row hps (by decide)
  refine ⟨⟨h.l.upd hup (fun k hk e => Row.ne_row h.l hps (by decide) hk e), hu, h.cs.upd hup (fun k hk e => Row.ne_row hqs hps (by decide) hk e) hI, fun i hi => (h.rp i hi).upd hup (fun k hk e => h.out k ⟨i, hi, hk⟩ e) hW hI, h.dj, fun k hk e => ?_⟩, ?_, hup.mono (fun k _ e => .inr (.inl e))⟩
  · rcases hv with hv | hv
    · dsimp only at e; rw [hv] at e; exact h.out k hk e
    · dsimp only at e; rw [hv] at e; cases e
      obtain ⟨i, hi, hk⟩ := hk
      have := (h.rp i hi).lt _ hk
      omega
  · rintro k (hk | hk | hk)
    · exact .inl (.inl hk)
    · dsimp only at hk
      rcases hv with hv | hv
      · rw [hv] at hk; exact .inl (.inr (.inl hk))
      · rw [hv] at hk; cases hk; exact .inr (Nat.le_refl _)
    · exact .inl (.inr (.inr hk))
def Chn.gatK (x : Chn) (k : Nat) : Chn := ⟨fun i => if i < k then { x.rp i with out := [] } else x.rp i, x.un ++ x.outs k, x.cs⟩
theorem gatK_next (x : Chn) (k : Nat) : ({ (({ x.gatK k with rp := setD (x.gatK k).rp k { (x.gatK k).rp k with out := [] } }) : Chn) with un := (x.gatK k).un ++ ((x.gatK k).rp k).out } : Chn) = x.gatK (k + 1) := by
  have hk : (x.gatK k).rp k = x.rp k := by unfold Chn.gatK; dsimp only; rw [if_neg (Nat.lt_irrefl k)]
  rw [hk]
  unfold Chn.gatK Chn.outs
  dsimp only
  congr 1
  · funext i
    unfold setD
    by_cases h1 : i = k
    · subst h1; rw [if_pos rfl, if_pos (Nat.lt_succ_self i)]
    · rw [if_neg h1]
      dsimp only
      by_cases h2 : i < k
      · rw [if_pos h2, if_pos (by omega)]
      · rw [if_neg h2, if_neg (by omega)]
  · rw [List.range_succ, List.flatMap_append, List.append_assoc]; simp
theorem gatK_zero (x : Chn) : x.gatK 0 = x := by unfold Chn.gatK Chn.outs; simp
/-- What a step of the law leaves. -/
def ChPost (w : World) (n C : Nat) (L : ChL) (x : Chn) (L' : ChL) (w' : World) : Prop := ChAt w' n C L' x ∧ L'.lv = L.lv ∧ L'.rp = L.rp ∧ (∀ k, ChF n L' k → ChF n L k ∨ w.heap.size ≤ k) ∧ Upd (ChF n L) w w'
theorem ChPost.refl (h : ChAt w n B L x) : ChPost w n B L x L w := ⟨h, rfl, rfl, fun _ h => .inl h, Upd.refl _ _⟩
theorem ChPost.trans {y : Chn} {C : Nat} {L1 L2 : ChL} (h1 : ChPost w n B L x L1 W) (h2 : ChPost W n C L1 y L2 wa) : ChPost w n C L y L2 wa := by
  obtain ⟨a1, a2, a3, a4, a5⟩ := h1
  obtain ⟨b1, b2, b3, b4, b5⟩ := h2
  refine ⟨b1, b2.trans a2, b3.trans a3, fun k hk => ?_, a5.trans b5 (fun k hlt hk => (a4 k hk).resolve_right (by omega))⟩
  rcases b4 k hk with h | h
  · exact a4 k h
  · exact .inr (Nat.le_trans a5.size h)
theorem ChPost.mono {C : Nat} {L1 : ChL} (h : ChPost w n B L x L1 W) (hC : B ≤ C) : ChPost w n C L x L1 W := ⟨h.1.mono hC, h.2⟩
theorem ChPost.pre {L1 : ChL} (hn : New w W) (h : ChPost W n B L x L1 wa) : ChPost w n B L x L1 wa := ⟨h.1, h.2.1, h.2.2.1, fun k hk => (h.2.2.2.1 k hk).imp id (fun h => Nat.le_trans hn.size h), (Upd.new hn).trans h.2.2.2.2 (fun _ _ h => h)⟩
theorem ChPost.setRp (h : ChAt w n B L x) {i C : Nat} (hi : i < n) {r : Rpl} (hp : RpPost w (L.rp i) C (L.rl i) r w') (hC : B ≤ C) : ∃ L', ChPost w n C L { x with rp := setD x.rp i r } L' w' ∧ L'.uv = L.uv ∧ L'.cv = L.cv ∧ ∀ j, j ≠ i → L'.rl j = L.rl j := by
  obtain ⟨L1, h1, h2, h3⟩ := h.setRp hi hp hC
  exact ⟨_, ⟨h1, rfl, rfl, h2, h3⟩, rfl, rfl, fun j hj => setD_ne _ _ hj⟩
theorem OutPost.rp {rp : Nat} {R : RpL} {r : Rpl} {e : Ending} (h : OutPost w rp B R r e w') : RpPost w rp B R { r with out := [] } w' := by
  obtain ⟨_, h2, h3, _⟩ := h
  exact ⟨_, h2, fun k hk => .inl (hk.imp id (fun h => h.imp id (fun h => h.imp id (fun h => by cases h)))), h3.mono (fun _ _ e => .inl e)⟩
structure GatRel (w W : World) (a n B : Nat) (L : ChL) (x : Chn) (L1 : ChL) (wr : World) : Prop where
  po : Upd (fun b => ChF n L b ∨ b = a) W wr
  at_ : ChAt wr n B L1 x
  lv : L1.lv = L.lv
  cv : L1.cv = L.cv
  rp : L1.rp = L.rp
  ks : ∀ k, ChF n L1 k → ChF n L k ∨ W.heap.size ≤ k
  bx : Blk wr a 64 #[L.lv, L1.uv, L.cv]
  rs : Blk wr (a + 1) 64 #[.slice none 0 0, .slice none 0 0, .slice none 0 0]
theorem Chn.outs_len (x : Chn) {n B : Nat} (h : ∀ i, i < n → (x.rp i).out.length ≤ B) : ∀ k, k ≤ n → (x.outs k).length ≤ k * B
  | 0, _ => by simp [Chn.outs]
  | k + 1, hk => by
    have := Chn.outs_len x h k (by omega)
    have h2 := h k (by omega)
    unfold Chn.outs at *
    rw [List.range_succ, List.flatMap_append, List.length_append, Nat.add_mul]
    simp at *
    omega
theorem takeNt {base : Nat} {A : Option Addr} {m c : Nat} {l : List Nt} (h : NtRow w base (.slice A m c) l) {k : Nat} (hk : k ≤ l.length) (hkc : k ≤ c) : NtRow w base (.slice A k c) (l.take k) := by
  obtain ⟨ps, rfl, h2, h3⟩ := h
  rw [List.length_map] at hk
  exact ⟨ps.take k, by rw [List.map_take], h2.take NtV.encOk hk hkc (Nat.le_refl _), fun p hp => h3 p (List.mem_of_mem_take hp)⟩
theorem GatRel.step {y : Chn} {L1 L5 L7 : ChL} {wr w5 w7 w8 : World} {x5 : Chn} {v7 : Value} (h : GatRel w W a n B L x L1 wr) (h5 : ChPost wr n B L1 x5 L5 w5) (hcv : L5.cv = L1.cv) (h7 : ChAt w7 n B L7 y) (h7l : L7.lv = L5.lv) (h7c : L7.cv = L5.cv) (h7r : L7.rp = L5.rp) (h7u : L7.uv = v7)
    (hk7 : ∀ k, ChF n L7 k → ChF n L5 k ∨ w5.heap.size ≤ k) (hu7 : Upd (ChF n L5) w5 w7) (hw8 : w8 = w7.setCell ⟨a, 1, none⟩ v7) : GatRel w W a n B L y L7 w8 := by
  obtain ⟨p1, p2, p3, p4, p5⟩ := h5
  have b1 := h.at_.boxF h.bx
  have hb5 := h.bx.upd p5 b1.1
  have hb7 := hb5.upd hu7 (p1.boxF hb5).1
  have c5 := h.rs.upd p5 (h.at_.boxF h.rs).1
  have c7 := c5.upd hu7 (p1.boxF c5).1
  have hu8 : Upd (· = a) w7 w8 := by rw [hw8]; exact (Upd.refl _ w7).setIn 1 _
  have ks5 : ∀ k, ChF n L5 k → ChF n L k ∨ W.heap.size ≤ k := fun k hk => (p4 k hk).elim (h.ks k) (fun hh => .inr (Nat.le_trans h.po.size hh))
  refine ⟨?_, h7.box hb7 hu8, h7l.trans (p2.trans h.lv), h7c.trans (hcv.trans h.cv), h7r.trans (p3.trans h.rp), fun k hk => (hk7 k hk).elim (ks5 k) (fun hh => .inr (Nat.le_trans h.po.size (Nat.le_trans p5.size hh))), ?_, c7.upd hu8 (by omega)⟩
  · refine ((h.po.trans p5 (fun i hi hk => .inl ((h.ks i hk).resolve_right (by omega)))).trans hu7 (fun i hi hk => .inl ((ks5 i hk).resolve_right (by omega)))).trans hu8 (fun i _ e => .inr e)
  · rw [hw8, h7u]; exact hb7.set_ 1 v7
/-- What the law's functions on chains answer. -/
def ChRet (w : World) (n C : Nat) (L : ChL) (x : Chn) (e : Ending) (w' : World) : Prop := ∃ L', e = .returned (.agg #[L'.lv, L'.uv, L'.cv]) ∧ ChPost w n C L x L' w'
theorem gatK_rp (x : Chn) : ∀ i, i < n → (x.gatK n).rp i = (x.gather n).rp i := fun i hi => by
  unfold Chn.gatK
  dsimp only
  rw [if_pos hi]
  rfl
theorem GatRel.cut {L1 : ChL} {wr : World} {A : Option Addr} {m c : Nat} (h : GatRel w W a n B L x L1 wr) (hu : L1.uv = .slice A m c) (h3 : 300 ≤ x.un.length) (hc : 300 ≤ c) : GatRel w W a n B L { x with un := x.un.take 300 } { L1 with uv := .slice A 300 c } (wr.setCell ⟨a, 1, none⟩ (.slice A 300 c)) := by
  have hu8 : Upd (· = a) wr (wr.setCell ⟨a, 1, none⟩ (.slice A 300 c)) := (Upd.refl _ wr).setIn 1 _
  have hb := h.at_.box h.bx hu8
  have hown : ∀ k, (Value.slice A 300 c).ownBlock = some k → L1.uv.ownBlock = some k := fun k hk => by rw [hu]; cases A <;> exact hk
  have hun := hb.un
  rw [hu] at hun
  refine ⟨h.po.trans hu8 (fun i _ e => .inr e), ⟨hb.l, takeNt hun h3 hc, hb.cs, hb.rp, hb.dj, fun k hk e => hb.out k hk (hown k e)⟩, h.lv, h.cv, h.rp, ?_, h.bx.set_ 1 _, h.rs.upd hu8 (by omega)⟩
  rintro k (hk | hk | hk)
  · exact h.ks k (.inl hk)
  · exact h.ks k (.inr (.inl (hown k hk)))
  · exact h.ks k (.inr (.inr hk))
theorem ChAt.congr {y : Chn} (h : ChAt w n B L x) (hr : ∀ i, i < n → y.rp i = x.rp i) (hu : x.un = y.un) (hc : y.cs = x.cs) : ChAt w n B L y :=
  ⟨h.l, by rw [← hu]; exact h.un, by rw [hc]; exact h.cs, fun i hi => by rw [hr i hi]; exact h.rp i hi, h.dj, h.out⟩
theorem gatEnd {x2 : Chn} {A1 A2 A3 : Option Addr} {n1 n2 n3 c1 c2 c3 : Nat} {L1 : ChL} {wr : World} {u v z : Value} (hn : New w W) (h : GatRel w W w.heap.size n B L x2 L1 wr) (hl : L.lv = .slice A1 n1 c1) (hu : L1.uv = .slice A2 n2 c2) (hc : L.cv = .slice A3 n3 c3) (hr2 : ∀ i, i < n → x2.rp i = (x.gather n).rp i) (hc2 : x2.cs = x.cs) (ht : x2.un = (x.gather n).un) :
    ChRet w n B L (x.gather n) (.returned (.agg #[.slice A1 n1 c1, .slice A2 n2 c2, .slice A3 n3 c3])) (((wr.setCell ⟨w.heap.size + 1, 0, none⟩ u).setCell ⟨w.heap.size + 1, 1, none⟩ v).setCell ⟨w.heap.size + 1, 2, none⟩ z) := by
  have hu9 : Upd (· = w.heap.size + 1) wr (((wr.setCell ⟨w.heap.size + 1, 0, none⟩ u).setCell ⟨w.heap.size + 1, 1, none⟩ v).setCell ⟨w.heap.size + 1, 2, none⟩ z) := (((Upd.refl _ wr).setIn 0 _).setIn 1 _).setIn 2 _
  refine ⟨L1, by rw [h.lv, h.cv, hl, hu, hc], ?_, h.lv, h.rp, fun k hk => (h.ks k hk).imp id (fun hh => Nat.le_trans hn.size hh), ?_⟩
  · exact (h.at_.box h.rs hu9).congr (fun i hi => (hr2 i hi).symm) ht hc2.symm
  · exact ((Upd.new hn).trans h.po (fun i hi hk => hk.resolve_right (by omega))).trans hu9 (fun i hi e => by omega)
set_option maxRecDepth 100000 in
set_option maxHeartbeats 8000000 in
theorem gather_any (h : ChAt w n B L x) (hn : n ≤ 7) (hB : B ≤ 1000000) (hu : x.un.length ≤ 1000) :
    Calls Tryz.prog 29 #[.agg #[L.lv, L.uv, L.cv]] w (ChRet w n B L (x.gather n)) := by
  have hN := ((New.refl w).alloc (.cells #[L.lv, L.uv, L.cv] 64)).alloc (.cells #[.slice none 0 0, .slice none 0 0, .slice none 0 0] 64)
  have hM := (Blk.mk_new w 64 #[L.lv, L.uv, L.cv]).alloc (.cells #[.slice none 0 0, .slice none 0 0, .slice none 0 0] 64)
  have hZ := Blk.mk_new (w.alloc (.cells #[L.lv, L.uv, L.cv] 64)) 64 #[.slice none 0 0, .slice none 0 0, .slice none 0 0]
  rw [World.size_alloc] at hZ
  have HLT := Lib.hid h.lt
  have HN := Lib.hid hN
  have hout := fun i hi => (h.rp i hi).ol
  have HOL := Lib.hid (Chn.outs_len x hout)
  obtain ⟨Al, nl, cl0, hlv⟩ := h.l.shp
  have HREL : Hid (GatRel w ((w.alloc (.cells #[L.lv, L.uv, L.cv] 64)).alloc (.cells #[.slice none 0 0, .slice none 0 0, .slice none 0 0] 64)) w.heap.size n B L (x.gatK 0) L ((w.alloc (.cells #[L.lv, L.uv, L.cv] 64)).alloc (.cells #[.slice none 0 0, .slice none 0 0, .slice none 0 0] 64))) :=
    Lib.hid ⟨Upd.refl _ _, by rw [gatK_zero]; exact h.new hN, rfl, rfl, rfl, fun _ h => .inl h, hM, hZ⟩
  obtain ⟨q0, q1, q2, q3, qz⟩ := Blk3G hM
  have hln : L.lv = .slice Al n cl0 := by obtain ⟨a, c, e⟩ := h.l.shape; rw [hlv] at e; cases e; simp [hlv]
  have HLN := Lib.hid hln
  clear h hN hM hZ hout hlv hln
  go_enter Tryz.func29, Tryz.ntmps29
  go_upto_region 1 with fail
  generalize (w.alloc _).alloc _ = W at *
  go_wp2_with fail
  go_loopw [3] (fun i wr => ∃ (k : Nat) (L1 : ChL), k ≤ n ∧ i = .int .i64 (k : Int) ∧ GatRel w W w.heap.size n B L (x.gatK k) L1 wr) (fun i _ => n - (intOf i).toNat)
  case atStart => exact ⟨0, L, Nat.zero_le _, rfl, HREL.out⟩
  case round =>
    obtain ⟨k, L1, hk, rfl, hr⟩ := hrel
    have HR := Lib.hid hr
    clear q0 q1 q2 q3 qz HREL
    obtain ⟨q0, q1, q2, q3, qz⟩ := Blk3G hr.bx
    rw [HLN.out] at q1
    have hk0 : (0 : Int) ≤ (k : Int) := by omega
    by_cases hlt : k < n
    · have hlt2 : (k : Int) < (n : Int) := by omega
      obtain ⟨b, off, c, hv, hc, e0, hb⟩ := hr.at_.node hlt
      rw [hr.lv, HLN.out] at hv
      cases hv
      have HRK := Lib.hid (hr.at_.rp k hlt)
      have hul : (x.gatK k).un.length ≤ 1000 + k * B := by have := HOL.out k hk; show (x.un ++ x.outs k).length ≤ _; rw [List.length_append]; omega
      have hkB : k * B ≤ 7 * 1000000 := Nat.mul_le_mul (by omega) hB
      have HBX := Lib.hid hr.bx
      have HUL := Lib.hid (And.intro hul hkB)
      have HBF := Lib.hid (hr.at_.boxF hr.bx)
      have HLV : Hid (L1.lv.ownBlock = some b) := Lib.hid (by rw [hr.lv, HLN.out]; rfl)
      have hbne : ¬ b = w.heap.size := fun e => (hr.at_.boxF hr.bx).2 (by rw [HLV.out, e])
      clear hr hul hkB
      go_wp2_with fail
      go_upto_region 4 with fail
      refine wp_region_held_drew (S := fun w' => w'.cell? ⟨w.heap.size, 0, none⟩ = some (.slice (some ⟨b, off, none⟩) n cl0) ∧ w'.cell? ⟨b, off + k, none⟩ = some (.pointer (some ⟨L1.rp k, 0, none⟩))) (by kernel_rfl) (⟨q1, e0⟩) (fun hHeld => ?_)
      refine tkN (i := 0) rfl ?_
      try simp only [Act.put, sA, sZ, sS]
      refine tkN (i := 2) rfl ?_
      try simp only [Act.put, sA, sZ, sS]
      refine tkN (i := 3) rfl ?_
      try simp only [Act.put, sA, sZ, sS]
      refine tkN (i := 4) rfl ?_
      try simp only [Act.put, sA, sZ, sS]
      refine tkN (i := 5) rfl ?_
      try simp only [Act.put, sA, sZ, sS]
      refine tkN (i := 6) rfl ?_
      try simp only [Act.put, sA, sZ, sS]
      refine wpAnyH_ready (rs := [1, 7]) (by kernel_rfl) (by simp) ?_
      refine rdN rfl (fun K hK => ?_) (rdN rfl (fun K hK => ?_) AllReadyH.nil)
      · go_simp
        refine hK.out _ _ ?_ (fun hHeld => ?_)
        · exact hHeld
        clear hK K
        try simp only [Act.put, sA, sZ, sS]
        refine stN (i := 7) rfl (fun K hK => ?_)
        go_simp
        have ho := rout (HRK.out.new (New.refl wr).drew)
        refine ho.mono ?_
        rintro e w5 hpo
        have hrp5 := OutPost.rp hpo
        obtain ⟨rfl, -, hu5, hnt5⟩ := hpo
        obtain ⟨L5, hch5, huv5, hcv5, -⟩ := ChPost.setRp (HR.out.at_.new (New.refl wr).drew) hlt hrp5 (Nat.le_refl _)
        have hua : ¬ w.heap.size = L1.rp k := fun e => HBF.out.1 (.inl ⟨k, hlt, .inl e⟩)
        have hub : ¬ b = L1.rp k := fun e => HR.out.at_.lvF b HLV.out (.inl ⟨k, hlt, .inl e⟩)
        have k0 := fun o => keepR hu5 (show w.heap.size < wr.drew.heap.size from q0) hua o
        have k1 := fun o => keepR hu5 (show b < wr.drew.heap.size from hb) hub o
        have HB5 := Lib.hid (HBX.out.drew.upd hu5 hua)
        have HCH5 := Lib.hid hch5
        have HUV5 := Lib.hid huv5
        have HCV5 := Lib.hid hcv5
        have HNT5 := Lib.hid hnt5
        have HU5 := Lib.hid hu5
        have m0 := (k0 0).trans q1
        have m1 := (k0 1).trans q2
        have m2 := (k1 (off + k)).trans e0
        have hz5 : w.heap.size < w5.heap.size := HB5.out.lt
        have hb5 : b < w5.heap.size := Nat.lt_of_lt_of_le hb hu5.size
        clear ho hrp5 hch5 huv5 hcv5 hnt5 hu5 hua hub k0 k1
        refine hK.out _ _ ?_ (fun hHeld => ?_)
        · exact ⟨m0, m2⟩
        clear hK K
        try simp only [Act.put, sA, sZ, sS]
        refine stN (i := 8) rfl (fun K hK => ?_)
        obtain ⟨us, hus, hru, huA⟩ := HCH5.out.1.un
        rw [HUV5.out] at hru
        obtain ⟨os, hos, hro, hoA⟩ := HNT5.out
        have hul : us.length ≤ 1000 + k * B := by have := HUL.out.1; rw [← hus, List.length_map] at this; exact this
        have hol : os.length ≤ B := by have := HRK.out.ol; rw [← hos, List.length_map] at this; exact this
        have hkB := HUL.out.2
        refine step_appR (m := os) ntTy NtV.encOk rfl (.tmp 12) (.tmp 18) rfl rfl rfl hru (Row.slIn NtV.encOk hro) (by unfold maxLen; omega) (by omega) (Nat.zero_le _) ?_
        intro v7 w7 h7 hg7 hv7
        have hou : Upd (fun i => L1.uv.ownBlock = some i) w5 w7 := (Upd.refl _ w5).grown hg7 (fun i _ e => e)
        have hn7 : NtRow w7 0 v7 ((x.gatK k).un ++ ((x.gatK k).rp k).out) := ⟨us ++ os, by rw [List.map_append, hus, hos], h7, fun p hp => (List.mem_append.1 hp).elim (fun hp => (huA p hp).upd hou (Off.row hru (by decide))) (fun hp => (hoA p hp).upd hou (Off.row hru (by decide)))⟩
        obtain ⟨hch7, hks7, hup7⟩ := HCH5.out.1.setUn hn7 (by rw [HUV5.out]; exact hg7) (by rw [HUV5.out]; exact hv7)
        obtain ⟨A7, n7, c7, hs7⟩ := h7.shp
        have hua : ¬ L1.uv.ownBlock = some w.heap.size := fun e => hru.ne_blk HB5.out (by decide) e
        have hub : ¬ L1.uv.ownBlock = some b := fun e => HR.out.at_.lvF b HLV.out (.inr (.inl e))
        have r0 := (keepR hou hz5 hua 0).trans m0
        have r1 := (keepR hou hz5 hua 1).trans m1
        have r2 := (keepR hou hb5 hub (off + k)).trans m2
        have hfz : ∀ i, w7.frozen? ⟨w.heap.size, i, none⟩ = false := (HB5.out.upd hou hua).frozen
        have gl : w.heap.size < w7.heap.size := Nat.lt_of_lt_of_le hz5 hou.size
        rw [gatK_next] at hch7
        rw [hs7] at hch7 hks7
        have HCH7 := Lib.hid hch7
        have HKS7 := Lib.hid hks7
        have HUP7 := Lib.hid hup7
        have HS7 := Lib.hid hs7
        rw [hs7]
        clear hus hru huA hos hro hoA hul hol hkB h7 hg7 hv7 hou hn7 hch7 hks7 hup7 hs7 hua hub
        refine hK.out _ _ ?_ (fun hHeld => ?_)
        · exact ⟨r0, r2⟩
        clear hK K
        try simp only [Act.put, sA, sZ, sS]
        refine tkN (i := 9) rfl ?_
        try simp only [Act.put, sA, sZ, sS]
        refine stN (i := 10) rfl (fun K hK => ?_)
        go_simp
        have s0 := cell_ne (u := .slice A7 n7 c7) (i := 1) r0 (by decide)
        have s2 := cell_far (u := .slice A7 n7 c7) (i := 1) r2 hbne
        refine hK.out _ _ ?_ (fun hHeld => ?_)
        · exact ⟨s0, s2⟩
        clear hK K
        try simp only [Act.put, sA, sZ, sS]
        refine wpAnyH_done (by kernel_rfl) ?_ _
        clear hHeld
        have HG : Hid (GatRel w W w.heap.size n B L (x.gatK (k + 1)) { L5 with uv := .slice A7 n7 c7 } (w7.setCell ⟨w.heap.size, 1, none⟩ (.slice A7 n7 c7))) := Lib.hid (HR.out.step (ChPost.pre (New.refl wr).drew HCH5.out) HCV5.out HCH7.out rfl rfl rfl rfl HKS7.out HUP7.out rfl)
        go_wp2_with fail
        go_roundw
        case rel => exact ⟨k + 1, _, by omega, by go_num, HG.out⟩
        case measure => simp [intOf]; omega
      · go_simp
        have ho := rout (HRK.out.new (New.refl wr).drew)
        refine ho.mono ?_
        rintro e w5 hpo
        have hrp5 := OutPost.rp hpo
        obtain ⟨rfl, -, hu5, hnt5⟩ := hpo
        obtain ⟨L5, hch5, huv5, hcv5, -⟩ := ChPost.setRp (HR.out.at_.new (New.refl wr).drew) hlt hrp5 (Nat.le_refl _)
        have hua : ¬ w.heap.size = L1.rp k := fun e => HBF.out.1 (.inl ⟨k, hlt, .inl e⟩)
        have hub : ¬ b = L1.rp k := fun e => HR.out.at_.lvF b HLV.out (.inl ⟨k, hlt, .inl e⟩)
        have k0 := fun o => keepR hu5 (show w.heap.size < wr.drew.heap.size from q0) hua o
        have k1 := fun o => keepR hu5 (show b < wr.drew.heap.size from hb) hub o
        have HB5 := Lib.hid (HBX.out.drew.upd hu5 hua)
        have HCH5 := Lib.hid hch5
        have HUV5 := Lib.hid huv5
        have HCV5 := Lib.hid hcv5
        have HNT5 := Lib.hid hnt5
        have HU5 := Lib.hid hu5
        have m0 := (k0 0).trans q1
        have m1 := (k0 1).trans q2
        have m2 := (k1 (off + k)).trans e0
        have hz5 : w.heap.size < w5.heap.size := HB5.out.lt
        have hb5 : b < w5.heap.size := Nat.lt_of_lt_of_le hb hu5.size
        clear ho hrp5 hch5 huv5 hcv5 hnt5 hu5 hua hub k0 k1
        refine hK.out _ _ ?_ (fun hHeld => ?_)
        · exact ⟨m0, m2⟩
        clear hK K
        try simp only [Act.put, sA, sZ, sS]
        refine stN (i := 1) rfl (fun K hK => ?_)
        go_simp
        refine hK.out _ _ ?_ (fun hHeld => ?_)
        · exact hHeld
        clear hK K
        try simp only [Act.put, sA, sZ, sS]
        refine stN (i := 8) rfl (fun K hK => ?_)
        obtain ⟨us, hus, hru, huA⟩ := HCH5.out.1.un
        rw [HUV5.out] at hru
        obtain ⟨os, hos, hro, hoA⟩ := HNT5.out
        have hul : us.length ≤ 1000 + k * B := by have := HUL.out.1; rw [← hus, List.length_map] at this; exact this
        have hol : os.length ≤ B := by have := HRK.out.ol; rw [← hos, List.length_map] at this; exact this
        have hkB := HUL.out.2
        refine step_appR (m := os) ntTy NtV.encOk rfl (.tmp 12) (.tmp 18) rfl rfl rfl hru (Row.slIn NtV.encOk hro) (by unfold maxLen; omega) (by omega) (Nat.zero_le _) ?_
        intro v7 w7 h7 hg7 hv7
        have hou : Upd (fun i => L1.uv.ownBlock = some i) w5 w7 := (Upd.refl _ w5).grown hg7 (fun i _ e => e)
        have hn7 : NtRow w7 0 v7 ((x.gatK k).un ++ ((x.gatK k).rp k).out) := ⟨us ++ os, by rw [List.map_append, hus, hos], h7, fun p hp => (List.mem_append.1 hp).elim (fun hp => (huA p hp).upd hou (Off.row hru (by decide))) (fun hp => (hoA p hp).upd hou (Off.row hru (by decide)))⟩
        obtain ⟨hch7, hks7, hup7⟩ := HCH5.out.1.setUn hn7 (by rw [HUV5.out]; exact hg7) (by rw [HUV5.out]; exact hv7)
        obtain ⟨A7, n7, c7, hs7⟩ := h7.shp
        have hua : ¬ L1.uv.ownBlock = some w.heap.size := fun e => hru.ne_blk HB5.out (by decide) e
        have hub : ¬ L1.uv.ownBlock = some b := fun e => HR.out.at_.lvF b HLV.out (.inr (.inl e))
        have r0 := (keepR hou hz5 hua 0).trans m0
        have r1 := (keepR hou hz5 hua 1).trans m1
        have r2 := (keepR hou hb5 hub (off + k)).trans m2
        have hfz : ∀ i, w7.frozen? ⟨w.heap.size, i, none⟩ = false := (HB5.out.upd hou hua).frozen
        have gl : w.heap.size < w7.heap.size := Nat.lt_of_lt_of_le hz5 hou.size
        rw [gatK_next] at hch7
        rw [hs7] at hch7 hks7
        have HCH7 := Lib.hid hch7
        have HKS7 := Lib.hid hks7
        have HUP7 := Lib.hid hup7
        have HS7 := Lib.hid hs7
        rw [hs7]
        clear hus hru huA hos hro hoA hul hol hkB h7 hg7 hv7 hou hn7 hch7 hks7 hup7 hs7 hua hub
        refine hK.out _ _ ?_ (fun hHeld => ?_)
        · exact ⟨r0, r2⟩
        clear hK K
        try simp only [Act.put, sA, sZ, sS]
        refine tkN (i := 9) rfl ?_
        try simp only [Act.put, sA, sZ, sS]
        refine stN (i := 10) rfl (fun K hK => ?_)
        go_simp
        have s0 := cell_ne (u := .slice A7 n7 c7) (i := 1) r0 (by decide)
        have s2 := cell_far (u := .slice A7 n7 c7) (i := 1) r2 hbne
        refine hK.out _ _ ?_ (fun hHeld => ?_)
        · exact ⟨s0, s2⟩
        clear hK K
        try simp only [Act.put, sA, sZ, sS]
        refine wpAnyH_done (by kernel_rfl) ?_ _
        clear hHeld
        have HG : Hid (GatRel w W w.heap.size n B L (x.gatK (k + 1)) { L5 with uv := .slice A7 n7 c7 } (w7.setCell ⟨w.heap.size, 1, none⟩ (.slice A7 n7 c7))) := Lib.hid (HR.out.step (ChPost.pre (New.refl wr).drew HCH5.out) HCV5.out HCH7.out rfl rfl rfl rfl HKS7.out HUP7.out rfl)
        go_wp2_with fail
        go_roundw
        case rel => exact ⟨k + 1, _, by omega, by go_num, HG.out⟩
        case measure => simp [intOf]; omega
    · obtain rfl : k = n := by omega
      have hlt2 : ¬ (k : Int) < (k : Int) := by omega
      have hulen : (x.gatK k).un.length ≤ 1000 + k * B := by have := HOL.out k (Nat.le_refl _); show (x.un ++ x.outs k).length ≤ _; rw [List.length_append]; omega
      have hkB : k * B ≤ 7 * 1000000 := Nat.mul_le_mul (by omega) hB
      obtain ⟨Au, cu, hu1⟩ := hr.at_.un.shape
      obtain ⟨ps, hps, hrc, hca⟩ := hr.at_.cs
      obtain ⟨Ac, nc, cc, hc1⟩ := hrc.shp
      rw [hr.cv] at hc1
      have hgu : x.gather k = { x.gather k with un := (x.gatK k).un.take 300 } := rfl
      have HCV := Lib.hid hc1
      have HUV := Lib.hid hu1
      have hcu : (x.gatK k).un.length ≤ cu := by
        obtain ⟨qs, hqs, hrq, _⟩ := hr.at_.un
        rw [hu1] at hrq
        have := (hrq.slIn NtV.encOk).cap_le.1
        rw [← hqs, List.length_map]; exact this
      rw [hu1] at q2
      rw [hc1] at q3
      obtain ⟨s0, s1, s2, s3, sz⟩ := Blk3G hr.rs
      clear hps hrc hca hgu hu1 hc1 hr
      by_cases h300 : 300 < (x.gatK k).un.length
      case neg =>
        have hd : ¬ (300 : Int) < ((x.gatK k).un.length : Int) := by omega
        have HTK : Hid ((x.gatK k).un = (x.gather k).un) := Lib.hid (by show _ = (x.gatK k).un.take 300; rw [List.take_of_length_le (by omega)])
        clear h300
        go_wp2_with fail
        exact bodyPost_ret (v := .agg #[.slice Al k cl0, .slice Au (x.gatK k).un.length cu, .slice Ac nc cc]) (by simp [results, Tryz.results29, go_sem, s1, s2, s3]) rfl (gatEnd HN.out HR.out HLN.out HUV.out HCV.out (gatK_rp x) rfl HTK.out)
      case pos =>
        have hd : (300 : Int) < ((x.gatK k).un.length : Int) := by omega
        have hd2 : (300 : Int) ≤ (cu : Int) := by omega
        have hd3 : 300 ≤ cu := by omega
        have h3l : 300 ≤ (x.gatK k).un.length := by omega
        clear h300
        have HR2 := Lib.hid (HR.out.cut HUV.out h3l hd3)
        clear s0 s1 s2 s3 sz
        obtain ⟨s0, s1, s2, s3, sz⟩ := Blk3G HR2.out.rs
        have hb2 := HR2.out.bx
        obtain ⟨p0, p1, p2, p3, pz⟩ := Blk3G hb2
        rw [HLN.out] at p1
        rw [HCV.out] at p3
        clear hb2
        go_upto_region 7 with fail
        clear q0 q1 q2 q3 qz
        generalize wr.setCell ⟨w.heap.size, 1, none⟩ (.slice Au 300 cu) = w8 at *
        go_wp2_with fail
        exact bodyPost_ret (v := .agg #[.slice Al k cl0, .slice Au 300 cu, .slice Ac nc cc]) (by simp [results, Tryz.results29, go_sem, s1, s2, s3]) rfl (gatEnd HN.out HR2.out HLN.out rfl HCV.out (gatK_rp x) rfl rfl)
end
end Go.Proofs.YtecniafnihpjmaaGreatDoor

/- Chapter 24 (replica): the law's few. -/
namespace Go.Proofs.YtecniafnihpjmaaGreatDoor
open Go.RowKit Go.Lap C
set_option linter.unusedVariables false
def cutS (s : ByteArray) : ByteArray := if 300 < s.size then s.extract 0 300 else s
def cutW (y : Wri) : Wri := ⟨cutS y.key, cutS y.val, y.gone⟩
def cutL (l : List Wri) : List Wri := (l.take 10).map cutW
def Btc.cut (b : Btc) : Btc := { b with l := cutL b.l }
theorem cutL_len (l : List Wri) : (cutL l).length ≤ 10 := by unfold cutL; rw [List.length_map, List.length_take]; omega
theorem cutL_next {l : List Wri} {k : Nat} {y : Wri} (h : l[k]? = some y) : ((l.take (k + 1)).map cutW) = (l.take k).map cutW ++ [cutW y] := by rw [take_snoc h, List.map_append]; rfl
section
variable {w w' W : World}
theorem Blk4f {w : World} {g t : Nat} {a b c d : Value} (h : Blk w g t #[a, b, c, d]) : g < w.heap.size ∧ w.cell? ⟨g, 0, none⟩ = some a ∧ w.cell? ⟨g, 1, none⟩ = some b ∧ w.cell? ⟨g, 2, none⟩ = some c ∧ w.cell? ⟨g, 3, none⟩ = some d ∧ (∀ i, w.frozen? ⟨g, i, none⟩ = false) :=
  ⟨h.lt, h.cell 0, h.cell 1, h.cell 2, h.cell 3, h.frozen⟩
theorem Blk3f {w : World} {g t : Nat} {a b c : Value} (h : Blk w g t #[a, b, c]) : g < w.heap.size ∧ w.cell? ⟨g, 0, none⟩ = some a ∧ w.cell? ⟨g, 1, none⟩ = some b ∧ w.cell? ⟨g, 2, none⟩ = some c ∧ (∀ i, w.frozen? ⟨g, i, none⟩ = false) := ⟨h.lt, h.cell 0, h.cell 1, h.cell 2, h.frozen⟩
/-- Nothing older than the call's own row has changed. -/
def FewNew (w W wr : World) : Prop := Below (w.heap.size + 2) W wr
theorem FewNew.refl (w W : World) : FewNew w W W := Below.refl _ _
theorem FewNew.all {w W wr : World} (hn : New w W) (h : FewNew w W wr) : New w wr := Below.trans hn (Below.mono h (by omega))
theorem FewNew.blk {w W wr : World} {g t : Nat} {cs : Array Value} (h : FewNew w W wr) (hb : Blk W g t cs) (hg : g < w.heap.size + 2) : Blk wr g t cs := (h.block g hg).trans hb
theorem FewNew.step {α : Type} {enc : α → List Value} {size : Nat} {l : List α} {w W wr w7 : World} {o1 o2 : Obj} {e : TypeId} {v : Value} (h : FewNew w W wr) (hs : w.heap.size + 2 ≤ wr.heap.size) (hr : Row ((wr.alloc o1).alloc o2) (w.heap.size + 2) e size enc v l) (hg : ((wr.alloc o1).alloc o2).grownBy w7 v.ownBlock) : FewNew w W w7 :=
  Below.grown (Below.alloc (Below.alloc h hs o1) (by rw [World.size_alloc]; omega) o2) hg (by rw [World.size_alloc, World.size_alloc]; omega) (fun k hk => (hr.lt k hk).1)
def FewPost (w : World) (b : Btc) (e : Ending) (w' : World) : Prop := ∃ A n, e = .returned (batV b.c b.r b.s (.slice A b.cut.l.length n)) ∧ TSl w' 97 3 Wri.enc (.slice A b.cut.l.length n) b.cut.l ∧ New w w'
set_option maxRecDepth 100000 in
set_option maxHeartbeats 8000000 in
theorem few_any (b : Btc) {A : Option Addr} {cap : Nat} (hs : SlIn w 3 Wri.enc (.slice A b.l.length cap) b.l) (hl : b.l.length ≤ maxLen) :
    Calls Tryz.prog 11 #[batV b.c b.r b.s (.slice A b.l.length cap)] w (FewPost w b) := by
  obtain ⟨c, r, s, l⟩ := b
  obtain ⟨A', cap', hv, hlc, hh⟩ := hs
  dsimp only [batV] at hv hlc hh hl ⊢
  cases hv
  unfold maxLen at hl
  have hN := (((New.refl w).alloc (.cells #[.int .u64 (c : Int), .int .u64 (r : Int), .int .u64 (s : Int), .slice A l.length cap] 40)).alloc (.cells #[.int .u64 0, .int .u64 0, .int .u64 0, .slice none 0 0] 40)).alloc (.cells #[] 97)
  have hM := ((Blk.mk_new w 40 #[.int .u64 (c : Int), .int .u64 (r : Int), .int .u64 (s : Int), .slice A l.length cap]).alloc (.cells #[.int .u64 0, .int .u64 0, .int .u64 0, .slice none 0 0] 40)).alloc (.cells #[] 97)
  have hZ := (Blk.mk_new (w.alloc (.cells #[.int .u64 (c : Int), .int .u64 (r : Int), .int .u64 (s : Int), .slice A l.length cap] 40)) 40 #[.int .u64 0, .int .u64 0, .int .u64 0, .slice none 0 0]).alloc (.cells #[] 97)
  have hE := Blk.mk_new ((w.alloc (.cells #[.int .u64 (c : Int), .int .u64 (r : Int), .int .u64 (s : Int), .slice A l.length cap] 40)).alloc (.cells #[.int .u64 0, .int .u64 0, .int .u64 0, .slice none 0 0] 40)) 97 #[]
  rw [World.size_alloc] at hZ
  rw [World.size_alloc, World.size_alloc] at hE
  have HN := Lib.hid hN
  have HM := Lib.hid hM
  have HZ := Lib.hid hZ
  have hrow : Row (((w.alloc (.cells #[.int .u64 (c : Int), .int .u64 (r : Int), .int .u64 (s : Int), .slice A l.length cap] 40)).alloc (.cells #[.int .u64 0, .int .u64 0, .int .u64 0, .slice none 0 0] 40)).alloc (.cells #[] 97)) (w.heap.size + 2) 97 3 Wri.enc (.slice (some ⟨w.heap.size + 1 + 1, 0, none⟩) 0 0) ([] : List Wri) := .inr ⟨w.heap.size + 1 + 1, 0, 0, #[], rfl, by omega, hE, Nat.le_refl _, by decide, by simp, by simp⟩
  have HROW := Lib.hid hrow
  obtain ⟨q0, q1, q2, q3, q4, qz⟩ := Blk4f hM
  obtain ⟨r0, r1, r2, r3, r4, rz⟩ := Blk4f hZ
  clear hN hM hZ hE hrow
  go_enter Tryz.func11, Tryz.ntmps11
  go_upto_region 2 with fail
  generalize ((w.alloc _).alloc _).alloc _ = W at *
  go_wp2_with fail
  go_loopw [3, 4, 5] (fun s3 i _ wr => ∃ k : Nat, k ≤ l.length ∧ k ≤ 10 ∧ i = .int .i64 (k : Int) ∧ Row wr (w.heap.size + 2) 97 3 Wri.enc s3 ((l.take k).map cutW) ∧ FewNew w W wr) (fun _ i _ _ => 10 - (intOf i).toNat)
  case atStart => exact ⟨0, by omega, by omega, rfl, HROW.out, FewNew.refl w W⟩
  case round =>
    obtain ⟨k, hk, hk10, rfl, hrow, hn⟩ := hrel
    have HR := Lib.hid hrow
    have HNR : Hid (FewNew w W wr) := Lib.hid hn
    have hn : FewNew w W wr := hn
    have hm := hn.blk HM.out (by omega)
    have hz := hn.blk HZ.out (by omega)
    clear q0 q1 q2 q3 q4 qz r0 r1 r2 r3 r4 rz
    obtain ⟨q0, q1, q2, q3, q4, qz⟩ := Blk4f hm
    obtain ⟨r0, r1, r2, r3, r4, rz⟩ := Blk4f hz
    have hk0 : (0 : Int) ≤ (k : Int) := by omega
    by_cases hgo : k < l.length ∧ k < 10
    case neg =>
      obtain ⟨A3, n3, c3, rfl⟩ := hrow.shp
      have hsh : n3 = ((l.take k).map cutW).length := by obtain ⟨a, c, e⟩ := hrow.shape; cases e; rfl
      have hcut : (l.take k).map cutW = cutL l := by
        unfold cutL
        by_cases h10 : k < 10
        · have : ¬ k < l.length := fun h => hgo ⟨h, h10⟩
          rw [List.take_of_length_le (by omega), List.take_of_length_le (by omega)]
        · obtain rfl : k = 10 := by omega
          rfl
      rw [hcut] at hrow hsh
      subst hsh
      have hu9 : Upd (· = w.heap.size) wr (wr.setCell ⟨w.heap.size, 3, none⟩ (.slice A3 (cutL l).length c3)) := (Upd.refl _ wr).setIn 3 _
      have HT9 := Lib.hid ((Row.tsl Wri.encOk hrow).upd hu9 (Off.blk hm (by decide)))
      have hm9 := hm.set_ 3 (.slice A3 (cutL l).length c3)
      have hz9 := hz.upd hu9 (by omega)
      have HZ9 := Lib.hid hz9
      have HN9 : Hid (New w (wr.setCell ⟨w.heap.size, 3, none⟩ (.slice A3 (cutL l).length c3))) := Lib.hid ((FewNew.all HN.out HNR.out).upd hu9 (fun i e => by omega))
      obtain ⟨p0, p1, p2, p3, p4, pz⟩ := Blk4f hm9
      obtain ⟨s0, s1, s2, s3, s4, sz⟩ := Blk4f hz9
      clear hrow hn hm hz hcut hu9 hm9 hz9
      have hfin : ∀ w9 : World, w9 = wr.setCell ⟨w.heap.size, 3, none⟩ (.slice A3 (cutL l).length c3) → True := fun _ _ => trivial
      clear hfin
      by_cases hlt : k < l.length
      · have hlt2 : (k : Int) < (l.length : Int) := by omega
        have h102 : ¬ (k : Int) < 10 := by omega
        go_upto_region 12 with fail
        clear q0 q1 q2 q3 q4 qz r0 r1 r2 r3 r4 rz
        generalize wr.setCell ⟨w.heap.size, 3, none⟩ (.slice A3 (cutL l).length c3) = w9 at *
        go_wp2_with fail
        have hu4 : Upd (· = w.heap.size + 1) w9 ((((w9.setCell ⟨w.heap.size + 1, 0, none⟩ (.int .u64 (c : Int))).setCell ⟨w.heap.size + 1, 1, none⟩ (.int .u64 (r : Int))).setCell ⟨w.heap.size + 1, 2, none⟩ (.int .u64 (s : Int))).setCell ⟨w.heap.size + 1, 3, none⟩ (.slice A3 (cutL l).length c3)) := ((((Upd.refl _ w9).setIn 0 _).setIn 1 _).setIn 2 _).setIn 3 _
        exact bodyPost_ret (v := batV c r s (.slice A3 (cutL l).length c3)) (by simp [results, Tryz.results11, go_sem, s1, s2, s3, s4]) rfl ⟨A3, c3, rfl, HT9.out.upd hu4 (Off.blk HZ9.out (by decide)), HN9.out.upd hu4 (fun i e => by omega)⟩
      · have hlt2 : ¬ (k : Int) < (l.length : Int) := by omega
        go_upto_region 12 with fail
        clear q0 q1 q2 q3 q4 qz r0 r1 r2 r3 r4 rz
        generalize wr.setCell ⟨w.heap.size, 3, none⟩ (.slice A3 (cutL l).length c3) = w9 at *
        go_wp2_with fail
        have hu4 : Upd (· = w.heap.size + 1) w9 ((((w9.setCell ⟨w.heap.size + 1, 0, none⟩ (.int .u64 (c : Int))).setCell ⟨w.heap.size + 1, 1, none⟩ (.int .u64 (r : Int))).setCell ⟨w.heap.size + 1, 2, none⟩ (.int .u64 (s : Int))).setCell ⟨w.heap.size + 1, 3, none⟩ (.slice A3 (cutL l).length c3)) := ((((Upd.refl _ w9).setIn 0 _).setIn 1 _).setIn 2 _).setIn 3 _
        exact bodyPost_ret (v := batV c r s (.slice A3 (cutL l).length c3)) (by simp [results, Tryz.results11, go_sem, s1, s2, s3, s4]) rfl ⟨A3, c3, rfl, HT9.out.upd hu4 (Off.blk HZ9.out (by decide)), HN9.out.upd hu4 (fun i e => by omega)⟩
    case pos =>
      obtain ⟨hlt, h10⟩ := hgo
      have hlt2 : (k : Int) < (l.length : Int) := by omega
      have h102 : (k : Int) < 10 := by omega
      rcases hh with rfl | ⟨b, off, rfl, hb, hc⟩
      · simp at hlt
      obtain ⟨y, hy⟩ : ∃ y, l[k]? = some y := ⟨_, List.getElem?_eq_getElem hlt⟩
      have hcell := ((FewNew.all HN.out hn).cells.1)
      have e0 : wr.cell? ⟨b, off + k * 3, none⟩ = some (.string y.key) := (hcell _ _ hb).trans (by have := hc _ _ hy 0 _ rfl; simpa using this)
      have e1 : wr.cell? ⟨b, off + k * 3 + 1, none⟩ = some (.string y.val) := (hcell _ _ hb).trans (hc _ _ hy 1 _ rfl)
      have e2 : wr.cell? ⟨b, off + k * 3 + 2, none⟩ = some (.bool y.gone) := (hcell _ _ hb).trans (hc _ _ hy 2 _ rfl)
      have HX := Lib.hid (cutL_next hy)
      have hbr : b < wr.heap.size := Nat.lt_of_lt_of_le hb (FewNew.all HN.out hn).size
      clear hcell hc hy hrow hn hm hz
      by_cases hkey : 300 < y.key.size
      · have hk2 : (300 : Int) < (y.key.size : Int) := by omega
        by_cases hval : 300 < y.val.size
        · have hv2 : (300 : Int) < (y.val.size : Int) := by omega
          have HC : Hid (cutW y = ⟨(y.key.extract 0 300), (y.val.extract 0 300), y.gone⟩) := Lib.hid (by unfold cutW cutS; rw [if_pos hkey, if_pos hval])
          have hn6 := ((New.refl wr).alloc (.cells #[.string (y.key.extract 0 300), .string (y.val.extract 0 300), .bool y.gone] 97)).alloc (.cells #[.string (y.key.extract 0 300), .string (y.val.extract 0 300), .bool y.gone] 97)
          have hp6 := Blk.mk_new (wr.alloc (.cells #[.string (y.key.extract 0 300), .string (y.val.extract 0 300), .bool y.gone] 97)) 97 #[.string (y.key.extract 0 300), .string (y.val.extract 0 300), .bool y.gone]
          rw [World.size_alloc] at hp6
          have HP6 := Lib.hid hp6
          have HR6 := Lib.hid (HR.out.new hn6)
          have HBS : Hid (w.heap.size + 2 ≤ ((wr.alloc (.cells #[.string (y.key.extract 0 300), .string (y.val.extract 0 300), .bool y.gone] 97)).alloc (.cells #[.string (y.key.extract 0 300), .string (y.val.extract 0 300), .bool y.gone] 97)).heap.size) := Lib.hid (by have := r0; simp; omega)
          clear hn6 hp6
          go_wp2_with (at_builtin; refine wpList_appR (m := [(⟨(y.key.extract 0 300), (y.val.extract 0 300), y.gone⟩ : Wri)]) wrTy Wri.encOk rfl (.tmp 39) (.tmp 41) rfl rfl rfl HR6.out (SlIn.one HP6.out Wri.encOk rfl) (by simp; unfold maxLen; omega) (by simp; omega) HBS.out ?_; intro v7 w7 h7 hg7 hv7; have HF : Hid (Row w7 (w.heap.size + 2) 97 3 Wri.enc v7 ((l.take (k + 1)).map cutW) ∧ FewNew w W w7) := Lib.hid ⟨by rw [HX.out, HC.out]; exact h7, HNR.out.step (by have := r0; omega) HR6.out hg7⟩; clear h7 hg7 hv7)
          go_roundw
          case rel => exact ⟨k + 1, by omega, by omega, by go_num, HF.out.1, HF.out.2⟩
          case measure => simp [intOf]; omega
        · have hv2 : ¬ (300 : Int) < (y.val.size : Int) := by omega
          have HC : Hid (cutW y = ⟨(y.key.extract 0 300), y.val, y.gone⟩) := Lib.hid (by unfold cutW cutS; rw [if_pos hkey, if_neg hval])
          have hn6 := ((New.refl wr).alloc (.cells #[.string (y.key.extract 0 300), .string y.val, .bool y.gone] 97)).alloc (.cells #[.string (y.key.extract 0 300), .string y.val, .bool y.gone] 97)
          have hp6 := Blk.mk_new (wr.alloc (.cells #[.string (y.key.extract 0 300), .string y.val, .bool y.gone] 97)) 97 #[.string (y.key.extract 0 300), .string y.val, .bool y.gone]
          rw [World.size_alloc] at hp6
          have HP6 := Lib.hid hp6
          have HR6 := Lib.hid (HR.out.new hn6)
          have HBS : Hid (w.heap.size + 2 ≤ ((wr.alloc (.cells #[.string (y.key.extract 0 300), .string y.val, .bool y.gone] 97)).alloc (.cells #[.string (y.key.extract 0 300), .string y.val, .bool y.gone] 97)).heap.size) := Lib.hid (by have := r0; simp; omega)
          clear hn6 hp6
          go_wp2_with (at_builtin; refine wpList_appR (m := [(⟨(y.key.extract 0 300), y.val, y.gone⟩ : Wri)]) wrTy Wri.encOk rfl (.tmp 39) (.tmp 41) rfl rfl rfl HR6.out (SlIn.one HP6.out Wri.encOk rfl) (by simp; unfold maxLen; omega) (by simp; omega) HBS.out ?_; intro v7 w7 h7 hg7 hv7; have HF : Hid (Row w7 (w.heap.size + 2) 97 3 Wri.enc v7 ((l.take (k + 1)).map cutW) ∧ FewNew w W w7) := Lib.hid ⟨by rw [HX.out, HC.out]; exact h7, HNR.out.step (by have := r0; omega) HR6.out hg7⟩; clear h7 hg7 hv7)
          go_roundw
          case rel => exact ⟨k + 1, by omega, by omega, by go_num, HF.out.1, HF.out.2⟩
          case measure => simp [intOf]; omega
      · have hk2 : ¬ (300 : Int) < (y.key.size : Int) := by omega
        by_cases hval : 300 < y.val.size
        · have hv2 : (300 : Int) < (y.val.size : Int) := by omega
          have HC : Hid (cutW y = ⟨y.key, (y.val.extract 0 300), y.gone⟩) := Lib.hid (by unfold cutW cutS; rw [if_neg hkey, if_pos hval])
          have hn6 := ((New.refl wr).alloc (.cells #[.string y.key, .string (y.val.extract 0 300), .bool y.gone] 97)).alloc (.cells #[.string y.key, .string (y.val.extract 0 300), .bool y.gone] 97)
          have hp6 := Blk.mk_new (wr.alloc (.cells #[.string y.key, .string (y.val.extract 0 300), .bool y.gone] 97)) 97 #[.string y.key, .string (y.val.extract 0 300), .bool y.gone]
          rw [World.size_alloc] at hp6
          have HP6 := Lib.hid hp6
          have HR6 := Lib.hid (HR.out.new hn6)
          have HBS : Hid (w.heap.size + 2 ≤ ((wr.alloc (.cells #[.string y.key, .string (y.val.extract 0 300), .bool y.gone] 97)).alloc (.cells #[.string y.key, .string (y.val.extract 0 300), .bool y.gone] 97)).heap.size) := Lib.hid (by have := r0; simp; omega)
          clear hn6 hp6
          go_wp2_with (at_builtin; refine wpList_appR (m := [(⟨y.key, (y.val.extract 0 300), y.gone⟩ : Wri)]) wrTy Wri.encOk rfl (.tmp 39) (.tmp 41) rfl rfl rfl HR6.out (SlIn.one HP6.out Wri.encOk rfl) (by simp; unfold maxLen; omega) (by simp; omega) HBS.out ?_; intro v7 w7 h7 hg7 hv7; have HF : Hid (Row w7 (w.heap.size + 2) 97 3 Wri.enc v7 ((l.take (k + 1)).map cutW) ∧ FewNew w W w7) := Lib.hid ⟨by rw [HX.out, HC.out]; exact h7, HNR.out.step (by have := r0; omega) HR6.out hg7⟩; clear h7 hg7 hv7)
          go_roundw
          case rel => exact ⟨k + 1, by omega, by omega, by go_num, HF.out.1, HF.out.2⟩
          case measure => simp [intOf]; omega
        · have hv2 : ¬ (300 : Int) < (y.val.size : Int) := by omega
          have HC : Hid (cutW y = ⟨y.key, y.val, y.gone⟩) := Lib.hid (by unfold cutW cutS; rw [if_neg hkey, if_neg hval])
          have hn6 := ((New.refl wr).alloc (.cells #[.string y.key, .string y.val, .bool y.gone] 97)).alloc (.cells #[.string y.key, .string y.val, .bool y.gone] 97)
          have hp6 := Blk.mk_new (wr.alloc (.cells #[.string y.key, .string y.val, .bool y.gone] 97)) 97 #[.string y.key, .string y.val, .bool y.gone]
          rw [World.size_alloc] at hp6
          have HP6 := Lib.hid hp6
          have HR6 := Lib.hid (HR.out.new hn6)
          have HBS : Hid (w.heap.size + 2 ≤ ((wr.alloc (.cells #[.string y.key, .string y.val, .bool y.gone] 97)).alloc (.cells #[.string y.key, .string y.val, .bool y.gone] 97)).heap.size) := Lib.hid (by have := r0; simp; omega)
          clear hn6 hp6
          go_wp2_with (at_builtin; refine wpList_appR (m := [(⟨y.key, y.val, y.gone⟩ : Wri)]) wrTy Wri.encOk rfl (.tmp 39) (.tmp 41) rfl rfl rfl HR6.out (SlIn.one HP6.out Wri.encOk rfl) (by simp; unfold maxLen; omega) (by simp; omega) HBS.out ?_; intro v7 w7 h7 hg7 hv7; have HF : Hid (Row w7 (w.heap.size + 2) 97 3 Wri.enc v7 ((l.take (k + 1)).map cutW) ∧ FewNew w W w7) := Lib.hid ⟨by rw [HX.out, HC.out]; exact h7, HNR.out.step (by have := r0; omega) HR6.out hg7⟩; clear h7 hg7 hv7)
          go_roundw
          case rel => exact ⟨k + 1, by omega, by omega, by go_num, HF.out.1, HF.out.2⟩
          case measure => simp [intOf]; omega
end
end Go.Proofs.YtecniafnihpjmaaGreatDoor
