/- The parts RpV, RpW, joined. -/
import Derived.Test.YtecniafnihpjmaaGreatDoorTk
import Derived.Test.YtecniafnihpjmaaGreatDoorMg7
import Derived.Test.YtecniafnihpjmaaGreatDoorMg6
import Derived.Deep.DeepCutAuto
import Derived.Deep.CutBlock
/- Chapter 24 (replica): forwarded. Printed by genRpV.py. -/
namespace Go.Proofs.YtecniafnihpjmaaGreatDoor
open Go.RowKit Go.Lap C
set_option linter.unusedVariables false
set_option linter.unusedSimpArgs false
abbrev oMg8_0 : Oper := ⟨some 5, .fieldAddr 93 (.tmp 3) 4, 0, "replica.go:141", #[], none⟩
abbrev oMg8_1 : Oper := ⟨some 6, .load 22 (.tmp 5), 22, "replica.go:141", #[⟨0, .data⟩], none⟩
abbrev oMg8_2 : Oper := ⟨some 7, .move (.tmp 0), 45, "replica.go:141", #[], none⟩
abbrev oMg8_3 : Oper := ⟨some 8, .call { callee := .value (.func 44), args := #[.tmp 7], argTypes := #[45] }, 22, "replica.go:141", #[⟨2, .data⟩], none⟩
abbrev oMg8_4 : Oper := ⟨some 9, .binOp .add 22 (.tmp 8) (.const (.int .u64 1)) 22, 22, "replica.go:141", #[⟨3, .data⟩], none⟩
abbrev oMg8_5 : Oper := ⟨some 10, .binOp .eql 22 (.tmp 6) (.tmp 9) 22, 4, "replica.go:141", #[⟨1, .data⟩, ⟨4, .data⟩], none⟩
abbrev oMg8_6 : Oper := ⟨some 4, .assign (.tmp 10), 4, "replica.go:141", #[⟨5, .data⟩, ⟨3, .chain⟩], none⟩
abbrev oMg8_7 : Oper := ⟨some 37, .fieldAddr 93 (.tmp 3) 4, 0, "replica.go:148", #[], none⟩
abbrev oMg8_8 : Oper := ⟨some 38, .load 22 (.tmp 37), 22, "replica.go:148", #[⟨0, .data⟩], none⟩
abbrev oMg8_9 : Oper := ⟨some 39, .move (.tmp 0), 45, "replica.go:148", #[], none⟩
abbrev oMg8_10 : Oper := ⟨some 40, .call { callee := .value (.func 44), args := #[.tmp 39], argTypes := #[45] }, 22, "replica.go:148", #[⟨2, .data⟩], none⟩
abbrev oMg8_11 : Oper := ⟨some 41, .binOp .gtr 22 (.tmp 38) (.tmp 40) 22, 4, "replica.go:148", #[⟨1, .data⟩, ⟨3, .data⟩], none⟩
abbrev oMg8_12 : Oper := ⟨some 36, .assign (.tmp 41), 4, "replica.go:148", #[⟨4, .data⟩, ⟨3, .chain⟩], none⟩
abbrev oMg8_13 : Oper := ⟨some 45, .fieldAddr 93 (.tmp 3) 4, 0, "replica.go:150", #[], none⟩
abbrev oMg8_14 : Oper := ⟨some 46, .load 22 (.tmp 45), 22, "replica.go:150", #[⟨0, .data⟩], none⟩
abbrev oMg8_15 : Oper := ⟨some 47, .move (.tmp 0), 45, "replica.go:150", #[], none⟩
abbrev oMg8_16 : Oper := ⟨some 48, .nilCheck (.tmp 47), 0, "replica.go:150", #[⟨2, .data⟩], none⟩
abbrev oMg8_17 : Oper := ⟨some 49, .fieldAddr 107 (.tmp 48) 4, 0, "replica.go:150", #[⟨3, .data⟩], none⟩
abbrev oMg8_18 : Oper := ⟨some 50, .load 22 (.tmp 49), 22, "replica.go:150", #[⟨4, .data⟩], none⟩
abbrev oMg8_19 : Oper := ⟨some 51, .binOp .leq 22 (.tmp 46) (.tmp 50) 22, 4, "replica.go:150", #[⟨1, .data⟩, ⟨5, .data⟩], none⟩
abbrev oMg8_20 : Oper := ⟨some 44, .assign (.tmp 51), 4, "replica.go:150", #[⟨6, .data⟩], none⟩
abbrev oMg8_21 : Oper := ⟨some 26, .load 26 (.tmp 25), 26, "replica.go:146", #[⟨3, .data⟩], none⟩
abbrev oMg8_22 : Oper := ⟨some 29, .call { callee := .value (.func 41), args := #[.tmp 28], argTypes := #[40] }, 40, "replica.go:146", #[⟨6, .data⟩], none⟩
abbrev oMg8_23 : Oper := ⟨some 30, .buildSlice 26 1 #[(0, .tmp 29)], 26, "replica.go:146", #[⟨7, .data⟩], none⟩
abbrev oMg8_24 : Oper := ⟨some 31, .call { callee := .builtin .append, args := #[.tmp 26, .tmp 30], argTypes := #[26, 26] }, 26, "replica.go:146", #[⟨4, .data⟩, ⟨8, .data⟩, ⟨7, .chain⟩], none⟩
abbrev oMg8_25 : Oper := ⟨some 32, .nilCheck (.tmp 22), 0, "replica.go:146", #[⟨0, .data⟩, ⟨0, .phase⟩, ⟨1, .phase⟩, ⟨2, .phase⟩, ⟨3, .phase⟩, ⟨4, .phase⟩, ⟨5, .phase⟩, ⟨6, .phase⟩, ⟨7, .phase⟩, ⟨8, .phase⟩, ⟨9, .phase⟩], none⟩
abbrev oMg8_26 : Oper := ⟨some 33, .fieldAddr 107 (.tmp 32) 3, 0, "replica.go:146", #[⟨10, .data⟩, ⟨0, .phase⟩, ⟨1, .phase⟩, ⟨2, .phase⟩, ⟨3, .phase⟩, ⟨4, .phase⟩, ⟨5, .phase⟩, ⟨6, .phase⟩, ⟨7, .phase⟩, ⟨8, .phase⟩, ⟨9, .phase⟩], none⟩
abbrev oMg8_27 : Oper := ⟨none, .store 26 (.tmp 33) (.tmp 31), 0, "replica.go:146", #[⟨11, .data⟩, ⟨9, .data⟩, ⟨9, .chain⟩, ⟨0, .phase⟩, ⟨1, .phase⟩, ⟨2, .phase⟩, ⟨3, .phase⟩, ⟨4, .phase⟩, ⟨5, .phase⟩, ⟨6, .phase⟩, ⟨7, .phase⟩, ⟨8, .phase⟩, ⟨9, .phase⟩], none⟩
abbrev oMg8_28 : Oper := ⟨some 7, .move (.tmp 0), 45, "replica.go:110", #[], none⟩
abbrev oMg8_29 : Oper := ⟨some 8, .nilCheck (.tmp 7), 0, "replica.go:110", #[⟨0, .data⟩], none⟩
abbrev oMg8_30 : Oper := ⟨some 9, .fieldAddr 107 (.tmp 8) 1, 0, "replica.go:110", #[⟨1, .data⟩], none⟩
abbrev oMg8_31 : Oper := ⟨some 10, .load 25 (.tmp 9), 25, "replica.go:110", #[⟨2, .data⟩], none⟩
abbrev oMg8_32 : Oper := ⟨some 11, .move (.tmp 0), 45, "replica.go:110", #[], none⟩
abbrev oMg8_33 : Oper := ⟨some 12, .nilCheck (.tmp 11), 0, "replica.go:110", #[⟨4, .data⟩], none⟩
abbrev oMg8_34 : Oper := ⟨some 13, .fieldAddr 107 (.tmp 12) 0, 0, "replica.go:110", #[⟨5, .data⟩], none⟩
abbrev oMg8_35 : Oper := ⟨some 14, .load 3 (.tmp 13), 3, "replica.go:110", #[⟨6, .data⟩], none⟩
abbrev oMg8_36 : Oper := ⟨some 15, .call { callee := .value (.func 43), args := #[.tmp 10, .tmp 14], argTypes := #[25, 3] }, 3, "replica.go:110", #[⟨3, .data⟩, ⟨7, .data⟩], none⟩
abbrev oMg8_37 : Oper := ⟨some 16, .binOp .neq 3 (.tmp 15) (.const (.int .i64 0)) 3, 4, "replica.go:110", #[⟨8, .data⟩], none⟩
abbrev oMg8_38 : Oper := ⟨some 23, .call { callee := .value (.func 47), args := #[.tmp 21, .tmp 22], argTypes := #[101, 40] }, 49, "replica.go:113", #[⟨3, .data⟩, ⟨4, .data⟩], none⟩
abbrev oMg8_39 : Oper := ⟨some 6, .alloc 49, 0, "replica.go:113", #[], none⟩
abbrev oMg8_40 : Oper := ⟨none, .store 49 (.tmp 6) (.tmp 23), 0, "replica.go:113", #[⟨6, .data⟩, ⟨5, .data⟩, ⟨5, .chain⟩, ⟨0, .phase⟩, ⟨1, .phase⟩, ⟨2, .phase⟩, ⟨3, .phase⟩, ⟨4, .phase⟩, ⟨5, .phase⟩, ⟨6, .phase⟩], none⟩
abbrev oMg8_41 : Oper := ⟨some 36, .load 26 (.tmp 35), 26, "replica.go:115", #[⟨3, .data⟩], none⟩
abbrev oMg8_42 : Oper := ⟨some 38, .call { callee := .value (.func 41), args := #[.tmp 37], argTypes := #[40] }, 40, "replica.go:115", #[⟨5, .data⟩], none⟩
abbrev oMg8_43 : Oper := ⟨some 39, .buildSlice 26 1 #[(0, .tmp 38)], 26, "replica.go:115", #[⟨6, .data⟩], none⟩
abbrev oMg8_44 : Oper := ⟨some 40, .call { callee := .builtin .append, args := #[.tmp 36, .tmp 39], argTypes := #[26, 26] }, 26, "replica.go:115", #[⟨4, .data⟩, ⟨7, .data⟩, ⟨6, .chain⟩], none⟩
abbrev oMg8_45 : Oper := ⟨some 41, .nilCheck (.tmp 32), 0, "replica.go:115", #[⟨0, .data⟩, ⟨0, .phase⟩, ⟨1, .phase⟩, ⟨2, .phase⟩, ⟨3, .phase⟩, ⟨4, .phase⟩, ⟨5, .phase⟩, ⟨6, .phase⟩, ⟨7, .phase⟩, ⟨8, .phase⟩], none⟩
abbrev oMg8_46 : Oper := ⟨some 42, .fieldAddr 107 (.tmp 41) 3, 0, "replica.go:115", #[⟨9, .data⟩, ⟨0, .phase⟩, ⟨1, .phase⟩, ⟨2, .phase⟩, ⟨3, .phase⟩, ⟨4, .phase⟩, ⟨5, .phase⟩, ⟨6, .phase⟩, ⟨7, .phase⟩, ⟨8, .phase⟩], none⟩
abbrev oMg8_47 : Oper := ⟨none, .store 26 (.tmp 42) (.tmp 40), 0, "replica.go:115", #[⟨10, .data⟩, ⟨8, .data⟩, ⟨8, .chain⟩, ⟨0, .phase⟩, ⟨1, .phase⟩, ⟨2, .phase⟩, ⟨3, .phase⟩, ⟨4, .phase⟩, ⟨5, .phase⟩, ⟨6, .phase⟩, ⟨7, .phase⟩, ⟨8, .phase⟩], none⟩
section
variable {w w' W wa : World} {S : Nat → Prop} {rp B D : Nat} {L : RpL} {x x' : Rpl} {b : BtV}
/-- The row of batches turns. -/
theorem RpAt.setL (h : RpAt w rp B L x) {v : Value} {o : List Btc} (ho : BtRow wa 0 v o) (hl : o.length ≤ B + 1) (hg : w.grownBy wa L.lv.ownBlock) :
    RpAt (wa.setCell ⟨rp, 4, none⟩ v) rp (B + 1) { L with lv := v } { x with l := o } := by
  obtain ⟨qs, _, hqs, _⟩ := h.out
  obtain ⟨ps, _, hps, _⟩ := h.l
  have hu : Upd (fun k => L.lv.ownBlock = some k) w wa := (Upd.refl _ w).grown hg (fun k _ e => e)
  have hrn : ¬ L.lv.ownBlock = some rp := fun e => hps.ne_blk h.blk (by decide) e
  have hW : Off w 97 (fun k => L.lv.ownBlock = some k) := Off.row hps (by decide)
  have hI : Off w 3 (fun k => L.lv.ownBlock = some k) := Off.row hps (by decide)
  have hb : Blk wa rp _ _ := h.blk.upd hu hrn
  have hu2 : Upd (· = rp) wa (wa.setCell ⟨rp, 4, none⟩ v) := (Upd.refl _ wa).setIn 4 v
  have hjn : ∀ k, JdF L.jl k → ¬ L.lv.ownBlock = some k := by
    obtain ⟨m, _, hm⟩ := h.j.wh
    obtain ⟨n, _, hn⟩ := h.j.sn
    rintro k (rfl | rfl | rfl) e
    · exact hps.ne_blk h.j.blk (by decide) e
    · exact Row.ne_map hps hm e
    · exact Row.ne_map hps hn e
  have hjr : ∀ k, JdF L.jl k → ¬ k = rp := by
    obtain ⟨m, _, hm⟩ := h.j.wh
    obtain ⟨n, _, hn⟩ := h.j.sn
    rintro k (rfl | rfl | rfl) e
    · exact Blk.ne_ h.j.blk h.blk (by decide) e
    · exact Blk.ne_map h.blk hm e.symm
    · exact Blk.ne_map h.blk hn e.symm
  have hlo : ∀ k, L.ov.ownBlock = some k → ¬ L.lv.ownBlock = some k := fun k hk e => Row.ne_row hps hqs (by decide) e hk
  have hlr : ∀ k, L.ov.ownBlock = some k → ¬ k = rp := fun k hk e => hqs.ne_blk h.blk (by decide) (e ▸ hk)
  have hvr : ∀ k, v.ownBlock = some k → ¬ k = rp := fun k hk e => by
    obtain ⟨us, _, hus, _⟩ := ho
    exact hus.ne_blk hb (by decide) (e ▸ hk)
  have hWr : Off wa 97 (· = rp) := Off.blk hb (by decide)
  have hIr : Off wa 3 (· = rp) := Off.blk hb (by decide)
  exact ⟨hb.set_ 4 v, (h.cf.upd hu hI).upd hu2 hIr, h.cl7, h.ce, ((h.j.upd hu hjn).upd hu2 hjr).mono (Nat.le_succ B), ho.upd hu2 hvr hWr, (h.out.upd hu hlo hW).upd hu2 hlr hWr, hl, Nat.le_succ_of_le h.ol, Nat.le_succ_of_le h.cl⟩
/-- The judge turns. -/
theorem RpAt.setJ (h : RpAt w rp B L x) {C : Nat} {j : Jd} (hj : JdAt wa C L.jl j) (hu : Upd (JdF L.jl) w wa) (hC : B ≤ C) : RpAt wa rp C L { x with j := j } := by
  obtain ⟨qs, _, hqs, _⟩ := h.out
  obtain ⟨ps, _, hps, _⟩ := h.l
  obtain ⟨m, _, hm⟩ := h.j.wh
  obtain ⟨n, _, hn⟩ := h.j.sn
  have hr : ¬ JdF L.jl rp := by
    rintro (e | e | e)
    · exact Blk.ne_ h.blk h.j.blk (by decide) e
    · exact Blk.ne_map h.blk hm e
    · exact Blk.ne_map h.blk hn e
  have hrow : ∀ {α : Type} {e s b : Nat} {enc : α → List Value} {v : Value} {l : List α}, Row w b e s enc v l → e ≠ 138 → ∀ k, v.ownBlock = some k → ¬ JdF L.jl k := by
    intro α e s b enc v l hR hne k hk hj
    rcases hj with rfl | rfl | rfl
    · exact hR.ne_blk h.j.blk hne hk
    · exact Row.ne_map hR hm hk
    · exact Row.ne_map hR hn hk
  exact ⟨h.blk.upd hu hr, h.cf.upd hu (h.j.off (by decide)), h.cl7, h.ce, hj, h.l.upd hu (hrow hps (by decide)) (h.j.off (by decide)), h.out.upd hu (hrow hqs (by decide)) (h.j.off (by decide)), Nat.le_trans h.ll hC, Nat.le_trans h.ol hC, Nat.le_trans h.cl hC⟩
theorem RpAt.rp_jd (h : RpAt w rp B L x) : ¬ JdF L.jl rp := by
  obtain ⟨m, _, hm⟩ := h.j.wh
  obtain ⟨n, _, hn⟩ := h.j.sn
  rintro (e | e | e)
  · exact Blk.ne_ h.blk h.j.blk (by decide) e
  · exact Blk.ne_map h.blk hm e
  · exact Blk.ne_map h.blk hn e
set_option maxRecDepth 100000 in
set_option maxHeartbeats 16000000 in
theorem rforwarded (h : RpAt w rp B L x) (n : NtV) (hv : BtAt w n.v) (hB : B ≤ 1000000) :
    Calls Tryz.prog 59 #[.pointer (some ⟨rp, 0, none⟩), n.val] w (fun e w' => e = .returned (.tuple #[]) ∧ RpPost w rp (B + 20) L (x.forwarded n.nt) w') := by
  have hll : x.la ≤ B := h.ll
  have hN := (New.refl w).alloc (.cells n.cells 93)
  have hR := h.new hN
  have HR := Lib.hid hR
  have HN := Lib.hid hN
  have HX := Lib.hid (Blk.mk_new w 93 n.cells)
  have HV := Lib.hid (hv.new hN)
  have HSZ := Lib.hid h.lt
  obtain ⟨a0, a1, a2, a3, a4, a5, a6, a7, a8, a9, az⟩ := nt_facts HX.out
  obtain ⟨g0, c0, c1, c2, c3, c4, c5, c6, cz⟩ := hR.facts
  have hwl : IntKind.u64.wrap ((x.la : Int) + 1) = (x.la : Int) + 1 := IntWalk.u64_in _ (by omega)
  have HFW : Hid (x.forwarded n.nt = if n.t = x.la + 1 then if chk n.v.b.l ≠ 0 then x else ({ x with j := (x.j.load n.v.b).1 } : Rpl).added n.v.b else if x.la < n.t then x.ask else if n.t ≤ x.cl then x.tell else x) := Lib.hid rfl
  clear h hv hN hR
  obtain ⟨nk, nfr, nds, nep, nt, ⟨⟨c, r, s, l⟩, A, cap⟩⟩ := n
  unfold NtV.val BtV.sl
  dsimp only [NtV.cells, BtV.sl] at *
  go_enter Tryz.func59, Tryz.ntmps59
  go_upto_region 1 with fail
  generalize w.alloc _ = W at *
  by_cases h1 : nt = x.la + 1
  case neg =>
    have hd1 : ((nt : Int) == (x.la : Int) + 1) = false := beq_eq_false_iff_ne.2 (by omega)
    by_cases h2 : x.la < nt
    case pos =>
      have HF : Hid (x.forwarded (NtV.nt ⟨nk, nfr, nds, nep, nt, ⟨⟨c, r, s, l⟩, A, cap⟩⟩) = x.ask) := Lib.hid (by rw [HFW.out, if_neg h1, if_pos h2])
      have hd2 : decide (x.la < nt) = true := decide_eq_true h2
      clear h1 h2
      refine wp_region_held_drew (S := fun w' => w' = W.drew) (by kernel_rfl) (rfl) (fun hHeld => ?_)
      refine tkH (i := 0) (oi := oMg8_0) (v := ?_) (.inl ⟨by rfl, ?_⟩) ?_
      rotate_left
      · (intro wq hSw; (try dsimp only at hSw); go_simp; first | done | with_reducible rfl)
      try simp only [Act.put, sA, sZ, sS]
      refine tkH (i := 1) (oi := oMg8_1) (v := ?_) (.inl ⟨by rfl, ?_⟩) ?_
      rotate_left
      · (intro wq hSw; (try dsimp only at hSw); go_simp; first | done | with_reducible rfl)
      try simp only [Act.put, sA, sZ, sS]
      refine tkH (i := 2) (oi := oMg8_2) (v := ?_) (.inl ⟨by rfl, ?_⟩) ?_
      rotate_left
      · (intro wq hSw; (try dsimp only at hSw); go_simp; first | done | with_reducible rfl)
      try simp only [Act.put, sA, sZ, sS]
      refine wpAnyH_ready (rs := [3]) (by kernel_rfl) (by simp) ?_
      refine AllReadyH.cons (o := oMg8_3) rfl (fun K hK => ?_) AllReadyH.nil
      go_simp
      refine (rlast (HR.out.new ((New.refl W).drew)) (by omega)).mono ?_
      rintro e w6 ⟨rfl, rfl⟩
      refine hK.out _ _ ?_ (fun hHeld => ?_)
      · exact rfl
      clear hK K
      try simp only [Act.put, sA, sZ, sS]
      refine tkH (i := 4) (oi := oMg8_4) (v := ?_) (.inl ⟨by rfl, ?_⟩) ?_
      rotate_left
      · (intro wq hSw; (try dsimp only at hSw); go_simp; first | done | with_reducible rfl)
      try simp only [Act.put, sA, sZ, sS]
      refine tkH (i := 5) (oi := oMg8_5) (v := ?_) (.inl ⟨by rfl, ?_⟩) ?_
      rotate_left
      · (intro wq hSw; (try dsimp only at hSw); go_simp; first | done | with_reducible rfl)
      try simp only [Act.put, sA, sZ, sS]
      refine tkH (i := 6) (oi := oMg8_6) (v := ?_) (.inl ⟨by rfl, ?_⟩) ?_
      rotate_left
      · (intro wq hSw; (try dsimp only at hSw); go_simp; first | done | with_reducible rfl)
      try simp only [Act.put, sA, sZ, sS]
      refine wpAnyH_done (by kernel_rfl) ?_ _
      clear hHeld
      go_upto_region 6 with fail
      refine wp_region_held_drew (S := fun w' => w' = W.drew.drew) (by kernel_rfl) (rfl) (fun hHeld => ?_)
      refine tkH (i := 0) (oi := oMg8_7) (v := ?_) (.inl ⟨by rfl, ?_⟩) ?_
      rotate_left
      · (intro wq hSw; (try dsimp only at hSw); go_simp; first | done | with_reducible rfl)
      try simp only [Act.put, sA, sZ, sS]
      refine tkH (i := 1) (oi := oMg8_8) (v := ?_) (.inl ⟨by rfl, ?_⟩) ?_
      rotate_left
      · (intro wq hSw; (try dsimp only at hSw); go_simp; first | done | with_reducible rfl)
      try simp only [Act.put, sA, sZ, sS]
      refine tkH (i := 2) (oi := oMg8_9) (v := ?_) (.inl ⟨by rfl, ?_⟩) ?_
      rotate_left
      · (intro wq hSw; (try dsimp only at hSw); go_simp; first | done | with_reducible rfl)
      try simp only [Act.put, sA, sZ, sS]
      refine wpAnyH_ready (rs := [3]) (by kernel_rfl) (by simp) ?_
      refine AllReadyH.cons (o := oMg8_10) rfl (fun K hK => ?_) AllReadyH.nil
      go_simp
      refine (rlast (HR.out.new ((New.refl W).drew.drew)) (by omega)).mono ?_
      rintro e w6 ⟨rfl, rfl⟩
      refine hK.out _ _ ?_ (fun hHeld => ?_)
      · exact rfl
      clear hK K
      try simp only [Act.put, sA, sZ, sS]
      refine tkH (i := 4) (oi := oMg8_11) (v := ?_) (.inl ⟨by rfl, ?_⟩) ?_
      rotate_left
      · (intro wq hSw; (try dsimp only at hSw); go_simp; first | done | with_reducible rfl)
      try simp only [Act.put, sA, sZ, sS]
      refine tkH (i := 5) (oi := oMg8_12) (v := ?_) (.inl ⟨by rfl, ?_⟩) ?_
      rotate_left
      · (intro wq hSw; (try dsimp only at hSw); go_simp; first | done | with_reducible rfl)
      try simp only [Act.put, sA, sZ, sS]
      refine wpAnyH_done (by kernel_rfl) ?_ _
      clear hHeld
      go_wp2_with fail
      refine (rask (HR.out.new (New.refl W).drew.drew) (by omega)).mono ?_
      rintro e w5 ⟨rfl, hp⟩
      go_wp2_with fail
      go_end0
      exact ⟨rfl, by rw [HF.out]; exact (RpPost.pre HN.out.drew.drew hp).mono (by omega)⟩
    case neg =>
      have hd2 : decide (x.la < nt) = false := decide_eq_false h2
      by_cases h3 : nt ≤ x.cl
      case pos =>
        have HF : Hid (x.forwarded (NtV.nt ⟨nk, nfr, nds, nep, nt, ⟨⟨c, r, s, l⟩, A, cap⟩⟩) = x.tell) := Lib.hid (by rw [HFW.out, if_neg h1, if_neg h2, if_pos h3])
        have hd3 : decide (nt ≤ x.cl) = true := decide_eq_true h3
        clear h1 h2 h3
        refine wp_region_held_drew (S := fun w' => w' = W.drew) (by kernel_rfl) (rfl) (fun hHeld => ?_)
        refine tkH (i := 0) (oi := oMg8_0) (v := ?_) (.inl ⟨by rfl, ?_⟩) ?_
        rotate_left
        · (intro wq hSw; (try dsimp only at hSw); go_simp; first | done | with_reducible rfl)
        try simp only [Act.put, sA, sZ, sS]
        refine tkH (i := 1) (oi := oMg8_1) (v := ?_) (.inl ⟨by rfl, ?_⟩) ?_
        rotate_left
        · (intro wq hSw; (try dsimp only at hSw); go_simp; first | done | with_reducible rfl)
        try simp only [Act.put, sA, sZ, sS]
        refine tkH (i := 2) (oi := oMg8_2) (v := ?_) (.inl ⟨by rfl, ?_⟩) ?_
        rotate_left
        · (intro wq hSw; (try dsimp only at hSw); go_simp; first | done | with_reducible rfl)
        try simp only [Act.put, sA, sZ, sS]
        refine wpAnyH_ready (rs := [3]) (by kernel_rfl) (by simp) ?_
        refine AllReadyH.cons (o := oMg8_3) rfl (fun K hK => ?_) AllReadyH.nil
        go_simp
        refine (rlast (HR.out.new ((New.refl W).drew)) (by omega)).mono ?_
        rintro e w6 ⟨rfl, rfl⟩
        refine hK.out _ _ ?_ (fun hHeld => ?_)
        · exact rfl
        clear hK K
        try simp only [Act.put, sA, sZ, sS]
        refine tkH (i := 4) (oi := oMg8_4) (v := ?_) (.inl ⟨by rfl, ?_⟩) ?_
        rotate_left
        · (intro wq hSw; (try dsimp only at hSw); go_simp; first | done | with_reducible rfl)
        try simp only [Act.put, sA, sZ, sS]
        refine tkH (i := 5) (oi := oMg8_5) (v := ?_) (.inl ⟨by rfl, ?_⟩) ?_
        rotate_left
        · (intro wq hSw; (try dsimp only at hSw); go_simp; first | done | with_reducible rfl)
        try simp only [Act.put, sA, sZ, sS]
        refine tkH (i := 6) (oi := oMg8_6) (v := ?_) (.inl ⟨by rfl, ?_⟩) ?_
        rotate_left
        · (intro wq hSw; (try dsimp only at hSw); go_simp; first | done | with_reducible rfl)
        try simp only [Act.put, sA, sZ, sS]
        refine wpAnyH_done (by kernel_rfl) ?_ _
        clear hHeld
        go_upto_region 6 with fail
        refine wp_region_held_drew (S := fun w' => w' = W.drew.drew) (by kernel_rfl) (rfl) (fun hHeld => ?_)
        refine tkH (i := 0) (oi := oMg8_7) (v := ?_) (.inl ⟨by rfl, ?_⟩) ?_
        rotate_left
        · (intro wq hSw; (try dsimp only at hSw); go_simp; first | done | with_reducible rfl)
        try simp only [Act.put, sA, sZ, sS]
        refine tkH (i := 1) (oi := oMg8_8) (v := ?_) (.inl ⟨by rfl, ?_⟩) ?_
        rotate_left
        · (intro wq hSw; (try dsimp only at hSw); go_simp; first | done | with_reducible rfl)
        try simp only [Act.put, sA, sZ, sS]
        refine tkH (i := 2) (oi := oMg8_9) (v := ?_) (.inl ⟨by rfl, ?_⟩) ?_
        rotate_left
        · (intro wq hSw; (try dsimp only at hSw); go_simp; first | done | with_reducible rfl)
        try simp only [Act.put, sA, sZ, sS]
        refine wpAnyH_ready (rs := [3]) (by kernel_rfl) (by simp) ?_
        refine AllReadyH.cons (o := oMg8_10) rfl (fun K hK => ?_) AllReadyH.nil
        go_simp
        refine (rlast (HR.out.new ((New.refl W).drew.drew)) (by omega)).mono ?_
        rintro e w6 ⟨rfl, rfl⟩
        refine hK.out _ _ ?_ (fun hHeld => ?_)
        · exact rfl
        clear hK K
        try simp only [Act.put, sA, sZ, sS]
        refine tkH (i := 4) (oi := oMg8_11) (v := ?_) (.inl ⟨by rfl, ?_⟩) ?_
        rotate_left
        · (intro wq hSw; (try dsimp only at hSw); go_simp; first | done | with_reducible rfl)
        try simp only [Act.put, sA, sZ, sS]
        refine tkH (i := 5) (oi := oMg8_12) (v := ?_) (.inl ⟨by rfl, ?_⟩) ?_
        rotate_left
        · (intro wq hSw; (try dsimp only at hSw); go_simp; first | done | with_reducible rfl)
        try simp only [Act.put, sA, sZ, sS]
        refine wpAnyH_done (by kernel_rfl) ?_ _
        clear hHeld
        go_upto_region 8 with fail
        refine wp_region_held_drew (S := fun w' => w' = W.drew.drew.drew) (by kernel_rfl) (rfl) (fun hHeld => ?_)
        refine tkH (i := 0) (oi := oMg8_13) (v := ?_) (.inl ⟨by rfl, ?_⟩) ?_
        rotate_left
        · (intro wq hSw; (try dsimp only at hSw); go_simp; first | done | with_reducible rfl)
        try simp only [Act.put, sA, sZ, sS]
        refine tkH (i := 1) (oi := oMg8_14) (v := ?_) (.inl ⟨by rfl, ?_⟩) ?_
        rotate_left
        · (intro wq hSw; (try dsimp only at hSw); go_simp; first | done | with_reducible rfl)
        try simp only [Act.put, sA, sZ, sS]
        refine tkH (i := 2) (oi := oMg8_15) (v := ?_) (.inl ⟨by rfl, ?_⟩) ?_
        rotate_left
        · (intro wq hSw; (try dsimp only at hSw); go_simp; first | done | with_reducible rfl)
        try simp only [Act.put, sA, sZ, sS]
        refine tkH (i := 3) (oi := oMg8_16) (v := ?_) (.inl ⟨by rfl, ?_⟩) ?_
        rotate_left
        · (intro wq hSw; (try dsimp only at hSw); go_simp; first | done | with_reducible rfl)
        try simp only [Act.put, sA, sZ, sS]
        refine tkH (i := 4) (oi := oMg8_17) (v := ?_) (.inl ⟨by rfl, ?_⟩) ?_
        rotate_left
        · (intro wq hSw; (try dsimp only at hSw); go_simp; first | done | with_reducible rfl)
        try simp only [Act.put, sA, sZ, sS]
        refine tkH (i := 5) (oi := oMg8_18) (v := ?_) (.inl ⟨by rfl, ?_⟩) ?_
        rotate_left
        · (intro wq hSw; (try dsimp only at hSw); go_simp; first | done | with_reducible rfl)
        try simp only [Act.put, sA, sZ, sS]
        refine tkH (i := 6) (oi := oMg8_19) (v := ?_) (.inl ⟨by rfl, ?_⟩) ?_
        rotate_left
        · (intro wq hSw; (try dsimp only at hSw); go_simp; first | done | with_reducible rfl)
        try simp only [Act.put, sA, sZ, sS]
        refine tkH (i := 7) (oi := oMg8_20) (v := ?_) (.inl ⟨by rfl, ?_⟩) ?_
        rotate_left
        · (intro wq hSw; (try dsimp only at hSw); go_simp; first | done | with_reducible rfl)
        try simp only [Act.put, sA, sZ, sS]
        refine wpAnyH_done (by kernel_rfl) ?_ _
        clear hHeld
        go_wp2_with fail
        refine (rtell (HR.out.new (New.refl W).drew.drew.drew) (by omega)).mono ?_
        rintro e w5 ⟨rfl, hp⟩
        go_wp2_with fail
        go_end0
        exact ⟨rfl, by rw [HF.out]; exact (RpPost.pre HN.out.drew.drew.drew hp).mono (by omega)⟩
      case neg =>
        have HF : Hid (x.forwarded (NtV.nt ⟨nk, nfr, nds, nep, nt, ⟨⟨c, r, s, l⟩, A, cap⟩⟩) = x) := Lib.hid (by rw [HFW.out, if_neg h1, if_neg h2, if_neg h3])
        have hd3 : decide (nt ≤ x.cl) = false := decide_eq_false h3
        clear h1 h2 h3
        refine wp_region_held_drew (S := fun w' => w' = W.drew) (by kernel_rfl) (rfl) (fun hHeld => ?_)
        refine tkH (i := 0) (oi := oMg8_0) (v := ?_) (.inl ⟨by rfl, ?_⟩) ?_
        rotate_left
        · (intro wq hSw; (try dsimp only at hSw); go_simp; first | done | with_reducible rfl)
        try simp only [Act.put, sA, sZ, sS]
        refine tkH (i := 1) (oi := oMg8_1) (v := ?_) (.inl ⟨by rfl, ?_⟩) ?_
        rotate_left
        · (intro wq hSw; (try dsimp only at hSw); go_simp; first | done | with_reducible rfl)
        try simp only [Act.put, sA, sZ, sS]
        refine tkH (i := 2) (oi := oMg8_2) (v := ?_) (.inl ⟨by rfl, ?_⟩) ?_
        rotate_left
        · (intro wq hSw; (try dsimp only at hSw); go_simp; first | done | with_reducible rfl)
        try simp only [Act.put, sA, sZ, sS]
        refine wpAnyH_ready (rs := [3]) (by kernel_rfl) (by simp) ?_
        refine AllReadyH.cons (o := oMg8_3) rfl (fun K hK => ?_) AllReadyH.nil
        go_simp
        refine (rlast (HR.out.new ((New.refl W).drew)) (by omega)).mono ?_
        rintro e w6 ⟨rfl, rfl⟩
        refine hK.out _ _ ?_ (fun hHeld => ?_)
        · exact rfl
        clear hK K
        try simp only [Act.put, sA, sZ, sS]
        refine tkH (i := 4) (oi := oMg8_4) (v := ?_) (.inl ⟨by rfl, ?_⟩) ?_
        rotate_left
        · (intro wq hSw; (try dsimp only at hSw); go_simp; first | done | with_reducible rfl)
        try simp only [Act.put, sA, sZ, sS]
        refine tkH (i := 5) (oi := oMg8_5) (v := ?_) (.inl ⟨by rfl, ?_⟩) ?_
        rotate_left
        · (intro wq hSw; (try dsimp only at hSw); go_simp; first | done | with_reducible rfl)
        try simp only [Act.put, sA, sZ, sS]
        refine tkH (i := 6) (oi := oMg8_6) (v := ?_) (.inl ⟨by rfl, ?_⟩) ?_
        rotate_left
        · (intro wq hSw; (try dsimp only at hSw); go_simp; first | done | with_reducible rfl)
        try simp only [Act.put, sA, sZ, sS]
        refine wpAnyH_done (by kernel_rfl) ?_ _
        clear hHeld
        go_upto_region 6 with fail
        refine wp_region_held_drew (S := fun w' => w' = W.drew.drew) (by kernel_rfl) (rfl) (fun hHeld => ?_)
        refine tkH (i := 0) (oi := oMg8_7) (v := ?_) (.inl ⟨by rfl, ?_⟩) ?_
        rotate_left
        · (intro wq hSw; (try dsimp only at hSw); go_simp; first | done | with_reducible rfl)
        try simp only [Act.put, sA, sZ, sS]
        refine tkH (i := 1) (oi := oMg8_8) (v := ?_) (.inl ⟨by rfl, ?_⟩) ?_
        rotate_left
        · (intro wq hSw; (try dsimp only at hSw); go_simp; first | done | with_reducible rfl)
        try simp only [Act.put, sA, sZ, sS]
        refine tkH (i := 2) (oi := oMg8_9) (v := ?_) (.inl ⟨by rfl, ?_⟩) ?_
        rotate_left
        · (intro wq hSw; (try dsimp only at hSw); go_simp; first | done | with_reducible rfl)
        try simp only [Act.put, sA, sZ, sS]
        refine wpAnyH_ready (rs := [3]) (by kernel_rfl) (by simp) ?_
        refine AllReadyH.cons (o := oMg8_10) rfl (fun K hK => ?_) AllReadyH.nil
        go_simp
        refine (rlast (HR.out.new ((New.refl W).drew.drew)) (by omega)).mono ?_
        rintro e w6 ⟨rfl, rfl⟩
        refine hK.out _ _ ?_ (fun hHeld => ?_)
        · exact rfl
        clear hK K
        try simp only [Act.put, sA, sZ, sS]
        refine tkH (i := 4) (oi := oMg8_11) (v := ?_) (.inl ⟨by rfl, ?_⟩) ?_
        rotate_left
        · (intro wq hSw; (try dsimp only at hSw); go_simp; first | done | with_reducible rfl)
        try simp only [Act.put, sA, sZ, sS]
        refine tkH (i := 5) (oi := oMg8_12) (v := ?_) (.inl ⟨by rfl, ?_⟩) ?_
        rotate_left
        · (intro wq hSw; (try dsimp only at hSw); go_simp; first | done | with_reducible rfl)
        try simp only [Act.put, sA, sZ, sS]
        refine wpAnyH_done (by kernel_rfl) ?_ _
        clear hHeld
        go_upto_region 8 with fail
        refine wp_region_held_drew (S := fun w' => w' = W.drew.drew.drew) (by kernel_rfl) (rfl) (fun hHeld => ?_)
        refine tkH (i := 0) (oi := oMg8_13) (v := ?_) (.inl ⟨by rfl, ?_⟩) ?_
        rotate_left
        · (intro wq hSw; (try dsimp only at hSw); go_simp; first | done | with_reducible rfl)
        try simp only [Act.put, sA, sZ, sS]
        refine tkH (i := 1) (oi := oMg8_14) (v := ?_) (.inl ⟨by rfl, ?_⟩) ?_
        rotate_left
        · (intro wq hSw; (try dsimp only at hSw); go_simp; first | done | with_reducible rfl)
        try simp only [Act.put, sA, sZ, sS]
        refine tkH (i := 2) (oi := oMg8_15) (v := ?_) (.inl ⟨by rfl, ?_⟩) ?_
        rotate_left
        · (intro wq hSw; (try dsimp only at hSw); go_simp; first | done | with_reducible rfl)
        try simp only [Act.put, sA, sZ, sS]
        refine tkH (i := 3) (oi := oMg8_16) (v := ?_) (.inl ⟨by rfl, ?_⟩) ?_
        rotate_left
        · (intro wq hSw; (try dsimp only at hSw); go_simp; first | done | with_reducible rfl)
        try simp only [Act.put, sA, sZ, sS]
        refine tkH (i := 4) (oi := oMg8_17) (v := ?_) (.inl ⟨by rfl, ?_⟩) ?_
        rotate_left
        · (intro wq hSw; (try dsimp only at hSw); go_simp; first | done | with_reducible rfl)
        try simp only [Act.put, sA, sZ, sS]
        refine tkH (i := 5) (oi := oMg8_18) (v := ?_) (.inl ⟨by rfl, ?_⟩) ?_
        rotate_left
        · (intro wq hSw; (try dsimp only at hSw); go_simp; first | done | with_reducible rfl)
        try simp only [Act.put, sA, sZ, sS]
        refine tkH (i := 6) (oi := oMg8_19) (v := ?_) (.inl ⟨by rfl, ?_⟩) ?_
        rotate_left
        · (intro wq hSw; (try dsimp only at hSw); go_simp; first | done | with_reducible rfl)
        try simp only [Act.put, sA, sZ, sS]
        refine tkH (i := 7) (oi := oMg8_20) (v := ?_) (.inl ⟨by rfl, ?_⟩) ?_
        rotate_left
        · (intro wq hSw; (try dsimp only at hSw); go_simp; first | done | with_reducible rfl)
        try simp only [Act.put, sA, sZ, sS]
        refine wpAnyH_done (by kernel_rfl) ?_ _
        clear hHeld
        go_wp2_with fail
        go_end0
        exact ⟨rfl, by rw [HF.out]; exact (RpPost.new HR.out (New.refl W).drew.drew.drew |> RpPost.pre HN.out).mono (by omega)⟩
  case pos =>
    have hd1 : ((nt : Int) == (x.la : Int) + 1) = true := beq_iff_eq.2 (by omega)
    by_cases hck : chk l = 0
    case neg =>
      have HF : Hid (x.forwarded (NtV.nt ⟨nk, nfr, nds, nep, nt, ⟨⟨c, r, s, l⟩, A, cap⟩⟩) = x) := Lib.hid (by rw [HFW.out, if_pos h1, if_pos hck])
      clear h1
      refine wp_region_held_drew (S := fun w' => w' = W.drew) (by kernel_rfl) (rfl) (fun hHeld => ?_)
      refine tkH (i := 0) (oi := oMg8_0) (v := ?_) (.inl ⟨by rfl, ?_⟩) ?_
      rotate_left
      · (intro wq hSw; (try dsimp only at hSw); go_simp; first | done | with_reducible rfl)
      try simp only [Act.put, sA, sZ, sS]
      refine tkH (i := 1) (oi := oMg8_1) (v := ?_) (.inl ⟨by rfl, ?_⟩) ?_
      rotate_left
      · (intro wq hSw; (try dsimp only at hSw); go_simp; first | done | with_reducible rfl)
      try simp only [Act.put, sA, sZ, sS]
      refine tkH (i := 2) (oi := oMg8_2) (v := ?_) (.inl ⟨by rfl, ?_⟩) ?_
      rotate_left
      · (intro wq hSw; (try dsimp only at hSw); go_simp; first | done | with_reducible rfl)
      try simp only [Act.put, sA, sZ, sS]
      refine wpAnyH_ready (rs := [3]) (by kernel_rfl) (by simp) ?_
      refine AllReadyH.cons (o := oMg8_3) rfl (fun K hK => ?_) AllReadyH.nil
      go_simp
      refine (rlast (HR.out.new ((New.refl W).drew)) (by omega)).mono ?_
      rintro e w6 ⟨rfl, rfl⟩
      refine hK.out _ _ ?_ (fun hHeld => ?_)
      · exact rfl
      clear hK K
      try simp only [Act.put, sA, sZ, sS]
      refine tkH (i := 4) (oi := oMg8_4) (v := ?_) (.inl ⟨by rfl, ?_⟩) ?_
      rotate_left
      · (intro wq hSw; (try dsimp only at hSw); go_simp; first | done | with_reducible rfl)
      try simp only [Act.put, sA, sZ, sS]
      refine tkH (i := 5) (oi := oMg8_5) (v := ?_) (.inl ⟨by rfl, ?_⟩) ?_
      rotate_left
      · (intro wq hSw; (try dsimp only at hSw); go_simp; first | done | with_reducible rfl)
      try simp only [Act.put, sA, sZ, sS]
      refine tkH (i := 6) (oi := oMg8_6) (v := ?_) (.inl ⟨by rfl, ?_⟩) ?_
      rotate_left
      · (intro wq hSw; (try dsimp only at hSw); go_simp; first | done | with_reducible rfl)
      try simp only [Act.put, sA, sZ, sS]
      refine wpAnyH_done (by kernel_rfl) ?_ _
      clear hHeld
      go_wp2_with fail
      refine (check_any c r s _ l W.drew (by have := HV.out.ok.l; dsimp only at this; omega) (HV.out.sl.slIn.new (New.refl W).drew)).mono ?_
      rintro e w5 ⟨rfl, hn5⟩
      have HN5 := Lib.hid (HN.out.drew.trans hn5)
      have HR5 := Lib.hid (HR.out.new ((New.refl W).drew.trans hn5))
      go_wp2_with fail
      refine bodyPost_ret (results_none rfl _ _ _) rfl ?_
      exact ⟨rfl, by rw [HF.out]; exact (RpPost.pre HN5.out (RpPost.refl HR5.out)).mono (by omega)⟩
    case pos =>
      have HF : Hid (x.forwarded (NtV.nt ⟨nk, nfr, nds, nep, nt, ⟨⟨c, r, s, l⟩, A, cap⟩⟩) = ({ x with j := (x.j.load ⟨c, r, s, l⟩).1 } : Rpl).added ⟨c, r, s, l⟩) := Lib.hid (by rw [HFW.out, if_pos h1, if_neg (by rw [hck]; decide)])
      clear h1
      refine wp_region_held_drew (S := fun w' => w' = W.drew) (by kernel_rfl) (rfl) (fun hHeld => ?_)
      refine tkH (i := 0) (oi := oMg8_0) (v := ?_) (.inl ⟨by rfl, ?_⟩) ?_
      rotate_left
      · (intro wq hSw; (try dsimp only at hSw); go_simp; first | done | with_reducible rfl)
      try simp only [Act.put, sA, sZ, sS]
      refine tkH (i := 1) (oi := oMg8_1) (v := ?_) (.inl ⟨by rfl, ?_⟩) ?_
      rotate_left
      · (intro wq hSw; (try dsimp only at hSw); go_simp; first | done | with_reducible rfl)
      try simp only [Act.put, sA, sZ, sS]
      refine tkH (i := 2) (oi := oMg8_2) (v := ?_) (.inl ⟨by rfl, ?_⟩) ?_
      rotate_left
      · (intro wq hSw; (try dsimp only at hSw); go_simp; first | done | with_reducible rfl)
      try simp only [Act.put, sA, sZ, sS]
      refine wpAnyH_ready (rs := [3]) (by kernel_rfl) (by simp) ?_
      refine AllReadyH.cons (o := oMg8_3) rfl (fun K hK => ?_) AllReadyH.nil
      go_simp
      refine (rlast (HR.out.new ((New.refl W).drew)) (by omega)).mono ?_
      rintro e w6 ⟨rfl, rfl⟩
      refine hK.out _ _ ?_ (fun hHeld => ?_)
      · exact rfl
      clear hK K
      try simp only [Act.put, sA, sZ, sS]
      refine tkH (i := 4) (oi := oMg8_4) (v := ?_) (.inl ⟨by rfl, ?_⟩) ?_
      rotate_left
      · (intro wq hSw; (try dsimp only at hSw); go_simp; first | done | with_reducible rfl)
      try simp only [Act.put, sA, sZ, sS]
      refine tkH (i := 5) (oi := oMg8_5) (v := ?_) (.inl ⟨by rfl, ?_⟩) ?_
      rotate_left
      · (intro wq hSw; (try dsimp only at hSw); go_simp; first | done | with_reducible rfl)
      try simp only [Act.put, sA, sZ, sS]
      refine tkH (i := 6) (oi := oMg8_6) (v := ?_) (.inl ⟨by rfl, ?_⟩) ?_
      rotate_left
      · (intro wq hSw; (try dsimp only at hSw); go_simp; first | done | with_reducible rfl)
      try simp only [Act.put, sA, sZ, sS]
      refine wpAnyH_done (by kernel_rfl) ?_ _
      clear hHeld
      go_wp2_with fail
      refine (check_any c r s _ l W.drew (by have := HV.out.ok.l; dsimp only at this; omega) (HV.out.sl.slIn.new (New.refl W).drew)).mono ?_
      rintro e w5 ⟨rfl, hn5⟩
      rw [hck]
      have HN5 := Lib.hid (HN.out.drew.trans hn5)
      have HR5 := Lib.hid (HR.out.new ((New.refl W).drew.trans hn5))
      have HV5 := Lib.hid (HV.out.new ((New.refl W).drew.trans hn5))
      have HX5 := Lib.hid (HX.out.new ((New.refl W).drew.trans hn5))
      clear hn5 a0 a1 a2 a3 a4 a5 a6 a7 a8 a9 az g0 c0 c1 c2 c3 c4 c5 c6 cz
      obtain ⟨a0, a1, a2, a3, a4, a5, a6, a7, a8, a9, az⟩ := nt_facts (n := ⟨nk, nfr, nds, nep, nt, ⟨⟨c, r, s, l⟩, A, cap⟩⟩) HX5.out
      obtain ⟨g0, c0, c1, c2, c3, c4, c5, c6, cz⟩ := HR5.out.facts
      dsimp only [BtV.sl] at a1 a2 a3 a4 a5 a6 a7 a8 a9
      go_upto_region 3 with fail
      refine wp_region_held_drew (S := fun w' => (∀ o, w'.cell? ⟨w.heap.size, o, none⟩ = w5.cell? ⟨w.heap.size, o, none⟩) ∧ (∀ o, w'.cell? ⟨rp, o, none⟩ = w5.cell? ⟨rp, o, none⟩)) (by kernel_rfl) (⟨fun _ => rfl, fun _ => rfl⟩) (fun hHeld => ?_)
      refine tkH (i := 0) (oi := ⟨some 15, .move (.tmp 0), 45, "replica.go:145", #[], none⟩) (v := ?_) (.inl ⟨by rfl, ?_⟩) ?_
      rotate_left
      · (intro wq hSw; (try dsimp only at hSw); go_simp; first | done | with_reducible rfl)
      try simp only [Act.put, sA, sZ, sS]
      refine tkH (i := 1) (oi := ⟨some 16, .nilCheck (.tmp 15), 0, "replica.go:145", #[⟨0, .data⟩], none⟩) (v := ?_) (.inl ⟨by rfl, ?_⟩) ?_
      rotate_left
      · (intro wq hSw; (try dsimp only at hSw); go_simp; first | done | with_reducible rfl)
      try simp only [Act.put, sA, sZ, sS]
      refine tkH (i := 2) (oi := ⟨some 17, .fieldAddr 107 (.tmp 16) 2, 0, "replica.go:145", #[⟨1, .data⟩], none⟩) (v := ?_) (.inl ⟨by rfl, ?_⟩) ?_
      rotate_left
      · (intro wq hSw; (try dsimp only at hSw); go_simp; first | done | with_reducible rfl)
      try simp only [Act.put, sA, sZ, sS]
      refine tkH (i := 3) (oi := ⟨some 18, .load 101 (.tmp 17), 101, "replica.go:145", #[⟨2, .data⟩], none⟩) (v := ?_) (.inl ⟨by rfl, ?_⟩) ?_
      rotate_left
      · (intro wq hSw; (try dsimp only at hSw); go_simp; first | done | with_reducible rfl)
      try simp only [Act.put, sA, sZ, sS]
      refine tkH (i := 4) (oi := ⟨some 19, .fieldAddr 93 (.tmp 3) 5, 0, "replica.go:145", #[], none⟩) (v := ?_) (.inl ⟨by rfl, ?_⟩) ?_
      rotate_left
      · (intro wq hSw; (try dsimp only at hSw); go_simp; first | done | with_reducible rfl)
      try simp only [Act.put, sA, sZ, sS]
      refine tkH (i := 5) (oi := ⟨some 20, .load 40 (.tmp 19), 40, "replica.go:145", #[⟨4, .data⟩], none⟩) (v := ?_) (.inl ⟨by rfl, ?_⟩) ?_
      rotate_left
      · (intro wq hSw; (try dsimp only at hSw); go_simp; first | done | with_reducible rfl)
      try simp only [Act.put, sA, sZ, sS]
      refine wpAnyH_ready (rs := [6]) (by kernel_rfl) (by simp) ?_
      refine AllReadyH.cons (o := ⟨some 21, .call { callee := .value (.func 40), args := #[.tmp 18, .tmp 20], argTypes := #[101, 40] }, 100, "replica.go:145", #[⟨3, .data⟩, ⟨5, .data⟩], none⟩) rfl (fun K hK => ?_) AllReadyH.nil
      go_simp
      refine (jload (x := ⟨⟨c, r, s, l⟩, A, cap⟩) (HR5.out.j.new (New.refl w5).drew) (HV5.out.new (New.refl w5).drew) (by omega)).mono ?_
      rintro e wj hpj
      obtain ⟨rfl, hj7, hu7⟩ := hpj
      have hujW : Upd (JdF L.jl) w5 wj := (Upd.refl (JdF L.jl) w5).drew.trans hu7 (fun _ _ h => h)
      have hjw := HR5.out.setJ hj7 hujW (by omega)
      have hnj : ¬ JdF L.jl w.heap.size := fun hk => by have := HSZ.out _ (.inr (.inl hk)); omega
      have hx7 := HX5.out.upd hujW hnj
      have hnr : ¬ JdF L.jl rp := HR5.out.rp_jd
      refine hK.out _ _ ?_ (fun hHeld => ?_)
      · exact ⟨fun o => keepR hujW HX5.out.lt hnj o, fun o => keepR hujW HR5.out.blk.lt hnr o⟩
      clear hK K
      try simp only [Act.put, sA, sZ, sS]
      refine wpAnyH_done (by kernel_rfl) ?_ _
      clear hHeld hj7 hu7
      have HJW := Lib.hid hjw
      have HX7 := Lib.hid hx7
      have HV7 := Lib.hid (HV5.out.upd hujW (HR5.out.j.off (by decide)))
      have HU7 : Hid (Upd (RpF rp L) w wj) := Lib.hid ((Upd.new (S := RpF rp L) HN5.out).trans hujW (fun _ _ h => .inr (.inl h)))
      clear hjw hx7 hnj hujW hnr
      generalize hx1 : ({ x with j := (x.j.load ⟨c, r, s, l⟩).1 } : Rpl) = x1 at *
      have hxl : x1.l = x.l := by rw [← hx1]
      clear g0 c0 c1 c2 c3 c4 c5 c6 cz a0 a1 a2 a3 a4 a5 a6 a7 a8 a9 az
      obtain ⟨g0, c0, c1, c2, c3, c4, c5, c6, cz⟩ := HJW.out.facts
      obtain ⟨a0, a1, a2, a3, a4, a5, a6, a7, a8, a9, az⟩ := nt_facts (n := ⟨nk, nfr, nds, nep, nt, ⟨⟨c, r, s, l⟩, A, cap⟩⟩) HX7.out
      dsimp only [BtV.sl] at a1 a2 a3 a4 a5 a6 a7 a8 a9
      have HBR : Hid (¬ w.heap.size = rp) := Lib.hid (fun e => by have := HSZ.out rp (.inl rfl); omega)
      go_upto_region 4 with fail
      have K0_0 := a6
      have K0_1 := a7
      have K0_2 := a8
      have K0_3 := a9
      refine wp_region_held_drew (S := fun w' => w'.cell? ⟨w.heap.size, 5, none⟩ = some (.int .u64 (c : Int)) ∧ w'.cell? ⟨w.heap.size, 6, none⟩ = some (.int .u64 (r : Int)) ∧ w'.cell? ⟨w.heap.size, 7, none⟩ = some (.int .u64 (s : Int)) ∧ w'.cell? ⟨w.heap.size, 8, none⟩ = some (.slice A l.length cap)) (by kernel_rfl) (⟨K0_0, K0_1, K0_2, K0_3⟩) (fun hHeld => ?_)
      refine tkH (i := 0) (oi := ⟨some 22, .move (.tmp 0), 45, "replica.go:146", #[], none⟩) (v := ?_) (.inl ⟨by rfl, ?_⟩) ?_
      rotate_left
      · (intro wq hSw; (try dsimp only at hSw); go_simp; first | done | with_reducible rfl)
      try simp only [Act.put, sA, sZ, sS]
      refine tkH (i := 1) (oi := ⟨some 23, .move (.tmp 0), 45, "replica.go:146", #[], none⟩) (v := ?_) (.inl ⟨by rfl, ?_⟩) ?_
      rotate_left
      · (intro wq hSw; (try dsimp only at hSw); go_simp; first | done | with_reducible rfl)
      try simp only [Act.put, sA, sZ, sS]
      refine tkH (i := 2) (oi := ⟨some 24, .nilCheck (.tmp 23), 0, "replica.go:146", #[⟨1, .data⟩], none⟩) (v := ?_) (.inl ⟨by rfl, ?_⟩) ?_
      rotate_left
      · (intro wq hSw; (try dsimp only at hSw); go_simp; first | done | with_reducible rfl)
      try simp only [Act.put, sA, sZ, sS]
      refine tkH (i := 3) (oi := ⟨some 25, .fieldAddr 107 (.tmp 24) 3, 0, "replica.go:146", #[⟨2, .data⟩], none⟩) (v := ?_) (.inl ⟨by rfl, ?_⟩) ?_
      rotate_left
      · (intro wq hSw; (try dsimp only at hSw); go_simp; first | done | with_reducible rfl)
      try simp only [Act.put, sA, sZ, sS]
      refine tkH (i := 5) (oi := ⟨some 27, .fieldAddr 93 (.tmp 3) 5, 0, "replica.go:146", #[], none⟩) (v := ?_) (.inl ⟨by rfl, ?_⟩) ?_
      rotate_left
      · (intro wq hSw; (try dsimp only at hSw); go_simp; first | done | with_reducible rfl)
      try simp only [Act.put, sA, sZ, sS]
      refine tkH (i := 6) (oi := ⟨some 28, .load 40 (.tmp 27), 40, "replica.go:146", #[⟨5, .data⟩], none⟩) (v := ?_) (.inl ⟨by rfl, ?_⟩) ?_
      rotate_left
      · (intro wq hSw; (try dsimp only at hSw); go_simp; first | done | with_reducible rfl)
      try simp only [Act.put, sA, sZ, sS]
      refine wpAnyH_ready (rs := [4, 7]) (by kernel_rfl) (by simp) ?_
      refine AllReadyH.cons (o := oMg8_21) rfl (fun K hK => ?_) (AllReadyH.cons (o := oMg8_22) rfl (fun K hK => ?_) AllReadyH.nil)
      · go_simp
        refine hK.out _ _ ?_ (fun hHeld => ?_)
        · exact hHeld
        clear hK K
        try simp only [Act.put, sA, sZ, sS]
        refine wpAnyH_ready (rs := [7]) (by kernel_rfl) (by simp) ?_
        refine AllReadyH.cons (o := oMg8_22) rfl (fun K hK => ?_) AllReadyH.nil
        go_simp
        refine (copied_any (HV7.out.new (New.refl wj).drew)).mono ?_
        rintro e w5 ⟨y, rfl, hyb, hy5, hn5⟩
        obtain ⟨⟨yc, yr, ys, yl⟩, yA, ycap⟩ := y
        dsimp only at hyb
        cases hyb
        dsimp only [BtV.val, BtV.sl, batV]
        have hn5W : New wj w5 := (New.refl wj).drew.trans hn5
        have HR5 := Lib.hid (HJW.out.new hn5W)
        have HY5 := Lib.hid hy5
        have HN5 := Lib.hid hn5W
        have HX5 := Lib.hid (HX7.out.new hn5W)
        obtain ⟨G0, C0, C1, C2, C3, C4, C5, C6, CZ⟩ := HR5.out.facts
        clear hy5 hn5
        have K0_0 := HX5.out.cell 5
        have K0_1 := HX5.out.cell 6
        have K0_2 := HX5.out.cell 7
        have K0_3 := HX5.out.cell 8
        (try dsimp only [NtV.cells] at K0_0 K0_1 K0_2 K0_3)
        refine hK.out _ _ ?_ (fun hHeld => ?_)
        · exact ⟨K0_0, K0_1, K0_2, K0_3⟩
        clear hK K
        try simp only [Act.put, sA, sZ, sS]
        refine wpAnyH_ready (rs := [8]) (by kernel_rfl) (by simp) ?_
        refine AllReadyH.cons (o := oMg8_23) rfl (fun K hK => ?_) AllReadyH.nil
        go_simp
        have hn6 := (New.refl w5).alloc (.cells #[.int .u64 (c : Int), .int .u64 (r : Int), .int .u64 (s : Int), .slice yA l.length ycap] 40)
        have HP6 := Lib.hid (Blk.mk_new w5 40 #[.int .u64 (c : Int), .int .u64 (r : Int), .int .u64 (s : Int), .slice yA l.length ycap])
        have HR6 := Lib.hid (HR5.out.new hn6)
        have HY6 := Lib.hid (HY5.out.new hn6)
        have HN6 := Lib.hid (HN5.out.trans hn6)
        have HX6 := Lib.hid (HX5.out.new hn6)
        clear hn6 K0_0 K0_1 K0_2 K0_3
        generalize w5.alloc (.cells #[.int .u64 (c : Int), .int .u64 (r : Int), .int .u64 (s : Int), .slice yA l.length ycap] 40) = w6 at *
        obtain ⟨G0, C0, C1, C2, C3, C4, C5, C6, CZ⟩ := HR6.out.facts
        have K0_0 := HX6.out.cell 5
        have K0_1 := HX6.out.cell 6
        have K0_2 := HX6.out.cell 7
        have K0_3 := HX6.out.cell 8
        (try dsimp only [NtV.cells] at K0_0 K0_1 K0_2 K0_3)
        refine hK.out _ _ ?_ (fun hHeld => ?_)
        · exact ⟨K0_0, K0_1, K0_2, K0_3⟩
        clear hK K
        try simp only [Act.put, sA, sZ, sS]
        refine wpAnyH_ready (rs := [9]) (by kernel_rfl) (by simp) ?_
        refine AllReadyH.cons (o := oMg8_24) rfl (fun K hK => ?_) AllReadyH.nil
        obtain ⟨qs, hqs, hrow, hqa⟩ := HR6.out.l
        have HQS := Lib.hid hqs
        have HQA := Lib.hid hqa
        have HROW := Lib.hid hrow
        have hql : qs.length ≤ (B + 10) := by have := HR6.out.ll; rw [← hqs, List.length_map] at this; exact this
        refine step_appR (m := [(⟨⟨c, r, s, l⟩, yA, ycap⟩ : BtV)]) btTy BtV.encOk rfl (.tmp 26) (.tmp 30) rfl rfl rfl hrow (SlIn.one HP6.out BtV.encOk rfl) (by simp; unfold maxLen; omega) (by simp; omega) (Nat.zero_le _) ?_
        intro v7 w7 h7 hg7 hv7
        have hou : Upd (fun i => L.lv.ownBlock = some i) w6 w7 := (Upd.refl _ w6).grown hg7 (fun i _ e => e)
        have hrn : ¬ L.lv.ownBlock = some rp := fun e => hrow.ne_blk HR6.out.blk (by decide) e
        have hbn : ¬ L.lv.ownBlock = some w.heap.size := fun e => hrow.ne_blk HX6.out (by decide) e
        have hcr := fun o => keepR hou G0 hrn o
        have HX7 := Lib.hid (HX6.out.upd hou hbn)
        have HYR : Hid (BtRow w7 0 v7 (x1.l ++ [⟨c, r, s, l⟩])) := Lib.hid ⟨qs ++ [(⟨⟨c, r, s, l⟩, yA, ycap⟩ : BtV)], by rw [List.map_append, HQS.out]; rfl, h7, fun p hp => (List.mem_append.1 hp).elim (fun hp => (HQA.out p hp).upd hou (Off.row HROW.out (by decide))) (fun hp => by rw [List.mem_singleton.1 hp]; exact HY6.out.upd hou (Off.row HROW.out (by decide)))⟩
        have hfz : ∀ i, w7.frozen? ⟨rp, i, none⟩ = false := (HR6.out.blk.upd hou hrn).frozen
        obtain ⟨A7, n7, c7, hs7⟩ := h7.shp
        have HS7 := Lib.hid hs7
        have HG7 := Lib.hid hg7
        have HV7 := Lib.hid hv7
        have HOU := Lib.hid hou
        rw [hs7]
        have E4 := (hcr 4).trans C4
        have gl : rp < w7.heap.size := Nat.lt_of_lt_of_le G0 hou.size
        clear hqs hqa hrow h7 hg7 hv7 hou hrn hbn hcr hql hs7 K0_0 K0_1 K0_2 K0_3
        have K0_0 := HX7.out.cell 5
        have K0_1 := HX7.out.cell 6
        have K0_2 := HX7.out.cell 7
        have K0_3 := HX7.out.cell 8
        (try dsimp only [NtV.cells] at K0_0 K0_1 K0_2 K0_3)
        refine hK.out _ _ ?_ (fun hHeld => ?_)
        · exact ⟨K0_0, K0_1, K0_2, K0_3⟩
        clear hK K
        try simp only [Act.put, sA, sZ, sS]
        refine tkH (i := 10) (oi := oMg8_25) (v := ?_) (.inl ⟨by rfl, ?_⟩) ?_
        rotate_left
        · (intro wq hSw; (try dsimp only at hSw); go_simp; first | done | with_reducible rfl)
        try simp only [Act.put, sA, sZ, sS]
        refine tkH (i := 11) (oi := oMg8_26) (v := ?_) (.inl ⟨by rfl, ?_⟩) ?_
        rotate_left
        · (intro wq hSw; (try dsimp only at hSw); go_simp; first | done | with_reducible rfl)
        try simp only [Act.put, sA, sZ, sS]
        refine wpAnyH_ready (rs := [12]) (by kernel_rfl) (by simp) ?_
        refine AllReadyH.cons (o := oMg8_27) rfl (fun K hK => ?_) AllReadyH.nil
        go_simp
        have I0 := cell_far (u := .slice A7 n7 c7) (i := 4) K0_0 HBR.out
        have I1 := cell_far (u := .slice A7 n7 c7) (i := 4) K0_1 HBR.out
        have I2 := cell_far (u := .slice A7 n7 c7) (i := 4) K0_2 HBR.out
        have I3 := cell_far (u := .slice A7 n7 c7) (i := 4) K0_3 HBR.out
        refine hK.out _ _ ?_ (fun hHeld => ?_)
        · exact ⟨I0, I1, I2, I3⟩
        clear hK K
        try simp only [Act.put, sA, sZ, sS]
        refine wpAnyH_done (by kernel_rfl) ?_ _
        clear hHeld
        have H8 : Hid (RpAt (w7.setCell ⟨rp, 4, none⟩ (.slice A7 n7 c7)) rp ((B + 10) + 1) { L with lv := .slice A7 n7 c7 } { x1 with l := x1.l ++ [⟨c, r, s, l⟩] }) := Lib.hid (by
          have := HR6.out.setL HYR.out (by have := HR6.out.ll; rw [List.length_append, List.length_singleton]; omega) HG7.out
          rw [HS7.out] at this
          exact this)
        have H8K : Hid (∀ i, RpF rp { L with lv := .slice A7 n7 c7 } i → RpF rp L i ∨ wj.heap.size ≤ i) := Lib.hid (by
          rintro i (hi | hi | hi | hi)
          · exact .inl (.inl hi)
          · exact .inl (.inr (.inl hi))
          · rw [← HS7.out] at hi
            exact HV7.out.elim (fun e => .inl (.inr (.inr (.inl (e ▸ hi))))) (fun e => .inr (by rw [e] at hi; cases hi; exact HN6.out.size))
          · exact .inl (.inr (.inr (.inr hi))))
        have H8U : Hid (Upd (RpF rp L) wj (w7.setCell ⟨rp, 4, none⟩ (.slice A7 n7 c7))) := Lib.hid ((((Upd.new (S := RpF rp L) HN6.out)).trans HOU.out (fun i _ hi => .inr (.inr (.inl hi)))).setCell (p := ⟨rp, 4, none⟩) (fun _ => .inl rfl) _)
        clear E4 gl hfz
        go_wp2_with fail
        refine (radded H8.out (b := ⟨c, r, s, l⟩) (m := x1.l.length) (by simp) (by simp) (by omega)).mono ?_
        rintro e w9 ⟨rfl, hp⟩
        go_wp2_with fail
        go_end0
        exact ⟨rfl, by rw [HF.out]; exact (RpPost.trans H8.out (fun i hi => (H8K.out i hi).imp (fun h => h) (fun h => Nat.le_trans HU7.out.size h)) (HU7.out.trans H8U.out (fun _ _ h => h)) hp).mono (by omega)⟩
      · go_simp
        refine (copied_any (HV7.out.new (New.refl wj).drew)).mono ?_
        rintro e w5 ⟨y, rfl, hyb, hy5, hn5⟩
        obtain ⟨⟨yc, yr, ys, yl⟩, yA, ycap⟩ := y
        dsimp only at hyb
        cases hyb
        dsimp only [BtV.val, BtV.sl, batV]
        have hn5W : New wj w5 := (New.refl wj).drew.trans hn5
        have HR5 := Lib.hid (HJW.out.new hn5W)
        have HY5 := Lib.hid hy5
        have HN5 := Lib.hid hn5W
        have HX5 := Lib.hid (HX7.out.new hn5W)
        obtain ⟨G0, C0, C1, C2, C3, C4, C5, C6, CZ⟩ := HR5.out.facts
        clear hy5 hn5
        have K0_0 := HX5.out.cell 5
        have K0_1 := HX5.out.cell 6
        have K0_2 := HX5.out.cell 7
        have K0_3 := HX5.out.cell 8
        (try dsimp only [NtV.cells] at K0_0 K0_1 K0_2 K0_3)
        refine hK.out _ _ ?_ (fun hHeld => ?_)
        · exact ⟨K0_0, K0_1, K0_2, K0_3⟩
        clear hK K
        try simp only [Act.put, sA, sZ, sS]
        refine wpAnyH_ready (rs := [4, 8]) (by kernel_rfl) (by simp) ?_
        refine AllReadyH.cons (o := oMg8_21) rfl (fun K hK => ?_) (AllReadyH.cons (o := oMg8_23) rfl (fun K hK => ?_) AllReadyH.nil)
        · go_simp
          refine hK.out _ _ ?_ (fun hHeld => ?_)
          · exact hHeld
          clear hK K
          try simp only [Act.put, sA, sZ, sS]
          refine wpAnyH_ready (rs := [8]) (by kernel_rfl) (by simp) ?_
          refine AllReadyH.cons (o := oMg8_23) rfl (fun K hK => ?_) AllReadyH.nil
          go_simp
          have hn6 := (New.refl w5).alloc (.cells #[.int .u64 (c : Int), .int .u64 (r : Int), .int .u64 (s : Int), .slice yA l.length ycap] 40)
          have HP6 := Lib.hid (Blk.mk_new w5 40 #[.int .u64 (c : Int), .int .u64 (r : Int), .int .u64 (s : Int), .slice yA l.length ycap])
          have HR6 := Lib.hid (HR5.out.new hn6)
          have HY6 := Lib.hid (HY5.out.new hn6)
          have HN6 := Lib.hid (HN5.out.trans hn6)
          have HX6 := Lib.hid (HX5.out.new hn6)
          clear hn6 K0_0 K0_1 K0_2 K0_3
          generalize w5.alloc (.cells #[.int .u64 (c : Int), .int .u64 (r : Int), .int .u64 (s : Int), .slice yA l.length ycap] 40) = w6 at *
          obtain ⟨G0, C0, C1, C2, C3, C4, C5, C6, CZ⟩ := HR6.out.facts
          have K0_0 := HX6.out.cell 5
          have K0_1 := HX6.out.cell 6
          have K0_2 := HX6.out.cell 7
          have K0_3 := HX6.out.cell 8
          (try dsimp only [NtV.cells] at K0_0 K0_1 K0_2 K0_3)
          refine hK.out _ _ ?_ (fun hHeld => ?_)
          · exact ⟨K0_0, K0_1, K0_2, K0_3⟩
          clear hK K
          try simp only [Act.put, sA, sZ, sS]
          refine wpAnyH_ready (rs := [9]) (by kernel_rfl) (by simp) ?_
          refine AllReadyH.cons (o := oMg8_24) rfl (fun K hK => ?_) AllReadyH.nil
          obtain ⟨qs, hqs, hrow, hqa⟩ := HR6.out.l
          have HQS := Lib.hid hqs
          have HQA := Lib.hid hqa
          have HROW := Lib.hid hrow
          have hql : qs.length ≤ (B + 10) := by have := HR6.out.ll; rw [← hqs, List.length_map] at this; exact this
          refine step_appR (m := [(⟨⟨c, r, s, l⟩, yA, ycap⟩ : BtV)]) btTy BtV.encOk rfl (.tmp 26) (.tmp 30) rfl rfl rfl hrow (SlIn.one HP6.out BtV.encOk rfl) (by simp; unfold maxLen; omega) (by simp; omega) (Nat.zero_le _) ?_
          intro v7 w7 h7 hg7 hv7
          have hou : Upd (fun i => L.lv.ownBlock = some i) w6 w7 := (Upd.refl _ w6).grown hg7 (fun i _ e => e)
          have hrn : ¬ L.lv.ownBlock = some rp := fun e => hrow.ne_blk HR6.out.blk (by decide) e
          have hbn : ¬ L.lv.ownBlock = some w.heap.size := fun e => hrow.ne_blk HX6.out (by decide) e
          have hcr := fun o => keepR hou G0 hrn o
          have HX7 := Lib.hid (HX6.out.upd hou hbn)
          have HYR : Hid (BtRow w7 0 v7 (x1.l ++ [⟨c, r, s, l⟩])) := Lib.hid ⟨qs ++ [(⟨⟨c, r, s, l⟩, yA, ycap⟩ : BtV)], by rw [List.map_append, HQS.out]; rfl, h7, fun p hp => (List.mem_append.1 hp).elim (fun hp => (HQA.out p hp).upd hou (Off.row HROW.out (by decide))) (fun hp => by rw [List.mem_singleton.1 hp]; exact HY6.out.upd hou (Off.row HROW.out (by decide)))⟩
          have hfz : ∀ i, w7.frozen? ⟨rp, i, none⟩ = false := (HR6.out.blk.upd hou hrn).frozen
          obtain ⟨A7, n7, c7, hs7⟩ := h7.shp
          have HS7 := Lib.hid hs7
          have HG7 := Lib.hid hg7
          have HV7 := Lib.hid hv7
          have HOU := Lib.hid hou
          rw [hs7]
          have E4 := (hcr 4).trans C4
          have gl : rp < w7.heap.size := Nat.lt_of_lt_of_le G0 hou.size
          clear hqs hqa hrow h7 hg7 hv7 hou hrn hbn hcr hql hs7 K0_0 K0_1 K0_2 K0_3
          have K0_0 := HX7.out.cell 5
          have K0_1 := HX7.out.cell 6
          have K0_2 := HX7.out.cell 7
          have K0_3 := HX7.out.cell 8
          (try dsimp only [NtV.cells] at K0_0 K0_1 K0_2 K0_3)
          refine hK.out _ _ ?_ (fun hHeld => ?_)
          · exact ⟨K0_0, K0_1, K0_2, K0_3⟩
          clear hK K
          try simp only [Act.put, sA, sZ, sS]
          refine tkH (i := 10) (oi := oMg8_25) (v := ?_) (.inl ⟨by rfl, ?_⟩) ?_
          rotate_left
          · (intro wq hSw; (try dsimp only at hSw); go_simp; first | done | with_reducible rfl)
          try simp only [Act.put, sA, sZ, sS]
          refine tkH (i := 11) (oi := oMg8_26) (v := ?_) (.inl ⟨by rfl, ?_⟩) ?_
          rotate_left
          · (intro wq hSw; (try dsimp only at hSw); go_simp; first | done | with_reducible rfl)
          try simp only [Act.put, sA, sZ, sS]
          refine wpAnyH_ready (rs := [12]) (by kernel_rfl) (by simp) ?_
          refine AllReadyH.cons (o := oMg8_27) rfl (fun K hK => ?_) AllReadyH.nil
          go_simp
          have I0 := cell_far (u := .slice A7 n7 c7) (i := 4) K0_0 HBR.out
          have I1 := cell_far (u := .slice A7 n7 c7) (i := 4) K0_1 HBR.out
          have I2 := cell_far (u := .slice A7 n7 c7) (i := 4) K0_2 HBR.out
          have I3 := cell_far (u := .slice A7 n7 c7) (i := 4) K0_3 HBR.out
          refine hK.out _ _ ?_ (fun hHeld => ?_)
          · exact ⟨I0, I1, I2, I3⟩
          clear hK K
          try simp only [Act.put, sA, sZ, sS]
          refine wpAnyH_done (by kernel_rfl) ?_ _
          clear hHeld
          have H8 : Hid (RpAt (w7.setCell ⟨rp, 4, none⟩ (.slice A7 n7 c7)) rp ((B + 10) + 1) { L with lv := .slice A7 n7 c7 } { x1 with l := x1.l ++ [⟨c, r, s, l⟩] }) := Lib.hid (by
            have := HR6.out.setL HYR.out (by have := HR6.out.ll; rw [List.length_append, List.length_singleton]; omega) HG7.out
            rw [HS7.out] at this
            exact this)
          have H8K : Hid (∀ i, RpF rp { L with lv := .slice A7 n7 c7 } i → RpF rp L i ∨ wj.heap.size ≤ i) := Lib.hid (by
            rintro i (hi | hi | hi | hi)
            · exact .inl (.inl hi)
            · exact .inl (.inr (.inl hi))
            · rw [← HS7.out] at hi
              exact HV7.out.elim (fun e => .inl (.inr (.inr (.inl (e ▸ hi))))) (fun e => .inr (by rw [e] at hi; cases hi; exact HN6.out.size))
            · exact .inl (.inr (.inr (.inr hi))))
          have H8U : Hid (Upd (RpF rp L) wj (w7.setCell ⟨rp, 4, none⟩ (.slice A7 n7 c7))) := Lib.hid ((((Upd.new (S := RpF rp L) HN6.out)).trans HOU.out (fun i _ hi => .inr (.inr (.inl hi)))).setCell (p := ⟨rp, 4, none⟩) (fun _ => .inl rfl) _)
          clear E4 gl hfz
          go_wp2_with fail
          refine (radded H8.out (b := ⟨c, r, s, l⟩) (m := x1.l.length) (by simp) (by simp) (by omega)).mono ?_
          rintro e w9 ⟨rfl, hp⟩
          go_wp2_with fail
          go_end0
          exact ⟨rfl, by rw [HF.out]; exact (RpPost.trans H8.out (fun i hi => (H8K.out i hi).imp (fun h => h) (fun h => Nat.le_trans HU7.out.size h)) (HU7.out.trans H8U.out (fun _ _ h => h)) hp).mono (by omega)⟩
        · go_simp
          have hn6 := (New.refl w5).alloc (.cells #[.int .u64 (c : Int), .int .u64 (r : Int), .int .u64 (s : Int), .slice yA l.length ycap] 40)
          have HP6 := Lib.hid (Blk.mk_new w5 40 #[.int .u64 (c : Int), .int .u64 (r : Int), .int .u64 (s : Int), .slice yA l.length ycap])
          have HR6 := Lib.hid (HR5.out.new hn6)
          have HY6 := Lib.hid (HY5.out.new hn6)
          have HN6 := Lib.hid (HN5.out.trans hn6)
          have HX6 := Lib.hid (HX5.out.new hn6)
          clear hn6 K0_0 K0_1 K0_2 K0_3
          generalize w5.alloc (.cells #[.int .u64 (c : Int), .int .u64 (r : Int), .int .u64 (s : Int), .slice yA l.length ycap] 40) = w6 at *
          obtain ⟨G0, C0, C1, C2, C3, C4, C5, C6, CZ⟩ := HR6.out.facts
          have K0_0 := HX6.out.cell 5
          have K0_1 := HX6.out.cell 6
          have K0_2 := HX6.out.cell 7
          have K0_3 := HX6.out.cell 8
          (try dsimp only [NtV.cells] at K0_0 K0_1 K0_2 K0_3)
          refine hK.out _ _ ?_ (fun hHeld => ?_)
          · exact ⟨K0_0, K0_1, K0_2, K0_3⟩
          clear hK K
          try simp only [Act.put, sA, sZ, sS]
          refine wpAnyH_ready (rs := [4]) (by kernel_rfl) (by simp) ?_
          refine AllReadyH.cons (o := oMg8_21) rfl (fun K hK => ?_) AllReadyH.nil
          go_simp
          refine hK.out _ _ ?_ (fun hHeld => ?_)
          · exact hHeld
          clear hK K
          try simp only [Act.put, sA, sZ, sS]
          refine wpAnyH_ready (rs := [9]) (by kernel_rfl) (by simp) ?_
          refine AllReadyH.cons (o := oMg8_24) rfl (fun K hK => ?_) AllReadyH.nil
          obtain ⟨qs, hqs, hrow, hqa⟩ := HR6.out.l
          have HQS := Lib.hid hqs
          have HQA := Lib.hid hqa
          have HROW := Lib.hid hrow
          have hql : qs.length ≤ (B + 10) := by have := HR6.out.ll; rw [← hqs, List.length_map] at this; exact this
          refine step_appR (m := [(⟨⟨c, r, s, l⟩, yA, ycap⟩ : BtV)]) btTy BtV.encOk rfl (.tmp 26) (.tmp 30) rfl rfl rfl hrow (SlIn.one HP6.out BtV.encOk rfl) (by simp; unfold maxLen; omega) (by simp; omega) (Nat.zero_le _) ?_
          intro v7 w7 h7 hg7 hv7
          have hou : Upd (fun i => L.lv.ownBlock = some i) w6 w7 := (Upd.refl _ w6).grown hg7 (fun i _ e => e)
          have hrn : ¬ L.lv.ownBlock = some rp := fun e => hrow.ne_blk HR6.out.blk (by decide) e
          have hbn : ¬ L.lv.ownBlock = some w.heap.size := fun e => hrow.ne_blk HX6.out (by decide) e
          have hcr := fun o => keepR hou G0 hrn o
          have HX7 := Lib.hid (HX6.out.upd hou hbn)
          have HYR : Hid (BtRow w7 0 v7 (x1.l ++ [⟨c, r, s, l⟩])) := Lib.hid ⟨qs ++ [(⟨⟨c, r, s, l⟩, yA, ycap⟩ : BtV)], by rw [List.map_append, HQS.out]; rfl, h7, fun p hp => (List.mem_append.1 hp).elim (fun hp => (HQA.out p hp).upd hou (Off.row HROW.out (by decide))) (fun hp => by rw [List.mem_singleton.1 hp]; exact HY6.out.upd hou (Off.row HROW.out (by decide)))⟩
          have hfz : ∀ i, w7.frozen? ⟨rp, i, none⟩ = false := (HR6.out.blk.upd hou hrn).frozen
          obtain ⟨A7, n7, c7, hs7⟩ := h7.shp
          have HS7 := Lib.hid hs7
          have HG7 := Lib.hid hg7
          have HV7 := Lib.hid hv7
          have HOU := Lib.hid hou
          rw [hs7]
          have E4 := (hcr 4).trans C4
          have gl : rp < w7.heap.size := Nat.lt_of_lt_of_le G0 hou.size
          clear hqs hqa hrow h7 hg7 hv7 hou hrn hbn hcr hql hs7 K0_0 K0_1 K0_2 K0_3
          have K0_0 := HX7.out.cell 5
          have K0_1 := HX7.out.cell 6
          have K0_2 := HX7.out.cell 7
          have K0_3 := HX7.out.cell 8
          (try dsimp only [NtV.cells] at K0_0 K0_1 K0_2 K0_3)
          refine hK.out _ _ ?_ (fun hHeld => ?_)
          · exact ⟨K0_0, K0_1, K0_2, K0_3⟩
          clear hK K
          try simp only [Act.put, sA, sZ, sS]
          refine tkH (i := 10) (oi := oMg8_25) (v := ?_) (.inl ⟨by rfl, ?_⟩) ?_
          rotate_left
          · (intro wq hSw; (try dsimp only at hSw); go_simp; first | done | with_reducible rfl)
          try simp only [Act.put, sA, sZ, sS]
          refine tkH (i := 11) (oi := oMg8_26) (v := ?_) (.inl ⟨by rfl, ?_⟩) ?_
          rotate_left
          · (intro wq hSw; (try dsimp only at hSw); go_simp; first | done | with_reducible rfl)
          try simp only [Act.put, sA, sZ, sS]
          refine wpAnyH_ready (rs := [12]) (by kernel_rfl) (by simp) ?_
          refine AllReadyH.cons (o := oMg8_27) rfl (fun K hK => ?_) AllReadyH.nil
          go_simp
          have I0 := cell_far (u := .slice A7 n7 c7) (i := 4) K0_0 HBR.out
          have I1 := cell_far (u := .slice A7 n7 c7) (i := 4) K0_1 HBR.out
          have I2 := cell_far (u := .slice A7 n7 c7) (i := 4) K0_2 HBR.out
          have I3 := cell_far (u := .slice A7 n7 c7) (i := 4) K0_3 HBR.out
          refine hK.out _ _ ?_ (fun hHeld => ?_)
          · exact ⟨I0, I1, I2, I3⟩
          clear hK K
          try simp only [Act.put, sA, sZ, sS]
          refine wpAnyH_done (by kernel_rfl) ?_ _
          clear hHeld
          have H8 : Hid (RpAt (w7.setCell ⟨rp, 4, none⟩ (.slice A7 n7 c7)) rp ((B + 10) + 1) { L with lv := .slice A7 n7 c7 } { x1 with l := x1.l ++ [⟨c, r, s, l⟩] }) := Lib.hid (by
            have := HR6.out.setL HYR.out (by have := HR6.out.ll; rw [List.length_append, List.length_singleton]; omega) HG7.out
            rw [HS7.out] at this
            exact this)
          have H8K : Hid (∀ i, RpF rp { L with lv := .slice A7 n7 c7 } i → RpF rp L i ∨ wj.heap.size ≤ i) := Lib.hid (by
            rintro i (hi | hi | hi | hi)
            · exact .inl (.inl hi)
            · exact .inl (.inr (.inl hi))
            · rw [← HS7.out] at hi
              exact HV7.out.elim (fun e => .inl (.inr (.inr (.inl (e ▸ hi))))) (fun e => .inr (by rw [e] at hi; cases hi; exact HN6.out.size))
            · exact .inl (.inr (.inr (.inr hi))))
          have H8U : Hid (Upd (RpF rp L) wj (w7.setCell ⟨rp, 4, none⟩ (.slice A7 n7 c7))) := Lib.hid ((((Upd.new (S := RpF rp L) HN6.out)).trans HOU.out (fun i _ hi => .inr (.inr (.inl hi)))).setCell (p := ⟨rp, 4, none⟩) (fun _ => .inl rfl) _)
          clear E4 gl hfz
          go_wp2_with fail
          refine (radded H8.out (b := ⟨c, r, s, l⟩) (m := x1.l.length) (by simp) (by simp) (by omega)).mono ?_
          rintro e w9 ⟨rfl, hp⟩
          go_wp2_with fail
          go_end0
          exact ⟨rfl, by rw [HF.out]; exact (RpPost.trans H8.out (fun i hi => (H8K.out i hi).imp (fun h => h) (fun h => Nat.le_trans HU7.out.size h)) (HU7.out.trans H8U.out (fun _ _ h => h)) hp).mono (by omega)⟩
end
end Go.Proofs.YtecniafnihpjmaaGreatDoor

/- Chapter 24 (replica): Submit. Printed by genRpW.py. -/
namespace Go.Proofs.YtecniafnihpjmaaGreatDoor
open Go.RowKit Go.Lap C
set_option linter.unusedVariables false
set_option linter.unusedSimpArgs false
section
variable {w w' W wa : World} {S : Nat → Prop} {rp B D : Nat} {L : RpL} {x x' : Rpl} {b : BtV}
theorem rplace (h : RpAt w rp B L x) : Calls Tryz.prog 43 #[.agg #[.int .u64 (x.cf.e : Int), L.cv], .int .i64 x.id] w fun e w' => e = .returned (.int .i64 (placeC x.cf.ms x.id)) ∧ New w w' := place_any x.cf.e L.cv x.cf.ms x.id w (by have := h.cl7; omega) h.cf.slIn
theorem RpAt.offV (h : RpAt w rp B L x) : Off w 49 (RpF rp L) := h.off (by decide) (by decide) (by decide) (by decide)
theorem RpAt.offB (h : RpAt w rp B L x) : ∀ k cs, Blk w k 49 cs → ¬ RpF rp L k := h.offV
theorem RpPost.tail {p : Nat} {cs : Array Value} {u v : Value} (h : RpPost w rp B L x wa) (hb : Blk wa p 49 cs) (hp : w.heap.size ≤ p) : RpPost w rp B L x ((wa.setCell ⟨p, 0, none⟩ u).setCell ⟨p, 1, none⟩ v) := by
  obtain ⟨L', h1, h2, h3⟩ := h
  have hu : Upd (· = p) wa ((wa.setCell ⟨p, 0, none⟩ u).setCell ⟨p, 1, none⟩ v) := ((Upd.refl _ wa).setIn 0 u).setIn 1 v
  exact ⟨L', h1.upd hu (fun k hk e => h1.offB p cs hb (e ▸ hk)) (Off.blk hb (by decide)) (Off.blk hb (by decide)), h2, h3.trans hu (fun i hi e => by omega)⟩
def SubRel (W : World) (rp B : Nat) (L : RpL) (x : Rpl) (b : Btc) (s6 : Value) (wx : World) : Prop :=
  ∃ a6, s6 = .pointer (some ⟨a6, 0, none⟩) ∧ W.heap.size ≤ a6 ∧ Blk wx a6 49 #[.int .u64 ((x.j.say b).2.t : Int), .int .i64 (x.j.say b).2.e] ∧ RpAt wx rp (B + 10) L { x with j := (x.j.say b).1 } ∧ Upd (JdF L.jl) W wx
def SubPost (w : World) (rp B : Nat) (L : RpL) (r : Rpl × Vd × Int) (e : Ending) (w' : World) : Prop := e = .returned (.tuple #[.agg #[.int .u64 (r.2.1.t : Int), .int .i64 r.2.1.e], .int .i64 r.2.2]) ∧ RpPost w rp B L r.1 w'
theorem Blk2W {w : World} {g t : Nat} {a b : Value} (h : Blk w g t #[a, b]) : g < w.heap.size ∧ w.cell? ⟨g, 0, none⟩ = some a ∧ w.cell? ⟨g, 1, none⟩ = some b ∧ (∀ i, w.frozen? ⟨g, i, none⟩ = false) := ⟨h.lt, h.cell 0, h.cell 1, h.frozen⟩
set_option maxRecDepth 100000 in
set_option maxHeartbeats 16000000 in
theorem rsubmit (h : RpAt w rp B L x) (hb : BtAt w b) (hB : B ≤ 1000000) :
    Calls Tryz.prog 17 #[.pointer (some ⟨rp, 0, none⟩), b.val] w (SubPost w rp (B + 20) L (x.submit b.b)) := by
  obtain ⟨⟨c, r, s, l⟩, A, cap⟩ := b
  have HSZ := Lib.hid h.lt
  dsimp only [BtV.val, BtV.sl, batV]
  have hN := ((New.refl w).alloc (.cells #[.int .u64 (c : Int), .int .u64 (r : Int), .int .u64 (s : Int), .slice A l.length cap] 40)).alloc (.cells #[.int .u64 0, .int .i64 0] 49)
  have hM := (Blk.mk_new w 40 #[.int .u64 (c : Int), .int .u64 (r : Int), .int .u64 (s : Int), .slice A l.length cap]).alloc (.cells #[.int .u64 0, .int .i64 0] 49)
  have hZ := Blk.mk_new (w.alloc (.cells #[.int .u64 (c : Int), .int .u64 (r : Int), .int .u64 (s : Int), .slice A l.length cap] 40)) 49 #[.int .u64 0, .int .i64 0]
  rw [World.size_alloc] at hZ
  have hR := h.new hN
  have HR := Lib.hid hR
  have HN := Lib.hid hN
  have HB := Lib.hid (hb.new hN)
  have HX := Lib.hid hM
  have HZ := Lib.hid hZ
  obtain ⟨q0, q1, q2, q3, q4, qz⟩ := Blk4K hM
  obtain ⟨z0, z1, z2, zz⟩ := Blk2W hZ
  obtain ⟨g0, c0, c1, c2, c3, c4, c5, c6, cz⟩ := hR.facts
  clear h hN hM hZ hR hb
  go_enter Tryz.func17, Tryz.ntmps17
  go_upto_region 1 with fail
  generalize (w.alloc _).alloc _ = W at *
  cases hpl : decide (placeC x.cf.ms x.id = 0) with
  | false =>
    have hpl2 := of_decide_eq_false hpl
    have HF : Hid (x.submit ⟨c, r, s, l⟩ = (x, ⟨0, 0⟩, 240)) := Lib.hid (by unfold Rpl.submit; rw [if_pos hpl2])
    have HPL : Hid ((placeC x.cf.ms x.id != 0) = true) := Lib.hid (by simpa using hpl2)
    clear hpl hpl2
    obtain ⟨pl, hple⟩ : ∃ pl, placeC x.cf.ms x.id = pl := ⟨_, rfl⟩
    have HPLE := Lib.hid hple
    rw [hple] at HPL
    have hpl := HPL.out
    clear hple
    refine wp_region_held_drew (S := fun w' => Held W w') (by kernel_rfl) (Held.of (New.refl _).drew) (fun hHeld => ?_)
    refine tkH (i := 0) (oi := oMg8_28) (v := ?_) (.inl ⟨by rfl, ?_⟩) ?_
    rotate_left
    · (intro wq hSw; (try dsimp only at hSw); go_simp; first | done | with_reducible rfl)
    try simp only [Act.put, sA, sZ, sS]
    refine tkH (i := 1) (oi := oMg8_29) (v := ?_) (.inl ⟨by rfl, ?_⟩) ?_
    rotate_left
    · (intro wq hSw; (try dsimp only at hSw); go_simp; first | done | with_reducible rfl)
    try simp only [Act.put, sA, sZ, sS]
    refine tkH (i := 2) (oi := oMg8_30) (v := ?_) (.inl ⟨by rfl, ?_⟩) ?_
    rotate_left
    · (intro wq hSw; (try dsimp only at hSw); go_simp; first | done | with_reducible rfl)
    try simp only [Act.put, sA, sZ, sS]
    refine tkH (i := 3) (oi := oMg8_31) (v := ?_) (.inl ⟨by rfl, ?_⟩) ?_
    rotate_left
    · (intro wq hSw; (try dsimp only at hSw); go_simp; first | done | with_reducible rfl)
    try simp only [Act.put, sA, sZ, sS]
    refine tkH (i := 4) (oi := oMg8_32) (v := ?_) (.inl ⟨by rfl, ?_⟩) ?_
    rotate_left
    · (intro wq hSw; (try dsimp only at hSw); go_simp; first | done | with_reducible rfl)
    try simp only [Act.put, sA, sZ, sS]
    refine tkH (i := 5) (oi := oMg8_33) (v := ?_) (.inl ⟨by rfl, ?_⟩) ?_
    rotate_left
    · (intro wq hSw; (try dsimp only at hSw); go_simp; first | done | with_reducible rfl)
    try simp only [Act.put, sA, sZ, sS]
    refine tkH (i := 6) (oi := oMg8_34) (v := ?_) (.inl ⟨by rfl, ?_⟩) ?_
    rotate_left
    · (intro wq hSw; (try dsimp only at hSw); go_simp; first | done | with_reducible rfl)
    try simp only [Act.put, sA, sZ, sS]
    refine tkH (i := 7) (oi := oMg8_35) (v := ?_) (.inl ⟨by rfl, ?_⟩) ?_
    rotate_left
    · (intro wq hSw; (try dsimp only at hSw); go_simp; first | done | with_reducible rfl)
    try simp only [Act.put, sA, sZ, sS]
    refine wpAnyH_ready (rs := [8]) (by kernel_rfl) (by simp) ?_
    refine AllReadyH.cons (o := oMg8_36) rfl (fun K hK => ?_) AllReadyH.nil
    go_simp
    have hcall := rplace (HR.out.new (New.refl W).drew)
    rw [HPLE.out] at hcall
    refine hcall.mono ?_
    rintro e w5 ⟨rfl, hn5⟩
    have hn5W : New W w5 := (New.refl W).drew.trans hn5
    refine hK.out _ _ ?_ (fun hHeld => ?_)
    · exact Held.of hn5W
    clear hK K
    try simp only [Act.put, sA, sZ, sS]
    refine tkH (i := 9) (oi := oMg8_37) (v := ?_) (.inl ⟨by rfl, ?_⟩) ?_
    rotate_left
    · (intro wq hSw; (try dsimp only at hSw); go_simp; first | done | with_reducible rfl)
    try simp only [Act.put, sA, sZ, sS]
    refine wpAnyH_done (by kernel_rfl) ?_ _
    clear hHeld
    have HN5 := Lib.hid hn5W
    have HR5 := Lib.hid (HR.out.new hn5W)
    have HX5 := Lib.hid (HX.out.new hn5W)
    have HZ5 := Lib.hid (HZ.out.new hn5W)
    have HB5 := Lib.hid (HB.out.new hn5W)
    clear hn5 hn5W g0 c0 c1 c2 c3 c4 c5 c6 cz q0 q1 q2 q3 q4 qz z0 z1 z2 zz
    obtain ⟨q0, q1, q2, q3, q4, qz⟩ := Blk4K HX5.out
    obtain ⟨z0, z1, z2, zz⟩ := Blk2W HZ5.out
    obtain ⟨g0, c0, c1, c2, c3, c4, c5, c6, cz⟩ := HR5.out.facts
    go_wp2_with fail
    rw [HF.out]
    exact bodyPost_ret (v := .tuple #[.agg #[.int .u64 0, .int .i64 0], .int .i64 240]) (by simp [results, Tryz.results17, go_sem, z1, z2]) rfl ⟨rfl, (RpPost.tail (RpPost.pre (HN.out.trans HN5.out) (RpPost.refl HR5.out)) HZ5.out (by omega)).mono (by omega)⟩
  | true =>
    have hpl2 := of_decide_eq_true hpl
    have HF : Hid (x.submit ⟨c, r, s, l⟩ = (if x.la < (x.j.say ⟨c, r, s, l⟩).1.la then ({ x with j := (x.j.say ⟨c, r, s, l⟩).1 } : Rpl).added ⟨c, r, s, l⟩ else { x with j := (x.j.say ⟨c, r, s, l⟩).1 }, (x.j.say ⟨c, r, s, l⟩).2, 0)) := Lib.hid (by unfold Rpl.submit; rw [if_neg (by omega)])
    have HPLE := Lib.hid hpl2
    clear hpl hpl2
    refine wp_region_held_drew (S := fun w' => Held W w') (by kernel_rfl) (Held.of (New.refl _).drew) (fun hHeld => ?_)
    refine tkH (i := 0) (oi := oMg8_28) (v := ?_) (.inl ⟨by rfl, ?_⟩) ?_
    rotate_left
    · (intro wq hSw; (try dsimp only at hSw); go_simp; first | done | with_reducible rfl)
    try simp only [Act.put, sA, sZ, sS]
    refine tkH (i := 1) (oi := oMg8_29) (v := ?_) (.inl ⟨by rfl, ?_⟩) ?_
    rotate_left
    · (intro wq hSw; (try dsimp only at hSw); go_simp; first | done | with_reducible rfl)
    try simp only [Act.put, sA, sZ, sS]
    refine tkH (i := 2) (oi := oMg8_30) (v := ?_) (.inl ⟨by rfl, ?_⟩) ?_
    rotate_left
    · (intro wq hSw; (try dsimp only at hSw); go_simp; first | done | with_reducible rfl)
    try simp only [Act.put, sA, sZ, sS]
    refine tkH (i := 3) (oi := oMg8_31) (v := ?_) (.inl ⟨by rfl, ?_⟩) ?_
    rotate_left
    · (intro wq hSw; (try dsimp only at hSw); go_simp; first | done | with_reducible rfl)
    try simp only [Act.put, sA, sZ, sS]
    refine tkH (i := 4) (oi := oMg8_32) (v := ?_) (.inl ⟨by rfl, ?_⟩) ?_
    rotate_left
    · (intro wq hSw; (try dsimp only at hSw); go_simp; first | done | with_reducible rfl)
    try simp only [Act.put, sA, sZ, sS]
    refine tkH (i := 5) (oi := oMg8_33) (v := ?_) (.inl ⟨by rfl, ?_⟩) ?_
    rotate_left
    · (intro wq hSw; (try dsimp only at hSw); go_simp; first | done | with_reducible rfl)
    try simp only [Act.put, sA, sZ, sS]
    refine tkH (i := 6) (oi := oMg8_34) (v := ?_) (.inl ⟨by rfl, ?_⟩) ?_
    rotate_left
    · (intro wq hSw; (try dsimp only at hSw); go_simp; first | done | with_reducible rfl)
    try simp only [Act.put, sA, sZ, sS]
    refine tkH (i := 7) (oi := oMg8_35) (v := ?_) (.inl ⟨by rfl, ?_⟩) ?_
    rotate_left
    · (intro wq hSw; (try dsimp only at hSw); go_simp; first | done | with_reducible rfl)
    try simp only [Act.put, sA, sZ, sS]
    refine wpAnyH_ready (rs := [8]) (by kernel_rfl) (by simp) ?_
    refine AllReadyH.cons (o := oMg8_36) rfl (fun K hK => ?_) AllReadyH.nil
    go_simp
    have hcall := rplace (HR.out.new (New.refl W).drew)
    rw [HPLE.out] at hcall
    refine hcall.mono ?_
    rintro e w5 ⟨rfl, hn5⟩
    have hn5W : New W w5 := (New.refl W).drew.trans hn5
    refine hK.out _ _ ?_ (fun hHeld => ?_)
    · exact Held.of hn5W
    clear hK K
    try simp only [Act.put, sA, sZ, sS]
    refine tkH (i := 9) (oi := oMg8_37) (v := ?_) (.inl ⟨by rfl, ?_⟩) ?_
    rotate_left
    · (intro wq hSw; (try dsimp only at hSw); go_simp; first | done | with_reducible rfl)
    try simp only [Act.put, sA, sZ, sS]
    refine wpAnyH_done (by kernel_rfl) ?_ _
    clear hHeld
    have HN5 := Lib.hid hn5W
    have HR5 := Lib.hid (HR.out.new hn5W)
    have HX5 := Lib.hid (HX.out.new hn5W)
    have HZ5 := Lib.hid (HZ.out.new hn5W)
    have HB5 := Lib.hid (HB.out.new hn5W)
    clear hn5 hn5W g0 c0 c1 c2 c3 c4 c5 c6 cz q0 q1 q2 q3 q4 qz z0 z1 z2 zz
    obtain ⟨q0, q1, q2, q3, q4, qz⟩ := Blk4K HX5.out
    obtain ⟨z0, z1, z2, zz⟩ := Blk2W HZ5.out
    obtain ⟨g0, c0, c1, c2, c3, c4, c5, c6, cz⟩ := HR5.out.facts
    have HNR : Hid (¬ JdF L.jl rp) := Lib.hid HR5.out.rp_jd
    have HNA : Hid (¬ JdF L.jl w.heap.size) := Lib.hid (fun hk => by have := HSZ.out _ (.inr (.inl hk)); omega)
    have HNZ : Hid (¬ JdF L.jl (w.heap.size + 1)) := Lib.hid (fun hk => by have := HSZ.out _ (.inr (.inl hk)); omega)
    have hzz : w.heap.size + 1 < w5.heap.size := z0
    go_upto_region 3 with fail
    go_cut [6] (fun s6 wx => SubRel w5 rp B L x ⟨c, r, s, l⟩ s6 wx)
    case first =>
      refine wp_region_held_drew (S := fun w' => (∀ o, w'.cell? ⟨rp, o, none⟩ = w5.cell? ⟨rp, o, none⟩) ∧ (∀ o, w'.cell? ⟨w.heap.size, o, none⟩ = w5.cell? ⟨w.heap.size, o, none⟩)) (by kernel_rfl) (⟨fun _ => rfl, fun _ => rfl⟩) (fun hHeld => ?_)
      refine tkH (i := 0) (oi := ⟨some 18, .move (.tmp 0), 45, "replica.go:113", #[], none⟩) (v := ?_) (.inl ⟨by rfl, ?_⟩) ?_
      rotate_left
      · (intro wq hSw; (try dsimp only at hSw); go_simp; first | done | with_reducible rfl)
      try simp only [Act.put, sA, sZ, sS]
      refine tkH (i := 1) (oi := ⟨some 19, .nilCheck (.tmp 18), 0, "replica.go:113", #[⟨0, .data⟩], none⟩) (v := ?_) (.inl ⟨by rfl, ?_⟩) ?_
      rotate_left
      · (intro wq hSw; (try dsimp only at hSw); go_simp; first | done | with_reducible rfl)
      try simp only [Act.put, sA, sZ, sS]
      refine tkH (i := 2) (oi := ⟨some 20, .fieldAddr 107 (.tmp 19) 2, 0, "replica.go:113", #[⟨1, .data⟩], none⟩) (v := ?_) (.inl ⟨by rfl, ?_⟩) ?_
      rotate_left
      · (intro wq hSw; (try dsimp only at hSw); go_simp; first | done | with_reducible rfl)
      try simp only [Act.put, sA, sZ, sS]
      refine tkH (i := 3) (oi := ⟨some 21, .load 101 (.tmp 20), 101, "replica.go:113", #[⟨2, .data⟩], none⟩) (v := ?_) (.inl ⟨by rfl, ?_⟩) ?_
      rotate_left
      · (intro wq hSw; (try dsimp only at hSw); go_simp; first | done | with_reducible rfl)
      try simp only [Act.put, sA, sZ, sS]
      refine tkH (i := 4) (oi := ⟨some 22, .load 40 (.tmp 3), 40, "replica.go:113", #[], none⟩) (v := ?_) (.inl ⟨by rfl, ?_⟩) ?_
      rotate_left
      · (intro wq hSw; (try dsimp only at hSw); go_simp; first | done | with_reducible rfl)
      try simp only [Act.put, sA, sZ, sS]
      refine wpAnyH_ready (rs := [5, 6]) (by kernel_rfl) (by simp) ?_
      refine AllReadyH.cons (o := oMg8_38) rfl (fun K hK => ?_) (AllReadyH.cons (o := oMg8_39) rfl (fun K hK => ?_) AllReadyH.nil)
      · go_simp
        refine (jsay (x := ⟨⟨c, r, s, l⟩, A, cap⟩) (HR5.out.j.new (New.refl w5).drew) (HB5.out.new (New.refl w5).drew) (by omega)).mono ?_
        rintro e wj hpj
        obtain ⟨rfl, hj7, hu7⟩ := hpj
        have hujW : Upd (JdF L.jl) w5 wj := (Upd.refl (JdF L.jl) w5).drew.trans hu7 (fun _ _ h => h)
        have hj8 := hj7
        refine hK.out _ _ ?_ (fun hHeld => ?_)
        · exact ⟨fun o => keepR hujW HR5.out.blk.lt HNR.out o, fun o => keepR hujW HX5.out.lt HNA.out o⟩
        clear hK K
        try simp only [Act.put, sA, sZ, sS]
        refine wpAnyH_ready (rs := [6]) (by kernel_rfl) (by simp) ?_
        refine AllReadyH.cons (o := oMg8_39) rfl (fun K hK => ?_) AllReadyH.nil
        go_simp
        have k1 := fun o => (keepR (S := fun _ => False) (Upd.new ((New.refl wj).alloc (.cells #[.int .u64 0, .int .i64 0] 49))) (Nat.lt_of_lt_of_le HR5.out.blk.lt hujW.size) (fun h => h) o).trans (keepR hujW HR5.out.blk.lt HNR.out o)
        have k2 := fun o => (keepR (S := fun _ => False) (Upd.new ((New.refl wj).alloc (.cells #[.int .u64 0, .int .i64 0] 49))) (Nat.lt_of_lt_of_le HX5.out.lt hujW.size) (fun h => h) o).trans (keepR hujW HX5.out.lt HNA.out o)
        refine hK.out _ _ ?_ (fun hHeld => ?_)
        · exact ⟨k1, k2⟩
        clear hK K
        try simp only [Act.put, sA, sZ, sS]
        refine wpAnyH_ready (rs := [7]) (by kernel_rfl) (by simp) ?_
        refine AllReadyH.cons (o := oMg8_40) rfl (fun K hK => ?_) AllReadyH.nil
        go_simp
        have k3 := fun o => (keepR (S := fun _ => False) (Upd.new ((New.refl wj).alloc (.cells #[.int .u64 ((x.j.say ⟨c, r, s, l⟩).2.t : Int), .int .i64 (x.j.say ⟨c, r, s, l⟩).2.e] 49))) (Nat.lt_of_lt_of_le HR5.out.blk.lt hujW.size) (fun h => h) o).trans (keepR hujW HR5.out.blk.lt HNR.out o)
        have k4 := fun o => (keepR (S := fun _ => False) (Upd.new ((New.refl wj).alloc (.cells #[.int .u64 ((x.j.say ⟨c, r, s, l⟩).2.t : Int), .int .i64 (x.j.say ⟨c, r, s, l⟩).2.e] 49))) (Nat.lt_of_lt_of_le HX5.out.lt hujW.size) (fun h => h) o).trans (keepR hujW HX5.out.lt HNA.out o)
        refine hK.out _ _ ?_ (fun hHeld => ?_)
        · exact ⟨k3, k4⟩
        clear hK K
        try simp only [Act.put, sA, sZ, sS]
        refine wpAnyH_done (by kernel_rfl) ?_ _
        clear hHeld
        go_wp2_with fail
        go_meet
        exact ⟨wj.heap.size, rfl, hujW.size, Blk.mk_new wj _ _, (HR5.out.setJ hj7 hujW (by omega)).new ((New.refl wj).alloc _), hujW.alloc _⟩
      · go_simp
        have k1 := fun o => keepR (S := fun _ => False) (Upd.new (((New.refl w5).drew).alloc (.cells #[.int .u64 0, .int .i64 0] 49))) HR5.out.blk.lt (fun h => h) o
        have k2 := fun o => keepR (S := fun _ => False) (Upd.new (((New.refl w5).drew).alloc (.cells #[.int .u64 0, .int .i64 0] 49))) HX5.out.lt (fun h => h) o
        refine hK.out _ _ ?_ (fun hHeld => ?_)
        · exact ⟨k1, k2⟩
        clear hK K
        try simp only [Act.put, sA, sZ, sS]
        refine wpAnyH_ready (rs := [5]) (by kernel_rfl) (by simp) ?_
        refine AllReadyH.cons (o := oMg8_38) rfl (fun K hK => ?_) AllReadyH.nil
        go_simp
        refine (jsay (x := ⟨⟨c, r, s, l⟩, A, cap⟩) (HR5.out.j.new ((New.refl w5).drew.alloc (.cells #[.int .u64 0, .int .i64 0] 49))) (HB5.out.new ((New.refl w5).drew.alloc (.cells #[.int .u64 0, .int .i64 0] 49))) (by omega)).mono ?_
        rintro e wj hpj
        obtain ⟨rfl, hj7, hu7⟩ := hpj
        have hujW : Upd (JdF L.jl) w5 wj := ((Upd.refl (JdF L.jl) w5).drew.alloc (.cells #[.int .u64 0, .int .i64 0] 49)).trans hu7 (fun _ _ h => h)
        have hnz : ¬ JdF L.jl w5.heap.size := fun hk => by have := HR5.out.j.lt _ hk; omega
        have hzj : Blk wj w5.heap.size 49 #[.int .u64 0, .int .i64 0] := (Blk.mk_new w5.drew 49 #[.int .u64 0, .int .i64 0]).upd hu7 hnz
        have HZJ := Lib.hid hzj
        obtain ⟨y0, y1, y2, yz⟩ := Blk2W hzj
        refine hK.out _ _ ?_ (fun hHeld => ?_)
        · exact ⟨fun o => keepR hujW HR5.out.blk.lt HNR.out o, fun o => keepR hujW HX5.out.lt HNA.out o⟩
        clear hK K
        try simp only [Act.put, sA, sZ, sS]
        refine wpAnyH_ready (rs := [7]) (by kernel_rfl) (by simp) ?_
        refine AllReadyH.cons (o := oMg8_40) rfl (fun K hK => ?_) AllReadyH.nil
        go_simp
        have hu9 : Upd (fun k => JdF L.jl k ∨ k = w5.heap.size) w5 ((wj.setCell ⟨w5.heap.size, 0, none⟩ (.int .u64 ((x.j.say ⟨c, r, s, l⟩).2.t : Int))).setCell ⟨w5.heap.size, 1, none⟩ (.int .i64 (x.j.say ⟨c, r, s, l⟩).2.e)) := ((hujW.mono (fun _ _ h => .inl h)).setCell (p := ⟨w5.heap.size, 0, none⟩) (fun _ => .inr rfl) _).setCell (p := ⟨w5.heap.size, 1, none⟩) (fun _ => .inr rfl) _
        have k3 := fun o => keepR hu9 HR5.out.blk.lt (fun h => h.elim HNR.out (fun e => by have := HR5.out.blk.lt; omega)) o
        have k4 := fun o => keepR hu9 HX5.out.lt (fun h => h.elim HNA.out (fun e => by have := HX5.out.lt; omega)) o
        refine hK.out _ _ ?_ (fun hHeld => ?_)
        · exact ⟨k3, k4⟩
        clear hK K
        try simp only [Act.put, sA, sZ, sS]
        refine wpAnyH_done (by kernel_rfl) ?_ _
        clear hHeld
        go_wp2_with fail
        go_meet
        have huz : Upd (· = w5.heap.size) wj ((wj.setCell ⟨w5.heap.size, 0, none⟩ (.int .u64 ((x.j.say ⟨c, r, s, l⟩).2.t : Int))).setCell ⟨w5.heap.size, 1, none⟩ (.int .i64 (x.j.say ⟨c, r, s, l⟩).2.e)) := ((Upd.refl _ wj).setIn 0 _).setIn 1 _
        have hrj := HR5.out.setJ hj7 hujW (by omega)
        exact ⟨w5.heap.size, rfl, Nat.le_refl _, (HZJ.out.set_ 0 _).set_ 1 _, hrj.upd huz (fun k hk e => hrj.offB _ _ HZJ.out (e ▸ hk)) (Off.blk HZJ.out (by decide)) (Off.blk HZJ.out (by decide)), hujW.trans huz (fun i hi e => by omega)⟩
    case rest =>
      obtain ⟨a6, rfl, ha6, hv6, hrc, huc⟩ := hcut
      have HV6 := Lib.hid hv6
      have HRC := Lib.hid hrc
      have HUC := Lib.hid huc
      have HXC := Lib.hid (HX5.out.upd huc HNA.out)
      have HZC := Lib.hid (HZ5.out.upd huc HNZ.out)
      have HBC := Lib.hid (HB5.out.upd huc (HR5.out.j.off (by decide)))
      have HUW : Hid (Upd (RpF rp L) w wc) := Lib.hid ((Upd.new (S := RpF rp L) (HN.out.trans HN5.out)).trans huc (fun _ _ h => .inr (.inl h)))
      have hza : ¬ w.heap.size + 1 = a6 := by have := HZ5.out.lt; omega
      clear g0 c0 c1 c2 c3 c4 c5 c6 cz q0 q1 q2 q3 q4 qz z0 z1 z2 zz huc
      generalize hx1 : ({ x with j := (x.j.say ⟨c, r, s, l⟩).1 } : Rpl) = x1 at *
      have hlx : x1.la = x.la := by rw [← hx1]; rfl
      have hjx : x1.j = (x.j.say ⟨c, r, s, l⟩).1 := by rw [← hx1]
      generalize (x.j.say ⟨c, r, s, l⟩).1 = j1 at *
      generalize (x.j.say ⟨c, r, s, l⟩).2 = vd at *
      have hj1 : JdAt wc (B + 10) L.jl j1 := by rw [← hjx]; exact hrc.j
      have HJ1 := Lib.hid hj1
      have HLX := Lib.hid hlx
      obtain ⟨g0, c0, c1, c2, c3, c4, c5, c6, cz⟩ := hrc.facts
      obtain ⟨q0, q1, q2, q3, q4, qz⟩ := Blk4K HXC.out
      obtain ⟨z0, z1, z2, zz⟩ := Blk2W HZC.out
      obtain ⟨v0, v1, v2, vz⟩ := Blk2W hv6
      have hll : x1.la ≤ B + 10 := hrc.ll
      clear hx1 hlx hjx hj1 hrc hv6
      go_wp2_with fail
      refine (jlast HJ1.out).mono ?_
      rintro e w7 ⟨rfl, rfl⟩
      go_wp2_with fail
      refine (rlast HRC.out (by omega)).mono ?_
      rintro e w8 ⟨rfl, rfl⟩
      by_cases hlt : x1.la < j1.la
      case neg =>
        have HF2 : Hid (x.submit ⟨c, r, s, l⟩ = (x1, vd, 0)) := Lib.hid (by rw [HF.out, if_neg (by rw [← HLX.out]; exact hlt)])
        have hd : decide (x1.la < j1.la) = false := decide_eq_false hlt
        clear hlt
        go_wp2_with fail
        rw [HF2.out]
        exact bodyPost_ret (v := .tuple #[.agg #[.int .u64 (vd.t : Int), .int .i64 vd.e], .int .i64 0]) (by simp [results, Tryz.results17, go_sem, z1, z2]) rfl ⟨rfl, (RpPost.tail (show RpPost w rp (B + 10) L x1 _ from ⟨L, HRC.out, fun _ h => .inl h, HUW.out⟩) HZC.out (by omega)).mono (by omega)⟩
      case pos =>
        have HF2 : Hid (x.submit ⟨c, r, s, l⟩ = (x1.added ⟨c, r, s, l⟩, vd, 0)) := Lib.hid (by rw [HF.out, if_pos (by rw [← HLX.out]; exact hlt)])
        have hd : decide (x1.la < j1.la) = true := decide_eq_true hlt
        have HBR : Hid (¬ w.heap.size = rp) := Lib.hid (fun e => by have := HSZ.out rp (.inl rfl); omega)
        clear hlt
        have HZW7 : Hid (w.heap.size + 1 < w8.heap.size) := Lib.hid HZC.out.lt
        go_upto_region 5 with fail
        have K0_0 := q1
        have K0_1 := q2
        have K0_2 := q3
        have K0_3 := q4
        refine wp_region_held_drew (S := fun w' => w'.cell? ⟨w.heap.size, 0, none⟩ = some (.int .u64 (c : Int)) ∧ w'.cell? ⟨w.heap.size, 1, none⟩ = some (.int .u64 (r : Int)) ∧ w'.cell? ⟨w.heap.size, 2, none⟩ = some (.int .u64 (s : Int)) ∧ w'.cell? ⟨w.heap.size, 3, none⟩ = some (.slice A l.length cap)) (by kernel_rfl) (⟨K0_0, K0_1, K0_2, K0_3⟩) (fun hHeld => ?_)
        refine tkH (i := 0) (oi := ⟨some 32, .move (.tmp 0), 45, "replica.go:115", #[], none⟩) (v := ?_) (.inl ⟨by rfl, ?_⟩) ?_
        rotate_left
        · (intro wq hSw; (try dsimp only at hSw); go_simp; first | done | with_reducible rfl)
        try simp only [Act.put, sA, sZ, sS]
        refine tkH (i := 1) (oi := ⟨some 33, .move (.tmp 0), 45, "replica.go:115", #[], none⟩) (v := ?_) (.inl ⟨by rfl, ?_⟩) ?_
        rotate_left
        · (intro wq hSw; (try dsimp only at hSw); go_simp; first | done | with_reducible rfl)
        try simp only [Act.put, sA, sZ, sS]
        refine tkH (i := 2) (oi := ⟨some 34, .nilCheck (.tmp 33), 0, "replica.go:115", #[⟨1, .data⟩], none⟩) (v := ?_) (.inl ⟨by rfl, ?_⟩) ?_
        rotate_left
        · (intro wq hSw; (try dsimp only at hSw); go_simp; first | done | with_reducible rfl)
        try simp only [Act.put, sA, sZ, sS]
        refine tkH (i := 3) (oi := ⟨some 35, .fieldAddr 107 (.tmp 34) 3, 0, "replica.go:115", #[⟨2, .data⟩], none⟩) (v := ?_) (.inl ⟨by rfl, ?_⟩) ?_
        rotate_left
        · (intro wq hSw; (try dsimp only at hSw); go_simp; first | done | with_reducible rfl)
        try simp only [Act.put, sA, sZ, sS]
        refine tkH (i := 5) (oi := ⟨some 37, .load 40 (.tmp 3), 40, "replica.go:115", #[], none⟩) (v := ?_) (.inl ⟨by rfl, ?_⟩) ?_
        rotate_left
        · (intro wq hSw; (try dsimp only at hSw); go_simp; first | done | with_reducible rfl)
        try simp only [Act.put, sA, sZ, sS]
        refine wpAnyH_ready (rs := [4, 6]) (by kernel_rfl) (by simp) ?_
        refine AllReadyH.cons (o := oMg8_41) rfl (fun K hK => ?_) (AllReadyH.cons (o := oMg8_42) rfl (fun K hK => ?_) AllReadyH.nil)
        · go_simp
          refine hK.out _ _ ?_ (fun hHeld => ?_)
          · exact hHeld
          clear hK K
          try simp only [Act.put, sA, sZ, sS]
          refine wpAnyH_ready (rs := [6]) (by kernel_rfl) (by simp) ?_
          refine AllReadyH.cons (o := oMg8_42) rfl (fun K hK => ?_) AllReadyH.nil
          go_simp
          refine (copied_any (HBC.out.new (New.refl w8).drew)).mono ?_
          rintro e w5 ⟨y, rfl, hyb, hy5, hn5⟩
          obtain ⟨⟨yc, yr, ys, yl⟩, yA, ycap⟩ := y
          dsimp only at hyb
          cases hyb
          dsimp only [BtV.val, BtV.sl, batV]
          have hn5W : New w8 w5 := (New.refl w8).drew.trans hn5
          have HR5 := Lib.hid (HRC.out.new hn5W)
          have HY5 := Lib.hid hy5
          have HN5 := Lib.hid hn5W
          have HX5 := Lib.hid (HXC.out.new hn5W)
          obtain ⟨G0, C0, C1, C2, C3, C4, C5, C6, CZ⟩ := HR5.out.facts
          clear hy5 hn5
          have K0_0 := HX5.out.cell 0
          have K0_1 := HX5.out.cell 1
          have K0_2 := HX5.out.cell 2
          have K0_3 := HX5.out.cell 3
          (try dsimp only [NtV.cells] at K0_0 K0_1 K0_2 K0_3)
          refine hK.out _ _ ?_ (fun hHeld => ?_)
          · exact ⟨K0_0, K0_1, K0_2, K0_3⟩
          clear hK K
          try simp only [Act.put, sA, sZ, sS]
          refine wpAnyH_ready (rs := [7]) (by kernel_rfl) (by simp) ?_
          refine AllReadyH.cons (o := oMg8_43) rfl (fun K hK => ?_) AllReadyH.nil
          go_simp
          have hn6 := (New.refl w5).alloc (.cells #[.int .u64 (c : Int), .int .u64 (r : Int), .int .u64 (s : Int), .slice yA l.length ycap] 40)
          have HP6 := Lib.hid (Blk.mk_new w5 40 #[.int .u64 (c : Int), .int .u64 (r : Int), .int .u64 (s : Int), .slice yA l.length ycap])
          have HR6 := Lib.hid (HR5.out.new hn6)
          have HY6 := Lib.hid (HY5.out.new hn6)
          have HN6 := Lib.hid (HN5.out.trans hn6)
          have HX6 := Lib.hid (HX5.out.new hn6)
          clear hn6 K0_0 K0_1 K0_2 K0_3
          generalize w5.alloc (.cells #[.int .u64 (c : Int), .int .u64 (r : Int), .int .u64 (s : Int), .slice yA l.length ycap] 40) = w6 at *
          obtain ⟨G0, C0, C1, C2, C3, C4, C5, C6, CZ⟩ := HR6.out.facts
          have K0_0 := HX6.out.cell 0
          have K0_1 := HX6.out.cell 1
          have K0_2 := HX6.out.cell 2
          have K0_3 := HX6.out.cell 3
          (try dsimp only [NtV.cells] at K0_0 K0_1 K0_2 K0_3)
          refine hK.out _ _ ?_ (fun hHeld => ?_)
          · exact ⟨K0_0, K0_1, K0_2, K0_3⟩
          clear hK K
          try simp only [Act.put, sA, sZ, sS]
          refine wpAnyH_ready (rs := [8]) (by kernel_rfl) (by simp) ?_
          refine AllReadyH.cons (o := oMg8_44) rfl (fun K hK => ?_) AllReadyH.nil
          obtain ⟨qs, hqs, hrow, hqa⟩ := HR6.out.l
          have HQS := Lib.hid hqs
          have HQA := Lib.hid hqa
          have HROW := Lib.hid hrow
          have hql : qs.length ≤ (B + 10) := by have := HR6.out.ll; rw [← hqs, List.length_map] at this; exact this
          refine step_appR (m := [(⟨⟨c, r, s, l⟩, yA, ycap⟩ : BtV)]) btTy BtV.encOk rfl (.tmp 36) (.tmp 39) rfl rfl rfl hrow (SlIn.one HP6.out BtV.encOk rfl) (by simp; unfold maxLen; omega) (by simp; omega) (Nat.zero_le _) ?_
          intro v7 w7 h7 hg7 hv7
          have hou : Upd (fun i => L.lv.ownBlock = some i) w6 w7 := (Upd.refl _ w6).grown hg7 (fun i _ e => e)
          have hrn : ¬ L.lv.ownBlock = some rp := fun e => hrow.ne_blk HR6.out.blk (by decide) e
          have hbn : ¬ L.lv.ownBlock = some w.heap.size := fun e => by have := HSZ.out _ (.inr (.inr (.inl e))); omega
          have hcr := fun o => keepR hou G0 hrn o
          have HX7 := Lib.hid (HX6.out.upd hou hbn)
          have HYR : Hid (BtRow w7 0 v7 (x1.l ++ [⟨c, r, s, l⟩])) := Lib.hid ⟨qs ++ [(⟨⟨c, r, s, l⟩, yA, ycap⟩ : BtV)], by rw [List.map_append, HQS.out]; rfl, h7, fun p hp => (List.mem_append.1 hp).elim (fun hp => (HQA.out p hp).upd hou (Off.row HROW.out (by decide))) (fun hp => by rw [List.mem_singleton.1 hp]; exact HY6.out.upd hou (Off.row HROW.out (by decide)))⟩
          have hfz : ∀ i, w7.frozen? ⟨rp, i, none⟩ = false := (HR6.out.blk.upd hou hrn).frozen
          obtain ⟨A7, n7, c7, hs7⟩ := h7.shp
          have HS7 := Lib.hid hs7
          have HG7 := Lib.hid hg7
          have HV7 := Lib.hid hv7
          have HOU := Lib.hid hou
          rw [hs7]
          have E4 := (hcr 4).trans C4
          have gl : rp < w7.heap.size := Nat.lt_of_lt_of_le G0 hou.size
          clear hqs hqa hrow h7 hg7 hv7 hou hrn hbn hcr hql hs7 K0_0 K0_1 K0_2 K0_3
          have K0_0 := HX7.out.cell 0
          have K0_1 := HX7.out.cell 1
          have K0_2 := HX7.out.cell 2
          have K0_3 := HX7.out.cell 3
          (try dsimp only [NtV.cells] at K0_0 K0_1 K0_2 K0_3)
          refine hK.out _ _ ?_ (fun hHeld => ?_)
          · exact ⟨K0_0, K0_1, K0_2, K0_3⟩
          clear hK K
          try simp only [Act.put, sA, sZ, sS]
          refine tkH (i := 9) (oi := oMg8_45) (v := ?_) (.inl ⟨by rfl, ?_⟩) ?_
          rotate_left
          · (intro wq hSw; (try dsimp only at hSw); go_simp; first | done | with_reducible rfl)
          try simp only [Act.put, sA, sZ, sS]
          refine tkH (i := 10) (oi := oMg8_46) (v := ?_) (.inl ⟨by rfl, ?_⟩) ?_
          rotate_left
          · (intro wq hSw; (try dsimp only at hSw); go_simp; first | done | with_reducible rfl)
          try simp only [Act.put, sA, sZ, sS]
          refine wpAnyH_ready (rs := [11]) (by kernel_rfl) (by simp) ?_
          refine AllReadyH.cons (o := oMg8_47) rfl (fun K hK => ?_) AllReadyH.nil
          go_simp
          have I0 := cell_far (u := .slice A7 n7 c7) (i := 4) K0_0 HBR.out
          have I1 := cell_far (u := .slice A7 n7 c7) (i := 4) K0_1 HBR.out
          have I2 := cell_far (u := .slice A7 n7 c7) (i := 4) K0_2 HBR.out
          have I3 := cell_far (u := .slice A7 n7 c7) (i := 4) K0_3 HBR.out
          refine hK.out _ _ ?_ (fun hHeld => ?_)
          · exact ⟨I0, I1, I2, I3⟩
          clear hK K
          try simp only [Act.put, sA, sZ, sS]
          refine wpAnyH_done (by kernel_rfl) ?_ _
          clear hHeld
          have H8 : Hid (RpAt (w7.setCell ⟨rp, 4, none⟩ (.slice A7 n7 c7)) rp ((B + 10) + 1) { L with lv := .slice A7 n7 c7 } { x1 with l := x1.l ++ [⟨c, r, s, l⟩] }) := Lib.hid (by
            have := HR6.out.setL HYR.out (by have := HR6.out.ll; rw [List.length_append, List.length_singleton]; omega) HG7.out
            rw [HS7.out] at this
            exact this)
          have H8K : Hid (∀ i, RpF rp { L with lv := .slice A7 n7 c7 } i → RpF rp L i ∨ w8.heap.size ≤ i) := Lib.hid (by
            rintro i (hi | hi | hi | hi)
            · exact .inl (.inl hi)
            · exact .inl (.inr (.inl hi))
            · rw [← HS7.out] at hi
              exact HV7.out.elim (fun e => .inl (.inr (.inr (.inl (e ▸ hi))))) (fun e => .inr (by rw [e] at hi; cases hi; exact HN6.out.size))
            · exact .inl (.inr (.inr (.inr hi))))
          have H8U : Hid (Upd (RpF rp L) w8 (w7.setCell ⟨rp, 4, none⟩ (.slice A7 n7 c7))) := Lib.hid ((((Upd.new (S := RpF rp L) HN6.out)).trans HOU.out (fun i _ hi => .inr (.inr (.inl hi)))).setCell (p := ⟨rp, 4, none⟩) (fun _ => .inl rfl) _)
          clear E4 gl hfz
          go_wp2_with fail
          refine (radded H8.out (b := ⟨c, r, s, l⟩) (m := x1.l.length) (by simp) (by simp) (by omega)).mono ?_
          rintro e w9 ⟨rfl, hp⟩
          have hz8 := (HZC.out.upd H8U.out (HRC.out.offB _ _ HZC.out))
          have hv8 := (HV6.out.upd H8U.out (HRC.out.offB _ _ HV6.out))
          have hz9 := hz8.upd (show Upd (RpF rp _) _ w9 from let ⟨_, _, _, h⟩ := hp; h) (H8.out.offB _ _ hz8)
          have hv9 := hv8.upd (show Upd (RpF rp _) _ w9 from let ⟨_, _, _, h⟩ := hp; h) (H8.out.offB _ _ hv8)
          have HPF : Hid (RpPost w rp (B + 20) L (x1.added ⟨c, r, s, l⟩) w9) := Lib.hid ((RpPost.trans H8.out (fun i hi => (H8K.out i hi).imp (fun h => h) (fun h => Nat.le_trans HUW.out.size h)) (HUW.out.trans H8U.out (fun _ _ h => h)) hp).mono (by omega))
          have HZ9 := Lib.hid hz9
          clear z0 z1 z2 zz v0 v1 v2 vz hp hz8 hv8
          obtain ⟨z0, z1, z2, zz⟩ := Blk2W hz9
          obtain ⟨v0, v1, v2, vz⟩ := Blk2W hv9
          clear hz9 hv9
          go_wp2_with fail
          rw [HF2.out]
          exact bodyPost_ret (v := .tuple #[.agg #[.int .u64 (vd.t : Int), .int .i64 vd.e], .int .i64 0]) (by simp [results, Tryz.results17, go_sem, z1, z2]) rfl ⟨rfl, RpPost.tail HPF.out HZ9.out (by omega)⟩
        · go_simp
          refine (copied_any (HBC.out.new (New.refl w8).drew)).mono ?_
          rintro e w5 ⟨y, rfl, hyb, hy5, hn5⟩
          obtain ⟨⟨yc, yr, ys, yl⟩, yA, ycap⟩ := y
          dsimp only at hyb
          cases hyb
          dsimp only [BtV.val, BtV.sl, batV]
          have hn5W : New w8 w5 := (New.refl w8).drew.trans hn5
          have HR5 := Lib.hid (HRC.out.new hn5W)
          have HY5 := Lib.hid hy5
          have HN5 := Lib.hid hn5W
          have HX5 := Lib.hid (HXC.out.new hn5W)
          obtain ⟨G0, C0, C1, C2, C3, C4, C5, C6, CZ⟩ := HR5.out.facts
          clear hy5 hn5
          have K0_0 := HX5.out.cell 0
          have K0_1 := HX5.out.cell 1
          have K0_2 := HX5.out.cell 2
          have K0_3 := HX5.out.cell 3
          (try dsimp only [NtV.cells] at K0_0 K0_1 K0_2 K0_3)
          refine hK.out _ _ ?_ (fun hHeld => ?_)
          · exact ⟨K0_0, K0_1, K0_2, K0_3⟩
          clear hK K
          try simp only [Act.put, sA, sZ, sS]
          refine wpAnyH_ready (rs := [4, 7]) (by kernel_rfl) (by simp) ?_
          refine AllReadyH.cons (o := oMg8_41) rfl (fun K hK => ?_) (AllReadyH.cons (o := oMg8_43) rfl (fun K hK => ?_) AllReadyH.nil)
          · go_simp
            refine hK.out _ _ ?_ (fun hHeld => ?_)
            · exact hHeld
            clear hK K
            try simp only [Act.put, sA, sZ, sS]
            refine wpAnyH_ready (rs := [7]) (by kernel_rfl) (by simp) ?_
            refine AllReadyH.cons (o := oMg8_43) rfl (fun K hK => ?_) AllReadyH.nil
            go_simp
            have hn6 := (New.refl w5).alloc (.cells #[.int .u64 (c : Int), .int .u64 (r : Int), .int .u64 (s : Int), .slice yA l.length ycap] 40)
            have HP6 := Lib.hid (Blk.mk_new w5 40 #[.int .u64 (c : Int), .int .u64 (r : Int), .int .u64 (s : Int), .slice yA l.length ycap])
            have HR6 := Lib.hid (HR5.out.new hn6)
            have HY6 := Lib.hid (HY5.out.new hn6)
            have HN6 := Lib.hid (HN5.out.trans hn6)
            have HX6 := Lib.hid (HX5.out.new hn6)
            clear hn6 K0_0 K0_1 K0_2 K0_3
            generalize w5.alloc (.cells #[.int .u64 (c : Int), .int .u64 (r : Int), .int .u64 (s : Int), .slice yA l.length ycap] 40) = w6 at *
            obtain ⟨G0, C0, C1, C2, C3, C4, C5, C6, CZ⟩ := HR6.out.facts
            have K0_0 := HX6.out.cell 0
            have K0_1 := HX6.out.cell 1
            have K0_2 := HX6.out.cell 2
            have K0_3 := HX6.out.cell 3
            (try dsimp only [NtV.cells] at K0_0 K0_1 K0_2 K0_3)
            refine hK.out _ _ ?_ (fun hHeld => ?_)
            · exact ⟨K0_0, K0_1, K0_2, K0_3⟩
            clear hK K
            try simp only [Act.put, sA, sZ, sS]
            refine wpAnyH_ready (rs := [8]) (by kernel_rfl) (by simp) ?_
            refine AllReadyH.cons (o := oMg8_44) rfl (fun K hK => ?_) AllReadyH.nil
            obtain ⟨qs, hqs, hrow, hqa⟩ := HR6.out.l
            have HQS := Lib.hid hqs
            have HQA := Lib.hid hqa
            have HROW := Lib.hid hrow
            have hql : qs.length ≤ (B + 10) := by have := HR6.out.ll; rw [← hqs, List.length_map] at this; exact this
            refine step_appR (m := [(⟨⟨c, r, s, l⟩, yA, ycap⟩ : BtV)]) btTy BtV.encOk rfl (.tmp 36) (.tmp 39) rfl rfl rfl hrow (SlIn.one HP6.out BtV.encOk rfl) (by simp; unfold maxLen; omega) (by simp; omega) (Nat.zero_le _) ?_
            intro v7 w7 h7 hg7 hv7
            have hou : Upd (fun i => L.lv.ownBlock = some i) w6 w7 := (Upd.refl _ w6).grown hg7 (fun i _ e => e)
            have hrn : ¬ L.lv.ownBlock = some rp := fun e => hrow.ne_blk HR6.out.blk (by decide) e
            have hbn : ¬ L.lv.ownBlock = some w.heap.size := fun e => by have := HSZ.out _ (.inr (.inr (.inl e))); omega
            have hcr := fun o => keepR hou G0 hrn o
            have HX7 := Lib.hid (HX6.out.upd hou hbn)
            have HYR : Hid (BtRow w7 0 v7 (x1.l ++ [⟨c, r, s, l⟩])) := Lib.hid ⟨qs ++ [(⟨⟨c, r, s, l⟩, yA, ycap⟩ : BtV)], by rw [List.map_append, HQS.out]; rfl, h7, fun p hp => (List.mem_append.1 hp).elim (fun hp => (HQA.out p hp).upd hou (Off.row HROW.out (by decide))) (fun hp => by rw [List.mem_singleton.1 hp]; exact HY6.out.upd hou (Off.row HROW.out (by decide)))⟩
            have hfz : ∀ i, w7.frozen? ⟨rp, i, none⟩ = false := (HR6.out.blk.upd hou hrn).frozen
            obtain ⟨A7, n7, c7, hs7⟩ := h7.shp
            have HS7 := Lib.hid hs7
            have HG7 := Lib.hid hg7
            have HV7 := Lib.hid hv7
            have HOU := Lib.hid hou
            rw [hs7]
            have E4 := (hcr 4).trans C4
            have gl : rp < w7.heap.size := Nat.lt_of_lt_of_le G0 hou.size
            clear hqs hqa hrow h7 hg7 hv7 hou hrn hbn hcr hql hs7 K0_0 K0_1 K0_2 K0_3
            have K0_0 := HX7.out.cell 0
            have K0_1 := HX7.out.cell 1
            have K0_2 := HX7.out.cell 2
            have K0_3 := HX7.out.cell 3
            (try dsimp only [NtV.cells] at K0_0 K0_1 K0_2 K0_3)
            refine hK.out _ _ ?_ (fun hHeld => ?_)
            · exact ⟨K0_0, K0_1, K0_2, K0_3⟩
            clear hK K
            try simp only [Act.put, sA, sZ, sS]
            refine tkH (i := 9) (oi := oMg8_45) (v := ?_) (.inl ⟨by rfl, ?_⟩) ?_
            rotate_left
            · (intro wq hSw; (try dsimp only at hSw); go_simp; first | done | with_reducible rfl)
            try simp only [Act.put, sA, sZ, sS]
            refine tkH (i := 10) (oi := oMg8_46) (v := ?_) (.inl ⟨by rfl, ?_⟩) ?_
            rotate_left
            · (intro wq hSw; (try dsimp only at hSw); go_simp; first | done | with_reducible rfl)
            try simp only [Act.put, sA, sZ, sS]
            refine wpAnyH_ready (rs := [11]) (by kernel_rfl) (by simp) ?_
            refine AllReadyH.cons (o := oMg8_47) rfl (fun K hK => ?_) AllReadyH.nil
            go_simp
            have I0 := cell_far (u := .slice A7 n7 c7) (i := 4) K0_0 HBR.out
            have I1 := cell_far (u := .slice A7 n7 c7) (i := 4) K0_1 HBR.out
            have I2 := cell_far (u := .slice A7 n7 c7) (i := 4) K0_2 HBR.out
            have I3 := cell_far (u := .slice A7 n7 c7) (i := 4) K0_3 HBR.out
            refine hK.out _ _ ?_ (fun hHeld => ?_)
            · exact ⟨I0, I1, I2, I3⟩
            clear hK K
            try simp only [Act.put, sA, sZ, sS]
            refine wpAnyH_done (by kernel_rfl) ?_ _
            clear hHeld
            have H8 : Hid (RpAt (w7.setCell ⟨rp, 4, none⟩ (.slice A7 n7 c7)) rp ((B + 10) + 1) { L with lv := .slice A7 n7 c7 } { x1 with l := x1.l ++ [⟨c, r, s, l⟩] }) := Lib.hid (by
              have := HR6.out.setL HYR.out (by have := HR6.out.ll; rw [List.length_append, List.length_singleton]; omega) HG7.out
              rw [HS7.out] at this
              exact this)
            have H8K : Hid (∀ i, RpF rp { L with lv := .slice A7 n7 c7 } i → RpF rp L i ∨ w8.heap.size ≤ i) := Lib.hid (by
              rintro i (hi | hi | hi | hi)
              · exact .inl (.inl hi)
              · exact .inl (.inr (.inl hi))
              · rw [← HS7.out] at hi
                exact HV7.out.elim (fun e => .inl (.inr (.inr (.inl (e ▸ hi))))) (fun e => .inr (by rw [e] at hi; cases hi; exact HN6.out.size))
              · exact .inl (.inr (.inr (.inr hi))))
            have H8U : Hid (Upd (RpF rp L) w8 (w7.setCell ⟨rp, 4, none⟩ (.slice A7 n7 c7))) := Lib.hid ((((Upd.new (S := RpF rp L) HN6.out)).trans HOU.out (fun i _ hi => .inr (.inr (.inl hi)))).setCell (p := ⟨rp, 4, none⟩) (fun _ => .inl rfl) _)
            clear E4 gl hfz
            go_wp2_with fail
            refine (radded H8.out (b := ⟨c, r, s, l⟩) (m := x1.l.length) (by simp) (by simp) (by omega)).mono ?_
            rintro e w9 ⟨rfl, hp⟩
            have hz8 := (HZC.out.upd H8U.out (HRC.out.offB _ _ HZC.out))
            have hv8 := (HV6.out.upd H8U.out (HRC.out.offB _ _ HV6.out))
            have hz9 := hz8.upd (show Upd (RpF rp _) _ w9 from let ⟨_, _, _, h⟩ := hp; h) (H8.out.offB _ _ hz8)
            have hv9 := hv8.upd (show Upd (RpF rp _) _ w9 from let ⟨_, _, _, h⟩ := hp; h) (H8.out.offB _ _ hv8)
            have HPF : Hid (RpPost w rp (B + 20) L (x1.added ⟨c, r, s, l⟩) w9) := Lib.hid ((RpPost.trans H8.out (fun i hi => (H8K.out i hi).imp (fun h => h) (fun h => Nat.le_trans HUW.out.size h)) (HUW.out.trans H8U.out (fun _ _ h => h)) hp).mono (by omega))
            have HZ9 := Lib.hid hz9
            clear z0 z1 z2 zz v0 v1 v2 vz hp hz8 hv8
            obtain ⟨z0, z1, z2, zz⟩ := Blk2W hz9
            obtain ⟨v0, v1, v2, vz⟩ := Blk2W hv9
            clear hz9 hv9
            go_wp2_with fail
            rw [HF2.out]
            exact bodyPost_ret (v := .tuple #[.agg #[.int .u64 (vd.t : Int), .int .i64 vd.e], .int .i64 0]) (by simp [results, Tryz.results17, go_sem, z1, z2]) rfl ⟨rfl, RpPost.tail HPF.out HZ9.out (by omega)⟩
          · go_simp
            have hn6 := (New.refl w5).alloc (.cells #[.int .u64 (c : Int), .int .u64 (r : Int), .int .u64 (s : Int), .slice yA l.length ycap] 40)
            have HP6 := Lib.hid (Blk.mk_new w5 40 #[.int .u64 (c : Int), .int .u64 (r : Int), .int .u64 (s : Int), .slice yA l.length ycap])
            have HR6 := Lib.hid (HR5.out.new hn6)
            have HY6 := Lib.hid (HY5.out.new hn6)
            have HN6 := Lib.hid (HN5.out.trans hn6)
            have HX6 := Lib.hid (HX5.out.new hn6)
            clear hn6 K0_0 K0_1 K0_2 K0_3
            generalize w5.alloc (.cells #[.int .u64 (c : Int), .int .u64 (r : Int), .int .u64 (s : Int), .slice yA l.length ycap] 40) = w6 at *
            obtain ⟨G0, C0, C1, C2, C3, C4, C5, C6, CZ⟩ := HR6.out.facts
            have K0_0 := HX6.out.cell 0
            have K0_1 := HX6.out.cell 1
            have K0_2 := HX6.out.cell 2
            have K0_3 := HX6.out.cell 3
            (try dsimp only [NtV.cells] at K0_0 K0_1 K0_2 K0_3)
            refine hK.out _ _ ?_ (fun hHeld => ?_)
            · exact ⟨K0_0, K0_1, K0_2, K0_3⟩
            clear hK K
            try simp only [Act.put, sA, sZ, sS]
            refine wpAnyH_ready (rs := [4]) (by kernel_rfl) (by simp) ?_
            refine AllReadyH.cons (o := oMg8_41) rfl (fun K hK => ?_) AllReadyH.nil
            go_simp
            refine hK.out _ _ ?_ (fun hHeld => ?_)
            · exact hHeld
            clear hK K
            try simp only [Act.put, sA, sZ, sS]
            refine wpAnyH_ready (rs := [8]) (by kernel_rfl) (by simp) ?_
            refine AllReadyH.cons (o := oMg8_44) rfl (fun K hK => ?_) AllReadyH.nil
            obtain ⟨qs, hqs, hrow, hqa⟩ := HR6.out.l
            have HQS := Lib.hid hqs
            have HQA := Lib.hid hqa
            have HROW := Lib.hid hrow
            have hql : qs.length ≤ (B + 10) := by have := HR6.out.ll; rw [← hqs, List.length_map] at this; exact this
            refine step_appR (m := [(⟨⟨c, r, s, l⟩, yA, ycap⟩ : BtV)]) btTy BtV.encOk rfl (.tmp 36) (.tmp 39) rfl rfl rfl hrow (SlIn.one HP6.out BtV.encOk rfl) (by simp; unfold maxLen; omega) (by simp; omega) (Nat.zero_le _) ?_
            intro v7 w7 h7 hg7 hv7
            have hou : Upd (fun i => L.lv.ownBlock = some i) w6 w7 := (Upd.refl _ w6).grown hg7 (fun i _ e => e)
            have hrn : ¬ L.lv.ownBlock = some rp := fun e => hrow.ne_blk HR6.out.blk (by decide) e
            have hbn : ¬ L.lv.ownBlock = some w.heap.size := fun e => by have := HSZ.out _ (.inr (.inr (.inl e))); omega
            have hcr := fun o => keepR hou G0 hrn o
            have HX7 := Lib.hid (HX6.out.upd hou hbn)
            have HYR : Hid (BtRow w7 0 v7 (x1.l ++ [⟨c, r, s, l⟩])) := Lib.hid ⟨qs ++ [(⟨⟨c, r, s, l⟩, yA, ycap⟩ : BtV)], by rw [List.map_append, HQS.out]; rfl, h7, fun p hp => (List.mem_append.1 hp).elim (fun hp => (HQA.out p hp).upd hou (Off.row HROW.out (by decide))) (fun hp => by rw [List.mem_singleton.1 hp]; exact HY6.out.upd hou (Off.row HROW.out (by decide)))⟩
            have hfz : ∀ i, w7.frozen? ⟨rp, i, none⟩ = false := (HR6.out.blk.upd hou hrn).frozen
            obtain ⟨A7, n7, c7, hs7⟩ := h7.shp
            have HS7 := Lib.hid hs7
            have HG7 := Lib.hid hg7
            have HV7 := Lib.hid hv7
            have HOU := Lib.hid hou
            rw [hs7]
            have E4 := (hcr 4).trans C4
            have gl : rp < w7.heap.size := Nat.lt_of_lt_of_le G0 hou.size
            clear hqs hqa hrow h7 hg7 hv7 hou hrn hbn hcr hql hs7 K0_0 K0_1 K0_2 K0_3
            have K0_0 := HX7.out.cell 0
            have K0_1 := HX7.out.cell 1
            have K0_2 := HX7.out.cell 2
            have K0_3 := HX7.out.cell 3
            (try dsimp only [NtV.cells] at K0_0 K0_1 K0_2 K0_3)
            refine hK.out _ _ ?_ (fun hHeld => ?_)
            · exact ⟨K0_0, K0_1, K0_2, K0_3⟩
            clear hK K
            try simp only [Act.put, sA, sZ, sS]
            refine tkH (i := 9) (oi := oMg8_45) (v := ?_) (.inl ⟨by rfl, ?_⟩) ?_
            rotate_left
            · (intro wq hSw; (try dsimp only at hSw); go_simp; first | done | with_reducible rfl)
            try simp only [Act.put, sA, sZ, sS]
            refine tkH (i := 10) (oi := oMg8_46) (v := ?_) (.inl ⟨by rfl, ?_⟩) ?_
            rotate_left
            · (intro wq hSw; (try dsimp only at hSw); go_simp; first | done | with_reducible rfl)
            try simp only [Act.put, sA, sZ, sS]
            refine wpAnyH_ready (rs := [11]) (by kernel_rfl) (by simp) ?_
            refine AllReadyH.cons (o := oMg8_47) rfl (fun K hK => ?_) AllReadyH.nil
            go_simp
            have I0 := cell_far (u := .slice A7 n7 c7) (i := 4) K0_0 HBR.out
            have I1 := cell_far (u := .slice A7 n7 c7) (i := 4) K0_1 HBR.out
            have I2 := cell_far (u := .slice A7 n7 c7) (i := 4) K0_2 HBR.out
            have I3 := cell_far (u := .slice A7 n7 c7) (i := 4) K0_3 HBR.out
            refine hK.out _ _ ?_ (fun hHeld => ?_)
            · exact ⟨I0, I1, I2, I3⟩
            clear hK K
            try simp only [Act.put, sA, sZ, sS]
            refine wpAnyH_done (by kernel_rfl) ?_ _
            clear hHeld
            have H8 : Hid (RpAt (w7.setCell ⟨rp, 4, none⟩ (.slice A7 n7 c7)) rp ((B + 10) + 1) { L with lv := .slice A7 n7 c7 } { x1 with l := x1.l ++ [⟨c, r, s, l⟩] }) := Lib.hid (by
              have := HR6.out.setL HYR.out (by have := HR6.out.ll; rw [List.length_append, List.length_singleton]; omega) HG7.out
              rw [HS7.out] at this
              exact this)
            have H8K : Hid (∀ i, RpF rp { L with lv := .slice A7 n7 c7 } i → RpF rp L i ∨ w8.heap.size ≤ i) := Lib.hid (by
              rintro i (hi | hi | hi | hi)
              · exact .inl (.inl hi)
              · exact .inl (.inr (.inl hi))
              · rw [← HS7.out] at hi
                exact HV7.out.elim (fun e => .inl (.inr (.inr (.inl (e ▸ hi))))) (fun e => .inr (by rw [e] at hi; cases hi; exact HN6.out.size))
              · exact .inl (.inr (.inr (.inr hi))))
            have H8U : Hid (Upd (RpF rp L) w8 (w7.setCell ⟨rp, 4, none⟩ (.slice A7 n7 c7))) := Lib.hid ((((Upd.new (S := RpF rp L) HN6.out)).trans HOU.out (fun i _ hi => .inr (.inr (.inl hi)))).setCell (p := ⟨rp, 4, none⟩) (fun _ => .inl rfl) _)
            clear E4 gl hfz
            go_wp2_with fail
            refine (radded H8.out (b := ⟨c, r, s, l⟩) (m := x1.l.length) (by simp) (by simp) (by omega)).mono ?_
            rintro e w9 ⟨rfl, hp⟩
            have hz8 := (HZC.out.upd H8U.out (HRC.out.offB _ _ HZC.out))
            have hv8 := (HV6.out.upd H8U.out (HRC.out.offB _ _ HV6.out))
            have hz9 := hz8.upd (show Upd (RpF rp _) _ w9 from let ⟨_, _, _, h⟩ := hp; h) (H8.out.offB _ _ hz8)
            have hv9 := hv8.upd (show Upd (RpF rp _) _ w9 from let ⟨_, _, _, h⟩ := hp; h) (H8.out.offB _ _ hv8)
            have HPF : Hid (RpPost w rp (B + 20) L (x1.added ⟨c, r, s, l⟩) w9) := Lib.hid ((RpPost.trans H8.out (fun i hi => (H8K.out i hi).imp (fun h => h) (fun h => Nat.le_trans HUW.out.size h)) (HUW.out.trans H8U.out (fun _ _ h => h)) hp).mono (by omega))
            have HZ9 := Lib.hid hz9
            clear z0 z1 z2 zz v0 v1 v2 vz hp hz8 hv8
            obtain ⟨z0, z1, z2, zz⟩ := Blk2W hz9
            obtain ⟨v0, v1, v2, vz⟩ := Blk2W hv9
            clear hz9 hv9
            go_wp2_with fail
            rw [HF2.out]
            exact bodyPost_ret (v := .tuple #[.agg #[.int .u64 (vd.t : Int), .int .i64 vd.e], .int .i64 0]) (by simp [results, Tryz.results17, go_sem, z1, z2]) rfl ⟨rfl, RpPost.tail HPF.out HZ9.out (by omega)⟩
end
end Go.Proofs.YtecniafnihpjmaaGreatDoor
