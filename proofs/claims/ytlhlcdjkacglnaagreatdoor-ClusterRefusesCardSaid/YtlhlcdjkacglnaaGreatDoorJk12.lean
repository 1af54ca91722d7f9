/- Chapter 19 (judge): Say. Printed by genRpJ2.py. -/
import Derived.Test.YtlhlcdjkacglnaaGreatDoorJk1
import Derived.Test.YtlhlcdjkacglnaaGreatDoorJk11
import Derived.Deep.DeepCutAuto
import Derived.Deep.CutBlock
import Derived.Laws.EntriesVeiled
namespace Go.Proofs.YtlhlcdjkacglnaaGreatDoor
open Go.RowKit Go.Lap C
set_option linter.unusedVariables false
theorem Blk1J {w : World} {g t : Nat} {a : Value} (h : Blk w g t #[a]) : g < w.heap.size ∧ w.cell? ⟨g, 0, none⟩ = some a ∧ (∀ i, w.frozen? ⟨g, i, none⟩ = false) := ⟨h.lt, h.cell 0, h.frozen⟩
theorem Blk2J {w : World} {g t : Nat} {a b : Value} (h : Blk w g t #[a, b]) : g < w.heap.size ∧ w.cell? ⟨g, 0, none⟩ = some a ∧ w.cell? ⟨g, 1, none⟩ = some b ∧ (∀ i, w.frozen? ⟨g, i, none⟩ = false) := ⟨h.lt, h.cell 0, h.cell 1, h.frozen⟩
section
variable {w w' W wa : World} {S : Nat → Prop} {B a a6 a7 c r s q : Nat} {L : JdL} {j : Jd} {x : BtV} {sl : Value}
/-- The boxes of Say. -/
structure SyM (W : World) (a : Nat) (jb c r s : Nat) (sl : Value) : Prop where
  b0 : Blk W a 126 #[.pointer (some ⟨jb, 0, none⟩)]
  b1 : Blk W (a + 1) 82 #[.int .u64 (c : Int), .int .u64 (r : Int), .int .u64 (s : Int), sl]
  b2 : Blk W (a + 1 + 1) 46 #[.int .u64 0, .int .i64 0]
theorem SyM.upd {jb : Nat} (h : SyM W a jb c r s sl) (hu : Upd S W wa) (hS : ∀ k, S k → k < a ∨ a + 2 < k) : SyM wa a jb c r s sl :=
  ⟨h.b0.upd hu (fun hk => by have := hS _ hk; omega), h.b1.upd hu (fun hk => by have := hS _ hk; omega), h.b2.upd hu (fun hk => by have := hS _ hk; omega)⟩
theorem SyM.new {jb : Nat} (h : SyM W a jb c r s sl) (hn : New W wa) : SyM wa a jb c r s sl := ⟨h.b0.new hn, h.b1.new hn, h.b2.new hn⟩
theorem SyM.drewS {jb : Nat} (h : SyM W a jb c r s sl) : SyM W.drew a jb c r s sl := h.new (New.refl W).drew
def toldV (p : Option (Nat × Vd)) : Array Value := match p with | none => #[.int .u64 0, .int .u64 0, .int .i64 0] | some (q, v) => #[.int .u64 (q : Int), .int .u64 (v.t : Int), .int .i64 v.e]
theorem snV_get (f : Nat → Option (Nat × Vd)) (c : Nat) : (snV f c).getD (.agg #[.int .u64 0, .int .u64 0, .int .i64 0]) = .agg (toldV (f c)) := by unfold snV toldV; cases f c <;> rfl
theorem snV_some (f : Nat → Option (Nat × Vd)) (c : Nat) : (snV f c).isSome = (f c).isSome := by unfold snV; cases f c <;> rfl
theorem zeroTold (w : World) : (zeroValue 306).run Tryz.prog w = .ok (.agg #[.int .u64 0, .int .u64 0, .int .i64 0]) w := by kernel_rfl
/-- Behind the lookup. -/
def AftL (W : World) (p : Option (Nat × Vd)) (s6 s7 : Value) (wx : World) : Prop :=
  ∃ a6 a7, s6 = .pointer (some ⟨a6, 0, none⟩) ∧ s7 = .pointer (some ⟨a7, 0, none⟩) ∧ a6 ≠ a7 ∧ W.heap.size ≤ a6 ∧ W.heap.size ≤ a7 ∧ Blk wx a6 306 (toldV p) ∧ Blk wx a7 4 #[.bool p.isSome] ∧ New W wx
theorem told_lit (p : Option (Nat × Vd)) : ∃ (t0 t1 : Nat) (t2 : Int), toldV p = #[.int .u64 (t0 : Int), .int .u64 (t1 : Int), .int .i64 t2] := by
  cases p with
  | none => exact ⟨0, 0, 0, rfl⟩
  | some p => exact ⟨_, _, _, rfl⟩
theorem blk_two (w : World) (o : Obj) (t : TypeId) (cs : Array Value) : Blk ((w.alloc o).alloc (.cells cs t)).drew (w.heap.size + 1) t cs := by
  have := Blk.mk_new (w.alloc o) t cs
  rw [World.size_alloc] at this
  exact this
def SayPost (w : World) (B : Nat) (L : JdL) (r : Jd × Vd) (e : Ending) (w' : World) : Prop := e = .returned (.agg #[.int .u64 (r.2.t : Int), .int .i64 r.2.e]) ∧ JdAt w' (B + 10) L r.1 ∧ Upd (JdF L) w w'
theorem SayPost.fin {j' : Jd} {C t : Nat} {e : Int} {u v : Value} (hj : JdAt wa C L j') (hC : C ≤ B + 10) (hu : Upd (JdF L) w wa) (hlt : ∀ k, JdF L k → k < w.heap.size) : SayPost w B L (j', ⟨t, e⟩) (.returned (.agg #[.int .u64 (t : Int), .int .i64 e])) ((wa.setCell ⟨w.heap.size + 1 + 1, 0, none⟩ u).setCell ⟨w.heap.size + 1 + 1, 1, none⟩ v) := by
  have hu2 : Upd (· = w.heap.size + 1 + 1) wa ((wa.setCell ⟨w.heap.size + 1 + 1, 0, none⟩ u).setCell ⟨w.heap.size + 1 + 1, 1, none⟩ v) := ((Upd.refl _ wa).setIn 0 u).setIn 1 v
  exact ⟨rfl, (hj.upd hu2 (fun k hk e => by have := hlt k hk; omega)).mono hC, hu.trans hu2 (fun i hi e => by omega)⟩
theorem askAt (f0 f1 f2 e0 e1 e2 : Value) (w : World) :
    (Instr.index 310 (.agg #[f0, e0, f1, e1, f2, e2]) (.int .i64 0)).run Tryz.prog w = .ok (.agg #[f0, e0]) w ∧ (Instr.index 310 (.agg #[f0, e0, f1, e1, f2, e2]) (.int .i64 1)).run Tryz.prog w = .ok (.agg #[f1, e1]) w ∧
    (Instr.index 310 (.agg #[f0, e0, f1, e1, f2, e2]) (.int .i64 2)).run Tryz.prog w = .ok (.agg #[f2, e2]) w := by
  refine ⟨?_, ?_, ?_⟩ <;> kernel_rfl
set_option maxHeartbeats 1000000 in
theorem sayF1 {was : Bool} {a7 a6 ab q : Nat} {u v : Value} (h7 : Blk W a7 4 #[.bool was]) (hb : Blk W ab 82 #[.int .u64 (c : Int), .int .u64 (r : Int), .int .u64 (s : Int), sl]) (h6 : Blk W a6 306 #[.int .u64 (q : Int), u, v]) :
    Calls Tryz.prog 210 #[.pointer (some ⟨a7, 0, none⟩), .pointer (some ⟨ab, 0, none⟩), .pointer (some ⟨a6, 0, none⟩)] W fun e w' => e = .returned (.bool (was && decide (r < q))) ∧ New W w' := by
  obtain ⟨b0, b1, bz⟩ := Blk1J h7
  obtain ⟨q0, q1, q2, q3, q4, qz⟩ := Blk4F hb
  obtain ⟨u0, u1, u2, u3, uz⟩ := Blk3J h6
  clear h7 hb h6
  cases was with
  | false =>
    go_enter Tryz.func210, Tryz.ntmps210
    go_wp2_with fail
    go_ret
    exact ⟨rfl, New.refl _⟩
  | true =>
    go_enter Tryz.func210, Tryz.ntmps210
    go_wp2_with fail
    go_ret
    exact ⟨rfl, New.refl _⟩
set_option maxHeartbeats 1000000 in
theorem sayF2 {jb ab aj la : Nat} {u v : Value} (hj : Blk W aj 126 #[.pointer (some ⟨jb, 0, none⟩)]) (hb : Blk W ab 82 #[.int .u64 (c : Int), .int .u64 (r : Int), .int .u64 (s : Int), sl]) (h6 : Blk W jb 278 #[.int .u64 (la : Int), u, v]) :
    Calls Tryz.prog 211 #[.pointer (some ⟨ab, 0, none⟩), .pointer (some ⟨aj, 0, none⟩)] W fun e w' => e = .returned (.bool (decide (la < s))) ∧ New W w' := by
  obtain ⟨b0, b1, bz⟩ := Blk1J hj
  obtain ⟨q0, q1, q2, q3, q4, qz⟩ := Blk4F hb
  obtain ⟨u0, u1, u2, u3, uz⟩ := Blk3J h6
  clear hj hb h6
  go_enter Tryz.func211, Tryz.ntmps211
  go_wp2_with fail
  go_quiet (fail)
  go_wp2_with fail
  go_ret
  exact ⟨by simp, (New.refl _).drewN _⟩
set_option maxHeartbeats 1000000 in
theorem sayF3 {jb aj la : Nat} {u v : Value} (hj : Blk W aj 126 #[.pointer (some ⟨jb, 0, none⟩)]) (h6 : Blk W jb 278 #[.int .u64 (la : Int), u, v]) (hla : la < 9223372036854775807) :
    Calls Tryz.prog 212 #[.pointer (some ⟨aj, 0, none⟩)] W fun e w' => e = .returned (.bool false) ∧ New W w' := by
  obtain ⟨b0, b1, bz⟩ := Blk1J hj
  obtain ⟨u0, u1, u2, u3, uz⟩ := Blk3J h6
  have hl2 : ¬ (9223372036854775807 : Int) ≤ (la : Int) := by omega
  have hl3 : ¬ 9223372036854775807 ≤ la := by omega
  clear hj h6
  go_enter Tryz.func212, Tryz.ntmps212
  go_wp2_with fail
  go_ret
  exact ⟨by simp, New.refl _⟩
set_option maxRecDepth 100000 in
set_option maxHeartbeats 8000000 in
theorem jsay (h : JdAt w B L j) (hb : BtAt w x) (hB : B ≤ 100000000) :
    Calls Tryz.prog 185 #[.pointer (some ⟨L.jb, 0, none⟩), x.val] w (SayPost w B L (j.say x.b)) := by
  obtain ⟨⟨c, r, s, l⟩, A, cap⟩ := x
  have HBT := Lib.hid hb
  obtain ⟨hsl, hoc, hor, hos, hol⟩ := hb
  dsimp only [BtV.val, BtV.sl, batV] at hsl hoc hor hos hol ⊢
  have hN := (((New.refl w).alloc (.cells #[.pointer (some ⟨L.jb, 0, none⟩)] 126)).alloc (.cells #[.int .u64 (c : Int), .int .u64 (r : Int), .int .u64 (s : Int), .slice A l.length cap] 82)).alloc (.cells #[.int .u64 0, .int .i64 0] 46)
  have hM : SyM (((w.alloc (.cells #[.pointer (some ⟨L.jb, 0, none⟩)] 126)).alloc (.cells #[.int .u64 (c : Int), .int .u64 (r : Int), .int .u64 (s : Int), .slice A l.length cap] 82)).alloc (.cells #[.int .u64 0, .int .i64 0] 46)) w.heap.size L.jb c r s (.slice A l.length cap) := by
    refine ⟨((Blk.mk_new _ _ _).alloc _).alloc _, ?_, ?_⟩
    · have := (Blk.mk_new (w.alloc (.cells #[.pointer (some ⟨L.jb, 0, none⟩)] 126)) 82 #[.int .u64 (c : Int), .int .u64 (r : Int), .int .u64 (s : Int), .slice A l.length cap]).alloc (.cells #[.int .u64 0, .int .i64 0] 46)
      rw [World.size_alloc] at this
      exact this
    · have := Blk.mk_new ((w.alloc (.cells #[.pointer (some ⟨L.jb, 0, none⟩)] 126)).alloc (.cells #[.int .u64 (c : Int), .int .u64 (r : Int), .int .u64 (s : Int), .slice A l.length cap] 82)) 46 #[.int .u64 0, .int .i64 0]
      rw [World.size_alloc, World.size_alloc] at this
      exact this
  have hla := h.la
  have hjlt := h.blk.lt
  have HJ := Lib.hid h
  have HN := Lib.hid hN
  have HM := Lib.hid hM
  have HSL := Lib.hid (hsl.slIn.new hN)
  obtain ⟨p0, p1, pz⟩ := Blk1J hM.b0
  obtain ⟨q0, q1, q2, q3, q4, qz⟩ := Blk4F hM.b1
  obtain ⟨r0, r1, r2, rz⟩ := Blk2J hM.b2
  have HLT := Lib.hid h.lt
  clear h hN hM hsl
  go_enter Tryz.func185, Tryz.ntmps185
  go_upto_region 1 with fail
  generalize (((w.alloc (.cells #[.pointer (some ⟨L.jb, 0, none⟩)] 126)).alloc (.cells #[.int .u64 (c : Int), .int .u64 (r : Int), .int .u64 (s : Int), .slice A l.length cap] 82)).alloc (.cells #[.int .u64 0, .int .i64 0] 46)) = W at *
  go_wp2_with fail
  refine (check_any c r s _ l W (by omega) HSL.out).mono ?_
  rintro e4 w4 ⟨rfl, hn4⟩
  have HN4 := Lib.hid (HN.out.trans hn4)
  have HM4 := Lib.hid (HM.out.new hn4)
  have HMW : Hid (w.heap.size + 1 + 1 < w4.heap.size) := Lib.hid HM4.out.b2.lt
  have HJ4 := Lib.hid (HJ.out.new HN4.out)
  clear p0 p1 pz q0 q1 q2 q3 q4 qz r0 r1 r2 rz hn4 HN HM
  obtain ⟨p0, p1, pz⟩ := Blk1J HM4.out.b0
  obtain ⟨q0, q1, q2, q3, q4, qz⟩ := Blk4F HM4.out.b1
  obtain ⟨r0, r1, r2, rz⟩ := Blk2J HM4.out.b2
  by_cases hck : chk l = 0
  case neg =>
    have hF : j.say ⟨c, r, s, l⟩ = (j, ⟨0, chk l⟩) := by unfold Jd.say; rw [if_pos hck]
    have HF := Lib.hid hF
    clear hF
    go_wp2_with fail
    rw [HF.out]
    exact bodyPost_ret (v := .agg #[.int .u64 0, .int .i64 (chk l)]) (by simp [results, Tryz.results185, go_sem, r1, r2]) rfl (SayPost.fin (t := 0) HJ4.out (by omega) (Upd.new HN4.out) HLT.out)
  case pos =>
    have hky := chk_key hck
    have HKY := Lib.hid hky
    have HCK := Lib.hid hck
    obtain ⟨m, hm, hmp⟩ := HJ4.out.sn
    have HMP := Lib.hid hmp
    obtain ⟨f0, f1, f2, f3, fz⟩ := Blk3J HJ4.out.blk
    have HLK : Hid (∀ wq, New w4 wq → (Instr.lookup 276 (.map (some L.sm)) (.int .u64 (c : Int)) true).run Tryz.prog wq = .ok (.tuple #[.agg (toldV (j.sn c)), .bool (j.sn c).isSome]) wq) := Lib.hid fun wq hq => by
      have := mpGetOkR keyU64.toKeyB (HMP.out.new hq) Tryz.underlying276 (zeroTold _) c (okU_lt hoc)
      rw [snV_get, snV_some] at this
      exact this
    clear hm hmp hky
    rw [hck]
    go_upto_region 4 with fail
    go_cut [6, 7] (fun s6 s7 wx => AftL w4 (j.sn c) s6 s7 wx)
    case first =>
      obtain ⟨t0, t1, t2, hT⟩ := told_lit (j.sn c)
      have HT := Lib.hid hT
      rw [hT] at HLK
      have hlk0 := HLK.out w4.drew (New.refl w4).drew
      clear hT
      refine wp_region_held_drew (S := fun w' => Held w4 w' ∧ (Instr.lookup 276 (.map (some L.sm)) (.int .u64 (c : Int)) true).run Tryz.prog w' = .ok (.tuple #[.agg #[.int .u64 (t0 : Int), .int .u64 (t1 : Int), .int .i64 t2], .bool (j.sn c).isSome]) w') (by kernel_rfl) (⟨Held.of (New.refl w4).drew, hlk0⟩) (fun hHeld => ?_)
      refine tkN (i := 0) rfl ?_
      try simp only [Act.put, sA, sZ, sS]
      refine tkN (i := 1) rfl ?_
      try simp only [Act.put, sA, sZ, sS]
      refine tkN (i := 2) rfl ?_
      try simp only [Act.put, sA, sZ, sS]
      refine tkN (i := 3) rfl ?_
      try simp only [Act.put, sA, sZ, sS]
      refine tkN (i := 4) rfl ?_
      try simp only [Act.put, sA, sZ, sS]
      refine tkN (i := 5) rfl ?_
      try simp only [Act.put, sA, sZ, sS]
      refine tkN (i := 6) rfl ?_
      try simp only [Act.put, sA, sZ, sS]
      refine tkN (i := 7) rfl ?_
      try simp only [Act.put, sA, sZ, sS]
      refine tkN (i := 8) rfl ?_
      try simp only [Act.put, sA, sZ, sS]
      refine tkN (i := 9) rfl ?_
      try simp only [Act.put, sA, sZ, sS]
      refine wpAnyH_ready (rs := [10, 11]) (by kernel_rfl) (by simp) ?_
      refine rdN rfl (fun K hK => ?_) (rdN rfl (fun K hK => ?_) AllReadyH.nil)
      · go_simp
        refine hK.out _ _ ?_ (fun hHeld => ?_)
        · exact ⟨Held.of (((New.refl w4).alloc _).drew), HLK.out _ (((New.refl w4).alloc _).drew)⟩
        clear hK K
        try simp only [Act.put, sA, sZ, sS]
        refine stN (i := 11) rfl (fun K hK => ?_)
        go_simp
        refine hK.out _ _ ?_ (fun hHeld => ?_)
        · exact ⟨Held.of ((((New.refl w4).alloc _).alloc _).drew), HLK.out _ ((((New.refl w4).alloc _).alloc _).drew)⟩
        clear hK K
        try simp only [Act.put, sA, sZ, sS]
        refine stN (i := 12) rfl (fun K hK => ?_)
        go_simp
        refine hK.out _ _ ?_ (fun hHeld => ?_)
        · exact ⟨Held.of ((((New.refl w4).alloc _).alloc _).drew), HLK.out _ ((((New.refl w4).alloc _).alloc _).drew)⟩
        clear hK K
        try simp only [Act.put, sA, sZ, sS]
        refine stN (i := 13) rfl (fun K hK => ?_)
        go_simp
        refine hK.out _ _ ?_ (fun hHeld => ?_)
        · exact ⟨Held.of ((((New.refl w4).alloc _).alloc _).drew), HLK.out _ ((((New.refl w4).alloc _).alloc _).drew)⟩
        clear hK K
        try simp only [Act.put, sA, sZ, sS]
        refine wpAnyH_done (by kernel_rfl) ?_ _
        clear hHeld
        go_wp2_with fail
        go_meet
        exact ⟨w4.heap.size, (w4.heap.size + 1), rfl, rfl, by omega, by omega, by omega, by rw [HT.out]; exact ((Blk.mk_new w4 306 #[.int .u64 (t0 : Int), .int .u64 (t1 : Int), .int .i64 t2]).alloc (.cells #[.bool (j.sn c).isSome] 4)).drew, blk_two w4 (.cells #[.int .u64 (t0 : Int), .int .u64 (t1 : Int), .int .i64 t2] 306) 4 #[.bool (j.sn c).isSome], (((New.refl w4).alloc _).alloc _).drew⟩
      · go_simp
        refine hK.out _ _ ?_ (fun hHeld => ?_)
        · exact ⟨Held.of (((New.refl w4).alloc _).drew), HLK.out _ (((New.refl w4).alloc _).drew)⟩
        clear hK K
        try simp only [Act.put, sA, sZ, sS]
        refine stN (i := 10) rfl (fun K hK => ?_)
        go_simp
        refine hK.out _ _ ?_ (fun hHeld => ?_)
        · exact ⟨Held.of ((((New.refl w4).alloc _).alloc _).drew), HLK.out _ ((((New.refl w4).alloc _).alloc _).drew)⟩
        clear hK K
        try simp only [Act.put, sA, sZ, sS]
        refine stN (i := 12) rfl (fun K hK => ?_)
        go_simp
        refine hK.out _ _ ?_ (fun hHeld => ?_)
        · exact ⟨Held.of ((((New.refl w4).alloc _).alloc _).drew), HLK.out _ ((((New.refl w4).alloc _).alloc _).drew)⟩
        clear hK K
        try simp only [Act.put, sA, sZ, sS]
        refine stN (i := 13) rfl (fun K hK => ?_)
        go_simp
        refine hK.out _ _ ?_ (fun hHeld => ?_)
        · exact ⟨Held.of ((((New.refl w4).alloc _).alloc _).drew), HLK.out _ ((((New.refl w4).alloc _).alloc _).drew)⟩
        clear hK K
        try simp only [Act.put, sA, sZ, sS]
        refine wpAnyH_done (by kernel_rfl) ?_ _
        clear hHeld
        go_wp2_with fail
        go_meet
        exact ⟨(w4.heap.size + 1), w4.heap.size, rfl, rfl, by omega, by omega, by omega, by rw [HT.out]; exact blk_two w4 (.cells #[.bool (j.sn c).isSome] 4) 306 #[.int .u64 (t0 : Int), .int .u64 (t1 : Int), .int .i64 t2], ((Blk.mk_new w4 4 #[.bool (j.sn c).isSome]).alloc (.cells #[.int .u64 (t0 : Int), .int .u64 (t1 : Int), .int .i64 t2] 306)).drew, (((New.refl w4).alloc _).alloc _).drew⟩
    case rest =>
      obtain ⟨a6, a7, rfl, rfl, hne, hl6, hl7, hB6, hB7, hnc⟩ := hcut
      have HNC := Lib.hid (HN4.out.trans hnc)
      have HMC := Lib.hid (HM4.out.new hnc)
      have HJC := Lib.hid (HJ4.out.new hnc)
      have HBC := Lib.hid ((HBT.out).new HNC.out)
      have HB6 := Lib.hid hB6
      have HB7 := Lib.hid hB7
      clear hnc
      clear p0 p1 pz q0 q1 q2 q3 q4 qz r0 r1 r2 rz f0 f1 f2 f3 fz HLK HMP HM4 HJ4 HBT
      obtain ⟨p0, p1, pz⟩ := Blk1J HMC.out.b0
      obtain ⟨q0, q1, q2, q3, q4, qz⟩ := Blk4F HMC.out.b1
      obtain ⟨r0, r1, r2, rz⟩ := Blk2J HMC.out.b2
      obtain ⟨b0, b1, bz⟩ := Blk1J hB7
      have hlw : w.heap.size + 2 < w4.heap.size := by have := HMW.out; omega
      cases hsn : j.sn c with
      | some qv =>
        obtain ⟨qn, vd⟩ := qv
        rw [hsn] at hB6 b1
        obtain ⟨u0, u1, u2, u3, uz⟩ := Blk3J hB6
        dsimp only [Option.isSome] at b1
        have HSN := Lib.hid hsn
        have HB6L := Lib.hid hB6
        have HB7L : Hid (Blk wc a7 4 #[.bool true]) := Lib.hid (by have := HB7.out; rw [hsn] at this; exact this)
        clear hB6 hB7
        by_cases hqr : qn = r
        · subst hqr
          have hF : j.say ⟨c, qn, s, l⟩ = (j, vd) := by unfold Jd.say; dsimp only; rw [if_neg (by rw [HCK.out]; decide), hsn]; dsimp only; rw [if_pos rfl]
          have HF := Lib.hid hF
          clear hF hsn
          go_wp2_with fail
          rw [HF.out]
          exact bodyPost_ret (v := .agg #[.int .u64 (vd.t : Int), .int .i64 vd.e]) (by simp [results, Tryz.results185, go_sem, r1, r2]) rfl (SayPost.fin HJC.out (by omega) (Upd.new HNC.out) HLT.out)
        · by_cases hlt : r < qn
          · have hF : j.say ⟨c, r, s, l⟩ = (j, ⟨0, 193⟩) := by unfold Jd.say; dsimp only; rw [if_neg (by rw [HCK.out]; decide), hsn]; dsimp only; rw [if_neg hqr, if_pos hlt]
            have HF := Lib.hid hF
            have hqr2 : decide (qn = r) = false := decide_eq_false hqr
            have hqr4 : ((qn : Int) == (r : Int)) = false := beq_eq_false_iff_ne.2 (fun e => hqr (by omega))
            have hlt2 : decide (r < qn) = true := decide_eq_true hlt
            clear hF hsn hqr hlt
            go_wp2_with fail
            go_loopw [9, 44] (fun _ i wr => i = .int .i64 0 ∧ wr = wc) (fun _ _ _ => 0)
            case atStart => exact ⟨rfl, rfl⟩
            case round =>
              obtain ⟨rfl, rfl⟩ := hrel
              have hask0 := fun f0 f1 f2 e0 e1 e2 w => (askAt f0 f1 f2 e0 e1 e2 w).1
              go_wp2_with fail
              refine (sayF1 (was := true) (q := qn) (HB7L.out.alloc _) (HMC.out.b1.alloc _) (HB6L.out.alloc _)).mono ?_
              rintro e w5 ⟨rfl, hn5⟩
              have HN5 := Lib.hid (((New.refl wr).alloc (.cells #[.func (.func 210) #[] #[.pointer (some ⟨a7, 0, none⟩), .pointer (some ⟨w.heap.size + 1, 0, none⟩), .pointer (some ⟨a6, 0, none⟩)], .int .i64 193] 309)).trans hn5)
              have hask5 := (Blk.mk_new wr 309 #[.func (.func 210) #[] #[.pointer (some ⟨a7, 0, none⟩), .pointer (some ⟨w.heap.size + 1, 0, none⟩), .pointer (some ⟨a6, 0, none⟩)], .int .i64 193]).new hn5
              obtain ⟨y0, y1, y2, yz⟩ := Blk2J hask5
              obtain ⟨z0, z1, z2, zz⟩ := Blk2J ((HMC.out.b2.alloc _).new hn5)
              clear hn5 hask5
              go_wp2_with fail
              rw [HF.out]
              exact bodyPost_ret (v := .agg #[.int .u64 0, .int .i64 193]) (by simp [results, Tryz.results185, go_sem, z1, z2]) rfl (SayPost.fin (t := 0) (HJC.out.new HN5.out) (by omega) (Upd.new (HNC.out.trans HN5.out)) HLT.out)
          · have hF : j.say ⟨c, r, s, l⟩ = j.new_ ⟨c, r, s, l⟩ := by unfold Jd.say; dsimp only; rw [if_neg (by rw [HCK.out]; decide), hsn]; dsimp only; rw [if_neg hqr, if_neg hlt]
            have HS1 := Lib.hid hF
            have hqr2 : decide (qn = r) = false := decide_eq_false hqr
            have hqr4 : ((qn : Int) == (r : Int)) = false := beq_eq_false_iff_ne.2 (fun e => hqr (by omega))
            have hlt2 : decide (r < qn) = false := decide_eq_false hlt
            clear hF hsn hqr hlt
            have hmx : ¬ maxT ≤ j.la := by unfold maxT; omega
            by_cases hs1 : j.la < s
            · have hF : j.say ⟨c, r, s, l⟩ = (j, ⟨0, 190⟩) := by rw [HS1.out]; unfold Jd.new_; dsimp only; rw [if_pos hs1]
              have HF := Lib.hid hF
              have hs2 : decide (j.la < s) = true := decide_eq_true hs1
              clear hF hs1
              have hask0 := fun f0 f1 f2 e0 e1 e2 w => (askAt f0 f1 f2 e0 e1 e2 w).1
              have hask1 := fun f0 f1 f2 e0 e1 e2 w => (askAt f0 f1 f2 e0 e1 e2 w).2.1
              have hask2 := fun f0 f1 f2 e0 e1 e2 w => (askAt f0 f1 f2 e0 e1 e2 w).2.2
              go_wp2_with fail
              go_loopw [9, 44] (fun _ i wr => ∃ k : Nat, k ≤ 1 ∧ i = .int .i64 (k : Int) ∧ New wc wr) (fun _ i _ => 3 - (intOf i).toNat)
              case atStart => exact ⟨0, by omega, rfl, New.refl _⟩
              case round =>
                obtain ⟨k, hk, rfl, hn⟩ := hrel
                have HNR := Lib.hid hn
                have hB7r := HB7L.out.new hn
                have hB6r := HB6L.out.new hn
                have hM := HMC.out.new hn
                have hJr := (HJC.out.new hn).blk
                have HJR := Lib.hid (HJC.out.new hn)
                have HMR := Lib.hid hM
                have HB7R := Lib.hid hB7r
                have HB6R := Lib.hid hB6r
                have HJB := Lib.hid hJr
                clear p0 p1 pz q0 q1 q2 q3 q4 qz r0 r1 r2 rz b0 b1 bz
                obtain ⟨r0, r1, r2, rz⟩ := Blk2J hM.b2
                clear hn hB7r hB6r hM hJr
                obtain hk0 | hk1 | hk2 | hk3 : k = 0 ∨ k = 1 ∨ k = 2 ∨ k = 3 := by omega
                · subst hk0
                  have hr0 := HMR.out.b2.lt
                  go_wp2_with fail
                  refine (sayF1 (was := true) (q := qn) (HB7R.out.alloc _) (HMR.out.b1.alloc _) (HB6R.out.alloc _)).mono ?_
                  rintro e w5 ⟨rfl, hn5⟩
                  have HN5 := Lib.hid (((New.refl wr).alloc (.cells #[.func (.func 210) #[] #[.pointer (some ⟨a7, 0, none⟩), .pointer (some ⟨w.heap.size + 1, 0, none⟩), .pointer (some ⟨a6, 0, none⟩)], .int .i64 193] 309)).trans hn5)
                  have hask5 := (Blk.mk_new wr 309 #[.func (.func 210) #[] #[.pointer (some ⟨a7, 0, none⟩), .pointer (some ⟨w.heap.size + 1, 0, none⟩), .pointer (some ⟨a6, 0, none⟩)], .int .i64 193]).new hn5
                  obtain ⟨y0, y1, y2, yz⟩ := Blk2J hask5
                  obtain ⟨z0, z1, z2, zz⟩ := Blk2J ((HMR.out.b2.alloc _).new hn5)
                  clear hn5 hask5
                  go_wp2_with fail
                  go_roundw
                  case rel => exact ⟨1, by omega, rfl, HNR.out.trans HN5.out⟩
                  case measure => simp [intOf]
                · subst hk1
                  have hr0 := HMR.out.b2.lt
                  go_wp2_with fail
                  refine (sayF2 (HMR.out.b0.alloc _) (HMR.out.b1.alloc _) (HJB.out.alloc _)).mono ?_
                  rintro e w5 ⟨rfl, hn5⟩
                  have HN5 := Lib.hid (((New.refl wr).alloc (.cells #[.func (.func 211) #[] #[.pointer (some ⟨w.heap.size + 1, 0, none⟩), .pointer (some ⟨w.heap.size, 0, none⟩)], .int .i64 190] 309)).trans hn5)
                  have hask5 := (Blk.mk_new wr 309 #[.func (.func 211) #[] #[.pointer (some ⟨w.heap.size + 1, 0, none⟩), .pointer (some ⟨w.heap.size, 0, none⟩)], .int .i64 190]).new hn5
                  obtain ⟨y0, y1, y2, yz⟩ := Blk2J hask5
                  obtain ⟨z0, z1, z2, zz⟩ := Blk2J ((HMR.out.b2.alloc _).new hn5)
                  clear hn5 hask5
                  rw [hs2]
                  go_wp2_with fail
                  rw [HF.out]
                  exact bodyPost_ret (v := .agg #[.int .u64 0, .int .i64 190]) (by simp [results, Tryz.results185, go_sem, z1, z2]) rfl (SayPost.fin (t := 0) (HJR.out.new HN5.out) (by omega) (Upd.new ((HNC.out.trans HNR.out).trans HN5.out)) HLT.out)
                · omega
                · omega
            · have hs2 : decide (j.la < s) = false := decide_eq_false hs1
              have hask0 := fun f0 f1 f2 e0 e1 e2 w => (askAt f0 f1 f2 e0 e1 e2 w).1
              have hask1 := fun f0 f1 f2 e0 e1 e2 w => (askAt f0 f1 f2 e0 e1 e2 w).2.1
              have hask2 := fun f0 f1 f2 e0 e1 e2 w => (askAt f0 f1 f2 e0 e1 e2 w).2.2
              go_wp2_with fail
              go_loopw [9, 44] (fun _ i wr => ∃ k : Nat, k ≤ 3 ∧ i = .int .i64 (k : Int) ∧ New wc wr) (fun _ i _ => 3 - (intOf i).toNat)
              case atStart => exact ⟨0, by omega, rfl, New.refl _⟩
              case round =>
                obtain ⟨k, hk, rfl, hn⟩ := hrel
                have HNR := Lib.hid hn
                have hB7r := HB7L.out.new hn
                have hB6r := HB6L.out.new hn
                have hM := HMC.out.new hn
                have hJr := (HJC.out.new hn).blk
                have HJR := Lib.hid (HJC.out.new hn)
                have HMR := Lib.hid hM
                have HB7R := Lib.hid hB7r
                have HB6R := Lib.hid hB6r
                have HJB := Lib.hid hJr
                clear p0 p1 pz q0 q1 q2 q3 q4 qz r0 r1 r2 rz b0 b1 bz
                obtain ⟨r0, r1, r2, rz⟩ := Blk2J hM.b2
                clear hn hB7r hB6r hM hJr
                obtain hk0 | hk1 | hk2 | hk3 : k = 0 ∨ k = 1 ∨ k = 2 ∨ k = 3 := by omega
                · subst hk0
                  have hr0 := HMR.out.b2.lt
                  go_wp2_with fail
                  refine (sayF1 (was := true) (q := qn) (HB7R.out.alloc _) (HMR.out.b1.alloc _) (HB6R.out.alloc _)).mono ?_
                  rintro e w5 ⟨rfl, hn5⟩
                  have HN5 := Lib.hid (((New.refl wr).alloc (.cells #[.func (.func 210) #[] #[.pointer (some ⟨a7, 0, none⟩), .pointer (some ⟨w.heap.size + 1, 0, none⟩), .pointer (some ⟨a6, 0, none⟩)], .int .i64 193] 309)).trans hn5)
                  have hask5 := (Blk.mk_new wr 309 #[.func (.func 210) #[] #[.pointer (some ⟨a7, 0, none⟩), .pointer (some ⟨w.heap.size + 1, 0, none⟩), .pointer (some ⟨a6, 0, none⟩)], .int .i64 193]).new hn5
                  obtain ⟨y0, y1, y2, yz⟩ := Blk2J hask5
                  obtain ⟨z0, z1, z2, zz⟩ := Blk2J ((HMR.out.b2.alloc _).new hn5)
                  clear hn5 hask5
                  go_wp2_with fail
                  go_roundw
                  case rel => exact ⟨1, by omega, rfl, HNR.out.trans HN5.out⟩
                  case measure => simp [intOf]
                · subst hk1
                  have hr0 := HMR.out.b2.lt
                  go_wp2_with fail
                  refine (sayF2 (HMR.out.b0.alloc _) (HMR.out.b1.alloc _) (HJB.out.alloc _)).mono ?_
                  rintro e w5 ⟨rfl, hn5⟩
                  have HN5 := Lib.hid (((New.refl wr).alloc (.cells #[.func (.func 211) #[] #[.pointer (some ⟨w.heap.size + 1, 0, none⟩), .pointer (some ⟨w.heap.size, 0, none⟩)], .int .i64 190] 309)).trans hn5)
                  have hask5 := (Blk.mk_new wr 309 #[.func (.func 211) #[] #[.pointer (some ⟨w.heap.size + 1, 0, none⟩), .pointer (some ⟨w.heap.size, 0, none⟩)], .int .i64 190]).new hn5
                  obtain ⟨y0, y1, y2, yz⟩ := Blk2J hask5
                  obtain ⟨z0, z1, z2, zz⟩ := Blk2J ((HMR.out.b2.alloc _).new hn5)
                  clear hn5 hask5
                  go_wp2_with fail
                  go_roundw
                  case rel => exact ⟨2, by omega, rfl, HNR.out.trans HN5.out⟩
                  case measure => simp [intOf]
                · subst hk2
                  have hr0 := HMR.out.b2.lt
                  go_wp2_with fail
                  refine (sayF3 (HMR.out.b0.alloc _) (HJB.out.alloc _) (by omega)).mono ?_
                  rintro e w5 ⟨rfl, hn5⟩
                  have HN5 := Lib.hid (((New.refl wr).alloc (.cells #[.func (.func 212) #[] #[.pointer (some ⟨w.heap.size, 0, none⟩)], .int .i64 192] 309)).trans hn5)
                  have hask5 := (Blk.mk_new wr 309 #[.func (.func 212) #[] #[.pointer (some ⟨w.heap.size, 0, none⟩)], .int .i64 192]).new hn5
                  obtain ⟨y0, y1, y2, yz⟩ := Blk2J hask5
                  obtain ⟨z0, z1, z2, zz⟩ := Blk2J ((HMR.out.b2.alloc _).new hn5)
                  clear hn5 hask5
                  go_wp2_with fail
                  go_roundw
                  case rel => exact ⟨3, by omega, rfl, HNR.out.trans HN5.out⟩
                  case measure => simp [intOf]
                · subst hk3
                  have hr0 := HMR.out.b2.lt
                  have HNCR : Hid (w.heap.size + 1 + 1 < wr.heap.size) := Lib.hid hr0
                  have HN5 := Lib.hid ((New.refl wr).alloc (.cells #[.int .u64 0, .int .i64 191] 46))
                  have HG5 := Lib.hid (Blk.mk_new wr 46 #[.int .u64 0, .int .i64 191])
                  go_upto_region 14 with fail
                  generalize wr.alloc (.cells #[.int .u64 0, .int .i64 191] 46) = w5 at *
                  have HM5 := Lib.hid (HMR.out.new HN5.out)
                  have HJ5 := Lib.hid (HJR.out.new HN5.out)
                  have HB5 := Lib.hid (HBC.out.new (HNR.out.trans HN5.out))
                  clear r0 r1 r2 rz
                  obtain ⟨p0, p1, pz⟩ := Blk1J HM5.out.b0
                  obtain ⟨q0, q1, q2, q3, q4, qz⟩ := Blk4F HM5.out.b1
                  go_wp2_with fail
                  refine (jwritten HJ5.out HB5.out HKY.out.2).mono ?_
                  rintro e w6 ⟨rfl, hn6⟩
                  have HM6 := Lib.hid (HM5.out.new hn6)
                  have HJ6 := Lib.hid (HJ5.out.new hn6)
                  have HB6 := Lib.hid (HB5.out.new hn6)
                  have HG6 := Lib.hid (HG5.out.new hn6)
                  have HU6 : Hid (Upd (JdF L) w w6) := Lib.hid (Upd.new (((HNC.out.trans HNR.out).trans HN5.out).trans hn6))
                  clear p0 p1 pz q0 q1 q2 q3 q4 qz hn6
                  cases hw : j.written ⟨c, r, s, l⟩ with
                  | true =>
                    have hF : j.say ⟨c, r, s, l⟩ = ({ j with sn := setD j.sn c (some (r, ⟨0, 191⟩)) }, ⟨0, 191⟩) := by rw [HS1.out]; unfold Jd.new_; dsimp only; rw [if_neg hs1, if_neg hmx, if_pos hw]
                    have HF := Lib.hid hF
                    have HJX := HJ6
                    have HMX := HM6
                    have HGX := HG6
                    have HUX := HU6
                    clear hF hw
                    obtain ⟨m, hm, hmp, hnext⟩ := (HJX.out.new (New.refl w6).drew).setSn (okU_lt hoc) r ⟨0, 191⟩
                    obtain ⟨w9, hrun, hm9, hu9⟩ := mpPutR keyU64.toKeyB hmp Tryz.underlying276 (by unfold maxLen; omega) c (okU_lt hoc) (.agg #[.int .u64 (r : Int), .int .u64 (0 : Int), .int .i64 191])
                    have HJ9 := Lib.hid (hnext w9 hm9 hu9)
                    have hsm : L.sm < w.heap.size := HLT.out _ (.inr (.inr rfl))
                    have k1 := keepR hu9 (show L.jb < w6.drew.heap.size from HJX.out.blk.lt) (fun e => Blk.ne_map (HJX.out.new (New.refl w6).drew).blk hmp e)
                    have k2 := keepR hu9 (show w.heap.size < w6.drew.heap.size from HMX.out.b0.lt) (fun e => by omega)
                    have k3 := keepR hu9 (show w.heap.size + 1 < w6.drew.heap.size from HMX.out.b1.lt) (fun e => by omega)
                    have k4 := keepR hu9 (show wr.heap.size < w6.drew.heap.size from HGX.out.lt) (fun e => by have := HNCR.out; omega)
                    have HM9 := Lib.hid (HMX.out.drewS.upd hu9 (fun k e => by omega))
                    have HG9 := Lib.hid ((HGX.out.drew).upd hu9 (fun e => by have := HNCR.out; omega))
                    have HU9 := Lib.hid (HUX.out.trans ((Upd.refl (JdF L) w6).drew.trans hu9 (fun i _ e => .inr (.inr e))) (fun _ _ h => h))
                    obtain ⟨f0, f1, f2, f3, fz⟩ := Blk3J HJX.out.blk
                    obtain ⟨p0, p1, pz⟩ := Blk1J HMX.out.b0
                    obtain ⟨q0, q1, q2, q3, q4, qz⟩ := Blk4F HMX.out.b1
                    obtain ⟨g0, g1, g2, gz⟩ := Blk2J HGX.out
                    clear hm hmp hnext hm9 hu9 hsm
                    go_upto_region 16 with fail
                    refine wp_region_held_drew (S := fun w' => (∀ o, w'.cell? ⟨L.jb, o, none⟩ = w6.cell? ⟨L.jb, o, none⟩) ∧ (∀ o, w'.cell? ⟨w.heap.size, o, none⟩ = w6.cell? ⟨w.heap.size, o, none⟩) ∧ (∀ o, w'.cell? ⟨w.heap.size + 1, o, none⟩ = w6.cell? ⟨w.heap.size + 1, o, none⟩) ∧ (∀ o, w'.cell? ⟨wr.heap.size, o, none⟩ = w6.cell? ⟨wr.heap.size, o, none⟩)) (by kernel_rfl) (⟨fun _ => rfl, fun _ => rfl, fun _ => rfl, fun _ => rfl⟩) (fun hHeld => ?_)
                    refine tkN (i := 0) rfl ?_
                    try simp only [Act.put, sA, sZ, sS]
                    refine tkN (i := 1) rfl ?_
                    try simp only [Act.put, sA, sZ, sS]
                    refine tkN (i := 2) rfl ?_
                    try simp only [Act.put, sA, sZ, sS]
                    refine tkN (i := 3) rfl ?_
                    try simp only [Act.put, sA, sZ, sS]
                    refine tkN (i := 4) rfl ?_
                    try simp only [Act.put, sA, sZ, sS]
                    refine tkN (i := 5) rfl ?_
                    try simp only [Act.put, sA, sZ, sS]
                    refine tkN (i := 6) rfl ?_
                    try simp only [Act.put, sA, sZ, sS]
                    refine tkN (i := 7) rfl ?_
                    try simp only [Act.put, sA, sZ, sS]
                    refine tkN (i := 8) rfl ?_
                    try simp only [Act.put, sA, sZ, sS]
                    refine tkN (i := 9) rfl ?_
                    try simp only [Act.put, sA, sZ, sS]
                    refine stN (i := 10) rfl (fun K hK => ?_)
                    go_simp
                    refine hK.out _ _ ?_ (fun hHeld => ?_)
                    · exact ⟨k1, k2, k3, k4⟩
                    clear hK K
                    try simp only [Act.put, sA, sZ, sS]
                    refine wpAnyH_done (by kernel_rfl) ?_ _
                    clear hHeld hrun k1 k2 k3 k4 f0 f1 f2 f3 fz p0 p1 pz q0 q1 q2 q3 q4 qz g0 g1 g2 gz
                    obtain ⟨g0, g1, g2, gz⟩ := Blk2J HG9.out
                    obtain ⟨s0, s1, s2, sz⟩ := Blk2J HM9.out.b2
                    go_wp2_with fail
                    rw [HF.out]
                    exact bodyPost_ret (v := .agg #[.int .u64 (0 : Int), .int .i64 191]) (by simp [results, Tryz.results185, go_sem, s1, s2]) rfl (SayPost.fin HJ9.out (by omega) HU9.out HLT.out)
                  | false =>
                    obtain ⟨t, ht⟩ : ∃ t, t = j.la + 1 := ⟨_, rfl⟩
                    have hF : j.say ⟨c, r, s, l⟩ = ({ j.commit ⟨c, r, s, l⟩ with sn := setD (j.commit ⟨c, r, s, l⟩).sn c (some (r, ⟨t, 0⟩)) }, ⟨t, 0⟩) := by rw [HS1.out, ht]; unfold Jd.new_; dsimp only; rw [if_neg hs1, if_neg hmx, if_neg (by rw [hw]; decide)]; rfl
                    have HF := Lib.hid hF
                    have hcm := jcommit HJ6.out HB6.out HKY.out (by omega)
                    rw [← ht] at hcm
                    clear hF hw ht
                    obtain ⟨p0, p1, pz⟩ := Blk1J HM6.out.b0
                    obtain ⟨q0, q1, q2, q3, q4, qz⟩ := Blk4F HM6.out.b1
                    go_wp2_with fail
                    refine hcm.mono ?_
                    rintro e w7 ⟨rfl, hj7, hu7⟩
                    have hlt7 : ∀ k, JdF L k → k < w.heap.size := HLT.out
                    have hm7 := HM6.out.upd hu7 (fun k hk => by have := hlt7 k hk; omega)
                    have hg7 := HG6.out.upd hu7 (fun hk => by have := hlt7 _ hk; have := HNCR.out; omega)
                    have hu8 : Upd (· = wr.heap.size) w7 ((w7.setCell ⟨wr.heap.size, 0, none⟩ (.int .u64 (t : Int))).setCell ⟨wr.heap.size, 1, none⟩ (.int .i64 0)) := ((Upd.refl _ w7).setIn 0 _).setIn 1 _
                    have HJX := Lib.hid (hj7.upd hu8 (fun k hk e => by have := hlt7 k hk; have := HNCR.out; omega))
                    have HMX := Lib.hid (hm7.upd hu8 (fun k e => by have := HNCR.out; omega))
                    have HGX := Lib.hid ((hg7.set_ 0 (.int .u64 (t : Int))).set_ 1 (.int .i64 0))
                    have HUX : Hid (Upd (JdF L) w ((w7.setCell ⟨wr.heap.size, 0, none⟩ (.int .u64 (t : Int))).setCell ⟨wr.heap.size, 1, none⟩ (.int .i64 0))) := Lib.hid ((HU6.out.trans hu7 (fun _ _ h => h)).trans hu8 (fun i hi e => by have := HNCR.out; omega))
                    obtain ⟨g0, g1, g2, gz⟩ := Blk2J hg7
                    clear hcm p0 p1 pz q0 q1 q2 q3 q4 qz hlt7 hm7 hg7 hu8 hj7 hu7
                    go_upto_region 16 with fail
                    clear g0 g1 g2 gz
                    generalize (w7.setCell ⟨wr.heap.size, 0, none⟩ (.int .u64 (t : Int))).setCell ⟨wr.heap.size, 1, none⟩ (.int .i64 0) = w8 at *
                    obtain ⟨m, hm, hmp, hnext⟩ := (HJX.out.new (New.refl w8).drew).setSn (okU_lt hoc) r ⟨t, 0⟩
                    obtain ⟨w9, hrun, hm9, hu9⟩ := mpPutR keyU64.toKeyB hmp Tryz.underlying276 (by unfold maxLen; omega) c (okU_lt hoc) (.agg #[.int .u64 (r : Int), .int .u64 (t : Int), .int .i64 0])
                    have HJ9 := Lib.hid (hnext w9 hm9 hu9)
                    have hsm : L.sm < w.heap.size := HLT.out _ (.inr (.inr rfl))
                    have k1 := keepR hu9 (show L.jb < w8.drew.heap.size from HJX.out.blk.lt) (fun e => Blk.ne_map (HJX.out.new (New.refl w8).drew).blk hmp e)
                    have k2 := keepR hu9 (show w.heap.size < w8.drew.heap.size from HMX.out.b0.lt) (fun e => by omega)
                    have k3 := keepR hu9 (show w.heap.size + 1 < w8.drew.heap.size from HMX.out.b1.lt) (fun e => by omega)
                    have k4 := keepR hu9 (show wr.heap.size < w8.drew.heap.size from HGX.out.lt) (fun e => by have := HNCR.out; omega)
                    have HM9 := Lib.hid (HMX.out.drewS.upd hu9 (fun k e => by omega))
                    have HG9 := Lib.hid ((HGX.out.drew).upd hu9 (fun e => by have := HNCR.out; omega))
                    have HU9 := Lib.hid (HUX.out.trans ((Upd.refl (JdF L) w8).drew.trans hu9 (fun i _ e => .inr (.inr e))) (fun _ _ h => h))
                    obtain ⟨f0, f1, f2, f3, fz⟩ := Blk3J HJX.out.blk
                    obtain ⟨p0, p1, pz⟩ := Blk1J HMX.out.b0
                    obtain ⟨q0, q1, q2, q3, q4, qz⟩ := Blk4F HMX.out.b1
                    obtain ⟨g0, g1, g2, gz⟩ := Blk2J HGX.out
                    clear hm hmp hnext hm9 hu9 hsm
                    refine wp_region_held_drew (S := fun w' => (∀ o, w'.cell? ⟨L.jb, o, none⟩ = w8.cell? ⟨L.jb, o, none⟩) ∧ (∀ o, w'.cell? ⟨w.heap.size, o, none⟩ = w8.cell? ⟨w.heap.size, o, none⟩) ∧ (∀ o, w'.cell? ⟨w.heap.size + 1, o, none⟩ = w8.cell? ⟨w.heap.size + 1, o, none⟩) ∧ (∀ o, w'.cell? ⟨wr.heap.size, o, none⟩ = w8.cell? ⟨wr.heap.size, o, none⟩)) (by kernel_rfl) (⟨fun _ => rfl, fun _ => rfl, fun _ => rfl, fun _ => rfl⟩) (fun hHeld => ?_)
                    refine tkN (i := 0) rfl ?_
                    try simp only [Act.put, sA, sZ, sS]
                    refine tkN (i := 1) rfl ?_
                    try simp only [Act.put, sA, sZ, sS]
                    refine tkN (i := 2) rfl ?_
                    try simp only [Act.put, sA, sZ, sS]
                    refine tkN (i := 3) rfl ?_
                    try simp only [Act.put, sA, sZ, sS]
                    refine tkN (i := 4) rfl ?_
                    try simp only [Act.put, sA, sZ, sS]
                    refine tkN (i := 5) rfl ?_
                    try simp only [Act.put, sA, sZ, sS]
                    refine tkN (i := 6) rfl ?_
                    try simp only [Act.put, sA, sZ, sS]
                    refine tkN (i := 7) rfl ?_
                    try simp only [Act.put, sA, sZ, sS]
                    refine tkN (i := 8) rfl ?_
                    try simp only [Act.put, sA, sZ, sS]
                    refine tkN (i := 9) rfl ?_
                    try simp only [Act.put, sA, sZ, sS]
                    refine stN (i := 10) rfl (fun K hK => ?_)
                    go_simp
                    refine hK.out _ _ ?_ (fun hHeld => ?_)
                    · exact ⟨k1, k2, k3, k4⟩
                    clear hK K
                    try simp only [Act.put, sA, sZ, sS]
                    refine wpAnyH_done (by kernel_rfl) ?_ _
                    clear hHeld hrun k1 k2 k3 k4 f0 f1 f2 f3 fz p0 p1 pz q0 q1 q2 q3 q4 qz g0 g1 g2 gz
                    obtain ⟨g0, g1, g2, gz⟩ := Blk2J HG9.out
                    obtain ⟨s0, s1, s2, sz⟩ := Blk2J HM9.out.b2
                    go_wp2_with fail
                    rw [HF.out]
                    exact bodyPost_ret (v := .agg #[.int .u64 (t : Int), .int .i64 0]) (by simp [results, Tryz.results185, go_sem, s1, s2]) rfl (SayPost.fin HJ9.out (by omega) HU9.out HLT.out)
      | none =>
        rw [hsn] at hB6 b1
        obtain ⟨u0, u1, u2, u3, uz⟩ := Blk3J hB6
        dsimp only [Option.isSome] at b1
        have HB6L : Hid (Blk wc a6 306 #[.int .u64 ((0 : Nat) : Int), .int .u64 0, .int .i64 0]) := Lib.hid hB6
        have HB7L : Hid (Blk wc a7 4 #[.bool false]) := Lib.hid (by have := HB7.out; rw [hsn] at this; exact this)
        have hF : j.say ⟨c, r, s, l⟩ = j.new_ ⟨c, r, s, l⟩ := by unfold Jd.say; dsimp only; rw [if_neg (by rw [HCK.out]; decide), hsn]
        have HS1 := Lib.hid hF
        clear hF hsn hB6 hB7
        have hmx : ¬ maxT ≤ j.la := by unfold maxT; omega
        by_cases hs1 : j.la < s
        · have hF : j.say ⟨c, r, s, l⟩ = (j, ⟨0, 190⟩) := by rw [HS1.out]; unfold Jd.new_; dsimp only; rw [if_pos hs1]
          have HF := Lib.hid hF
          have hs2 : decide (j.la < s) = true := decide_eq_true hs1
          clear hF hs1
          have hask0 := fun f0 f1 f2 e0 e1 e2 w => (askAt f0 f1 f2 e0 e1 e2 w).1
          have hask1 := fun f0 f1 f2 e0 e1 e2 w => (askAt f0 f1 f2 e0 e1 e2 w).2.1
          have hask2 := fun f0 f1 f2 e0 e1 e2 w => (askAt f0 f1 f2 e0 e1 e2 w).2.2
          go_wp2_with fail
          go_loopw [9, 44] (fun _ i wr => ∃ k : Nat, k ≤ 1 ∧ i = .int .i64 (k : Int) ∧ New wc wr) (fun _ i _ => 3 - (intOf i).toNat)
          case atStart => exact ⟨0, by omega, rfl, New.refl _⟩
          case round =>
            obtain ⟨k, hk, rfl, hn⟩ := hrel
            have HNR := Lib.hid hn
            have hB7r := HB7L.out.new hn
            have hB6r := HB6L.out.new hn
            have hM := HMC.out.new hn
            have hJr := (HJC.out.new hn).blk
            have HJR := Lib.hid (HJC.out.new hn)
            have HMR := Lib.hid hM
            have HB7R := Lib.hid hB7r
            have HB6R := Lib.hid hB6r
            have HJB := Lib.hid hJr
            clear p0 p1 pz q0 q1 q2 q3 q4 qz r0 r1 r2 rz b0 b1 bz
            obtain ⟨r0, r1, r2, rz⟩ := Blk2J hM.b2
            clear hn hB7r hB6r hM hJr
            obtain hk0 | hk1 | hk2 | hk3 : k = 0 ∨ k = 1 ∨ k = 2 ∨ k = 3 := by omega
            · subst hk0
              have hr0 := HMR.out.b2.lt
              go_wp2_with fail
              refine (sayF1 (was := false) (q := 0) (HB7R.out.alloc _) (HMR.out.b1.alloc _) (HB6R.out.alloc _)).mono ?_
              rintro e w5 ⟨rfl, hn5⟩
              have HN5 := Lib.hid (((New.refl wr).alloc (.cells #[.func (.func 210) #[] #[.pointer (some ⟨a7, 0, none⟩), .pointer (some ⟨w.heap.size + 1, 0, none⟩), .pointer (some ⟨a6, 0, none⟩)], .int .i64 193] 309)).trans hn5)
              have hask5 := (Blk.mk_new wr 309 #[.func (.func 210) #[] #[.pointer (some ⟨a7, 0, none⟩), .pointer (some ⟨w.heap.size + 1, 0, none⟩), .pointer (some ⟨a6, 0, none⟩)], .int .i64 193]).new hn5
              obtain ⟨y0, y1, y2, yz⟩ := Blk2J hask5
              obtain ⟨z0, z1, z2, zz⟩ := Blk2J ((HMR.out.b2.alloc _).new hn5)
              clear hn5 hask5
              go_wp2_with fail
              go_roundw
              case rel => exact ⟨1, by omega, rfl, HNR.out.trans HN5.out⟩
              case measure => simp [intOf]
            · subst hk1
              have hr0 := HMR.out.b2.lt
              go_wp2_with fail
              refine (sayF2 (HMR.out.b0.alloc _) (HMR.out.b1.alloc _) (HJB.out.alloc _)).mono ?_
              rintro e w5 ⟨rfl, hn5⟩
              have HN5 := Lib.hid (((New.refl wr).alloc (.cells #[.func (.func 211) #[] #[.pointer (some ⟨w.heap.size + 1, 0, none⟩), .pointer (some ⟨w.heap.size, 0, none⟩)], .int .i64 190] 309)).trans hn5)
              have hask5 := (Blk.mk_new wr 309 #[.func (.func 211) #[] #[.pointer (some ⟨w.heap.size + 1, 0, none⟩), .pointer (some ⟨w.heap.size, 0, none⟩)], .int .i64 190]).new hn5
              obtain ⟨y0, y1, y2, yz⟩ := Blk2J hask5
              obtain ⟨z0, z1, z2, zz⟩ := Blk2J ((HMR.out.b2.alloc _).new hn5)
              clear hn5 hask5
              rw [hs2]
              go_wp2_with fail
              rw [HF.out]
              exact bodyPost_ret (v := .agg #[.int .u64 0, .int .i64 190]) (by simp [results, Tryz.results185, go_sem, z1, z2]) rfl (SayPost.fin (t := 0) (HJR.out.new HN5.out) (by omega) (Upd.new ((HNC.out.trans HNR.out).trans HN5.out)) HLT.out)
            · omega
            · omega
        · have hs2 : decide (j.la < s) = false := decide_eq_false hs1
          have hask0 := fun f0 f1 f2 e0 e1 e2 w => (askAt f0 f1 f2 e0 e1 e2 w).1
          have hask1 := fun f0 f1 f2 e0 e1 e2 w => (askAt f0 f1 f2 e0 e1 e2 w).2.1
          have hask2 := fun f0 f1 f2 e0 e1 e2 w => (askAt f0 f1 f2 e0 e1 e2 w).2.2
          go_wp2_with fail
          go_loopw [9, 44] (fun _ i wr => ∃ k : Nat, k ≤ 3 ∧ i = .int .i64 (k : Int) ∧ New wc wr) (fun _ i _ => 3 - (intOf i).toNat)
          case atStart => exact ⟨0, by omega, rfl, New.refl _⟩
          case round =>
            obtain ⟨k, hk, rfl, hn⟩ := hrel
            have HNR := Lib.hid hn
            have hB7r := HB7L.out.new hn
            have hB6r := HB6L.out.new hn
            have hM := HMC.out.new hn
            have hJr := (HJC.out.new hn).blk
            have HJR := Lib.hid (HJC.out.new hn)
            have HMR := Lib.hid hM
            have HB7R := Lib.hid hB7r
            have HB6R := Lib.hid hB6r
            have HJB := Lib.hid hJr
            clear p0 p1 pz q0 q1 q2 q3 q4 qz r0 r1 r2 rz b0 b1 bz
            obtain ⟨r0, r1, r2, rz⟩ := Blk2J hM.b2
            clear hn hB7r hB6r hM hJr
            obtain hk0 | hk1 | hk2 | hk3 : k = 0 ∨ k = 1 ∨ k = 2 ∨ k = 3 := by omega
            · subst hk0
              have hr0 := HMR.out.b2.lt
              go_wp2_with fail
              refine (sayF1 (was := false) (q := 0) (HB7R.out.alloc _) (HMR.out.b1.alloc _) (HB6R.out.alloc _)).mono ?_
              rintro e w5 ⟨rfl, hn5⟩
              have HN5 := Lib.hid (((New.refl wr).alloc (.cells #[.func (.func 210) #[] #[.pointer (some ⟨a7, 0, none⟩), .pointer (some ⟨w.heap.size + 1, 0, none⟩), .pointer (some ⟨a6, 0, none⟩)], .int .i64 193] 309)).trans hn5)
              have hask5 := (Blk.mk_new wr 309 #[.func (.func 210) #[] #[.pointer (some ⟨a7, 0, none⟩), .pointer (some ⟨w.heap.size + 1, 0, none⟩), .pointer (some ⟨a6, 0, none⟩)], .int .i64 193]).new hn5
              obtain ⟨y0, y1, y2, yz⟩ := Blk2J hask5
              obtain ⟨z0, z1, z2, zz⟩ := Blk2J ((HMR.out.b2.alloc _).new hn5)
              clear hn5 hask5
              go_wp2_with fail
              go_roundw
              case rel => exact ⟨1, by omega, rfl, HNR.out.trans HN5.out⟩
              case measure => simp [intOf]
            · subst hk1
              have hr0 := HMR.out.b2.lt
              go_wp2_with fail
              refine (sayF2 (HMR.out.b0.alloc _) (HMR.out.b1.alloc _) (HJB.out.alloc _)).mono ?_
              rintro e w5 ⟨rfl, hn5⟩
              have HN5 := Lib.hid (((New.refl wr).alloc (.cells #[.func (.func 211) #[] #[.pointer (some ⟨w.heap.size + 1, 0, none⟩), .pointer (some ⟨w.heap.size, 0, none⟩)], .int .i64 190] 309)).trans hn5)
              have hask5 := (Blk.mk_new wr 309 #[.func (.func 211) #[] #[.pointer (some ⟨w.heap.size + 1, 0, none⟩), .pointer (some ⟨w.heap.size, 0, none⟩)], .int .i64 190]).new hn5
              obtain ⟨y0, y1, y2, yz⟩ := Blk2J hask5
              obtain ⟨z0, z1, z2, zz⟩ := Blk2J ((HMR.out.b2.alloc _).new hn5)
              clear hn5 hask5
              go_wp2_with fail
              go_roundw
              case rel => exact ⟨2, by omega, rfl, HNR.out.trans HN5.out⟩
              case measure => simp [intOf]
            · subst hk2
              have hr0 := HMR.out.b2.lt
              go_wp2_with fail
              refine (sayF3 (HMR.out.b0.alloc _) (HJB.out.alloc _) (by omega)).mono ?_
              rintro e w5 ⟨rfl, hn5⟩
              have HN5 := Lib.hid (((New.refl wr).alloc (.cells #[.func (.func 212) #[] #[.pointer (some ⟨w.heap.size, 0, none⟩)], .int .i64 192] 309)).trans hn5)
              have hask5 := (Blk.mk_new wr 309 #[.func (.func 212) #[] #[.pointer (some ⟨w.heap.size, 0, none⟩)], .int .i64 192]).new hn5
              obtain ⟨y0, y1, y2, yz⟩ := Blk2J hask5
              obtain ⟨z0, z1, z2, zz⟩ := Blk2J ((HMR.out.b2.alloc _).new hn5)
              clear hn5 hask5
              go_wp2_with fail
              go_roundw
              case rel => exact ⟨3, by omega, rfl, HNR.out.trans HN5.out⟩
              case measure => simp [intOf]
            · subst hk3
              have hr0 := HMR.out.b2.lt
              have HNCR : Hid (w.heap.size + 1 + 1 < wr.heap.size) := Lib.hid hr0
              have HN5 := Lib.hid ((New.refl wr).alloc (.cells #[.int .u64 0, .int .i64 191] 46))
              have HG5 := Lib.hid (Blk.mk_new wr 46 #[.int .u64 0, .int .i64 191])
              go_upto_region 14 with fail
              generalize wr.alloc (.cells #[.int .u64 0, .int .i64 191] 46) = w5 at *
              have HM5 := Lib.hid (HMR.out.new HN5.out)
              have HJ5 := Lib.hid (HJR.out.new HN5.out)
              have HB5 := Lib.hid (HBC.out.new (HNR.out.trans HN5.out))
              clear r0 r1 r2 rz
              obtain ⟨p0, p1, pz⟩ := Blk1J HM5.out.b0
              obtain ⟨q0, q1, q2, q3, q4, qz⟩ := Blk4F HM5.out.b1
              go_wp2_with fail
              refine (jwritten HJ5.out HB5.out HKY.out.2).mono ?_
              rintro e w6 ⟨rfl, hn6⟩
              have HM6 := Lib.hid (HM5.out.new hn6)
              have HJ6 := Lib.hid (HJ5.out.new hn6)
              have HB6 := Lib.hid (HB5.out.new hn6)
              have HG6 := Lib.hid (HG5.out.new hn6)
              have HU6 : Hid (Upd (JdF L) w w6) := Lib.hid (Upd.new (((HNC.out.trans HNR.out).trans HN5.out).trans hn6))
              clear p0 p1 pz q0 q1 q2 q3 q4 qz hn6
              cases hw : j.written ⟨c, r, s, l⟩ with
              | true =>
                have hF : j.say ⟨c, r, s, l⟩ = ({ j with sn := setD j.sn c (some (r, ⟨0, 191⟩)) }, ⟨0, 191⟩) := by rw [HS1.out]; unfold Jd.new_; dsimp only; rw [if_neg hs1, if_neg hmx, if_pos hw]
                have HF := Lib.hid hF
                have HJX := HJ6
                have HMX := HM6
                have HGX := HG6
                have HUX := HU6
                clear hF hw
                obtain ⟨m, hm, hmp, hnext⟩ := (HJX.out.new (New.refl w6).drew).setSn (okU_lt hoc) r ⟨0, 191⟩
                obtain ⟨w9, hrun, hm9, hu9⟩ := mpPutR keyU64.toKeyB hmp Tryz.underlying276 (by unfold maxLen; omega) c (okU_lt hoc) (.agg #[.int .u64 (r : Int), .int .u64 (0 : Int), .int .i64 191])
                have HJ9 := Lib.hid (hnext w9 hm9 hu9)
                have hsm : L.sm < w.heap.size := HLT.out _ (.inr (.inr rfl))
                have k1 := keepR hu9 (show L.jb < w6.drew.heap.size from HJX.out.blk.lt) (fun e => Blk.ne_map (HJX.out.new (New.refl w6).drew).blk hmp e)
                have k2 := keepR hu9 (show w.heap.size < w6.drew.heap.size from HMX.out.b0.lt) (fun e => by omega)
                have k3 := keepR hu9 (show w.heap.size + 1 < w6.drew.heap.size from HMX.out.b1.lt) (fun e => by omega)
                have k4 := keepR hu9 (show wr.heap.size < w6.drew.heap.size from HGX.out.lt) (fun e => by have := HNCR.out; omega)
                have HM9 := Lib.hid (HMX.out.drewS.upd hu9 (fun k e => by omega))
                have HG9 := Lib.hid ((HGX.out.drew).upd hu9 (fun e => by have := HNCR.out; omega))
                have HU9 := Lib.hid (HUX.out.trans ((Upd.refl (JdF L) w6).drew.trans hu9 (fun i _ e => .inr (.inr e))) (fun _ _ h => h))
                obtain ⟨f0, f1, f2, f3, fz⟩ := Blk3J HJX.out.blk
                obtain ⟨p0, p1, pz⟩ := Blk1J HMX.out.b0
                obtain ⟨q0, q1, q2, q3, q4, qz⟩ := Blk4F HMX.out.b1
                obtain ⟨g0, g1, g2, gz⟩ := Blk2J HGX.out
                clear hm hmp hnext hm9 hu9 hsm
                go_upto_region 16 with fail
                refine wp_region_held_drew (S := fun w' => (∀ o, w'.cell? ⟨L.jb, o, none⟩ = w6.cell? ⟨L.jb, o, none⟩) ∧ (∀ o, w'.cell? ⟨w.heap.size, o, none⟩ = w6.cell? ⟨w.heap.size, o, none⟩) ∧ (∀ o, w'.cell? ⟨w.heap.size + 1, o, none⟩ = w6.cell? ⟨w.heap.size + 1, o, none⟩) ∧ (∀ o, w'.cell? ⟨wr.heap.size, o, none⟩ = w6.cell? ⟨wr.heap.size, o, none⟩)) (by kernel_rfl) (⟨fun _ => rfl, fun _ => rfl, fun _ => rfl, fun _ => rfl⟩) (fun hHeld => ?_)
                refine tkN (i := 0) rfl ?_
                try simp only [Act.put, sA, sZ, sS]
                refine tkN (i := 1) rfl ?_
                try simp only [Act.put, sA, sZ, sS]
                refine tkN (i := 2) rfl ?_
                try simp only [Act.put, sA, sZ, sS]
                refine tkN (i := 3) rfl ?_
                try simp only [Act.put, sA, sZ, sS]
                refine tkN (i := 4) rfl ?_
                try simp only [Act.put, sA, sZ, sS]
                refine tkN (i := 5) rfl ?_
                try simp only [Act.put, sA, sZ, sS]
                refine tkN (i := 6) rfl ?_
                try simp only [Act.put, sA, sZ, sS]
                refine tkN (i := 7) rfl ?_
                try simp only [Act.put, sA, sZ, sS]
                refine tkN (i := 8) rfl ?_
                try simp only [Act.put, sA, sZ, sS]
                refine tkN (i := 9) rfl ?_
                try simp only [Act.put, sA, sZ, sS]
                refine stN (i := 10) rfl (fun K hK => ?_)
                go_simp
                refine hK.out _ _ ?_ (fun hHeld => ?_)
                · exact ⟨k1, k2, k3, k4⟩
                clear hK K
                try simp only [Act.put, sA, sZ, sS]
                refine wpAnyH_done (by kernel_rfl) ?_ _
                clear hHeld hrun k1 k2 k3 k4 f0 f1 f2 f3 fz p0 p1 pz q0 q1 q2 q3 q4 qz g0 g1 g2 gz
                obtain ⟨g0, g1, g2, gz⟩ := Blk2J HG9.out
                obtain ⟨s0, s1, s2, sz⟩ := Blk2J HM9.out.b2
                go_wp2_with fail
                rw [HF.out]
                exact bodyPost_ret (v := .agg #[.int .u64 (0 : Int), .int .i64 191]) (by simp [results, Tryz.results185, go_sem, s1, s2]) rfl (SayPost.fin HJ9.out (by omega) HU9.out HLT.out)
              | false =>
                obtain ⟨t, ht⟩ : ∃ t, t = j.la + 1 := ⟨_, rfl⟩
                have hF : j.say ⟨c, r, s, l⟩ = ({ j.commit ⟨c, r, s, l⟩ with sn := setD (j.commit ⟨c, r, s, l⟩).sn c (some (r, ⟨t, 0⟩)) }, ⟨t, 0⟩) := by rw [HS1.out, ht]; unfold Jd.new_; dsimp only; rw [if_neg hs1, if_neg hmx, if_neg (by rw [hw]; decide)]; rfl
                have HF := Lib.hid hF
                have hcm := jcommit HJ6.out HB6.out HKY.out (by omega)
                rw [← ht] at hcm
                clear hF hw ht
                obtain ⟨p0, p1, pz⟩ := Blk1J HM6.out.b0
                obtain ⟨q0, q1, q2, q3, q4, qz⟩ := Blk4F HM6.out.b1
                go_wp2_with fail
                refine hcm.mono ?_
                rintro e w7 ⟨rfl, hj7, hu7⟩
                have hlt7 : ∀ k, JdF L k → k < w.heap.size := HLT.out
                have hm7 := HM6.out.upd hu7 (fun k hk => by have := hlt7 k hk; omega)
                have hg7 := HG6.out.upd hu7 (fun hk => by have := hlt7 _ hk; have := HNCR.out; omega)
                have hu8 : Upd (· = wr.heap.size) w7 ((w7.setCell ⟨wr.heap.size, 0, none⟩ (.int .u64 (t : Int))).setCell ⟨wr.heap.size, 1, none⟩ (.int .i64 0)) := ((Upd.refl _ w7).setIn 0 _).setIn 1 _
                have HJX := Lib.hid (hj7.upd hu8 (fun k hk e => by have := hlt7 k hk; have := HNCR.out; omega))
                have HMX := Lib.hid (hm7.upd hu8 (fun k e => by have := HNCR.out; omega))
                have HGX := Lib.hid ((hg7.set_ 0 (.int .u64 (t : Int))).set_ 1 (.int .i64 0))
                have HUX : Hid (Upd (JdF L) w ((w7.setCell ⟨wr.heap.size, 0, none⟩ (.int .u64 (t : Int))).setCell ⟨wr.heap.size, 1, none⟩ (.int .i64 0))) := Lib.hid ((HU6.out.trans hu7 (fun _ _ h => h)).trans hu8 (fun i hi e => by have := HNCR.out; omega))
                obtain ⟨g0, g1, g2, gz⟩ := Blk2J hg7
                clear hcm p0 p1 pz q0 q1 q2 q3 q4 qz hlt7 hm7 hg7 hu8 hj7 hu7
                go_upto_region 16 with fail
                clear g0 g1 g2 gz
                generalize (w7.setCell ⟨wr.heap.size, 0, none⟩ (.int .u64 (t : Int))).setCell ⟨wr.heap.size, 1, none⟩ (.int .i64 0) = w8 at *
                obtain ⟨m, hm, hmp, hnext⟩ := (HJX.out.new (New.refl w8).drew).setSn (okU_lt hoc) r ⟨t, 0⟩
                obtain ⟨w9, hrun, hm9, hu9⟩ := mpPutR keyU64.toKeyB hmp Tryz.underlying276 (by unfold maxLen; omega) c (okU_lt hoc) (.agg #[.int .u64 (r : Int), .int .u64 (t : Int), .int .i64 0])
                have HJ9 := Lib.hid (hnext w9 hm9 hu9)
                have hsm : L.sm < w.heap.size := HLT.out _ (.inr (.inr rfl))
                have k1 := keepR hu9 (show L.jb < w8.drew.heap.size from HJX.out.blk.lt) (fun e => Blk.ne_map (HJX.out.new (New.refl w8).drew).blk hmp e)
                have k2 := keepR hu9 (show w.heap.size < w8.drew.heap.size from HMX.out.b0.lt) (fun e => by omega)
                have k3 := keepR hu9 (show w.heap.size + 1 < w8.drew.heap.size from HMX.out.b1.lt) (fun e => by omega)
                have k4 := keepR hu9 (show wr.heap.size < w8.drew.heap.size from HGX.out.lt) (fun e => by have := HNCR.out; omega)
                have HM9 := Lib.hid (HMX.out.drewS.upd hu9 (fun k e => by omega))
                have HG9 := Lib.hid ((HGX.out.drew).upd hu9 (fun e => by have := HNCR.out; omega))
                have HU9 := Lib.hid (HUX.out.trans ((Upd.refl (JdF L) w8).drew.trans hu9 (fun i _ e => .inr (.inr e))) (fun _ _ h => h))
                obtain ⟨f0, f1, f2, f3, fz⟩ := Blk3J HJX.out.blk
                obtain ⟨p0, p1, pz⟩ := Blk1J HMX.out.b0
                obtain ⟨q0, q1, q2, q3, q4, qz⟩ := Blk4F HMX.out.b1
                obtain ⟨g0, g1, g2, gz⟩ := Blk2J HGX.out
                clear hm hmp hnext hm9 hu9 hsm
                refine wp_region_held_drew (S := fun w' => (∀ o, w'.cell? ⟨L.jb, o, none⟩ = w8.cell? ⟨L.jb, o, none⟩) ∧ (∀ o, w'.cell? ⟨w.heap.size, o, none⟩ = w8.cell? ⟨w.heap.size, o, none⟩) ∧ (∀ o, w'.cell? ⟨w.heap.size + 1, o, none⟩ = w8.cell? ⟨w.heap.size + 1, o, none⟩) ∧ (∀ o, w'.cell? ⟨wr.heap.size, o, none⟩ = w8.cell? ⟨wr.heap.size, o, none⟩)) (by kernel_rfl) (⟨fun _ => rfl, fun _ => rfl, fun _ => rfl, fun _ => rfl⟩) (fun hHeld => ?_)
                refine tkN (i := 0) rfl ?_
                try simp only [Act.put, sA, sZ, sS]
                refine tkN (i := 1) rfl ?_
                try simp only [Act.put, sA, sZ, sS]
                refine tkN (i := 2) rfl ?_
                try simp only [Act.put, sA, sZ, sS]
                refine tkN (i := 3) rfl ?_
                try simp only [Act.put, sA, sZ, sS]
                refine tkN (i := 4) rfl ?_
                try simp only [Act.put, sA, sZ, sS]
                refine tkN (i := 5) rfl ?_
                try simp only [Act.put, sA, sZ, sS]
                refine tkN (i := 6) rfl ?_
                try simp only [Act.put, sA, sZ, sS]
                refine tkN (i := 7) rfl ?_
                try simp only [Act.put, sA, sZ, sS]
                refine tkN (i := 8) rfl ?_
                try simp only [Act.put, sA, sZ, sS]
                refine tkN (i := 9) rfl ?_
                try simp only [Act.put, sA, sZ, sS]
                refine stN (i := 10) rfl (fun K hK => ?_)
                go_simp
                refine hK.out _ _ ?_ (fun hHeld => ?_)
                · exact ⟨k1, k2, k3, k4⟩
                clear hK K
                try simp only [Act.put, sA, sZ, sS]
                refine wpAnyH_done (by kernel_rfl) ?_ _
                clear hHeld hrun k1 k2 k3 k4 f0 f1 f2 f3 fz p0 p1 pz q0 q1 q2 q3 q4 qz g0 g1 g2 gz
                obtain ⟨g0, g1, g2, gz⟩ := Blk2J HG9.out
                obtain ⟨s0, s1, s2, sz⟩ := Blk2J HM9.out.b2
                go_wp2_with fail
                rw [HF.out]
                exact bodyPost_ret (v := .agg #[.int .u64 (t : Int), .int .i64 0]) (by simp [results, Tryz.results185, go_sem, s1, s2]) rfl (SayPost.fin HJ9.out (by omega) HU9.out HLT.out)
end
end Go.Proofs.YtlhlcdjkacglnaaGreatDoor
