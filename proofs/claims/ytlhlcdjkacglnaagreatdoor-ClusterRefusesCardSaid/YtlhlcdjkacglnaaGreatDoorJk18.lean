/- Chapter 21 (bag): a bag in memory; New, Len, Left, has, Put. Printed by genBg.py. -/
import Derived.Test.YtlhlcdjkacglnaaGreatDoorJk1
import Derived.Test.YtlhlcdjkacglnaaGreatDoorRows
import Derived.Test.YtlhlcdjkacglnaaGreatDoorJk6
import Derived.Deep.QuietTactic
import Derived.BigQuiet
import Derived.Deep.RegionHeld3
import Derived.StillTailTactics
import Derived.Lib.SliceRun
namespace Go.Proofs.YtlhlcdjkacglnaaGreatDoor.D
open Go.RowKit Go.Lap
set_option linter.unusedVariables false

/-- A packet. -/
structure Pk where
  fr : Int
  «to» : Int
  b : ByteArray
def pkE (x : Pk) : List Value := [.int .i64 x.fr, .int .i64 x.to, .string x.b]
theorem pkOk : Enc pkE 3 := fun x => ⟨rfl, by simp [pkE, Value.oneCell']⟩
theorem pkTy : SlTy Tryz.prog 194 111 (.agg #[.int .i64 0, .int .i64 0, .string ⟨#[]⟩]) 3 32 := ⟨Tryz.underlying194, by kernel_rfl, rfl, by decide⟩

/-- A bag (with room for 256) in memory. -/
structure BgAt (w : World) (bb : Nat) (v : Value) (l : List Pk) : Prop where
  blk : Blk w bb 196 #[.int .i64 256, v]
  row : Row w 0 111 3 pkE v l
  len : l.length ≤ 256
/-- Its blocks. -/
def BgF (bb : Nat) (v : Value) (k : Nat) : Prop := k = bb ∨ v.ownBlock = some k
section
variable {w w' : World} {S : Nat → Prop} {bb : Nat} {v : Value} {l : List Pk}
theorem BgAt.upd (h : BgAt w bb v l) (hu : Upd S w w') (hS : ∀ k, BgF bb v k → ¬ S k) : BgAt w' bb v l := ⟨h.blk.upd hu (hS bb (.inl rfl)), h.row.upd hu (fun k hk => hS k (.inr hk)), h.len⟩
theorem BgAt.new (h : BgAt w bb v l) (hn : New w w') : BgAt w' bb v l := ⟨h.blk.new hn, h.row.new hn, h.len⟩
theorem BgAt.lt (h : BgAt w bb v l) : ∀ k, BgF bb v k → k < w.heap.size := by
  rintro k (rfl | hk)
  · exact h.blk.lt
  · exact (h.row.lt k hk).2
theorem BgAt.own (h : BgAt w bb v l) : v.ownBlock ≠ some bb := h.row.ne_blk h.blk (by decide)
theorem BgAt.facts (h : BgAt w bb v l) : bb < w.heap.size ∧ w.cell? ⟨bb, 0, none⟩ = some (.int .i64 256) ∧ w.cell? ⟨bb, 1, none⟩ = some v ∧ (∀ i, w.frozen? ⟨bb, i, none⟩ = false) := ⟨h.blk.lt, h.blk.cell 0, h.blk.cell 1, h.blk.frozen⟩

set_option maxHeartbeats 400000 in
theorem bnew (w : World) :
    Calls Tryz.prog 78 #[.int .i64 256] w fun e w' => e = .returned (.tuple #[.pointer (some ⟨w.heap.size, 0, none⟩), .int .i64 0]) ∧ BgAt w' w.heap.size (.slice none 0 0) [] ∧ New w w' := by
  go_enter Tryz.func78, Tryz.ntmps78
  go_wp2
  go_ret2
  exact ⟨rfl, ⟨Blk.mk_new _ _ _, Row.nil _ _ _ _ _, by simp⟩, (New.refl _).alloc _⟩
set_option maxHeartbeats 400000 in
theorem blen (h : BgAt w bb v l) :
    Calls Tryz.prog 55 #[.pointer (some ⟨bb, 0, none⟩)] w fun e w' => e = .returned (.int .i64 (l.length : Int)) ∧ w' = w := by
  obtain ⟨hg, c0, c1, hz⟩ := h.facts
  obtain ⟨A, c, rfl⟩ := h.row.shape
  go_enter Tryz.func55, Tryz.ntmps55
  go_wp2
  go_ret
  exact ⟨rfl, rfl⟩
set_option maxHeartbeats 400000 in
theorem bleft (h : BgAt w bb v l) :
    Calls Tryz.prog 112 #[.pointer (some ⟨bb, 0, none⟩)] w fun e w' => e = .returned (.int .i64 ((256 - l.length : Nat) : Int)) ∧ ∃ n, w' = w.drewN n := by
  obtain ⟨hg, c0, c1, hz⟩ := h.facts
  obtain ⟨A, c, rfl⟩ := h.row.shape
  have hl := h.len
  have hw : IntKind.i64.wrap (256 - (l.length : Int)) = ((256 - l.length : Nat) : Int) := by rw [IntWalk.i64_in _ (by omega)]; omega
  clear hl
  go_enter Tryz.func112, Tryz.ntmps112
  go_wp2
  go_quiet (fail)
  go_wp2
  go_ret
  exact ⟨rfl, _, rfl⟩
set_option maxHeartbeats 400000 in
theorem bhas (h : BgAt w bb v l) (i : Int) :
    Calls Tryz.prog 111 #[.pointer (some ⟨bb, 0, none⟩), .int .i64 i] w fun e w' => e = .returned (.bool (decide (0 ≤ i ∧ i < l.length))) ∧ w' = w := by
  obtain ⟨hg, c0, c1, hz⟩ := h.facts
  obtain ⟨A, c, rfl⟩ := h.row.shape
  by_cases h0 : 0 ≤ i <;> by_cases h1 : i < (l.length : Int)
  all_goals
    go_enter Tryz.func111, Tryz.ntmps111
    go_wp2
    go_ret
    exact ⟨ret_bool (by simp [h0, h1]), rfl⟩

/-- What an act of a bag leaves. -/
def BgPost (w : World) (bb : Nat) (v : Value) (r : Value) (l' : List Pk) (e : Ending) (w' : World) : Prop :=
  ∃ v', e = .returned r ∧ BgAt w' bb v' l' ∧ Upd (BgF bb v) w w' ∧ (∀ k, v'.ownBlock = some k → v.ownBlock = some k ∨ w.heap.size ≤ k)
set_option maxRecDepth 100000 in
set_option maxHeartbeats 4000000 in
theorem bput (h : BgAt w bb v l) {vx : Value} {m : List Pk} (hm : SlIn w 3 pkE vx m) (hml : m.length ≤ 1000) :
    Calls Tryz.prog 92 #[.pointer (some ⟨bb, 0, none⟩), vx] w (BgPost w bb v (.int .i64 ((min m.length (256 - l.length) : Nat) : Int)) (l ++ m.take (256 - l.length))) := by
  obtain ⟨A, c, rfl⟩ := h.row.shape
  obtain ⟨Am, cm, rfl⟩ := hm.form
  have hl := h.len
  have hlc : l.length ≤ c := (SlIn.cap_le (h.row.slIn pkOk)).1
  have hmc : m.length ≤ cm := hm.cap_le.1
  have HR0 := Lib.hid (h.row.take (k := l.length) (c' := l.length) pkOk (Nat.le_refl _) (Nat.le_refl _) hlc)
  rw [List.take_length] at HR0
  have HLL := Lib.hid hl
  have HB := Lib.hid h
  obtain ⟨q, hq⟩ : ∃ q, 256 - l.length = q := ⟨_, rfl⟩
  have HQ := Lib.hid (bleft h)
  have HQE := Lib.hid hq
  rw [hq] at HQ
  rw [hq]
  clear h hl hq
  by_cases hle : m.length ≤ q
  · have hle1 : ¬ (q : Int) < (m.length : Int) := by omega
    have hle2 : (m.length : Int) ≤ (q : Int) := by omega
    have hqm : min (m.length : Int) (q : Int) = (m.length : Int) := by omega
    rw [show min m.length q = m.length by omega]
    have hnm : m.length ≤ m.length := by omega
    have hncm : m.length ≤ cm := by omega
    have hncm2 : (m.length : Int) ≤ (cm : Int) := by omega
    have hn0 : (0 : Int) ≤ (m.length : Int) := by omega
    have HS0 := Lib.hid (hm.take (k := m.length) (c' := cm) hnm (by omega))
    have HT := Lib.hid (show m.take q = m.take m.length by rw [List.take_of_length_le (by omega), List.take_of_length_le (Nat.le_refl _)])
    have HM1 := Lib.hid (show l.length + (m.take m.length).length ≤ maxLen by unfold maxLen; rw [List.length_take]; have := HLL.out; omega)
    have HM2 := Lib.hid (show (l.length + (m.take m.length).length) * 32 ≤ 140737488355328 by rw [List.length_take]; have := HLL.out; omega)
    have HL := Lib.hid (show (l ++ m.take m.length).length ≤ 256 by rw [List.length_append, List.length_take]; have := HLL.out; have := HQE.out; omega)
    go_enter Tryz.func92, Tryz.ntmps92
    go_wp2_with (first | (go_at_call 112; refine HQ.out.mono ?_; rintro e w1 ⟨rfl, n1, rfl⟩))
    have hB1 := HB.out.new ((New.refl w).drewN n1)
    have HN1 := Lib.hid ((New.refl w).drewN n1)
    have HR1 := Lib.hid (HR0.out.new HN1.out)
    have HS1 := Lib.hid (HS0.out.new HN1.out)
    generalize w.drewN n1 = w1 at *
    obtain ⟨hg, c0, c1, hz⟩ := hB1.facts
    have HB1 := Lib.hid hB1
    clear hB1
    refine wp_region_held_drew (S := fun w' => True) (by kernel_rfl) (trivial) (fun hHeld => ?_)
    refine tkN (i := 0) rfl ?_
    try simp only [Act.put, sA, sZ, sS]
    refine tkN (i := 1) rfl ?_
    try simp only [Act.put, sA, sZ, sS]
    refine tkN (i := 2) rfl ?_
    try simp only [Act.put, sA, sZ, sS]
    refine tkN (i := 3) rfl ?_
    try simp only [Act.put, sA, sZ, sS]
    refine tkN (i := 5) rfl ?_
    try simp only [Act.put, sA, sZ, sS]
    refine tkN (i := 6) rfl ?_
    try simp only [Act.put, sA, sZ, sS]
    refine tkN (i := 7) rfl ?_
    try simp only [Act.put, sA, sZ, sS]
    refine tkN (i := 10) rfl ?_
    try simp only [Act.put, sA, sZ, sS]
    refine tkN (i := 11) rfl ?_
    try simp only [Act.put, sA, sZ, sS]
    refine tkN (i := 12) rfl ?_
    try simp only [Act.put, sA, sZ, sS]
    refine tkN (i := 16) rfl ?_
    try simp only [Act.put, sA, sZ, sS]
    refine tkN (i := 17) rfl ?_
    try simp only [Act.put, sA, sZ, sS]
    refine tkN (i := 18) rfl ?_
    try simp only [Act.put, sA, sZ, sS]
    refine wpAnyH_ready (rs := [4, 8, 13]) (by kernel_rfl) (by simp) ?_
    refine rdN rfl (fun K hK => ?_) (rdN rfl (fun K hK => ?_) (rdN rfl (fun K hK => ?_) AllReadyH.nil))
    · go_simp
      refine hK.out _ _ ?_ (fun hHeld => ?_)
      · exact trivial
      clear hK K
      try simp only [Act.put, sA, sZ, sS]
      refine wpAnyH_ready (rs := [8, 13]) (by kernel_rfl) (by simp) ?_
      refine rdN rfl (fun K hK => ?_) (rdN rfl (fun K hK => ?_) AllReadyH.nil)
      · go_simp
        refine hK.out _ _ ?_ (fun hHeld => ?_)
        · exact trivial
        clear hK K
        try simp only [Act.put, sA, sZ, sS]
        refine tkN (i := 9) rfl ?_
        try simp only [Act.put, sA, sZ, sS]
        refine stN (i := 13) rfl (fun K hK => ?_)
        go_simp
        refine hK.out _ _ ?_ (fun hHeld => ?_)
        · exact trivial
        clear hK K
        try simp only [Act.put, sA, sZ, sS]
        refine tkN (i := 14) rfl ?_
        try simp only [Act.put, sA, sZ, sS]
        refine tkN (i := 15) rfl ?_
        try simp only [Act.put, sA, sZ, sS]
        refine stN (i := 19) rfl (fun K hK => ?_)
        refine step_appR (v := .slice A l.length l.length) pkTy pkOk rfl (.tmp 26) (.tmp 29) rfl rfl rfl (HR1.out.new (New.refl _).drew) (HS1.out.new (New.refl _).drew) HM1.out HM2.out (Nat.zero_le _) ?_
        intro v2 w2 hr2 hg2 hb2
        have hd2 : Upd (fun k => Value.ownBlock (.slice A l.length c) = some k) w1 w2 := ((Upd.refl _ w1).drew).grown (row := Value.ownBlock (.slice A l.length l.length)) hg2 (fun k _ hk => by cases A <;> exact hk)
        have hk2 := HB1.out.blk.upd hd2 HB1.out.own
        obtain ⟨A2, n2, c2, rfl⟩ := hr2.shp
        have q1 := Blk.cell hk2 1
        have qz := Blk.frozen hk2
        have qs := Blk.lt hk2
        simp at q1
        refine hK.out _ _ ?_ (fun hHeld => ?_)
        · exact trivial
        clear hK K
        try simp only [Act.put, sA, sZ, sS]
        refine tkN (i := 20) rfl ?_
        try simp only [Act.put, sA, sZ, sS]
        refine tkN (i := 21) rfl ?_
        try simp only [Act.put, sA, sZ, sS]
        refine stN (i := 22) rfl (fun K hK => ?_)
        go_simp
        refine hK.out _ _ ?_ (fun hHeld => ?_)
        · exact trivial
        clear hK K
        try simp only [Act.put, sA, sZ, sS]
        refine wpAnyH_done (by kernel_rfl) ?_ _
        clear hHeld
        go_wp2_with fail
        go_ret
        refine ⟨.slice A2 n2 c2, rfl, ⟨hk2.set_ 1 _, ?_, ?_⟩, ?_, ?_⟩
        · try rw [HT.out]
          exact Row.upd (S := (· = bb)) hr2 ((Upd.refl _ w2).setIn 1 _) (fun k hk e => hr2.ne_blk hk2 (by decide) (e ▸ hk))
        · try rw [HT.out]
          exact HL.out
        · exact ((Upd.new HN1.out).trans hd2 (fun k _ hk => .inr hk)).setCell (fun _ => .inl rfl) _
        · intro k hk
          rcases hb2 with hb2 | hb2
          · exact .inl (by rw [hb2] at hk; cases A <;> exact hk)
          · rw [hb2] at hk
            injection hk with hk
            exact .inr (hk ▸ HN1.out.size)
      · go_simp
        refine hK.out _ _ ?_ (fun hHeld => ?_)
        · exact trivial
        clear hK K
        try simp only [Act.put, sA, sZ, sS]
        refine tkN (i := 14) rfl ?_
        try simp only [Act.put, sA, sZ, sS]
        refine stN (i := 8) rfl (fun K hK => ?_)
        go_simp
        refine hK.out _ _ ?_ (fun hHeld => ?_)
        · exact trivial
        clear hK K
        try simp only [Act.put, sA, sZ, sS]
        refine tkN (i := 9) rfl ?_
        try simp only [Act.put, sA, sZ, sS]
        refine tkN (i := 15) rfl ?_
        try simp only [Act.put, sA, sZ, sS]
        refine stN (i := 19) rfl (fun K hK => ?_)
        refine step_appR (v := .slice A l.length l.length) pkTy pkOk rfl (.tmp 26) (.tmp 29) rfl rfl rfl (HR1.out.new (New.refl _).drew) (HS1.out.new (New.refl _).drew) HM1.out HM2.out (Nat.zero_le _) ?_
        intro v2 w2 hr2 hg2 hb2
        have hd2 : Upd (fun k => Value.ownBlock (.slice A l.length c) = some k) w1 w2 := ((Upd.refl _ w1).drew).grown (row := Value.ownBlock (.slice A l.length l.length)) hg2 (fun k _ hk => by cases A <;> exact hk)
        have hk2 := HB1.out.blk.upd hd2 HB1.out.own
        obtain ⟨A2, n2, c2, rfl⟩ := hr2.shp
        have q1 := Blk.cell hk2 1
        have qz := Blk.frozen hk2
        have qs := Blk.lt hk2
        simp at q1
        refine hK.out _ _ ?_ (fun hHeld => ?_)
        · exact trivial
        clear hK K
        try simp only [Act.put, sA, sZ, sS]
        refine tkN (i := 20) rfl ?_
        try simp only [Act.put, sA, sZ, sS]
        refine tkN (i := 21) rfl ?_
        try simp only [Act.put, sA, sZ, sS]
        refine stN (i := 22) rfl (fun K hK => ?_)
        go_simp
        refine hK.out _ _ ?_ (fun hHeld => ?_)
        · exact trivial
        clear hK K
        try simp only [Act.put, sA, sZ, sS]
        refine wpAnyH_done (by kernel_rfl) ?_ _
        clear hHeld
        go_wp2_with fail
        go_ret
        refine ⟨.slice A2 n2 c2, rfl, ⟨hk2.set_ 1 _, ?_, ?_⟩, ?_, ?_⟩
        · try rw [HT.out]
          exact Row.upd (S := (· = bb)) hr2 ((Upd.refl _ w2).setIn 1 _) (fun k hk e => hr2.ne_blk hk2 (by decide) (e ▸ hk))
        · try rw [HT.out]
          exact HL.out
        · exact ((Upd.new HN1.out).trans hd2 (fun k _ hk => .inr hk)).setCell (fun _ => .inl rfl) _
        · intro k hk
          rcases hb2 with hb2 | hb2
          · exact .inl (by rw [hb2] at hk; cases A <;> exact hk)
          · rw [hb2] at hk
            injection hk with hk
            exact .inr (hk ▸ HN1.out.size)
    · go_simp
      refine hK.out _ _ ?_ (fun hHeld => ?_)
      · exact trivial
      clear hK K
      try simp only [Act.put, sA, sZ, sS]
      refine tkN (i := 9) rfl ?_
      try simp only [Act.put, sA, sZ, sS]
      refine wpAnyH_ready (rs := [4, 13]) (by kernel_rfl) (by simp) ?_
      refine rdN rfl (fun K hK => ?_) (rdN rfl (fun K hK => ?_) AllReadyH.nil)
      · go_simp
        refine hK.out _ _ ?_ (fun hHeld => ?_)
        · exact trivial
        clear hK K
        try simp only [Act.put, sA, sZ, sS]
        refine stN (i := 13) rfl (fun K hK => ?_)
        go_simp
        refine hK.out _ _ ?_ (fun hHeld => ?_)
        · exact trivial
        clear hK K
        try simp only [Act.put, sA, sZ, sS]
        refine tkN (i := 14) rfl ?_
        try simp only [Act.put, sA, sZ, sS]
        refine tkN (i := 15) rfl ?_
        try simp only [Act.put, sA, sZ, sS]
        refine stN (i := 19) rfl (fun K hK => ?_)
        refine step_appR (v := .slice A l.length l.length) pkTy pkOk rfl (.tmp 26) (.tmp 29) rfl rfl rfl (HR1.out.new (New.refl _).drew) (HS1.out.new (New.refl _).drew) HM1.out HM2.out (Nat.zero_le _) ?_
        intro v2 w2 hr2 hg2 hb2
        have hd2 : Upd (fun k => Value.ownBlock (.slice A l.length c) = some k) w1 w2 := ((Upd.refl _ w1).drew).grown (row := Value.ownBlock (.slice A l.length l.length)) hg2 (fun k _ hk => by cases A <;> exact hk)
        have hk2 := HB1.out.blk.upd hd2 HB1.out.own
        obtain ⟨A2, n2, c2, rfl⟩ := hr2.shp
        have q1 := Blk.cell hk2 1
        have qz := Blk.frozen hk2
        have qs := Blk.lt hk2
        simp at q1
        refine hK.out _ _ ?_ (fun hHeld => ?_)
        · exact trivial
        clear hK K
        try simp only [Act.put, sA, sZ, sS]
        refine tkN (i := 20) rfl ?_
        try simp only [Act.put, sA, sZ, sS]
        refine tkN (i := 21) rfl ?_
        try simp only [Act.put, sA, sZ, sS]
        refine stN (i := 22) rfl (fun K hK => ?_)
        go_simp
        refine hK.out _ _ ?_ (fun hHeld => ?_)
        · exact trivial
        clear hK K
        try simp only [Act.put, sA, sZ, sS]
        refine wpAnyH_done (by kernel_rfl) ?_ _
        clear hHeld
        go_wp2_with fail
        go_ret
        refine ⟨.slice A2 n2 c2, rfl, ⟨hk2.set_ 1 _, ?_, ?_⟩, ?_, ?_⟩
        · try rw [HT.out]
          exact Row.upd (S := (· = bb)) hr2 ((Upd.refl _ w2).setIn 1 _) (fun k hk e => hr2.ne_blk hk2 (by decide) (e ▸ hk))
        · try rw [HT.out]
          exact HL.out
        · exact ((Upd.new HN1.out).trans hd2 (fun k _ hk => .inr hk)).setCell (fun _ => .inl rfl) _
        · intro k hk
          rcases hb2 with hb2 | hb2
          · exact .inl (by rw [hb2] at hk; cases A <;> exact hk)
          · rw [hb2] at hk
            injection hk with hk
            exact .inr (hk ▸ HN1.out.size)
      · go_simp
        refine hK.out _ _ ?_ (fun hHeld => ?_)
        · exact trivial
        clear hK K
        try simp only [Act.put, sA, sZ, sS]
        refine tkN (i := 14) rfl ?_
        try simp only [Act.put, sA, sZ, sS]
        refine stN (i := 4) rfl (fun K hK => ?_)
        go_simp
        refine hK.out _ _ ?_ (fun hHeld => ?_)
        · exact trivial
        clear hK K
        try simp only [Act.put, sA, sZ, sS]
        refine tkN (i := 15) rfl ?_
        try simp only [Act.put, sA, sZ, sS]
        refine stN (i := 19) rfl (fun K hK => ?_)
        refine step_appR (v := .slice A l.length l.length) pkTy pkOk rfl (.tmp 26) (.tmp 29) rfl rfl rfl (HR1.out.new (New.refl _).drew) (HS1.out.new (New.refl _).drew) HM1.out HM2.out (Nat.zero_le _) ?_
        intro v2 w2 hr2 hg2 hb2
        have hd2 : Upd (fun k => Value.ownBlock (.slice A l.length c) = some k) w1 w2 := ((Upd.refl _ w1).drew).grown (row := Value.ownBlock (.slice A l.length l.length)) hg2 (fun k _ hk => by cases A <;> exact hk)
        have hk2 := HB1.out.blk.upd hd2 HB1.out.own
        obtain ⟨A2, n2, c2, rfl⟩ := hr2.shp
        have q1 := Blk.cell hk2 1
        have qz := Blk.frozen hk2
        have qs := Blk.lt hk2
        simp at q1
        refine hK.out _ _ ?_ (fun hHeld => ?_)
        · exact trivial
        clear hK K
        try simp only [Act.put, sA, sZ, sS]
        refine tkN (i := 20) rfl ?_
        try simp only [Act.put, sA, sZ, sS]
        refine tkN (i := 21) rfl ?_
        try simp only [Act.put, sA, sZ, sS]
        refine stN (i := 22) rfl (fun K hK => ?_)
        go_simp
        refine hK.out _ _ ?_ (fun hHeld => ?_)
        · exact trivial
        clear hK K
        try simp only [Act.put, sA, sZ, sS]
        refine wpAnyH_done (by kernel_rfl) ?_ _
        clear hHeld
        go_wp2_with fail
        go_ret
        refine ⟨.slice A2 n2 c2, rfl, ⟨hk2.set_ 1 _, ?_, ?_⟩, ?_, ?_⟩
        · try rw [HT.out]
          exact Row.upd (S := (· = bb)) hr2 ((Upd.refl _ w2).setIn 1 _) (fun k hk e => hr2.ne_blk hk2 (by decide) (e ▸ hk))
        · try rw [HT.out]
          exact HL.out
        · exact ((Upd.new HN1.out).trans hd2 (fun k _ hk => .inr hk)).setCell (fun _ => .inl rfl) _
        · intro k hk
          rcases hb2 with hb2 | hb2
          · exact .inl (by rw [hb2] at hk; cases A <;> exact hk)
          · rw [hb2] at hk
            injection hk with hk
            exact .inr (hk ▸ HN1.out.size)
    · go_simp
      refine hK.out _ _ ?_ (fun hHeld => ?_)
      · exact trivial
      clear hK K
      try simp only [Act.put, sA, sZ, sS]
      refine tkN (i := 14) rfl ?_
      try simp only [Act.put, sA, sZ, sS]
      refine wpAnyH_ready (rs := [4, 8]) (by kernel_rfl) (by simp) ?_
      refine rdN rfl (fun K hK => ?_) (rdN rfl (fun K hK => ?_) AllReadyH.nil)
      · go_simp
        refine hK.out _ _ ?_ (fun hHeld => ?_)
        · exact trivial
        clear hK K
        try simp only [Act.put, sA, sZ, sS]
        refine stN (i := 8) rfl (fun K hK => ?_)
        go_simp
        refine hK.out _ _ ?_ (fun hHeld => ?_)
        · exact trivial
        clear hK K
        try simp only [Act.put, sA, sZ, sS]
        refine tkN (i := 9) rfl ?_
        try simp only [Act.put, sA, sZ, sS]
        refine tkN (i := 15) rfl ?_
        try simp only [Act.put, sA, sZ, sS]
        refine stN (i := 19) rfl (fun K hK => ?_)
        refine step_appR (v := .slice A l.length l.length) pkTy pkOk rfl (.tmp 26) (.tmp 29) rfl rfl rfl (HR1.out.new (New.refl _).drew) (HS1.out.new (New.refl _).drew) HM1.out HM2.out (Nat.zero_le _) ?_
        intro v2 w2 hr2 hg2 hb2
        have hd2 : Upd (fun k => Value.ownBlock (.slice A l.length c) = some k) w1 w2 := ((Upd.refl _ w1).drew).grown (row := Value.ownBlock (.slice A l.length l.length)) hg2 (fun k _ hk => by cases A <;> exact hk)
        have hk2 := HB1.out.blk.upd hd2 HB1.out.own
        obtain ⟨A2, n2, c2, rfl⟩ := hr2.shp
        have q1 := Blk.cell hk2 1
        have qz := Blk.frozen hk2
        have qs := Blk.lt hk2
        simp at q1
        refine hK.out _ _ ?_ (fun hHeld => ?_)
        · exact trivial
        clear hK K
        try simp only [Act.put, sA, sZ, sS]
        refine tkN (i := 20) rfl ?_
        try simp only [Act.put, sA, sZ, sS]
        refine tkN (i := 21) rfl ?_
        try simp only [Act.put, sA, sZ, sS]
        refine stN (i := 22) rfl (fun K hK => ?_)
        go_simp
        refine hK.out _ _ ?_ (fun hHeld => ?_)
        · exact trivial
        clear hK K
        try simp only [Act.put, sA, sZ, sS]
        refine wpAnyH_done (by kernel_rfl) ?_ _
        clear hHeld
        go_wp2_with fail
        go_ret
        refine ⟨.slice A2 n2 c2, rfl, ⟨hk2.set_ 1 _, ?_, ?_⟩, ?_, ?_⟩
        · try rw [HT.out]
          exact Row.upd (S := (· = bb)) hr2 ((Upd.refl _ w2).setIn 1 _) (fun k hk e => hr2.ne_blk hk2 (by decide) (e ▸ hk))
        · try rw [HT.out]
          exact HL.out
        · exact ((Upd.new HN1.out).trans hd2 (fun k _ hk => .inr hk)).setCell (fun _ => .inl rfl) _
        · intro k hk
          rcases hb2 with hb2 | hb2
          · exact .inl (by rw [hb2] at hk; cases A <;> exact hk)
          · rw [hb2] at hk
            injection hk with hk
            exact .inr (hk ▸ HN1.out.size)
      · go_simp
        refine hK.out _ _ ?_ (fun hHeld => ?_)
        · exact trivial
        clear hK K
        try simp only [Act.put, sA, sZ, sS]
        refine tkN (i := 9) rfl ?_
        try simp only [Act.put, sA, sZ, sS]
        refine stN (i := 4) rfl (fun K hK => ?_)
        go_simp
        refine hK.out _ _ ?_ (fun hHeld => ?_)
        · exact trivial
        clear hK K
        try simp only [Act.put, sA, sZ, sS]
        refine tkN (i := 15) rfl ?_
        try simp only [Act.put, sA, sZ, sS]
        refine stN (i := 19) rfl (fun K hK => ?_)
        refine step_appR (v := .slice A l.length l.length) pkTy pkOk rfl (.tmp 26) (.tmp 29) rfl rfl rfl (HR1.out.new (New.refl _).drew) (HS1.out.new (New.refl _).drew) HM1.out HM2.out (Nat.zero_le _) ?_
        intro v2 w2 hr2 hg2 hb2
        have hd2 : Upd (fun k => Value.ownBlock (.slice A l.length c) = some k) w1 w2 := ((Upd.refl _ w1).drew).grown (row := Value.ownBlock (.slice A l.length l.length)) hg2 (fun k _ hk => by cases A <;> exact hk)
        have hk2 := HB1.out.blk.upd hd2 HB1.out.own
        obtain ⟨A2, n2, c2, rfl⟩ := hr2.shp
        have q1 := Blk.cell hk2 1
        have qz := Blk.frozen hk2
        have qs := Blk.lt hk2
        simp at q1
        refine hK.out _ _ ?_ (fun hHeld => ?_)
        · exact trivial
        clear hK K
        try simp only [Act.put, sA, sZ, sS]
        refine tkN (i := 20) rfl ?_
        try simp only [Act.put, sA, sZ, sS]
        refine tkN (i := 21) rfl ?_
        try simp only [Act.put, sA, sZ, sS]
        refine stN (i := 22) rfl (fun K hK => ?_)
        go_simp
        refine hK.out _ _ ?_ (fun hHeld => ?_)
        · exact trivial
        clear hK K
        try simp only [Act.put, sA, sZ, sS]
        refine wpAnyH_done (by kernel_rfl) ?_ _
        clear hHeld
        go_wp2_with fail
        go_ret
        refine ⟨.slice A2 n2 c2, rfl, ⟨hk2.set_ 1 _, ?_, ?_⟩, ?_, ?_⟩
        · try rw [HT.out]
          exact Row.upd (S := (· = bb)) hr2 ((Upd.refl _ w2).setIn 1 _) (fun k hk e => hr2.ne_blk hk2 (by decide) (e ▸ hk))
        · try rw [HT.out]
          exact HL.out
        · exact ((Upd.new HN1.out).trans hd2 (fun k _ hk => .inr hk)).setCell (fun _ => .inl rfl) _
        · intro k hk
          rcases hb2 with hb2 | hb2
          · exact .inl (by rw [hb2] at hk; cases A <;> exact hk)
          · rw [hb2] at hk
            injection hk with hk
            exact .inr (hk ▸ HN1.out.size)
  · have hle1 : (q : Int) < (m.length : Int) := by omega
    have hle2 : ¬ (m.length : Int) ≤ (q : Int) := by omega
    have hqm : min (m.length : Int) (q : Int) = (q : Int) := by omega
    rw [show min m.length q = q by omega]
    have hnm : q ≤ m.length := by omega
    have hncm : q ≤ cm := by omega
    have hncm2 : (q : Int) ≤ (cm : Int) := by omega
    have hn0 : (0 : Int) ≤ (q : Int) := by omega
    have HS0 := Lib.hid (hm.take (k := q) (c' := cm) hnm (by omega))
    have HT := Lib.hid (show m.take q = m.take q by rfl)
    have HM1 := Lib.hid (show l.length + (m.take q).length ≤ maxLen by unfold maxLen; rw [List.length_take]; have := HLL.out; omega)
    have HM2 := Lib.hid (show (l.length + (m.take q).length) * 32 ≤ 140737488355328 by rw [List.length_take]; have := HLL.out; omega)
    have HL := Lib.hid (show (l ++ m.take q).length ≤ 256 by rw [List.length_append, List.length_take]; have := HLL.out; have := HQE.out; omega)
    go_enter Tryz.func92, Tryz.ntmps92
    go_wp2_with (first | (go_at_call 112; refine HQ.out.mono ?_; rintro e w1 ⟨rfl, n1, rfl⟩))
    have hB1 := HB.out.new ((New.refl w).drewN n1)
    have HN1 := Lib.hid ((New.refl w).drewN n1)
    have HR1 := Lib.hid (HR0.out.new HN1.out)
    have HS1 := Lib.hid (HS0.out.new HN1.out)
    generalize w.drewN n1 = w1 at *
    obtain ⟨hg, c0, c1, hz⟩ := hB1.facts
    have HB1 := Lib.hid hB1
    clear hB1
    refine wp_region_held_drew (S := fun w' => True) (by kernel_rfl) (trivial) (fun hHeld => ?_)
    refine tkN (i := 0) rfl ?_
    try simp only [Act.put, sA, sZ, sS]
    refine tkN (i := 1) rfl ?_
    try simp only [Act.put, sA, sZ, sS]
    refine tkN (i := 2) rfl ?_
    try simp only [Act.put, sA, sZ, sS]
    refine tkN (i := 3) rfl ?_
    try simp only [Act.put, sA, sZ, sS]
    refine tkN (i := 5) rfl ?_
    try simp only [Act.put, sA, sZ, sS]
    refine tkN (i := 6) rfl ?_
    try simp only [Act.put, sA, sZ, sS]
    refine tkN (i := 7) rfl ?_
    try simp only [Act.put, sA, sZ, sS]
    refine tkN (i := 10) rfl ?_
    try simp only [Act.put, sA, sZ, sS]
    refine tkN (i := 11) rfl ?_
    try simp only [Act.put, sA, sZ, sS]
    refine tkN (i := 12) rfl ?_
    try simp only [Act.put, sA, sZ, sS]
    refine tkN (i := 16) rfl ?_
    try simp only [Act.put, sA, sZ, sS]
    refine tkN (i := 17) rfl ?_
    try simp only [Act.put, sA, sZ, sS]
    refine tkN (i := 18) rfl ?_
    try simp only [Act.put, sA, sZ, sS]
    refine wpAnyH_ready (rs := [4, 8, 13]) (by kernel_rfl) (by simp) ?_
    refine rdN rfl (fun K hK => ?_) (rdN rfl (fun K hK => ?_) (rdN rfl (fun K hK => ?_) AllReadyH.nil))
    · go_simp
      refine hK.out _ _ ?_ (fun hHeld => ?_)
      · exact trivial
      clear hK K
      try simp only [Act.put, sA, sZ, sS]
      refine wpAnyH_ready (rs := [8, 13]) (by kernel_rfl) (by simp) ?_
      refine rdN rfl (fun K hK => ?_) (rdN rfl (fun K hK => ?_) AllReadyH.nil)
      · go_simp
        refine hK.out _ _ ?_ (fun hHeld => ?_)
        · exact trivial
        clear hK K
        try simp only [Act.put, sA, sZ, sS]
        refine tkN (i := 9) rfl ?_
        try simp only [Act.put, sA, sZ, sS]
        refine stN (i := 13) rfl (fun K hK => ?_)
        go_simp
        refine hK.out _ _ ?_ (fun hHeld => ?_)
        · exact trivial
        clear hK K
        try simp only [Act.put, sA, sZ, sS]
        refine tkN (i := 14) rfl ?_
        try simp only [Act.put, sA, sZ, sS]
        refine tkN (i := 15) rfl ?_
        try simp only [Act.put, sA, sZ, sS]
        refine stN (i := 19) rfl (fun K hK => ?_)
        refine step_appR (v := .slice A l.length l.length) pkTy pkOk rfl (.tmp 26) (.tmp 29) rfl rfl rfl (HR1.out.new (New.refl _).drew) (HS1.out.new (New.refl _).drew) HM1.out HM2.out (Nat.zero_le _) ?_
        intro v2 w2 hr2 hg2 hb2
        have hd2 : Upd (fun k => Value.ownBlock (.slice A l.length c) = some k) w1 w2 := ((Upd.refl _ w1).drew).grown (row := Value.ownBlock (.slice A l.length l.length)) hg2 (fun k _ hk => by cases A <;> exact hk)
        have hk2 := HB1.out.blk.upd hd2 HB1.out.own
        obtain ⟨A2, n2, c2, rfl⟩ := hr2.shp
        have q1 := Blk.cell hk2 1
        have qz := Blk.frozen hk2
        have qs := Blk.lt hk2
        simp at q1
        refine hK.out _ _ ?_ (fun hHeld => ?_)
        · exact trivial
        clear hK K
        try simp only [Act.put, sA, sZ, sS]
        refine tkN (i := 20) rfl ?_
        try simp only [Act.put, sA, sZ, sS]
        refine tkN (i := 21) rfl ?_
        try simp only [Act.put, sA, sZ, sS]
        refine stN (i := 22) rfl (fun K hK => ?_)
        go_simp
        refine hK.out _ _ ?_ (fun hHeld => ?_)
        · exact trivial
        clear hK K
        try simp only [Act.put, sA, sZ, sS]
        refine wpAnyH_done (by kernel_rfl) ?_ _
        clear hHeld
        go_wp2_with fail
        go_ret
        refine ⟨.slice A2 n2 c2, rfl, ⟨hk2.set_ 1 _, ?_, ?_⟩, ?_, ?_⟩
        · try rw [HT.out]
          exact Row.upd (S := (· = bb)) hr2 ((Upd.refl _ w2).setIn 1 _) (fun k hk e => hr2.ne_blk hk2 (by decide) (e ▸ hk))
        · try rw [HT.out]
          exact HL.out
        · exact ((Upd.new HN1.out).trans hd2 (fun k _ hk => .inr hk)).setCell (fun _ => .inl rfl) _
        · intro k hk
          rcases hb2 with hb2 | hb2
          · exact .inl (by rw [hb2] at hk; cases A <;> exact hk)
          · rw [hb2] at hk
            injection hk with hk
            exact .inr (hk ▸ HN1.out.size)
      · go_simp
        refine hK.out _ _ ?_ (fun hHeld => ?_)
        · exact trivial
        clear hK K
        try simp only [Act.put, sA, sZ, sS]
        refine tkN (i := 14) rfl ?_
        try simp only [Act.put, sA, sZ, sS]
        refine stN (i := 8) rfl (fun K hK => ?_)
        go_simp
        refine hK.out _ _ ?_ (fun hHeld => ?_)
        · exact trivial
        clear hK K
        try simp only [Act.put, sA, sZ, sS]
        refine tkN (i := 9) rfl ?_
        try simp only [Act.put, sA, sZ, sS]
        refine tkN (i := 15) rfl ?_
        try simp only [Act.put, sA, sZ, sS]
        refine stN (i := 19) rfl (fun K hK => ?_)
        refine step_appR (v := .slice A l.length l.length) pkTy pkOk rfl (.tmp 26) (.tmp 29) rfl rfl rfl (HR1.out.new (New.refl _).drew) (HS1.out.new (New.refl _).drew) HM1.out HM2.out (Nat.zero_le _) ?_
        intro v2 w2 hr2 hg2 hb2
        have hd2 : Upd (fun k => Value.ownBlock (.slice A l.length c) = some k) w1 w2 := ((Upd.refl _ w1).drew).grown (row := Value.ownBlock (.slice A l.length l.length)) hg2 (fun k _ hk => by cases A <;> exact hk)
        have hk2 := HB1.out.blk.upd hd2 HB1.out.own
        obtain ⟨A2, n2, c2, rfl⟩ := hr2.shp
        have q1 := Blk.cell hk2 1
        have qz := Blk.frozen hk2
        have qs := Blk.lt hk2
        simp at q1
        refine hK.out _ _ ?_ (fun hHeld => ?_)
        · exact trivial
        clear hK K
        try simp only [Act.put, sA, sZ, sS]
        refine tkN (i := 20) rfl ?_
        try simp only [Act.put, sA, sZ, sS]
        refine tkN (i := 21) rfl ?_
        try simp only [Act.put, sA, sZ, sS]
        refine stN (i := 22) rfl (fun K hK => ?_)
        go_simp
        refine hK.out _ _ ?_ (fun hHeld => ?_)
        · exact trivial
        clear hK K
        try simp only [Act.put, sA, sZ, sS]
        refine wpAnyH_done (by kernel_rfl) ?_ _
        clear hHeld
        go_wp2_with fail
        go_ret
        refine ⟨.slice A2 n2 c2, rfl, ⟨hk2.set_ 1 _, ?_, ?_⟩, ?_, ?_⟩
        · try rw [HT.out]
          exact Row.upd (S := (· = bb)) hr2 ((Upd.refl _ w2).setIn 1 _) (fun k hk e => hr2.ne_blk hk2 (by decide) (e ▸ hk))
        · try rw [HT.out]
          exact HL.out
        · exact ((Upd.new HN1.out).trans hd2 (fun k _ hk => .inr hk)).setCell (fun _ => .inl rfl) _
        · intro k hk
          rcases hb2 with hb2 | hb2
          · exact .inl (by rw [hb2] at hk; cases A <;> exact hk)
          · rw [hb2] at hk
            injection hk with hk
            exact .inr (hk ▸ HN1.out.size)
    · go_simp
      refine hK.out _ _ ?_ (fun hHeld => ?_)
      · exact trivial
      clear hK K
      try simp only [Act.put, sA, sZ, sS]
      refine tkN (i := 9) rfl ?_
      try simp only [Act.put, sA, sZ, sS]
      refine wpAnyH_ready (rs := [4, 13]) (by kernel_rfl) (by simp) ?_
      refine rdN rfl (fun K hK => ?_) (rdN rfl (fun K hK => ?_) AllReadyH.nil)
      · go_simp
        refine hK.out _ _ ?_ (fun hHeld => ?_)
        · exact trivial
        clear hK K
        try simp only [Act.put, sA, sZ, sS]
        refine stN (i := 13) rfl (fun K hK => ?_)
        go_simp
        refine hK.out _ _ ?_ (fun hHeld => ?_)
        · exact trivial
        clear hK K
        try simp only [Act.put, sA, sZ, sS]
        refine tkN (i := 14) rfl ?_
        try simp only [Act.put, sA, sZ, sS]
        refine tkN (i := 15) rfl ?_
        try simp only [Act.put, sA, sZ, sS]
        refine stN (i := 19) rfl (fun K hK => ?_)
        refine step_appR (v := .slice A l.length l.length) pkTy pkOk rfl (.tmp 26) (.tmp 29) rfl rfl rfl (HR1.out.new (New.refl _).drew) (HS1.out.new (New.refl _).drew) HM1.out HM2.out (Nat.zero_le _) ?_
        intro v2 w2 hr2 hg2 hb2
        have hd2 : Upd (fun k => Value.ownBlock (.slice A l.length c) = some k) w1 w2 := ((Upd.refl _ w1).drew).grown (row := Value.ownBlock (.slice A l.length l.length)) hg2 (fun k _ hk => by cases A <;> exact hk)
        have hk2 := HB1.out.blk.upd hd2 HB1.out.own
        obtain ⟨A2, n2, c2, rfl⟩ := hr2.shp
        have q1 := Blk.cell hk2 1
        have qz := Blk.frozen hk2
        have qs := Blk.lt hk2
        simp at q1
        refine hK.out _ _ ?_ (fun hHeld => ?_)
        · exact trivial
        clear hK K
        try simp only [Act.put, sA, sZ, sS]
        refine tkN (i := 20) rfl ?_
        try simp only [Act.put, sA, sZ, sS]
        refine tkN (i := 21) rfl ?_
        try simp only [Act.put, sA, sZ, sS]
        refine stN (i := 22) rfl (fun K hK => ?_)
        go_simp
        refine hK.out _ _ ?_ (fun hHeld => ?_)
        · exact trivial
        clear hK K
        try simp only [Act.put, sA, sZ, sS]
        refine wpAnyH_done (by kernel_rfl) ?_ _
        clear hHeld
        go_wp2_with fail
        go_ret
        refine ⟨.slice A2 n2 c2, rfl, ⟨hk2.set_ 1 _, ?_, ?_⟩, ?_, ?_⟩
        · try rw [HT.out]
          exact Row.upd (S := (· = bb)) hr2 ((Upd.refl _ w2).setIn 1 _) (fun k hk e => hr2.ne_blk hk2 (by decide) (e ▸ hk))
        · try rw [HT.out]
          exact HL.out
        · exact ((Upd.new HN1.out).trans hd2 (fun k _ hk => .inr hk)).setCell (fun _ => .inl rfl) _
        · intro k hk
          rcases hb2 with hb2 | hb2
          · exact .inl (by rw [hb2] at hk; cases A <;> exact hk)
          · rw [hb2] at hk
            injection hk with hk
            exact .inr (hk ▸ HN1.out.size)
      · go_simp
        refine hK.out _ _ ?_ (fun hHeld => ?_)
        · exact trivial
        clear hK K
        try simp only [Act.put, sA, sZ, sS]
        refine tkN (i := 14) rfl ?_
        try simp only [Act.put, sA, sZ, sS]
        refine stN (i := 4) rfl (fun K hK => ?_)
        go_simp
        refine hK.out _ _ ?_ (fun hHeld => ?_)
        · exact trivial
        clear hK K
        try simp only [Act.put, sA, sZ, sS]
        refine tkN (i := 15) rfl ?_
        try simp only [Act.put, sA, sZ, sS]
        refine stN (i := 19) rfl (fun K hK => ?_)
        refine step_appR (v := .slice A l.length l.length) pkTy pkOk rfl (.tmp 26) (.tmp 29) rfl rfl rfl (HR1.out.new (New.refl _).drew) (HS1.out.new (New.refl _).drew) HM1.out HM2.out (Nat.zero_le _) ?_
        intro v2 w2 hr2 hg2 hb2
        have hd2 : Upd (fun k => Value.ownBlock (.slice A l.length c) = some k) w1 w2 := ((Upd.refl _ w1).drew).grown (row := Value.ownBlock (.slice A l.length l.length)) hg2 (fun k _ hk => by cases A <;> exact hk)
        have hk2 := HB1.out.blk.upd hd2 HB1.out.own
        obtain ⟨A2, n2, c2, rfl⟩ := hr2.shp
        have q1 := Blk.cell hk2 1
        have qz := Blk.frozen hk2
        have qs := Blk.lt hk2
        simp at q1
        refine hK.out _ _ ?_ (fun hHeld => ?_)
        · exact trivial
        clear hK K
        try simp only [Act.put, sA, sZ, sS]
        refine tkN (i := 20) rfl ?_
        try simp only [Act.put, sA, sZ, sS]
        refine tkN (i := 21) rfl ?_
        try simp only [Act.put, sA, sZ, sS]
        refine stN (i := 22) rfl (fun K hK => ?_)
        go_simp
        refine hK.out _ _ ?_ (fun hHeld => ?_)
        · exact trivial
        clear hK K
        try simp only [Act.put, sA, sZ, sS]
        refine wpAnyH_done (by kernel_rfl) ?_ _
        clear hHeld
        go_wp2_with fail
        go_ret
        refine ⟨.slice A2 n2 c2, rfl, ⟨hk2.set_ 1 _, ?_, ?_⟩, ?_, ?_⟩
        · try rw [HT.out]
          exact Row.upd (S := (· = bb)) hr2 ((Upd.refl _ w2).setIn 1 _) (fun k hk e => hr2.ne_blk hk2 (by decide) (e ▸ hk))
        · try rw [HT.out]
          exact HL.out
        · exact ((Upd.new HN1.out).trans hd2 (fun k _ hk => .inr hk)).setCell (fun _ => .inl rfl) _
        · intro k hk
          rcases hb2 with hb2 | hb2
          · exact .inl (by rw [hb2] at hk; cases A <;> exact hk)
          · rw [hb2] at hk
            injection hk with hk
            exact .inr (hk ▸ HN1.out.size)
    · go_simp
      refine hK.out _ _ ?_ (fun hHeld => ?_)
      · exact trivial
      clear hK K
      try simp only [Act.put, sA, sZ, sS]
      refine tkN (i := 14) rfl ?_
      try simp only [Act.put, sA, sZ, sS]
      refine wpAnyH_ready (rs := [4, 8]) (by kernel_rfl) (by simp) ?_
      refine rdN rfl (fun K hK => ?_) (rdN rfl (fun K hK => ?_) AllReadyH.nil)
      · go_simp
        refine hK.out _ _ ?_ (fun hHeld => ?_)
        · exact trivial
        clear hK K
        try simp only [Act.put, sA, sZ, sS]
        refine stN (i := 8) rfl (fun K hK => ?_)
        go_simp
        refine hK.out _ _ ?_ (fun hHeld => ?_)
        · exact trivial
        clear hK K
        try simp only [Act.put, sA, sZ, sS]
        refine tkN (i := 9) rfl ?_
        try simp only [Act.put, sA, sZ, sS]
        refine tkN (i := 15) rfl ?_
        try simp only [Act.put, sA, sZ, sS]
        refine stN (i := 19) rfl (fun K hK => ?_)
        refine step_appR (v := .slice A l.length l.length) pkTy pkOk rfl (.tmp 26) (.tmp 29) rfl rfl rfl (HR1.out.new (New.refl _).drew) (HS1.out.new (New.refl _).drew) HM1.out HM2.out (Nat.zero_le _) ?_
        intro v2 w2 hr2 hg2 hb2
        have hd2 : Upd (fun k => Value.ownBlock (.slice A l.length c) = some k) w1 w2 := ((Upd.refl _ w1).drew).grown (row := Value.ownBlock (.slice A l.length l.length)) hg2 (fun k _ hk => by cases A <;> exact hk)
        have hk2 := HB1.out.blk.upd hd2 HB1.out.own
        obtain ⟨A2, n2, c2, rfl⟩ := hr2.shp
        have q1 := Blk.cell hk2 1
        have qz := Blk.frozen hk2
        have qs := Blk.lt hk2
        simp at q1
        refine hK.out _ _ ?_ (fun hHeld => ?_)
        · exact trivial
        clear hK K
        try simp only [Act.put, sA, sZ, sS]
        refine tkN (i := 20) rfl ?_
        try simp only [Act.put, sA, sZ, sS]
        refine tkN (i := 21) rfl ?_
        try simp only [Act.put, sA, sZ, sS]
        refine stN (i := 22) rfl (fun K hK => ?_)
        go_simp
        refine hK.out _ _ ?_ (fun hHeld => ?_)
        · exact trivial
        clear hK K
        try simp only [Act.put, sA, sZ, sS]
        refine wpAnyH_done (by kernel_rfl) ?_ _
        clear hHeld
        go_wp2_with fail
        go_ret
        refine ⟨.slice A2 n2 c2, rfl, ⟨hk2.set_ 1 _, ?_, ?_⟩, ?_, ?_⟩
        · try rw [HT.out]
          exact Row.upd (S := (· = bb)) hr2 ((Upd.refl _ w2).setIn 1 _) (fun k hk e => hr2.ne_blk hk2 (by decide) (e ▸ hk))
        · try rw [HT.out]
          exact HL.out
        · exact ((Upd.new HN1.out).trans hd2 (fun k _ hk => .inr hk)).setCell (fun _ => .inl rfl) _
        · intro k hk
          rcases hb2 with hb2 | hb2
          · exact .inl (by rw [hb2] at hk; cases A <;> exact hk)
          · rw [hb2] at hk
            injection hk with hk
            exact .inr (hk ▸ HN1.out.size)
      · go_simp
        refine hK.out _ _ ?_ (fun hHeld => ?_)
        · exact trivial
        clear hK K
        try simp only [Act.put, sA, sZ, sS]
        refine tkN (i := 9) rfl ?_
        try simp only [Act.put, sA, sZ, sS]
        refine stN (i := 4) rfl (fun K hK => ?_)
        go_simp
        refine hK.out _ _ ?_ (fun hHeld => ?_)
        · exact trivial
        clear hK K
        try simp only [Act.put, sA, sZ, sS]
        refine tkN (i := 15) rfl ?_
        try simp only [Act.put, sA, sZ, sS]
        refine stN (i := 19) rfl (fun K hK => ?_)
        refine step_appR (v := .slice A l.length l.length) pkTy pkOk rfl (.tmp 26) (.tmp 29) rfl rfl rfl (HR1.out.new (New.refl _).drew) (HS1.out.new (New.refl _).drew) HM1.out HM2.out (Nat.zero_le _) ?_
        intro v2 w2 hr2 hg2 hb2
        have hd2 : Upd (fun k => Value.ownBlock (.slice A l.length c) = some k) w1 w2 := ((Upd.refl _ w1).drew).grown (row := Value.ownBlock (.slice A l.length l.length)) hg2 (fun k _ hk => by cases A <;> exact hk)
        have hk2 := HB1.out.blk.upd hd2 HB1.out.own
        obtain ⟨A2, n2, c2, rfl⟩ := hr2.shp
        have q1 := Blk.cell hk2 1
        have qz := Blk.frozen hk2
        have qs := Blk.lt hk2
        simp at q1
        refine hK.out _ _ ?_ (fun hHeld => ?_)
        · exact trivial
        clear hK K
        try simp only [Act.put, sA, sZ, sS]
        refine tkN (i := 20) rfl ?_
        try simp only [Act.put, sA, sZ, sS]
        refine tkN (i := 21) rfl ?_
        try simp only [Act.put, sA, sZ, sS]
        refine stN (i := 22) rfl (fun K hK => ?_)
        go_simp
        refine hK.out _ _ ?_ (fun hHeld => ?_)
        · exact trivial
        clear hK K
        try simp only [Act.put, sA, sZ, sS]
        refine wpAnyH_done (by kernel_rfl) ?_ _
        clear hHeld
        go_wp2_with fail
        go_ret
        refine ⟨.slice A2 n2 c2, rfl, ⟨hk2.set_ 1 _, ?_, ?_⟩, ?_, ?_⟩
        · try rw [HT.out]
          exact Row.upd (S := (· = bb)) hr2 ((Upd.refl _ w2).setIn 1 _) (fun k hk e => hr2.ne_blk hk2 (by decide) (e ▸ hk))
        · try rw [HT.out]
          exact HL.out
        · exact ((Upd.new HN1.out).trans hd2 (fun k _ hk => .inr hk)).setCell (fun _ => .inl rfl) _
        · intro k hk
          rcases hb2 with hb2 | hb2
          · exact .inl (by rw [hb2] at hk; cases A <;> exact hk)
          · rw [hb2] at hk
            injection hk with hk
            exact .inr (hk ▸ HN1.out.size)
end
end Go.Proofs.YtlhlcdjkacglnaaGreatDoor.D
/- Chapter 21 (bag): slices.Clone and slices.Delete at packets; Take, Copy. Printed by genBg2.py. -/
namespace Go.Proofs.YtlhlcdjkacglnaaGreatDoor.D
open Go.RowKit Go.Lap
set_option linter.unusedVariables false
section
variable {w w' : World} {S : Nat → Prop} {bb : Nat} {v : Value} {l : List Pk} {base : Nat}
def ClPost (w : World) (l : List Pk) (e : Ending) (w' : World) : Prop := ∃ v', e = .returned v' ∧ Row w' w.heap.size 111 3 pkE v' l ∧ New w w'
set_option maxHeartbeats 1000000 in
theorem pclone (hs : SlIn w 3 pkE v l) (hl : l.length ≤ 1000) : Calls Tryz.prog 114 #[v] w (ClPost w l) := by
  obtain ⟨A, c, rfl, hlc, hor⟩ := id hs
  have hq := fun (w : World) (a : Option Addr) (n c n' c' : Nat) => Lib.run_eql_slice_nil (P := Tryz.prog) w 194 111 a n c n' c' Tryz.underlying194
  cases A with
  | none =>
    obtain rfl : l = [] := by
      rcases hor with h | ⟨b, off, h, _⟩
      · exact h
      · cases h
    clear hs hor
    go_enter Tryz.func114, Tryz.ntmps114
    go_wp2
    go_ret
    exact ⟨_, rfl, Row.nil _ _ _ _ _, New.refl _⟩
  | some a =>
    have HM1 := Lib.hid (show ([] : List Pk).length + l.length ≤ maxLen by unfold maxLen; simp; omega)
    have HM2 := Lib.hid (show (([] : List Pk).length + l.length) * 32 ≤ 140737488355328 by simp; omega)
    clear hor
    go_enter Tryz.func114, Tryz.ntmps114
    go_wp2_with (at_builtin; have ho0 : Owns _ w.heap.size 111 3 pkE _ ([] : List Pk) := World.ownsRow_made (base := w.heap.size) (e := 111) (size := 3) w #[] 0 (Nat.le_refl _) (by simp) (by simp); refine wpList_app pkTy pkOk rfl (.tmp 5) (.tmp 6) rfl rfl rfl ho0 (hs.alloc _) HM1.out HM2.out (by simp) ?_; intro v1 w1 ho1 hg1 _)
    go_ret
    exact ⟨v1, rfl, Owns.row ho1, ((New.refl w).alloc _).grown hg1 (fun k hk => ho0.blockGe k hk)⟩
theorem zPk (w : World) : (zeroValue 111).run Tryz.prog w = .ok (.agg #[.int .i64 0, .int .i64 0, .string ⟨#[]⟩]) w := by kernel_rfl
def DelPost (w : World) (g off cap : Nat) (l' : List Pk) (e : Ending) (w' : World) : Prop := ∃ n, n = l'.length ∧ e = .returned (.slice (some ⟨g, off, none⟩) n cap) ∧ RowAt w' 111 3 pkE g off cap l' ∧ Upd (· = g) w w'
set_option maxRecDepth 100000 in
set_option maxHeartbeats 4000000 in
theorem pdelete {g off cap : Nat} (h : RowAt w 111 3 pkE g off cap l) (hl : l.length ≤ 1000) {i j : Nat} (hij : i < j) (hj : j ≤ l.length) :
    Calls Tryz.prog 113 #[.slice (some ⟨g, off, none⟩) l.length cap, .int .i64 (i : Int), .int .i64 (j : Int)] w (DelPost w g off cap (l.take i ++ l.drop j)) := by
  have hlc := h.len.1
  have hcm := h.len.2
  unfold maxLen at hcm
  have hi1 : i ≤ l.length := by omega
  have HT := Lib.hid (h.take pkOk hi1)
  have hne : ((i : Int) == (j : Int)) = false := by rw [beq_eq_false_iff_ne]; omega
  obtain ⟨n, hn⟩ : ∃ n, (l.take i ++ l.drop j).length = n := ⟨_, rfl⟩
  have HN := Lib.hid hn
  have hn2 : n = i + (l.length - j) := by rw [← hn, List.length_append, List.length_take, List.length_drop]; omega
  have hil : i ≤ cap := by omega
  have hjc : j ≤ cap := by omega
  have hnl : n < l.length := by omega
  have hnc : n ≤ cap := by omega
  have hcj : ¬ cap = n := by omega
  have HLI := Lib.hid (show i = (l.take i).length by rw [List.length_take]; omega)
  have HRM := Lib.hid (show (l.take i).length + (l.drop j).length ≤ cap by rw [List.length_take, List.length_drop]; omega)
  have HK := Lib.hid (show (l.take i ++ l.drop j).length ≤ n by omega)
  have HK2 := Lib.hid (show n + (l.length - n) ≤ cap by omega)
  have HR := Lib.hid (Row.slIn pkOk (h.row (Nat.zero_le _)))
  clear hn hn2 h
  by_cases hcap : cap = j
  · subst hcap
    have HS := Lib.hid (show SlIn w 3 pkE (.slice (some ⟨g, off, none⟩) 0 0) (l.drop cap) by rw [List.drop_eq_nil_of_le hlc]; exact SlIn.empty _ _ _ _ _)
    go_enter Tryz.func113, Tryz.ntmps113
    go_wp2_with fail
    refine wp_region_held_drew (S := fun w' => True) (by kernel_rfl) (trivial) (fun hHeld => ?_)
    refine tkN (i := 0) rfl ?_
    try simp only [Act.put, sA, sZ, sS]
    refine tkN (i := 1) rfl ?_
    try simp only [Act.put, sA, sZ, sS]
    refine tkN (i := 2) rfl ?_
    try simp only [Act.put, sA, sZ, sS]
    refine tkN (i := 3) rfl ?_
    try simp only [Act.put, sA, sZ, sS]
    refine tkN (i := 4) rfl ?_
    try simp only [Act.put, sA, sZ, sS]
    refine tkN (i := 5) rfl ?_
    try simp only [Act.put, sA, sZ, sS]
    refine stN (i := 6) rfl (fun K hK => ?_)
    refine step_appRoom (g := g) (off := off) (cap := cap) pkTy pkOk rfl (.tmp 22) (.tmp 25) rfl rfl HLI.out HN.out rfl (HT.out.new (New.refl _).drew) (HS.out.new (New.refl _).drew) HRM.out ?_
    intro w2 hr2 hu2 hz2
    refine hK.out _ _ ?_ (fun hHeld => ?_)
    · exact trivial
    clear hK K
    try simp only [Act.put, sA, sZ, sS]
    refine tkN (i := 7) rfl ?_
    try simp only [Act.put, sA, sZ]
    refine wpAnyH_done (by kernel_rfl) ?_ _
    clear hHeld
    have hfz := hr2.frozen
    go_wp2_with (refine wpList_clearR (g := g) (off := off) (k := n) Tryz.underlying194 zPk rfl (by simp [Value.cells, Value.oneCell']) pkOk rfl (.tmp 31) rfl rfl hr2 HK.out HK2.out ?_; intro w3 hr3 hu3 hz3)
    go_ret
    exact ⟨n, HN.out.symm, rfl, hr3, ((Upd.refl _ w).drew.trans hu2 (fun _ _ h => h)).trans hu3 (fun _ _ h => h)⟩
  · have HS := Lib.hid (HR.out.drop_at hj hcap)
    go_enter Tryz.func113, Tryz.ntmps113
    go_wp2_with fail
    refine wp_region_held_drew (S := fun w' => True) (by kernel_rfl) (trivial) (fun hHeld => ?_)
    refine tkN (i := 0) rfl ?_
    try simp only [Act.put, sA, sZ, sS]
    refine tkN (i := 1) rfl ?_
    try simp only [Act.put, sA, sZ, sS]
    refine tkN (i := 2) rfl ?_
    try simp only [Act.put, sA, sZ, sS]
    refine tkN (i := 3) rfl ?_
    try simp only [Act.put, sA, sZ, sS]
    refine tkN (i := 4) rfl ?_
    try simp only [Act.put, sA, sZ, sS]
    refine tkN (i := 5) rfl ?_
    try simp only [Act.put, sA, sZ, sS]
    refine stN (i := 6) rfl (fun K hK => ?_)
    refine step_appRoom (g := g) (off := off) (cap := cap) pkTy pkOk rfl (.tmp 22) (.tmp 25) rfl rfl HLI.out HN.out rfl (HT.out.new (New.refl _).drew) (HS.out.new (New.refl _).drew) HRM.out ?_
    intro w2 hr2 hu2 hz2
    refine hK.out _ _ ?_ (fun hHeld => ?_)
    · exact trivial
    clear hK K
    try simp only [Act.put, sA, sZ, sS]
    refine tkN (i := 7) rfl ?_
    try simp only [Act.put, sA, sZ]
    refine wpAnyH_done (by kernel_rfl) ?_ _
    clear hHeld
    have hfz := hr2.frozen
    go_wp2_with (refine wpList_clearR (g := g) (off := off) (k := n) Tryz.underlying194 zPk rfl (by simp [Value.cells, Value.oneCell']) pkOk rfl (.tmp 31) rfl rfl hr2 HK.out HK2.out ?_; intro w3 hr3 hu3 hz3)
    go_ret
    exact ⟨n, HN.out.symm, rfl, hr3, ((Upd.refl _ w).drew.trans hu2 (fun _ _ h => h)).trans hu3 (fun _ _ h => h)⟩
theorem del_erase {l : List Pk} {i : Nat} : l.take i ++ l.drop (i + 1) = l.eraseIdx i := by rw [List.eraseIdx_eq_take_drop_succ]
theorem btake_no (h : BgAt w bb v l) (i : Int) (hi : ¬ (0 ≤ i ∧ i < l.length)) :
    Calls Tryz.prog 57 #[.pointer (some ⟨bb, 0, none⟩), .int .i64 i] w fun e w' => e = .returned (.tuple #[.agg #[.int .i64 0, .int .i64 0, .string ⟨#[]⟩], .int .i64 212]) ∧ New w w' := by
  have HB := Lib.hid (bhas (h.new ((New.refl w).alloc (.cells #[.int .i64 0, .int .i64 0, .string ⟨#[]⟩] 111))) i)
  rw [decide_eq_false hi] at HB
  clear h hi
  go_enter Tryz.func57, Tryz.ntmps57
  go_wp2_with (go_at_call 111; refine HB.out.mono ?_; rintro e w1 ⟨rfl, rfl⟩)
  exact bodyPost_ret (v := .tuple #[.agg #[.int .i64 0, .int .i64 0, .string ⟨#[]⟩], .int .i64 212]) (by simp [results, Tryz.results57, go_sem]) rfl ⟨rfl, by
    repeat (refine New.setCell ?_ (by simp) _)
    exact (New.refl w).alloc _⟩
set_option maxRecDepth 100000 in
set_option maxHeartbeats 4000000 in
theorem btake (h : BgAt w bb v l) {k : Nat} {x : Pk} (hx : l[k]? = some x) :
    Calls Tryz.prog 57 #[.pointer (some ⟨bb, 0, none⟩), .int .i64 (k : Int)] w (BgPost w bb v (.tuple #[.agg #[.int .i64 x.fr, .int .i64 x.to, .string x.b], .int .i64 0]) (l.eraseIdx k)) := by
  have hk : k < l.length := (List.getElem?_eq_some_iff.1 hx).1
  have hne : l ≠ [] := fun e => by rw [e] at hk; simp at hk
  obtain ⟨g, off, cap, rfl, _, hrow⟩ := h.row.at_ hne
  have hl := h.len
  have c0 := hrow.cell pkOk hx (j := 0) rfl
  have c1 := hrow.cell pkOk hx (j := 1) rfl
  have c2 := hrow.cell pkOk hx (j := 2) rfl
  rw [Nat.add_zero] at c0
  have hk1 : (k : Int) < (l.length : Int) := by omega
  have hk0 : (0 : Int) ≤ (k : Int) := by omega
  have HB := Lib.hid (bhas (h.new ((New.refl w).alloc (.cells #[.int .i64 0, .int .i64 0, .string ⟨#[]⟩] 111))) (k : Int))
  rw [decide_eq_true ⟨hk0, hk1⟩] at HB
  have HH := Lib.hid h
  obtain ⟨hb0, d0, d1, dz⟩ := h.facts
  have hgl := hrow.lt
  have hgb : g ≠ bb := fun e => h.own (by rw [← e]; rfl)
  have HX := Lib.hid hx
  clear h hrow hx
  go_enter Tryz.func57, Tryz.ntmps57
  go_wp2_with (first | (go_at_call 111; refine HB.out.mono ?_; rintro e w1 ⟨rfl, rfl⟩))
  have hN0 := ((New.refl w).alloc (.cells #[.int .i64 0, .int .i64 0, .string ⟨#[]⟩] 111)).alloc (.cells #[.int .i64 x.fr, .int .i64 x.to, .string x.b] 111)
  have hA := Blk.mk_new w 111 #[.int .i64 0, .int .i64 0, .string ⟨#[]⟩]
  have hA2 := hA.alloc (.cells #[.int .i64 x.fr, .int .i64 x.to, .string x.b] 111)
  have hC := Blk.mk_new (w.alloc (.cells #[.int .i64 0, .int .i64 0, .string ⟨#[]⟩] 111)) 111 #[.int .i64 x.fr, .int .i64 x.to, .string x.b]
  rw [World.size_alloc] at hC
  refine (pclone (Row.slIn pkOk (HH.out.new hN0).row) (by omega)).mono ?_
  rintro e w1 ⟨v1, rfl, hr1, hn1⟩
  have hA3 := hA2.new hn1
  have hC3 := hC.new hn1
  have hb1 := HH.out.blk.new (hN0.trans hn1)
  have HN1 := Lib.hid (hN0.trans hn1)
  have hsz : w.heap.size + 2 ≤ w1.heap.size := by have := hn1.size; simp at this; omega
  obtain ⟨g1, o1, cap1, rfl, hge, hrow1⟩ := hr1.at_ hne
  have hge2 : w.heap.size + 2 ≤ g1 := by simp at hge; omega
  have HR1 := Lib.hid hrow1
  clear hA hA2 hC hN0 hn1 hge hrow1 hr1
  go_wp2_with fail
  refine (pdelete HR1.out (by omega) (i := k) (j := k + 1) (by omega) hk).mono ?_
  rintro e w2 ⟨n, hn, rfl, hr2, hu2⟩
  have hA4 := hA3.upd hu2 (by omega)
  have hC4 := hC3.upd hu2 (by omega)
  have hb2 := hb1.upd hu2 (by omega)
  have HU2 := Lib.hid ((Upd.new (S := BgF bb (.slice (some ⟨g, off, none⟩) l.length cap)) HN1.out).trans hu2 (fun i hi h => by omega))
  have HR2 := Lib.hid (hr2.row (base := w.heap.size + 2) hge2)
  rw [← hn] at HR2
  have HNL := Lib.hid hn
  clear hA3 hC3 hb1 hu2 hr2 hn
  have f0 := hb2.cell 1
  have fz := hb2.frozen
  have fs := hb2.lt
  have p0 := hA4.cell 0
  have p1 := hA4.cell 1
  have p2 := hA4.cell 2
  have pz := hA4.frozen
  have ps := hA4.lt
  have q0 := hC4.cell 0
  have q1 := hC4.cell 1
  have q2 := hC4.cell 2
  simp at f0 p0 p1 p2 q0 q1 q2
  have HB2 := Lib.hid hb2
  clear hA4 hC4 hb2
  go_wp2_with fail
  have hu := ((HU2.out.setCell (p := ⟨bb, 1, none⟩) (fun _ => .inl rfl) (.slice (some ⟨g1, o1, none⟩) n cap1)).setNew (p := ⟨w.heap.size, 0, none⟩) (Nat.le_refl _) (.int .i64 x.fr)).setNew (p := ⟨w.heap.size, 1, none⟩) (Nat.le_refl _) (.int .i64 x.to) |>.setNew (p := ⟨w.heap.size, 2, none⟩) (Nat.le_refl _) (.string x.b)
  have hu' : Upd (fun k => k = bb ∨ k = w.heap.size) w2 _ := (((Upd.refl _ w2).setCell (p := ⟨bb, 1, none⟩) (fun _ => .inl rfl) (.slice (some ⟨g1, o1, none⟩) n cap1)).setCell (p := ⟨w.heap.size, 0, none⟩) (fun _ => .inr rfl) (.int .i64 x.fr)).setCell (p := ⟨w.heap.size, 1, none⟩) (fun _ => .inr rfl) (.int .i64 x.to) |>.setCell (p := ⟨w.heap.size, 2, none⟩) (fun _ => .inr rfl) (.string x.b)
  have ho : ∀ j, (Value.slice (some ⟨g1, o1, none⟩) n cap1).ownBlock = some j → j = g1 := fun j hj => by injection hj with hj; exact hj.symm
  exact bodyPost_ret (v := .tuple #[.agg #[.int .i64 x.fr, .int .i64 x.to, .string x.b], .int .i64 0]) (by simp [results, Tryz.results57, go_sem, p0, p1, p2]) rfl
    ⟨.slice (some ⟨g1, o1, none⟩) n cap1, rfl, ⟨(((HB2.out.set_ 1 _).far (by simp; omega) _).far (by simp; omega) _).far (by simp; omega) _, by
      rw [← del_erase]
      exact (HR2.out.upd hu' (fun j hj => by rw [ho j hj]; show ¬ (g1 = bb ∨ g1 = w.heap.size); omega)).lower (Nat.zero_le _), by rw [List.length_eraseIdx_of_lt hk]; omega⟩, hu, fun j hj => .inr (by rw [ho j hj]; omega)⟩
end
end Go.Proofs.YtlhlcdjkacglnaaGreatDoor.D
/- Chapter 21 (bag): Copy; slices.IndexFunc and slices.DeleteFunc at packets; Lose. -/
namespace Go.Proofs.YtlhlcdjkacglnaaGreatDoor.D
open Go.RowKit Go.Lap
set_option linter.unusedVariables false
section
variable {w w' : World} {S : Nat → Prop} {bb : Nat} {v : Value} {l : List Pk} {base : Nat}
set_option maxHeartbeats 1000000 in
theorem bcopy_no (h : BgAt w bb v l) (i : Int) (hi : ¬ (0 ≤ i ∧ i < l.length)) :
    Calls Tryz.prog 56 #[.pointer (some ⟨bb, 0, none⟩), .int .i64 i] w fun e w' => e = .returned (.int .i64 212) ∧ w' = w := by
  have HB := Lib.hid (bhas h i)
  rw [decide_eq_false hi] at HB
  clear h hi
  go_enter Tryz.func56, Tryz.ntmps56
  go_wp2_with (go_at_call 111; refine HB.out.mono ?_; rintro e w1 ⟨rfl, rfl⟩)
  go_ret
  exact ⟨rfl, rfl⟩
set_option maxHeartbeats 1000000 in
theorem bcopy_full (h : BgAt w bb v l) (i : Int) (hi : 0 ≤ i ∧ i < l.length) (hf : l.length = 256) :
    Calls Tryz.prog 56 #[.pointer (some ⟨bb, 0, none⟩), .int .i64 i] w fun e w' => e = .returned (.int .i64 211) ∧ New w w' := by
  have HB := Lib.hid (bhas h i)
  have HL := Lib.hid (bleft h)
  rw [decide_eq_true hi] at HB
  rw [hf] at HL
  clear h hi hf
  go_enter Tryz.func56, Tryz.ntmps56
  go_wp2_with (first | (go_at_call 111; refine HB.out.mono ?_; rintro e w1 ⟨rfl, rfl⟩) | (go_at_call 112; refine HL.out.mono ?_; rintro e w2 ⟨rfl, n2, rfl⟩))
  go_ret
  exact ⟨rfl, (New.refl _).drewN _⟩
set_option maxHeartbeats 1000000 in
theorem bcopy (h : BgAt w bb v l) {k : Nat} {x : Pk} (hx : l[k]? = some x) (hf : l.length < 256) :
    Calls Tryz.prog 56 #[.pointer (some ⟨bb, 0, none⟩), .int .i64 (k : Int)] w (BgPost w bb v (.int .i64 0) (l ++ [x])) := by
  have hk : k < l.length := (List.getElem?_eq_some_iff.1 hx).1
  have hne : l ≠ [] := fun e => by rw [e] at hk; simp at hk
  obtain ⟨g, off, cap, rfl, _, hrow⟩ := h.row.at_ hne
  have c0 := hrow.cell pkOk hx (j := 0) rfl
  have c1 := hrow.cell pkOk hx (j := 1) rfl
  have c2 := hrow.cell pkOk hx (j := 2) rfl
  rw [Nat.add_zero] at c0
  have hk1 : (k : Int) < (l.length : Int) := by omega
  have hk0 : (0 : Int) ≤ (k : Int) := by omega
  have HB := Lib.hid (bhas h (k : Int))
  rw [decide_eq_true ⟨hk0, hk1⟩] at HB
  obtain ⟨q, hq⟩ : ∃ q, 256 - l.length = q + 1 := ⟨255 - l.length, by omega⟩
  have HL := Lib.hid (bleft h)
  rw [hq] at HL
  have hq0 : (((q + 1 : Nat) : Int) == 0) = false := by rw [beq_eq_false_iff_ne]; omega
  have HQ := Lib.hid hq
  have HH := Lib.hid h
  obtain ⟨hb0, d0, d1, dz⟩ := h.facts
  clear h hq hrow hx
  go_enter Tryz.func56, Tryz.ntmps56
  go_wp2_with (first | (go_at_call 111; refine HB.out.mono ?_; rintro e w1 ⟨rfl, hw1⟩; subst w1) | (go_at_call 112; refine HL.out.mono ?_; rintro e w2 ⟨rfl, n2, rfl⟩))
  have hn2 := ((New.refl w).drewN n2).alloc (.cells #[.int .i64 x.fr, .int .i64 x.to, .string x.b] 111)
  refine (bput (HH.out.new hn2) (m := [x]) (SlIn.one (Blk.mk_new _ _ _) pkOk rfl) (by simp)).mono ?_
  rintro e w3 ⟨v', rfl, h1, h2, h3⟩
  go_wp2_with fail
  go_ret
  refine ⟨v', rfl, ?_, Upd.trans (S := BgF bb (.slice (some ⟨g, off, none⟩) l.length cap)) (Upd.new hn2) h2 (fun _ _ h => h), fun j hj => ?_⟩
  · rw [HQ.out, List.take_of_length_le (by simp)] at h1
    exact h1
  · rcases h3 j hj with h | h
    · exact .inl h
    · have := hn2.size
      exact .inr (by omega)

end
end Go.Proofs.YtlhlcdjkacglnaaGreatDoor.D
