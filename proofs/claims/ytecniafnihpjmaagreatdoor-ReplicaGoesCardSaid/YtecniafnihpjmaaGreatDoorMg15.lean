/- The parts RpD, RpN, Law24, joined. -/
import Derived.Test.YtecniafnihpjmaaGreatDoorMg10
import Derived.Deep.DeepCutAuto
import Derived.Deep.CutBlock
import Derived.Test.YtecniafnihpjmaaGreatDoorMg5
import Derived.Test.YtecniafnihpjmaaGreatDoorMg13
import Derived.Test.YtecniafnihpjmaaGreatDoorMg14
/- Chapter 24 (replica): the law's begin: a chain of n replicas. -/
namespace Go.Proofs.YtecniafnihpjmaaGreatDoor
open Go.RowKit Go.Lap C
set_option linter.unusedVariables false
set_option linter.unusedSimpArgs false
section
variable {w w' w0 W wa : World} {S : Nat → Prop} {n k B D a : Nat} {L : ChL} {x : Chn} {R : RpL}
theorem range_snoc {α : Type} (f : Nat → α) (k : Nat) (y : α) : (List.range (k + 1)).map (setD f k y) = (List.range k).map f ++ [y] := by
  rw [List.range_succ, List.map_append, List.map_singleton, setD_same]
  congr 1
  refine List.map_congr_left fun i hi => ?_
  have := List.mem_range.1 hi
  exact setD_ne _ _ (by omega)
/-- One replica more. -/
theorem ChAt.snoc (h : ChAt w k 0 L x) {r m : Nat} {lv' : Value} (hr : RpAt w r 0 R (x.rp k)) (hm : ∀ b, ChF k L b ∨ L.lv.ownBlock = some b → b < m) (hge : ∀ b, RpF r R b → m ≤ b)
    (hrow : Row w' 0 45 1 ptrE lv' ((List.range k).map L.rp ++ [r])) (hg : w.grownBy w' L.lv.ownBlock) :
    ChAt w' (k + 1) 0 { L with lv := lv', rp := setD L.rp k r, rl := setD L.rl k R } x ∧ Upd (fun b => L.lv.ownBlock = some b) w w' ∧ (∀ b, ChF (k + 1) { L with lv := lv', rp := setD L.rp k r, rl := setD L.rl k R } b → ChF k L b ∨ RpF r R b) := by
  have hup : Upd (fun b => L.lv.ownBlock = some b) w w' := (Upd.refl _ w).grown hg (fun i _ e => e)
  have hW : Off w 97 (fun b => L.lv.ownBlock = some b) := Off.row h.l (by decide)
  have hI : Off w 3 (fun b => L.lv.ownBlock = some b) := Off.row h.l (by decide)
  have hcase : ∀ i b, i < k + 1 → RpF (setD L.rp k r i) (setD L.rl k R i) b → (i < k ∧ RpF (L.rp i) (L.rl i) b) ∨ (i = k ∧ RpF r R b) := by
    intro i b hi hb
    by_cases hik : i = k
    · subst hik; rw [setD_same, setD_same] at hb; exact .inr ⟨rfl, hb⟩
    · rw [setD_ne _ _ hik, setD_ne _ _ hik] at hb; exact .inl ⟨by omega, hb⟩
  refine ⟨⟨by rw [range_snoc]; exact hrow, h.un.upd hup (fun b hb e => h.lvF b e (.inr (.inl hb))) hW, h.cs.upd hup (fun b hb e => h.lvF b e (.inr (.inr hb))) hI, fun i hi => ?_, fun i j hi hj hij b hb hb2 => ?_, ?_⟩, hup, ?_⟩
  · dsimp only
    by_cases hik : i = k
    · subst hik; rw [setD_same, setD_same]
      exact hr.upd hup (fun b hb e => by have := hm b (.inr e); have := hge b hb; omega) hW hI
    · rw [setD_ne _ _ hik, setD_ne _ _ hik]
      exact (h.rp i (by omega)).upd hup (fun b hb e => h.lvF b e (.inl ⟨i, by omega, hb⟩)) hW hI
  · dsimp only at hb hb2
    rcases hcase i b hi hb with ⟨h1, h2⟩ | ⟨h1, h2⟩ <;> rcases hcase j b hj hb2 with ⟨h3, h4⟩ | ⟨h3, h4⟩
    · exact h.dj i j h1 h3 hij b h2 h4
    · have := hm b (.inl (.inl ⟨i, h1, h2⟩)); have := hge b h4; omega
    · have := hm b (.inl (.inl ⟨j, h3, h4⟩)); have := hge b h2; omega
    · omega
  · rintro b ⟨i, hi, hb⟩ hu
    dsimp only at hb hu
    rcases hcase i b hi hb with ⟨h1, h2⟩ | ⟨h1, h2⟩
    · exact h.out b ⟨i, h1, h2⟩ hu
    · have := hm b (.inl (.inr (.inl hu))); have := hge b h2; omega
  · rintro b (⟨i, hi, hb⟩ | hb | hb)
    · dsimp only at hb
      rcases hcase i b hi hb with ⟨h1, h2⟩ | ⟨h1, h2⟩
      · exact .inl (.inl ⟨i, h1, h2⟩)
      · exact .inr h2
    · exact .inl (.inr (.inl hb))
    · exact .inl (.inr (.inr hb))
def msI (k : Nat) : List Int := (List.range k).map Int.ofNat
theorem msI_next (k : Nat) : msI (k + 1) = msI k ++ [(k : Int)] := by unfold msI; rw [List.range_succ, List.map_append]; rfl
theorem msI_len (k : Nat) : (msI k).length = k := by unfold msI; simp
/-- Behind k replicas. -/
structure BegRel (w wr : World) (n bx k : Nat) (mv cv : Value) (L : ChL) : Prop where
  ch : ChAt wr k 0 L (Chn.start n)
  eu : L.uv = .slice none 0 0
  ec : L.cv = cv
  ge : ∀ b, ChF k L b → w.heap.size ≤ b
  gl : ∀ b, L.lv.ownBlock = some b → w.heap.size ≤ b
  bx : Blk wr bx 64 #[L.lv, .slice none 0 0, cv]
  cb : Blk wr (w.heap.size + 1) 25 #[.int .u64 1, mv]
  rb : Blk wr w.heap.size 64 #[.slice none 0 0, .slice none 0 0, .slice none 0 0]
  ms : TSl wr 3 1 iEnc mv (cfg0 n).ms
  nw : New w wr
theorem BegRel.step {wr w5 w7 w8 : World} {bx r : Nat} {mv cv lv' : Value} (h : BegRel w wr n bx k mv cv L) (hb1 : w.heap.size + 1 < bx) (hn : New wr w5) (hr : RpAt w5 r 0 R ((Chn.start n).rp k)) (hge : ∀ b, RpF r R b → wr.heap.size ≤ b)
    (hrow : Row w7 0 45 1 ptrE lv' ((List.range k).map L.rp ++ [r])) (hg : w5.grownBy w7 L.lv.ownBlock) (hv : lv'.ownBlock = L.lv.ownBlock ∨ lv'.ownBlock = some w5.heap.size) (hw8 : w8 = w7.setCell ⟨bx, 0, none⟩ lv') :
    ∃ L', BegRel w w8 n bx (k + 1) mv cv L' ∧ L'.lv = lv' := by
  have hm : ∀ b, ChF k L b ∨ L.lv.ownBlock = some b → b < wr.heap.size := fun b hb => hb.elim (h.ch.lt b) (fun e => (h.ch.l.lt b e).2)
  obtain ⟨h1, h2, h3⟩ := (h.ch.new hn).snoc hr hm hge hrow hg
  have hlr := (h.ch.new hn).l
  have hbx7 := (h.bx.new hn).upd h2 (fun e => hlr.ne_blk (h.bx.new hn) (by decide) e)
  have hu8 : Upd (· = bx) w7 w8 := by rw [hw8]; exact (Upd.refl _ w7).setIn 0 _
  refine ⟨_, ⟨h1.box hbx7 hu8, h.eu, h.ec, fun b hb => ?_, fun b hb => ?_, by rw [hw8]; exact hbx7.set_ 0 _, ((h.cb.new hn).upd h2 (fun e => hlr.ne_blk (h.cb.new hn) (by decide) e)).upd hu8 (by omega), ((h.rb.new hn).upd h2 (fun e => hlr.ne_blk (h.rb.new hn) (by decide) e)).upd hu8 (by omega), ((h.ms.new hn).upd h2 (Off.row hlr (by decide))).upd hu8 (Off.blk hbx7 (by decide)), ((h.nw.trans hn).upd h2 h.gl).upd hu8 (fun i e => by omega)⟩, rfl⟩
  · rcases h3 b hb with hb | hb
    · exact h.ge b hb
    · exact Nat.le_trans h.nw.size (hge b hb)
  · dsimp only at hb
    rcases hv with hv | hv
    · rw [hv] at hb; exact h.gl b hb
    · rw [hv] at hb; cases hb; exact Nat.le_trans h.nw.size hn.size
def BegPost (w : World) (n : Nat) (e : Ending) (w' : World) : Prop := ∃ L : ChL, e = .returned (.tuple #[.agg #[L.lv, L.uv, L.cv], .bool true]) ∧ ChAt w' n 0 L (Chn.start n) ∧ (∀ b, ChF n L b → w.heap.size ≤ b) ∧ New w w'
theorem Blk3D {w : World} {g t : Nat} {a b c : Value} (h : Blk w g t #[a, b, c]) : g < w.heap.size ∧ w.cell? ⟨g, 0, none⟩ = some a ∧ w.cell? ⟨g, 1, none⟩ = some b ∧ w.cell? ⟨g, 2, none⟩ = some c ∧ (∀ i, w.frozen? ⟨g, i, none⟩ = false) := ⟨h.lt, h.cell 0, h.cell 1, h.cell 2, h.frozen⟩
theorem blkTwoD (w : World) (o1 : Obj) (t : TypeId) (cs : Array Value) : Blk ((w.alloc o1).alloc (.cells cs t)) (w.heap.size + 1) t cs := by
  have := Blk.mk_new (w.alloc o1) t cs
  rw [World.size_alloc] at this
  exact this
set_option maxRecDepth 100000 in
set_option maxHeartbeats 8000000 in
theorem begin_any (n : Nat) (hn0 : 0 < n) (hn : n ≤ 5) (w : World) : Calls Tryz.prog 23 #[.int .i64 (n : Int)] w (BegPost w n) := by
  have hN := ((New.refl w).alloc (.cells #[.slice none 0 0, .slice none 0 0, .slice none 0 0] 64)).alloc (.cells #[.int .u64 1, .slice none 0 0] 25)
  have hb0 := (Blk.mk_new w 64 #[.slice none 0 0, .slice none 0 0, .slice none 0 0]).alloc (.cells #[.int .u64 1, .slice none 0 0] 25)
  have hb1 := blkTwoD w (.cells #[.slice none 0 0, .slice none 0 0, .slice none 0 0] 64) 25 #[.int .u64 1, .slice none 0 0]
  have HN := Lib.hid hN
  have HB0 := Lib.hid hb0
  have HB1 := Lib.hid hb1
  clear hN hb0 hb1
  go_enter Tryz.func23, Tryz.ntmps23
  go_upto_region 2 with fail
  generalize (w.alloc (.cells #[.slice none 0 0, .slice none 0 0, .slice none 0 0] 64)).alloc (.cells #[.int .u64 1, .slice none 0 0] 25) = W at *
  go_wp2_with fail
  go_loopw [5] (fun i wr => ∃ (k : Nat) (v : Value), k ≤ n ∧ i = .int .i64 (k : Int) ∧ Row wr w.heap.size 3 1 iEnc v (msI k) ∧ Blk wr (w.heap.size + 1) 25 #[.int .u64 1, v] ∧ Blk wr w.heap.size 64 #[.slice none 0 0, .slice none 0 0, .slice none 0 0] ∧ New w wr) (fun i _ => n - (intOf i).toNat)
  case atStart => exact ⟨0, .slice none 0 0, by omega, rfl, Row.nil _ _ _ _ _, HB1.out, HB0.out, HN.out⟩
  case round =>
    obtain ⟨k, v, hk, rfl, hrow, hcb, hrb, hnw⟩ := hrel
    have hk0 : (0 : Int) ≤ (k : Int) := by omega
    by_cases hlt : k < n
    · have hlt2 : (k : Int) < (n : Int) := by omega
      obtain ⟨A, m, c, hv⟩ := hrow.shp
      obtain ⟨d0, d1, d2, dz⟩ := Blk2F hcb
      rw [hv] at d2
      have hn6 := (New.refl wr).alloc (.cells #[.int .i64 (k : Int)] 3)
      have HP6 := Lib.hid (Blk.mk_new wr 3 #[.int .i64 (k : Int)])
      have hr6 := hrow.new hn6
      have HR6X := Lib.hid hr6
      rw [hv] at hr6
      have HR6 := Lib.hid hr6
      have HCB := Lib.hid (hcb.new hn6)
      have HRB := Lib.hid (hrb.new hn6)
      have HN6 := Lib.hid (hnw.trans hn6)
      have HV := Lib.hid hv
      have HLB : Hid (w.heap.size ≤ (wr.alloc (.cells #[.int .i64 (k : Int)] 3)).heap.size ∧ w.heap.size + 1 < wr.heap.size + 1) := Lib.hid ⟨(hnw.trans hn6).size, by have := hcb.lt; omega⟩
      clear hrow hcb hrb hnw hn6 hr6 hv
      go_wp2_with (
        at_builtin
        refine wpList_appR (m := [(k : Int)]) iTy iEncOk rfl (.tmp 16) (.tmp 18) rfl rfl rfl HR6.out (SlIn.one HP6.out iEncOk rfl) (by rw [msI_len]; simp; unfold maxLen; omega) (by rw [msI_len]; simp; omega) HLB.out.1 ?_
        intro v7 w7 h7 hg7 hv7
        rw [← msI_next] at h7
        rw [← HV.out] at hg7 hv7
        have hu7 : Upd (fun b => v.ownBlock = some b) (wr.alloc (.cells #[.int .i64 (k : Int)] 3)) w7 := (Upd.refl _ _).grown hg7 (fun i _ e => e)
        have hcb7 := HCB.out.upd hu7 (fun e => HR6X.out.ne_blk HCB.out (by decide) e)
        have HF : Hid (Row w7 w.heap.size 3 1 iEnc v7 (msI (k + 1)) ∧ Blk w7 (w.heap.size + 1) 25 #[.int .u64 1, v] ∧ Blk w7 w.heap.size 64 #[.slice none 0 0, .slice none 0 0, .slice none 0 0] ∧ New w w7) := Lib.hid ⟨h7, hcb7, HRB.out.upd hu7 (fun e => HR6X.out.ne_blk HRB.out (by decide) e), HN6.out.upd hu7 (fun b hb => (HR6X.out.lt b hb).1)⟩
        obtain ⟨A7, m7, c7, hs7⟩ := h7.shp
        rw [hs7]
        have HS7 := Lib.hid hs7
        have e2 : w7.cell? ⟨w.heap.size + 1, 1, none⟩ = some v := hcb7.cell 1
        rw [HV.out] at e2
        have hfz := hcb7.frozen
        have glt := hcb7.lt
        clear h7 hg7 hv7 hu7 hcb7 hs7 d0 d1 d2 dz)
      go_roundw
      case rel =>
        refine ⟨k + 1, .slice A7 m7 c7, by omega, by go_num, ?_⟩
        obtain ⟨f1, f2, f3, f4⟩ := HF.out
        rw [HS7.out] at f1
        have hu8 : Upd (· = w.heap.size + 1) w7 (w7.setCell ⟨w.heap.size + 1, 1, none⟩ (.slice A7 m7 c7)) := (Upd.refl _ w7).setIn 1 _
        exact ⟨f1.upd hu8 (fun b hb e => f1.ne_blk f2 (by decide) (e ▸ hb)), f2.set_ 1 _, f3.upd hu8 (by omega), f4.upd hu8 (fun i e => by omega)⟩
      case measure => simp [intOf]; omega
    · obtain rfl : k = n := by omega
      have hlt2 : ¬ (k : Int) < (k : Int) := by omega
      obtain ⟨A, m, c, rfl⟩ := hrow.shp
      have hml : m = k := by obtain ⟨A', c', e⟩ := hrow.shape; cases e; exact msI_len k
      subst hml
      obtain ⟨d0, d1, d2, dz⟩ := Blk2F hcb
      have hn6 := ((New.refl wr).alloc (.cells #[.int .u64 1, .slice A m c] 25)).alloc (.cells #[.slice none 0 0, .slice none 0 0, .slice (some ⟨wr.heap.size, 0, none⟩) 1 1] 64)
      have hc6 := (Blk.mk_new wr 25 #[.int .u64 1, .slice A m c]).alloc (.cells #[.slice none 0 0, .slice none 0 0, .slice (some ⟨wr.heap.size, 0, none⟩) 1 1] 64)
      have hx6 := blkTwoD wr (.cells #[.int .u64 1, .slice A m c] 25) 64 #[.slice none 0 0, .slice none 0 0, .slice (some ⟨wr.heap.size, 0, none⟩) 1 1]
      have HCB := Lib.hid (hcb.new hn6)
      have HRB := Lib.hid (hrb.new hn6)
      have HMS : Hid (TSl ((wr.alloc (.cells #[.int .u64 1, .slice A m c] 25)).alloc (.cells #[.slice none 0 0, .slice none 0 0, .slice (some ⟨wr.heap.size, 0, none⟩) 1 1] 64)) 3 1 iEnc (.slice A m c) (cfg0 m).ms) := Lib.hid ((Row.tsl iEncOk hrow).new hn6)
      have HC6 := Lib.hid hc6
      have HX6 := Lib.hid hx6
      have HN6 := Lib.hid (hnw.trans hn6)
      have HNW := Lib.hid hnw
      have hbx : w.heap.size + 1 < wr.heap.size + 1 := by have := hcb.lt; omega
      have HBX := Lib.hid hbx
      clear hrow hcb hrb hnw hn6 hc6 hx6 hbx
      go_upto_region 7 with fail
      generalize (wr.alloc (.cells #[.int .u64 1, .slice A m c] 25)).alloc (.cells #[.slice none 0 0, .slice none 0 0, .slice (some ⟨wr.heap.size, 0, none⟩) 1 1] 64) = w6 at *
      have HREL : Hid (BegRel w w6 m (wr.heap.size + 1) 0 (.slice A m c) (.slice (some ⟨wr.heap.size, 0, none⟩) 1 1) ⟨.slice none 0 0, .slice none 0 0, .slice (some ⟨wr.heap.size, 0, none⟩) 1 1, fun _ => 0, fun _ => ⟨.slice none 0 0, ⟨0, 0, 0⟩, .slice none 0 0, .slice none 0 0⟩⟩) := Lib.hid
        ⟨⟨Row.nil _ _ _ _ _, NtRow.nil _ _, ⟨[⟨cfg0 m, A, c⟩], rfl, .inr ⟨wr.heap.size, 0, 1, #[.int .u64 1, .slice A m c], by simp, Nat.zero_le _, HC6.out, Nat.le_refl _, by decide, by simp, by simp [CfgV.enc, CfgV.sl, cfg0]⟩, (fun p hp => by
            obtain rfl := List.mem_singleton.1 hp
            have hl : (cfg0 m).ms.length = m := msI_len m
            exact ⟨by unfold CfgV.sl; dsimp only; rw [hl]; exact HMS.out, by dsimp only; rw [hl]; omega, (by decide : (1 : Nat) < big)⟩)⟩, (fun i hi => by omega), (fun i j hi => by omega), (fun b ⟨i, hi, _⟩ => by omega)⟩, rfl, rfl, (fun b hb => by
            rcases hb with ⟨i, hi, _⟩ | hb | hb
            · omega
            · cases hb
            · cases hb; exact HNW.out.size), (fun b hb => by cases hb), HX6.out, HCB.out, HRB.out, HMS.out, HN6.out⟩
      clear d0 d1 d2 dz
      go_wp2_with fail
      obtain ⟨wo, rfl⟩ : ∃ wo, wo = wr := ⟨_, rfl⟩
      go_loopw [7, 8] (fun i _ wr => ∃ (k : Nat) (L : ChL), k ≤ m ∧ i = .int .i64 (k : Int) ∧ BegRel w wr m (wo.heap.size + 1) k (.slice A m c) (.slice (some ⟨wo.heap.size, 0, none⟩) 1 1) L) (fun i _ _ => m - (intOf i).toNat)
      case atStart => exact ⟨0, _, by omega, rfl, HREL.out⟩
      case round =>
        obtain ⟨k, L, hk, rfl, hrel⟩ := hrel
        have hk0 : (0 : Int) ≤ (k : Int) := by omega
        have HREL2 := Lib.hid hrel
        obtain ⟨Al, nl, cl, hlv⟩ := hrel.ch.l.shp
        obtain ⟨p0, p1, p2, p3, pz⟩ := Blk3D hrel.bx
        rw [hlv] at p1
        have HLV := Lib.hid hlv
        by_cases hlt : k < m
        · have hlt2 : (k : Int) < (m : Int) := by omega
          obtain ⟨d0, d1, d2, dz⟩ := Blk2F hrel.cb
          clear hrel hlv
          go_wp2_with fail
          refine (rnew (k : Int) (cfg0 m) (v := .slice A m c) HREL2.out.ms.slIn (by have hl : (cfg0 m).ms.length = m := msI_len m; rw [hl]; omega) (by decide : (1 : Nat) < big)).mono ?_
          rintro e w5 h5
          unfold NewPost at h5
          rw [if_pos (cfg0_chk hn0 (by omega))] at h5
          obtain ⟨r, R, rfl, hr, hge, hn5⟩ := h5
          have hn6 := hn5.alloc (.cells #[.pointer (some ⟨r, 0, none⟩)] 45)
          have HP6 := Lib.hid (Blk.mk_new w5 45 #[.pointer (some ⟨r, 0, none⟩)])
          have hr6 := HREL2.out.ch.l.new hn6
          rw [HLV.out] at hr6
          have HR6 := Lib.hid hr6
          have HRP := Lib.hid (hr.new ((New.refl w5).alloc (.cells #[.pointer (some ⟨r, 0, none⟩)] 45)))
          have HGE := Lib.hid hge
          have HN6 := Lib.hid hn6
          have HX6 := Lib.hid (HREL2.out.bx.new hn6)
          have HX5 := HREL2.out.bx.new hn5
          clear p0 p1 p2 p3 pz d0 d1 d2 dz
          obtain ⟨p0, p1, p2, p3, pz⟩ := Blk3D HX5
          rw [HLV.out] at p1
          clear hr hge hn5 hn6 hr6 HX5
          go_wp2_with (
            at_builtin
            refine wpList_appR (m := [r]) ptrTy ptrOk rfl (.tmp 36) (.tmp 38) rfl rfl rfl HR6.out (SlIn.one HP6.out ptrOk rfl) (by simp; unfold maxLen; omega) (by simp; omega) (Nat.zero_le _) ?_
            intro v7 w7 h7 hg7 hv7
            rw [← HLV.out] at hg7 hv7
            obtain ⟨A7, m7, c7, hs7⟩ := h7.shp
            rw [hs7]
            have hou : Upd (fun b => L.lv.ownBlock = some b) (w5.alloc (.cells #[.pointer (some ⟨r, 0, none⟩)] 45)) w7 := (Upd.refl _ _).grown hg7 (fun i _ e => e)
            have hx7 := HX6.out.upd hou (fun e => (HREL2.out.ch.l.new HN6.out).ne_blk HX6.out (by decide) e)
            have HF : Hid (∃ L', BegRel w (w7.setCell ⟨wo.heap.size + 1, 0, none⟩ (.slice A7 m7 c7)) m (wo.heap.size + 1) (k + 1) (.slice A m c) (.slice (some ⟨wo.heap.size, 0, none⟩) 1 1) L' ∧ L'.lv = .slice A7 m7 c7) := Lib.hid (by
              rw [← hs7]
              exact HREL2.out.step HBX.out HN6.out HRP.out HGE.out h7 hg7 hv7 rfl)
            have e1 : w7.cell? ⟨wo.heap.size + 1, 0, none⟩ = some L.lv := hx7.cell 0
            rw [HLV.out] at e1
            have hfz := hx7.frozen
            have glt := hx7.lt
            clear h7 hg7 hv7 hou hx7 hs7 p0 p1 p2 p3 pz)
          go_roundw
          case rel =>
            obtain ⟨L', h1, _⟩ := HF.out
            exact ⟨k + 1, L', by omega, by go_num, h1⟩
          case measure => simp [intOf]; omega
        · obtain rfl : k = m := by omega
          have hlt2 : ¬ (k : Int) < (k : Int) := by omega
          obtain ⟨r0, r1, r2, r3, rz⟩ := Blk3D hrel.rb
          clear hrel hlv
          go_wp2_with fail
          have hu9 : Upd (· = w.heap.size) wr (((wr.setCell ⟨w.heap.size, 0, none⟩ (.slice Al nl cl)).setCell ⟨w.heap.size, 1, none⟩ (.slice none 0 0)).setCell ⟨w.heap.size, 2, none⟩ (.slice (some ⟨wo.heap.size, 0, none⟩) 1 1)) := (((Upd.refl _ wr).setIn 0 _).setIn 1 _).setIn 2 _
          exact bodyPost_ret (v := .tuple #[.agg #[.slice Al nl cl, .slice none 0 0, .slice (some ⟨wo.heap.size, 0, none⟩) 1 1], .bool true]) (by simp [results, Tryz.results23, go_sem, r1, r2, r3]) rfl ⟨L, by rw [HLV.out, HREL2.out.eu, HREL2.out.ec], HREL2.out.ch.box HREL2.out.rb hu9, HREL2.out.ge, HREL2.out.nw.upd hu9 (fun i e => by omega)⟩
end
end Go.Proofs.YtecniafnihpjmaaGreatDoor

/- Chapter 24 (replica): no request is in a list twice; between a batch's start and its place nobody writes one of its keys. No program here. -/
namespace Go.Proofs.YtecniafnihpjmaaGreatDoor
open Go.RowKit Go.Lap C
set_option linter.unusedVariables false
theorem toList_inj24 {a b : ByteArray} (h : a.toList = b.toList) : a = b := by
  rw [ByteArray.toList_eq, ByteArray.toList_eq] at h
  have : a.data = b.data := Array.toList_inj.1 h
  cases a; cases b; simp_all
/-- A list as it should be. -/
def LGood (l : List Btc) : Prop := ∀ (k : Nat) (b : Btc), l[k]? = some b → b.s ≤ k ∧ chk b.l = 0 ∧ ∀ (j : Nat) (a : Btc), j < k → l[j]? = some a → ¬ (a.c = b.c ∧ a.r = b.r) ∧ (b.s ≤ j → meetsB a.l b.l = false)
section
variable {l m : List Btc} {j : Jd} {b : Btc} {x y : Rpl}
theorem LGood.pre (h : LGood m) (hl : l <+: m) : LGood l := fun k b hb => by
  obtain ⟨h1, h2, h3⟩ := h k b (pre_get hl hb)
  exact ⟨h1, h2, fun j a hj ha => h3 j a hj (pre_get hl ha)⟩
theorem LGood.snoc (h : LGood l) (h1 : b.s ≤ l.length) (h2 : chk b.l = 0) (h3 : ∀ (j : Nat) (a : Btc), l[j]? = some a → ¬ (a.c = b.c ∧ a.r = b.r) ∧ (b.s ≤ j → meetsB a.l b.l = false)) : LGood (l ++ [b]) := by
  intro k c hk
  rcases Nat.lt_or_ge k l.length with hlt | hge
  · rw [List.getElem?_append_left hlt] at hk
    obtain ⟨a1, a2, a3⟩ := h k c hk
    refine ⟨a1, a2, fun j a hj ha => a3 j a hj ?_⟩
    rwa [List.getElem?_append_left (by omega)] at ha
  · have hk2 := (List.getElem?_eq_some_iff.1 hk).1
    rw [List.length_append, List.length_singleton] at hk2
    obtain rfl : k = l.length := by omega
    rw [List.getElem?_append_right (Nat.le_refl _), Nat.sub_self] at hk
    cases hk
    refine ⟨h1, h2, fun j a hj ha => h3 j a ?_⟩
    rwa [List.getElem?_append_left hj] at ha
/-- A judge that knows a list. -/
structure JKn (l : List Btc) (j : Jd) : Prop where
  la : j.la = l.length
  wh : ∀ (i : Nat) (b : Btc), l[i]? = some b → ∀ x ∈ b.l, i + 1 ≤ j.when_ x.key
  sn : ∀ b ∈ l, ∃ q v, j.sn b.c = some (q, v) ∧ b.r ≤ q
theorem fold_wh (t : Nat) (k : ByteArray) : ∀ (ws : List Wri) (f : ByteArray → Option Nat), (ws.foldl (fun f x => setD f x.key (some t)) f) k = some t ∨ ((ws.foldl (fun f x => setD f x.key (some t)) f) k = f k ∧ ∀ x ∈ ws, x.key ≠ k)
  | [], f => .inr ⟨rfl, fun _ h => by cases h⟩
  | x :: ws, f => by
    rw [List.foldl_cons]
    rcases fold_wh t k ws (setD f x.key (some t)) with h | ⟨h1, h2⟩
    · exact .inl h
    · by_cases hx : k = x.key
      · left; rw [h1, hx]; exact setD_same _ _ _
      · refine .inr ⟨by rw [h1]; exact setD_ne _ _ hx, fun y hy => ?_⟩
        rcases List.mem_cons.1 hy with rfl | hy
        · exact fun e => hx e.symm
        · exact h2 y hy
theorem JKn.commit (h : JKn l j) (b : Btc) {sn' : Nat → Option (Nat × Vd)} (hs : ∀ a ∈ l ++ [b], ∃ q v, sn' a.c = some (q, v) ∧ a.r ≤ q) : JKn (l ++ [b]) { j.commit b with sn := sn' } := by
  refine ⟨by simp [Jd.commit, h.la], fun i a ha x hx => ?_, hs⟩
  have hi := (List.getElem?_eq_some_iff.1 ha).1
  rw [List.length_append, List.length_singleton] at hi
  have hla := h.la
  unfold Jd.when_ Jd.commit
  dsimp only
  rcases fold_wh (j.la + 1) x.key b.l j.wh with h1 | ⟨h1, h2⟩
  · rw [h1]
    simp only [Option.getD_some]
    omega
  · rw [h1]
    rcases Nat.lt_or_ge i l.length with hlt | hge
    · rw [List.getElem?_append_left hlt] at ha
      exact h.wh i a ha x hx
    · obtain rfl : i = l.length := by omega
      rw [List.getElem?_append_right (Nat.le_refl _), Nat.sub_self] at ha
      cases ha
      exact absurd rfl (h2 x hx)
theorem JKn.load (h : JKn l j) (hc : chk b.l = 0) (hm : j.la < maxT) : JKn (l ++ [b]) (j.load b).1 := by
  unfold Jd.load
  rw [if_neg (by rw [hc]; exact fun e => e rfl), if_neg (by omega)]
  dsimp only
  have hset : (∀ q v, j.sn b.c = some (q, v) → q ≤ b.r) → ∀ a ∈ l ++ [b], ∃ q v, setD j.sn b.c (some (b.r, (⟨j.la + 1, 0⟩ : Vd))) a.c = some (q, v) ∧ a.r ≤ q := by
    intro hq a ha
    by_cases hac : a.c = b.c
    · refine ⟨b.r, _, by rw [hac]; exact setD_same _ _ _, ?_⟩
      rcases List.mem_append.1 ha with ha | ha
      · obtain ⟨q, v, h1, h2⟩ := h.sn a ha
        rw [hac] at h1
        have := hq q v h1
        omega
      · rw [List.mem_singleton.1 ha]; exact Nat.le_refl _
    · rcases List.mem_append.1 ha with ha | ha
      · obtain ⟨q, v, h1, h2⟩ := h.sn a ha
        exact ⟨q, v, by rw [setD_ne _ _ hac]; exact h1, h2⟩
      · rw [List.mem_singleton.1 ha] at hac; exact absurd rfl hac
  cases hsn : j.sn b.c with
  | none => exact h.commit b (hset (fun q v e => by rw [hsn] at e; cases e))
  | some p =>
    obtain ⟨q, v⟩ := p
    dsimp only
    by_cases hlt : b.r < q
    · rw [if_pos hlt]
      refine h.commit b (sn' := j.sn) (fun a ha => ?_)
      rcases List.mem_append.1 ha with ha | ha
      · exact h.sn a ha
      · rw [List.mem_singleton.1 ha]; exact ⟨q, v, hsn, by omega⟩
    · rw [if_neg hlt]
      exact h.commit b (hset (fun q' v' e => by rw [hsn] at e; cases e; omega))
/-- What a judge says is so for the list behind it. -/
def SayOk (l : List Btc) (b : Btc) (j : Jd) : Prop := (j.la = l.length ∧ JKn l j) ∨ (j.la = l.length + 1 ∧ JKn (l ++ [b]) j ∧ LGood (l ++ [b]))
theorem JKn.new_ (h : JKn l j) (hg : LGood l) (hc : chk b.l = 0) (hr : ∀ q v, j.sn b.c = some (q, v) → q < b.r) : SayOk l b (j.new_ b).1 := by
  have hset : ∀ (v : Vd), ∀ a ∈ l, ∃ q u, setD j.sn b.c (some (b.r, v)) a.c = some (q, u) ∧ a.r ≤ q := by
    intro v a ha
    obtain ⟨q, u, h1, h2⟩ := h.sn a ha
    by_cases hac : a.c = b.c
    · rw [hac] at h1
      have := hr q u h1
      exact ⟨b.r, v, by rw [hac]; exact setD_same _ _ _, by omega⟩
    · exact ⟨q, u, by rw [setD_ne _ _ hac]; exact h1, h2⟩
  unfold Jd.new_
  by_cases h1 : j.la < b.s
  · rw [if_pos h1]; exact .inl ⟨h.la, h⟩
  rw [if_neg h1]
  by_cases h2 : maxT ≤ j.la
  · rw [if_pos h2]; exact .inl ⟨h.la, h⟩
  rw [if_neg h2]
  by_cases h3 : j.written b = true
  · rw [if_pos h3]; exact .inl ⟨h.la, h.la, h.wh, hset _⟩
  rw [if_neg h3]
  refine .inr ⟨by simp [Jd.commit, h.la], h.commit b (fun a ha => ?_), hg.snoc (by have := h.la; omega) hc (fun i a ha => ⟨?_, fun hs => ?_⟩)⟩
  · rcases List.mem_append.1 ha with ha | ha
    · exact hset _ a ha
    · rw [List.mem_singleton.1 ha]; exact ⟨b.r, _, setD_same _ _ _, Nat.le_refl _⟩
  · rintro ⟨e1, e2⟩
    obtain ⟨q, u, h4, h5⟩ := h.sn a (List.mem_of_getElem? ha)
    rw [e1] at h4
    have := hr q u h4
    omega
  · cases hm : meetsB a.l b.l with
    | false => rfl
    | true =>
      exfalso
      unfold meetsB hasK at hm
      obtain ⟨x, hx, hy⟩ := List.any_eq_true.1 hm
      obtain ⟨y, hy, he⟩ := List.any_eq_true.1 hy
      have hkey : y.key = x.key := toList_inj24 (by unfold keyEq at he; exact of_decide_eq_true he)
      have hw := h.wh i a ha x hx
      refine h3 ?_
      unfold Jd.written
      exact List.any_eq_true.2 ⟨y, hy, decide_eq_true (by rw [hkey]; omega)⟩
theorem JKn.say (h : JKn l j) (hg : LGood l) : SayOk l b (j.say b).1 := by
  unfold Jd.say
  by_cases hc : chk b.l ≠ 0
  · rw [if_pos hc]; exact .inl ⟨h.la, h⟩
  rw [if_neg hc]
  have hc0 : chk b.l = 0 := Decidable.byContradiction hc
  cases hsn : j.sn b.c with
  | none => exact h.new_ hg hc0 (fun q v e => by rw [hsn] at e; cases e)
  | some p =>
    obtain ⟨q, v⟩ := p
    dsimp only
    by_cases h1 : q = b.r
    · rw [if_pos h1]; exact .inl ⟨h.la, h⟩
    rw [if_neg h1]
    by_cases h2 : b.r < q
    · rw [if_pos h2]; exact .inl ⟨h.la, h⟩
    rw [if_neg h2]
    exact h.new_ hg hc0 (fun q' v' e => by rw [hsn] at e; cases e; omega)
/-- A replica whose list is as it should be. -/
def ROn (x : Rpl) : Prop := LGood x.l ∧ JKn x.l x.j
theorem ROn.same (h : ROn x) (hl : y.l = x.l) (hj : y.j = x.j) : ROn y := by unfold ROn; rw [hl, hj]; exact h
theorem tell_j (x : Rpl) : x.tell.j = x.j := by unfold Rpl.tell; split <;> rfl
theorem ask_j (x : Rpl) : x.ask.j = x.j := by unfold Rpl.ask; split <;> rfl
theorem cleaned_l (x : Rpl) (t : Nat) : (x.cleaned t).l = x.l := by unfold Rpl.cleaned; rw [tell_l]
theorem cleaned_j (x : Rpl) (t : Nat) : (x.cleaned t).j = x.j := by unfold Rpl.cleaned; rw [tell_j]
theorem added_j (x : Rpl) (b : Btc) : (x.added b).j = x.j := by
  unfold Rpl.added
  dsimp only
  split
  · rfl
  · rw [cleaned_j]
theorem some_same (x : Rpl) (ds : Int) (t : Nat) : (x.some_ ds t).l = x.l ∧ (x.some_ ds t).j = x.j := by
  unfold Rpl.some_
  have key : ∀ (is : List Nat) (z : Rpl), z.l = x.l → z.j = x.j → (is.foldl (fun y i => if 1 ≤ t ∧ t + i ≤ x.la then y.send ds 0 (t + i) ((x.l[t + i - 1]?).getD Btc.none) else y) z).l = x.l ∧ (is.foldl (fun y i => if 1 ≤ t ∧ t + i ≤ x.la then y.send ds 0 (t + i) ((x.l[t + i - 1]?).getD Btc.none) else y) z).j = x.j := by
    intro is
    induction is with
    | nil => intro z h1 h2; exact ⟨h1, h2⟩
    | cons i is ih =>
      intro z h1 h2
      rw [List.foldl_cons]
      split
      · exact ih _ h1 h2
      · exact ih _ h1 h2
  exact key _ x rfl rfl
theorem ROn.tick (h : ROn x) : ROn x.tick := by
  unfold Rpl.tick
  dsimp only
  have h1 : ROn (if (nextC x.cf x.id).2 = true then x.some_ (nextC x.cf x.id).1 (x.cl + 1) else x) := by
    split
    · exact h.same (some_same _ _ _).1 (some_same _ _ _).2
    · exact h
  generalize (if (nextC x.cf x.id).2 = true then x.some_ (nextC x.cf x.id).1 (x.cl + 1) else x) = z at h1 ⊢
  refine ROn.same (x := z) h1 ?_ ?_
  · rw [ask_l]; split
    · exact tell_l z
    · rfl
  · rw [ask_j]; split
    · exact tell_j z
    · rfl
theorem ROn.adopt (h : ROn x) (c : Cfg) : ROn (x.adopt c).1 := by
  unfold Rpl.adopt
  split
  · exact h
  · dsimp only
    split
    · exact h
    · refine ROn.same (x := { x with cf := c }) h ?_ ?_
      · rw [ask_l]; split
        · rfl
        · exact cleaned_l _ _
      · rw [ask_j]; split
        · rfl
        · exact cleaned_j _ _
theorem ROn.submit (h : ROn x) (b : Btc) : ROn (x.submit b).1 := by
  unfold Rpl.submit
  split
  · exact h
  · dsimp only
    rcases h.2.say (b := b) h.1 with ⟨h1, h2⟩ | ⟨h1, h2, h3⟩
    · rw [if_neg (by rw [h1]; unfold Rpl.la; omega)]
      exact ⟨h.1, h2⟩
    · rw [if_pos (by rw [h1]; unfold Rpl.la; omega)]
      unfold ROn
      rw [added_l, added_j]
      exact ⟨h3, h2⟩
theorem ROn.forwarded (h : ROn x) (hm : x.l.length < maxT) (n : Nt) (hb : n.t = x.la + 1 → chk n.b.l = 0 → LGood (x.l ++ [n.b])) : ROn (x.forwarded n) := by
  unfold Rpl.forwarded
  by_cases h1 : n.t = x.la + 1
  · rw [if_pos h1]
    by_cases h2 : chk n.b.l ≠ 0
    · rw [if_pos h2]; exact h
    · rw [if_neg h2]
      have hc : chk n.b.l = 0 := Decidable.byContradiction h2
      unfold ROn
      rw [added_l, added_j]
      exact ⟨hb h1 hc, h.2.load hc (by rw [h.2.la]; exact hm)⟩
  · rw [if_neg h1]
    split
    · exact h.same (ask_l _) (ask_j _)
    · split
      · exact h.same (tell_l _) (tell_j _)
      · exact h
theorem ROn.acked (h : ROn x) (n : Nt) : ROn (x.acked n) := by
  unfold Rpl.acked
  split
  · exact h.same (cleaned_l _ _) (cleaned_j _ _)
  · exact h
end
section
variable {n y : Nat} {cs : List Cfg} {nw : Cfg} {L : Nat → List Btc} {x : Rpl} {nt : Nt}
theorem ROn.receive (hx : RpOk n cs nw L y x) (hy : y < n) (hcs : CsOk n cs nw) (hn : NoteOk n cs nw L nt) (hL : ∀ z < n, LGood (L z)) (h : ROn x) (hm : x.l.length < maxT) : ROn (x.receive nt) := by
  unfold Rpl.receive
  by_cases h1 : nt.t = 0 ∨ nt.ds ≠ x.id ∨ nt.ep ≠ x.cf.e ∨ nt.k < 0 ∨ 3 ≤ nt.k
  · rw [if_pos h1]; exact h
  rw [if_neg h1]
  have hep : nt.ep = x.cf.e := Decidable.byContradiction fun he => h1 (.inr (.inr (.inl he)))
  by_cases h2 : (x.side nt.k).2 = true ∧ (x.side nt.k).1 = nt.fr
  · rw [if_pos h2]
    have hside : x.side nt.k = (nt.fr, true) := by rw [pair_of h2.1, h2.2]
    unfold Rpl.side at hside
    rw [hx.id] at hside
    by_cases hk0 : nt.k = 0
    · rw [if_pos hk0] at hside ⊢
      refine h.forwarded hm nt (fun ht _ => ?_)
      have hla : x.la = (L y).length := by unfold Rpl.la; rw [hx.l]
      obtain ⟨s, c, hs, e1, e2, e3, e4, _⟩ := hn
      obtain rfl := hcs.uniq e2 hx.cf (e3.symm.trans hep)
      obtain ⟨k, hk1, hk2⟩ := bef_some hside
      rw [e1] at hk1
      have hget := (e4 hk0).2 s hs (.inl rfl)
      rw [ht, Nat.add_sub_cancel, hla] at hget
      have hp := hx.pre s hs ⟨k, k + 1, by omega, hk1, hk2⟩
      have := List.take_prefix ((L y).length + 1) (L s)
      rw [take_snocB hget, pre_take hp (Nat.le_refl _), List.take_length] at this
      rw [hx.l]
      exact (hL s hs).pre this
    · rw [if_neg hk0]
      split
      · exact h.acked nt
      · exact h.same (some_same _ _ _).1 (some_same _ _ _).2
  · rw [if_neg h2]; exact h
end
/-- All lists are as they should be. -/
def OnOk (n : Nat) (x : Chn) : Prop := ∀ y < n, ROn (x.rp y)
section
variable {n : Nat} {x : Chn}
theorem OnOk.set_ (h : OnOk n x) {k : Nat} {r : Rpl} (hr : ROn r) : OnOk n { x with rp := setD x.rp k r } := by
  intro y hy
  show ROn (setD x.rp k r y)
  by_cases hyk : y = k
  · subst hyk; rw [setD_same]; exact hr
  · rw [setD_ne _ _ hyk]; exact h y hy
theorem OnOk.learn (h : OnOk n x) {k : Nat} (hk : k < n) (e : Nat) : OnOk n (x.learn k e) := by
  unfold Chn.learn
  split
  · exact h.set_ ((h k hk).adopt _)
  · exact h
theorem OnOk.arrive (h : OnOk n x) (hx : ChOk n x) (hm : ∀ y < n, (x.rp y).l.length < maxT) {nt : Nt} (hn : NoteOk n x.cs x.newest x.ls nt) : OnOk n (x.arrive n nt) := by
  unfold Chn.arrive
  split
  · rename_i hc
    have hk : nt.ds.toNat < n := by omega
    exact h.set_ (ROn.receive (hx.rp _ hk) hk hx.cs hn (fun z hz => (h z hz).1) (h _ hk) (hm _ hk))
  · exact h
theorem OnOk.gather (h : OnOk n x) : OnOk n (x.gather n) := fun y hy => h y hy
theorem OnOk.step (h : OnOk n x) (hx : ChOk n x) (hm : ∀ y < n, (x.rp y).l.length < maxT) (hn : 0 < n) (s : Stp) : OnOk n (x.step n s) := by
  have hk : s.node % n < n := Nat.mod_lt _ hn
  unfold Chn.step
  refine OnOk.gather ?_
  unfold Chn.act
  split
  · exact h.set_ ((h _ hk).submit _)
  · split
    · split
      · exact h
      · rename_i nt hnt
        have hmm := List.mem_of_getElem? hnt
        split
        · exact OnOk.arrive (x := { x with un := x.un.eraseIdx (s.at_ % x.un.length) }) h (hx.setUn (fun _ hm => List.mem_of_mem_eraseIdx hm)) hm (hx.un nt hmm)
        · exact h
    · split
      · split
        · exact h
        · exact h
      · split
        · exact h.set_ (h _ hk).tick
        · split
          · split
            · exact h
            · exact h
          · split
            · exact h.learn hk _
            · exact h
theorem OnOk.start : OnOk n (Chn.start n) := fun y hy => ⟨(fun k b hb => by cases hb), ⟨rfl, (fun i b hb => by cases hb), (fun b hb => by cases hb)⟩⟩
end
end Go.Proofs.YtecniafnihpjmaaGreatDoor

/- Chapter 24 (replica): what the walks of the chain's laws share. Printed by genLaw24.py. -/
namespace Go.Proofs.YtecniafnihpjmaaGreatDoor
open Go.RowKit Go.Lap C
set_option linter.unusedVariables false
set_option linter.unusedSimpArgs false
/-- Behind M steps. -/
structure CSt (W wr : World) (n M bx : Nat) (L : ChL) (x : Chn) : Prop where
  ch : ChAt wr n (20 * M) L x
  ok : ChOk n x
  on : OnOk n x
  nb : ChB n (M + 1) x
  cl : x.cs.length ≤ M + 1
  ge : ∀ b, ChF n L b → W.heap.size ≤ b
  bk : Blk wr bx 64 #[L.lv, L.uv, L.cv]
  bg : W.heap.size ≤ bx
  em : ∀ i, i < n → (x.rp i).out = []
  nw : New W wr
section
variable {W w w' wr w5 : World} {n M bx : Nat} {L L' : ChL} {x : Chn} {s : StV}
theorem ChAt.shapes {B : Nat} (h : ChAt w n B L x) : ∃ A1 n1 c1 A2 n2 c2 A3 n3 c3, L.lv = .slice A1 n1 c1 ∧ L.uv = .slice A2 n2 c2 ∧ L.cv = .slice A3 n3 c3 := by
  obtain ⟨A1, n1, c1, h1⟩ := h.l.shp
  obtain ⟨A2, c2, h2⟩ := h.un.shape
  obtain ⟨qs, _, hq3, _⟩ := h.cs
  obtain ⟨A3, n3, c3, h3⟩ := hq3.shp
  exact ⟨A1, n1, c1, A2, _, c2, A3, n3, c3, h1, h2, h3⟩
theorem CSt.new (h : CSt W wr n M bx L x) (hn : New wr w') : CSt W w' n M bx L x := { h with ch := h.ch.new hn, bk := h.bk.new hn, nw := h.nw.trans hn }
theorem CSt.call (h : CSt W wr n M bx L x) (hn0 : 0 < n) (hn : n ≤ 5) (hM : M ≤ 200) (hs : StOk W s) : Calls Tryz.prog 24 #[.agg #[L.lv, L.uv, L.cv], s.val] wr (ChRet wr n (20 * (M + 1)) L (x.step n s.stp)) :=
  (step_any (B := 20 * M) h.ch hn0 (by omega) (by omega) h.nb.ul (hs.new h.nw) h.ok.cs (by have := h.cl; omega) (fun nt hnt => by have := h.nb.un nt hnt; unfold big; omega))
theorem CSt.next (h : CSt W wr n M bx L x) (hn0 : 0 < n) (hM : M ≤ 200) (sp : Stp) (hp : ChPost wr n (20 * (M + 1)) L (x.step n sp) L' w5) (hw : w' = ((w5.setCell ⟨bx, 0, none⟩ L'.lv).setCell ⟨bx, 1, none⟩ L'.uv).setCell ⟨bx, 2, none⟩ L'.cv) : CSt W w' n (M + 1) bx L' (x.step n sp) := by
  have hbx5 := h.bk.upd hp.2.2.2.2 (h.ch.boxF h.bk).1
  have hu : Upd (· = bx) w5 w' := by rw [hw]; exact (((Upd.refl _ w5).setIn 0 _).setIn 1 _).setIn 2 _
  have hl : ∀ y < n, (x.rp y).l.length < maxT := fun y hy => by have := (h.nb.rp y hy).1; unfold maxT; omega
  refine ⟨hp.1.box hbx5 hu, h.ok.step hn0 _, h.on.step h.ok hl hn0 _, h.nb.step hn0 _, ?_, fun b hb => ?_, ?_, h.bg, fun _ _ => rfl, (h.nw.upd hp.2.2.2.2 h.ge).upd hu (fun i e => by have := h.bg; omega)⟩
  · show (x.act n sp).cs.length ≤ _
    have h1 := act_cs x n sp
    have h2 := h.cl
    omega
  · rcases hp.2.2.2.1 b hb with hb | hb
    · exact h.ge b hb
    · exact Nat.le_trans h.nw.size hb
  · rw [hw]; exact ((hbx5.set_ 0 _).set_ 1 _).set_ 2 _
theorem CSt.start {w5 : World} (hn0 : 0 < n) (hn : n ≤ 5) (hch : ChAt w5 n 0 L (Chn.start n)) (hge : ∀ b, ChF n L b → W.heap.size ≤ b) (hnw : New W w5) : CSt W (w5.alloc (.cells #[L.lv, L.uv, L.cv] 64)) n 0 w5.heap.size L (Chn.start n) :=
  ⟨hch.new ((New.refl w5).alloc _), ChOk.start hn0 (by omega), OnOk.start, ChB.start, Nat.le_refl _, hge, Blk.mk_new _ _ _, hnw.size, fun _ _ => rfl, hnw.alloc _⟩
theorem step_at {v : Value} {l : List StV} (h : SlIn W 7 StV.enc v l) {k : Nat} {s : StV} (hk : l[k]? = some s) (hn : New W wr) : ∃ g off cap, v = .slice (some ⟨g, off, none⟩) l.length cap ∧ g < W.heap.size ∧
    wr.cell? ⟨g, off + k * 7, none⟩ = some (.int .i64 s.kind) ∧ wr.cell? ⟨g, off + k * 7 + 1, none⟩ = some (.int .u8 (s.node : Int)) ∧ wr.cell? ⟨g, off + k * 7 + 2, none⟩ = some (.int .u16 (s.at_ : Int)) ∧ wr.cell? ⟨g, off + k * 7 + 3, none⟩ = some (.int .u64 (s.b.c : Int)) ∧
    wr.cell? ⟨g, off + k * 7 + 4, none⟩ = some (.int .u64 (s.b.r : Int)) ∧ wr.cell? ⟨g, off + k * 7 + 5, none⟩ = some (.int .u64 (s.b.s : Int)) ∧ wr.cell? ⟨g, off + k * 7 + 6, none⟩ = some (.slice s.A s.b.l.length s.c) := by
  obtain ⟨A, c, rfl, _, hh⟩ := h
  rcases hh with rfl | ⟨g, off, rfl, hg, hc⟩
  · simp at hk
  have e := fun j u hu => (hn.cells.1 g (off + k * 7 + j) hg).trans (hc k s hk j u hu)
  exact ⟨g, off, c, rfl, hg, e 0 _ rfl, e 1 _ rfl, e 2 _ rfl, e 3 _ rfl, e 4 _ rfl, e 5 _ rfl, e 6 _ rfl⟩
end
end Go.Proofs.YtecniafnihpjmaaGreatDoor
