/- Chapter 26 (cluster): Config, Suspect, Learn. Printed by genCu16.py. -/
import Derived.Test.YtlhlcdjkacglnaaGreatDoorJk1
import Derived.Test.YtlhlcdjkacglnaaGreatDoorJk25
import Derived.Test.YtlhlcdjkacglnaaGreatDoorJk26
namespace Go.Proofs.YtlhlcdjkacglnaaGreatDoor
open Go.RowKit Go.Lap C
set_option linter.unusedVariables false
set_option linter.unusedSimpArgs false
section
variable {w w' W w1 : World} {S F : Nat → Prop} {up B g n m : Nat} {L : CuL} {x x' : Clu}
theorem fold_chkC {c : Cfg} (h : chkC c = true) : ∀ l : List (List UInt8), chkC (foldC c l) = true := by
  intro l
  induction l generalizing c with
  | nil => exact h
  | cons x l ih => exact ih (step_chk h).1
theorem first_chk {n : Nat} (hn : 0 < n) (h5 : n ≤ 5) : chkC (firstC n) = true := by
  have : n = 1 ∨ n = 2 ∨ n = 3 ∨ n = 4 ∨ n = 5 := by omega
  rcases this with rfl | rfl | rfl | rfl | rfl <;> decide
theorem config_chk (h : CuAt w up B L x) {m : Int} (hm : 0 ≤ m ∧ m < 3) : chkC (x.config m) = true := by
  unfold Clu.config
  rw [if_pos hm]
  exact fold_chkC (first_chk (by rw [h.rl]; exact h.nm.1) (by rw [h.rl]; exact h.nm.2.1)) _
theorem config_b (h : CuAt w up B L x) (m : Int) : (x.config m).e < big ∧ (x.config m).ms.length ≤ 1000 := by
  by_cases hm : 0 ≤ m ∧ m < 3
  · have hc := config_chk h hm
    exact ⟨chk_e hc, by have := (chk_parts hc).2.2.2.1; omega⟩
  · unfold Clu.config
    rw [if_neg hm]
    exact ⟨by decide, by decide⟩
theorem log_size {B : Nat} {y : D.Nod} (h : D.NodOk B y) : ∀ v ∈ y.log, v.size ≤ 64 := by
  intro v hv
  unfold D.Nod.log at hv
  obtain ⟨s, _, rfl⟩ := List.mem_map.1 hv
  cases hl : y.lg s with
  | none => decide
  | some u => exact (h.lg s u hl).2
theorem firstF_le {lg : Nat → Option ByteArray} {B : Nat} (h : ∀ s v, lg s = some v → s < B) : ∀ (f s : Nat), s ≤ B → D.firstF lg f s ≤ B
  | 0, s, hs => hs
  | f + 1, s, hs => by
    show (if (lg s).isSome then D.firstF lg f (s + 1) else s) ≤ B
    split
    · rename_i hi
      obtain ⟨v, hv⟩ := Option.isSome_iff_exists.1 hi
      exact firstF_le h f (s + 1) (h s v hv)
    · exact hs
theorem log_len {B : Nat} {y : D.Nod} (h : D.NodOk B y) : y.log.length ≤ B := by
  unfold D.Nod.log
  rw [List.length_map, List.length_range]
  exact firstF_le (fun s v hv => (h.lg s v hv).1) _ 0 (Nat.zero_le _)
def CfgPost (w : World) (c : Cfg) (e : Ending) (w' : World) : Prop := ∃ A n, e = .returned (.agg #[.int .u64 (c.e : Int), .slice A c.ms.length n]) ∧ SlIn w' 1 iEnc (.slice A c.ms.length n) c.ms ∧ New w w'
set_option maxHeartbeats 2000000 in
theorem cConfig_no (m : Int) (hm : ¬ (0 ≤ m ∧ m < 3)) : Calls Tryz.prog 15 #[.pointer (some ⟨up, 0, none⟩), .int .i64 m] w (CfgPost w (x.config m)) := by
  have HR : Hid (x.config m = ⟨0, []⟩) := Lib.hid (by unfold Clu.config; rw [if_neg hm])
  rw [HR.out]
  have hz := Blk.mk_new w 41 #[.int .u64 0, .slice none 0 0]
  have HN := Lib.hid ((New.refl w).alloc (.cells #[.int .u64 0, .slice none 0 0] 41))
  obtain ⟨z0, z1, z2, zz⟩ := Blk2F hz
  by_cases h0 : m < 0
  · clear hm hz
    go_enter Tryz.func15, Tryz.ntmps15
    go_wp2_with fail
    exact bodyPost_ret (v := .agg #[.int .u64 0, .slice none 0 0]) (by simp [results, Tryz.results15, go_sem, z0, z1, z2]) rfl ⟨none, 0, rfl, SlIn.empty _ _ _ _ _, HN.out⟩
  · have h3 : 3 ≤ m := by omega
    clear hm hz
    go_enter Tryz.func15, Tryz.ntmps15
    go_wp2_with fail
    exact bodyPost_ret (v := .agg #[.int .u64 0, .slice none 0 0]) (by simp [results, Tryz.results15, go_sem, z0, z1, z2]) rfl ⟨none, 0, rfl, SlIn.empty _ _ _ _ _, HN.out⟩
set_option maxRecDepth 100000 in
set_option maxHeartbeats 8000000 in
theorem cConfig (h : CuAt w up B L x) (hB : B ≤ 9000000) (henv : C.Env w) {k : Nat} (hk : k < 3) : Calls Tryz.prog 15 #[.pointer (some ⟨up, 0, none⟩), .int .i64 (k : Int)] w (CfgPost w (x.config (k : Int))) := by
  obtain ⟨c, hc⟩ : ∃ c, x.config (k : Int) = c := ⟨_, rfl⟩
  rw [hc]
  have HCC := Lib.hid hc
  clear hc
  have HCE : Hid (x.config (k : Int) = foldC ⟨1, (firstC L.n).ms⟩ ((D.logR 3 x.g (k : Int)).map fun b => b.data.toList)) := Lib.hid (by unfold Clu.config; rw [if_pos (by omega), h.rl, Int.toNat_natCast]; unfold D.logR; rw [if_pos (by exact ⟨by omega, by omega⟩), Int.toNat_natCast, show (fun s : ByteArray => s.toList) = fun b => b.data.toList from funext toList_data]; rfl)
  have HLR : Hid (D.logR 3 x.g (k : Int) = (x.g.nd k).log) := Lib.hid (by unfold D.logR; rw [if_pos (by exact ⟨by omega, by omega⟩), Int.toNat_natCast])
  have hgp := h.pt .gp
  have HLL : Hid ((x.g.nd k).log.length ≤ 10000000) := Lib.hid (by have := log_len (hgp.2.1.nd k hk); omega)
  have HLS : Hid (∀ v ∈ (x.g.nd k).log, v.size ≤ 64) := Lib.hid (log_size (hgp.2.1.nd k hk))
  have HFL : Hid ((firstC L.n).ms.length = L.n) := Lib.hid (by simp [firstC])
  have hn5 : L.n ≤ 5 := h.nm.2.1
  have hN := (New.refl w).alloc (.cells #[.int .u64 0, .slice none 0 0] 41)
  have HZ := Lib.hid (Blk.mk_new w 41 #[.int .u64 0, .slice none 0 0])
  have HA := Lib.hid (h.new hN)
  have HE := Lib.hid (henv.new hN)
  have HN := Lib.hid hN
  have HG := Lib.hid ((HA.out.pt .gp).st)
  have HFV := Lib.hid (HA.out.pt .top).2
  obtain ⟨fA, fc, hfv⟩ := HFV.out.shape
  obtain ⟨g0, c0, c1, c2, c3, c4, c5, c6, c7, c8, cz⟩ := HA.out.top
  rw [hfv] at c5 HFV
  clear h henv hN hgp c0 c1 c2 c6 c7 c8 hfv
  have hk3 : (k : Int) < 3 := by omega
  go_enter Tryz.func15, Tryz.ntmps15
  go_upto_region 3 with fail
  have HWS : Hid ((w.alloc (.cells #[.int .u64 0, .slice none 0 0] 41)).heap.size = w.heap.size + 1) := Lib.hid (World.size_alloc _ _)
  generalize w.alloc _ = W at *
  have HNE : Hid (¬ up = w.heap.size) := Lib.hid (fun e => Blk.ne_ (HA.out.pt .top).1 HZ.out (by decide) e)
  refine wp_region_held_drew (S := fun w' => w'.cell? ⟨up, 3, none⟩ = some (.pointer (some ⟨L.gp, 0, none⟩)) ∧ w'.cell? ⟨up, 4, none⟩ = some (.int .u64 1) ∧ w'.cell? ⟨up, 5, none⟩ = some (.slice fA (firstC L.n).ms.length fc)) (by kernel_rfl) (⟨c3, c4, c5⟩) (fun hHeld => ?_)
  refine tkN (i := 0) rfl ?_
  try simp only [Act.put, sA, sZ, sS]
  refine tkN (i := 1) rfl ?_
  try simp only [Act.put, sA, sZ, sS]
  refine tkN (i := 2) rfl ?_
  try simp only [Act.put, sA, sZ, sS]
  refine tkN (i := 3) rfl ?_
  try simp only [Act.put, sA, sZ, sS]
  refine tkN (i := 4) rfl ?_
  try simp only [Act.put, sA, sZ, sS]
  refine tkN (i := 5) rfl ?_
  try simp only [Act.put, sA, sZ, sS]
  refine tkN (i := 6) rfl ?_
  try simp only [Act.put, sA, sZ, sS]
  refine tkN (i := 7) rfl ?_
  try simp only [Act.put, sA, sZ, sS]
  refine tkN (i := 8) rfl ?_
  try simp only [Act.put, sA, sZ, sS]
  refine stN (i := 9) rfl (fun K hK => ?_)
  go_simp
  refine (D.st_log (HG.out.new (New.refl W).drew) (by omega) (k : Int)).mono ?_
  rintro e w5 ⟨v5, rfl, hv5, hn5w⟩
  have HN5 : Hid (New W w5) := Lib.hid ((New.refl W).drew.trans hn5w)
  have HV5 := Lib.hid hv5
  clear hv5 hn5w
  have d3 := (HN5.out.cells.1 up 3 g0).trans c3
  have d4 := (HN5.out.cells.1 up 4 g0).trans c4
  have d5 := (HN5.out.cells.1 up 5 g0).trans c5
  refine hK.out _ _ ?_ (fun hHeld => ?_)
  · exact ⟨d3, d4, d5⟩
  clear hK K
  try simp only [Act.put, sA, sZ, sS]
  refine stN (i := 10) rfl (fun K hK => ?_)
  go_simp
  refine (C.fold_any 1 _ (firstC L.n).ms _ _ _ (by decide) (by rw [HFL.out]; omega) ((HFV.out.new HN5.out).slIn) (HV5.out.slIn sEncOk) (by rw [HLR.out]; exact HLL.out) (fun v hv => by rw [HLR.out] at hv; have := HLS.out v hv; omega) (HE.out.new HN5.out)).mono ?_
  rintro e w6 ⟨u, rfl, hu, hn6⟩
  have HN6 : Hid (New W w6) := Lib.hid (HN5.out.trans hn6)
  obtain ⟨uA, uc, hus⟩ := hu.form
  rw [hus] at hu ⊢
  have HU6 := Lib.hid hu
  have HZ6 := Lib.hid (HZ.out.new HN6.out)
  clear hu hn6 hus
  have e3 := (HN6.out.cells.1 up 3 g0).trans c3
  have e4 := (HN6.out.cells.1 up 4 g0).trans c4
  have e5 := (HN6.out.cells.1 up 5 g0).trans c5
  refine hK.out _ _ ?_ (fun hHeld => ?_)
  · exact ⟨e3, e4, e5⟩
  clear hK K
  try simp only [Act.put, sA, sZ, sS]
  refine stN (i := 11) rfl (fun K hK => ?_)
  obtain ⟨z0, z1, z2, zz⟩ := Blk2F HZ6.out
  have HUX : Hid (Upd (· = w.heap.size) w6 ((w6.setCell ⟨w.heap.size, 0, none⟩ (.int .u64 ((foldC ⟨1, (firstC L.n).ms⟩ ((D.logR 3 x.g (k : Int)).map fun b => b.data.toList)).e : Int))).setCell ⟨w.heap.size, 1, none⟩ (.slice uA (foldC ⟨1, (firstC L.n).ms⟩ ((D.logR 3 x.g (k : Int)).map fun b => b.data.toList)).ms.length uc))) := Lib.hid (((Upd.refl _ w6).setIn 0 _).setIn 1 _)
  have f3 := (keepR HUX.out (b := up) (Nat.lt_of_lt_of_le g0 HN6.out.size) HNE.out 3).trans e3
  have f4 := (keepR HUX.out (b := up) (Nat.lt_of_lt_of_le g0 HN6.out.size) HNE.out 4).trans e4
  have f5 := (keepR HUX.out (b := up) (Nat.lt_of_lt_of_le g0 HN6.out.size) HNE.out 5).trans e5
  go_simp
  refine hK.out _ _ ?_ (fun hHeld => ?_)
  · exact ⟨f3, f4, f5⟩
  clear hK K
  try simp only [Act.put, sA, sZ, sS]
  refine wpAnyH_done (by kernel_rfl) ?_ _
  clear hHeld
  rotate_left
  have HZX := Lib.hid ((HZ6.out.set_ 0 (.int .u64 ((foldC ⟨1, (firstC L.n).ms⟩ ((D.logR 3 x.g (k : Int)).map fun b => b.data.toList)).e : Int))).set_ 1 (.slice uA (foldC ⟨1, (firstC L.n).ms⟩ ((D.logR 3 x.g (k : Int)).map fun b => b.data.toList)).ms.length uc))
  have HUY : Hid (SlIn ((w6.setCell ⟨w.heap.size, 0, none⟩ (.int .u64 ((foldC ⟨1, (firstC L.n).ms⟩ ((D.logR 3 x.g (k : Int)).map fun b => b.data.toList)).e : Int))).setCell ⟨w.heap.size, 1, none⟩ (.slice uA (foldC ⟨1, (firstC L.n).ms⟩ ((D.logR 3 x.g (k : Int)).map fun b => b.data.toList)).ms.length uc)) 1 iEnc (.slice uA (foldC ⟨1, (firstC L.n).ms⟩ ((D.logR 3 x.g (k : Int)).map fun b => b.data.toList)).ms.length uc) (foldC ⟨1, (firstC L.n).ms⟩ ((D.logR 3 x.g (k : Int)).map fun b => b.data.toList)).ms) := Lib.hid (C.slIn_cfgSet HU6.out HZ6.out (by simp))
  have HNX : Hid (New w ((w6.setCell ⟨w.heap.size, 0, none⟩ (.int .u64 ((foldC ⟨1, (firstC L.n).ms⟩ ((D.logR 3 x.g (k : Int)).map fun b => b.data.toList)).e : Int))).setCell ⟨w.heap.size, 1, none⟩ (.slice uA (foldC ⟨1, (firstC L.n).ms⟩ ((D.logR 3 x.g (k : Int)).map fun b => b.data.toList)).ms.length uc))) := Lib.hid ((HN.out.trans HN6.out).upd HUX.out (fun k e => by omega))
  generalize foldC ⟨1, (firstC L.n).ms⟩ ((D.logR 3 x.g (k : Int)).map fun b => b.data.toList) = cf at *
  obtain rfl : cf = c := HCE.out.symm.trans HCC.out
  clear e3 e4 e5 f3 f4 f5 z0 z1 z2 zz c3 c4 c5 d3 d4 d5
  obtain ⟨z0, z1, z2, zz⟩ := Blk2F HZX.out
  generalize World.setCell _ ⟨w.heap.size, 1, none⟩ _ = wf at *
  go_wp2_with fail
  exact bodyPost_ret (v := .agg #[.int .u64 (cf.e : Int), .slice uA cf.ms.length uc]) (by simp [results, Tryz.results15, go_sem, z0, z1, z2]) rfl ⟨uA, uc, rfl, HUY.out, HNX.out⟩
theorem learn_eq {x : Clu} {i m : Int} {r : Rpl} (hx : x.rep i = some r) (hm : 0 ≤ m ∧ m < 3) : x.learn i m = if (r.adopt (x.config m)).2 = 0 then ((x.setR i (r.adopt (x.config m)).1).flush i, 0) else (x.setR i (r.adopt (x.config m)).1, 262) := by
  unfold Clu.learn
  rw [hx]
  exact if_pos hm
set_option maxHeartbeats 4000000 in
theorem cLearn (h : CuAt w up B L x) (hok : CluOk L.m B x) (hB : B ≤ 8000000) (henv : C.Env w) (i m : Int) (hI : inI i) : Calls Tryz.prog 13 #[.pointer (some ⟨up, 0, none⟩), .int .i64 i, .int .i64 m] w (CActI w up (B + 30) L (x.learn i m)) := by
  obtain ⟨R, hR⟩ : ∃ R, x.learn i m = R := ⟨_, rfl⟩
  rw [hR]
  have HRR := Lib.hid hR
  have H := Lib.hid h
  have HOK := Lib.hid hok
  have HE := Lib.hid henv
  clear hR
  cases hx : x.rep i with
  | none =>
    obtain rfl : (x, (261 : Int)) = R := by rw [← HRR.out]; unfold Clu.learn; rw [hx]
    have HX := Lib.hid hx
    have HI := Lib.hid hI
    clear h hok hx hI henv
    go_enter Tryz.func13, Tryz.ntmps13
    go_wp2_with fail
    refine (Replica_no H.out i HI.out HX.out).mono ?_
    rintro e w1 ⟨rfl, rfl⟩
    go_wp2_with fail
    go_ret
    exact ⟨rfl, (Turned.refl H.out).mono (by omega)⟩
  | some r =>
    obtain ⟨k, rfl, hr, hg⟩ := rep_at hx
    have HX := Lib.hid hx
    have HRP := Lib.hid (h.pt (.rp k) r hr)
    have HN := Lib.hid (rpn_of h hok (by omega) hr)
    have HR := Lib.hid hr
    have HG := Lib.hid hg
    clear h hok hr hg hx hI henv
    by_cases hm : 0 ≤ m ∧ m < 3
    · obtain ⟨q, rfl, hq⟩ : ∃ q : Nat, m = (q : Int) ∧ q < 3 := ⟨m.toNat, by omega, by omega⟩
      have HEQ := Lib.hid (learn_eq HX.out hm)
      have HCB := Lib.hid (config_b H.out (q : Int))
      have hq0 : ¬ (q : Int) < 0 := by omega
      have hq3 : ¬ (3 : Int) ≤ (q : Int) := by omega
      have HQ := Lib.hid hq
      clear hm hq
      go_enter Tryz.func13, Tryz.ntmps13
      go_wp2_with fail
      refine (Replica_yes H.out HR.out HG.out).mono ?_
      rintro e w1 ⟨rfl, rfl⟩
      go_wp2_with fail
      refine (cConfig H.out (by omega) HE.out HQ.out).mono ?_
      rintro e w2 ⟨cA, cn, rfl, hsl, hn2⟩
      have HSL := Lib.hid hsl
      have HN2 := Lib.hid hn2
      have HRP2 := Lib.hid (HRP.out.new hn2)
      clear hsl hn2
      go_wp2_with fail
      refine (radopt HRP2.out (x.config (q : Int)) HSL.out HCB.out.2 HCB.out.1 (by omega)).mono ?_
      rintro e w3 ⟨rfl, hp3⟩
      have HP3 := Lib.hid (RpPost.pre HN2.out hp3)
      clear hp3
      by_cases ha : (r.adopt (x.config (q : Int))).2 = 0
      · obtain rfl : ((x.setR (k : Int) (r.adopt (x.config (q : Int))).1).flush (k : Int), (0 : Int)) = R := by rw [← HRR.out, HEQ.out, if_pos ha]
        rw [ha]
        clear ha
        go_wp2_with fail
        refine (cFlushAfter H.out (by omega) (by omega) HR.out HP3.out (HN.out.adopt _) (HOK.out.wt _)).mono ?_
        rintro e w4 ⟨rfl, ht4⟩
        have HT := Lib.hid (ht4.mono (show B + 10 + 1 ≤ B + 30 by omega))
        clear ht4
        go_wp2_with fail
        go_ret
        exact ⟨rfl, HT.out⟩
      · obtain rfl : (x.setR (k : Int) (r.adopt (x.config (q : Int))).1, (262 : Int)) = R := by rw [← HRR.out, HEQ.out, if_neg ha]
        obtain ⟨er, her⟩ : ∃ er, (r.adopt (x.config (q : Int))).2 = er := ⟨_, rfl⟩
        rw [her] at ha ⊢
        have ha1 : (er == 0) = false := by simpa using ha
        have ha2 : (er != 0) = true := by simpa using ha
        have HT := Lib.hid ((H.out.turnR HR.out (show B ≤ B + 10 by omega) HP3.out).mono (show B + 10 ≤ B + 30 by omega))
        clear ha her
        go_wp2_with fail
        go_ret
        exact ⟨rfl, HT.out⟩
    · obtain rfl : (x, (261 : Int)) = R := by rw [← HRR.out]; unfold Clu.learn; rw [HX.out]; exact (if_neg hm).symm
      by_cases h0 : m < 0
      · clear hm
        go_enter Tryz.func13, Tryz.ntmps13
        go_wp2_with fail
        refine (Replica_yes H.out HR.out HG.out).mono ?_
        rintro e w1 ⟨rfl, rfl⟩
        go_wp2_with fail
        go_ret
        exact ⟨rfl, (Turned.refl H.out).mono (by omega)⟩
      · have h3 : 3 ≤ m := by omega
        clear hm
        go_enter Tryz.func13, Tryz.ntmps13
        go_wp2_with fail
        refine (Replica_yes H.out HR.out HG.out).mono ?_
        rintro e w1 ⟨rfl, rfl⟩
        go_wp2_with fail
        go_ret
        exact ⟨rfl, (Turned.refl H.out).mono (by omega)⟩
def Clu.suspect (x : Clu) (m i : Int) : Clu × Int := match atL x.rs i with
  | none => (x, 261)
  | some _ => if 0 ≤ m ∧ m < 3 then ({ x with g := x.g.propose m.toNat (str (showL false (x.config m).e i.toNat)) }, 0) else (x, 261)
theorem dig20 (u : Nat) (hu : u < big) : (Lib.decDigits u).length ≤ 20 := by
  rw [Lib.decDigits_length]
  by_cases h : u = 0
  · subst h; decide +kernel
  · have := Lib.numDigits_eq u (by omega) hu
    split at this <;> omega
theorem show_size (j : Bool) (e n : Nat) (he : e < big) (hn : n < big) : 1 ≤ (str (showL j e n)).size ∧ (str (showL j e n)).size ≤ 64 := by
  have h1 := dig20 e he
  have h2 := dig20 n hn
  rw [str_size]
  have h3 : (wordL j).length ≤ 10 := by cases j <;> decide
  unfold showL
  simp only [List.length_append, List.length_cons]
  omega
theorem fieldC (e : Nat) (A : Option Addr) (n c : Nat) (w : World) : (Instr.field 41 (.agg #[.int .u64 (e : Int), .slice A n c]) 0).run Tryz.prog w = .ok (.int .u64 (e : Int)) w := by kernel_rfl
set_option maxRecDepth 100000 in
set_option maxHeartbeats 8000000 in
theorem cSuspect (h : CuAt w up B L x) (hB : B ≤ 8000000) (henv : C.Env w) (m i : Int) : Calls Tryz.prog 12 #[.pointer (some ⟨up, 0, none⟩), .int .i64 m, .int .i64 i] w (CActI w up (B + 30) L (x.suspect m i)) := by
  obtain ⟨R, hR⟩ : ∃ R, x.suspect m i = R := ⟨_, rfl⟩
  rw [hR]
  have HRR := Lib.hid hR
  have H := Lib.hid h
  have HE := Lib.hid henv
  clear hR
  by_cases hm : 0 ≤ m ∧ m < 3
  · obtain ⟨q, rfl, hq⟩ : ∃ q : Nat, m = (q : Int) ∧ q < 3 := ⟨m.toNat, by omega, by omega⟩
    have hq0 : ¬ (q : Int) < 0 := by omega
    have hq3 : ¬ (3 : Int) ≤ (q : Int) := by omega
    rcases atL_cases L.n i with ⟨k, rfl, hk⟩ | hno
    · obtain ⟨r, hr⟩ := h.rs_at hk
      have HSZ := Lib.hid (show_size false (x.config (q : Int)).e k (config_b h _).1 (by have := h.nm; unfold big; omega))
      obtain rfl : ({ x with g := D.proposeG 3 x.g (q : Int) (str (showL false (x.config (q : Int)).e k)) }, (0 : Int)) = R := by
        rw [← HRR.out]; unfold Clu.suspect D.proposeG; rw [atL_nat, hr]; dsimp only; rw [if_pos hm, Int.toNat_natCast, Int.toNat_natCast, if_pos ⟨⟨by omega, by omega⟩, HSZ.out⟩]
      have HRES : Hid (D.proposeR 3 (q : Int) (str (showL false (x.config (q : Int)).e k)) = 0) := Lib.hid (by unfold D.proposeR; rw [if_pos ⟨by omega, by omega⟩, if_pos HSZ.out])
      have HCB := Lib.hid (config_b h (q : Int))
      have HK := Lib.hid hk
      have hk5 : k < 5 := by have := h.nm; omega
      have HQ := Lib.hid hq
      clear h henv hm hq hk hr
      go_enter Tryz.func12, Tryz.ntmps12
      go_wp2_with fail
      refine (cnode H.out HK.out).mono ?_
      rintro e W ⟨rfl, rfl⟩
      go_upto_region 3 with fail
      have g0 := H.out.top.lt
      have c3 := H.out.top.c3
      have hfd := fun A n c w => fieldC (x.config (q : Int)).e A n c w
      refine wp_region_held_drew (S := fun w' => w'.cell? ⟨up, 3, none⟩ = some (.pointer (some ⟨L.gp, 0, none⟩))) (by kernel_rfl) (c3) (fun hHeld => ?_)
      refine tkN (i := 0) rfl ?_
      try simp only [Act.put, sA, sZ, sS]
      refine tkN (i := 1) rfl ?_
      try simp only [Act.put, sA, sZ, sS]
      refine tkN (i := 2) rfl ?_
      try simp only [Act.put, sA, sZ, sS]
      refine tkN (i := 3) rfl ?_
      try simp only [Act.put, sA, sZ, sS]
      refine tkN (i := 4) rfl ?_
      try simp only [Act.put, sA, sZ, sS]
      refine tkN (i := 5) rfl ?_
      try simp only [Act.put, sA, sZ, sS]
      refine tkN (i := 6) rfl ?_
      try simp only [Act.put, sA, sZ, sS]
      refine tkN (i := 9) rfl ?_
      try simp only [Act.put, sA, sZ, sS]
      refine stN (i := 7) rfl (fun K hK => ?_)
      go_simp
      refine (cConfig (H.out.new (New.refl W).drew) (by omega) (HE.out.new (New.refl W).drew) HQ.out).mono ?_
      rintro e w5 ⟨cA, cn, rfl, hsl, hn5⟩
      have HN5 : Hid (New W w5) := Lib.hid ((New.refl W).drew.trans hn5)
      have d3 := (HN5.out.cells.1 up 3 g0).trans c3
      clear hsl hn5
      refine hK.out _ _ ?_ (fun hHeld => ?_)
      · exact d3
      clear hK K
      try simp only [Act.put, sA, sZ, sS]
      refine tkN (i := 8) rfl ?_
      try simp only [Act.put, sA, sZ, sS]
      refine stN (i := 10) rfl (fun K hK => ?_)
      go_simp
      refine (C.show_any false (x.config (q : Int)).e (k : Int) w5 HCB.out.1 (by omega) (HE.out.new HN5.out)).mono ?_
      rintro e w6 ⟨rfl, hn6⟩
      rw [show (max (k : Int) 0).toNat = k by omega]
      have HN6 : Hid (New W w6) := Lib.hid (HN5.out.trans hn6)
      have e3 := (HN6.out.cells.1 up 3 g0).trans c3
      clear hn6
      refine hK.out _ _ ?_ (fun hHeld => ?_)
      · exact e3
      clear hK K
      try simp only [Act.put, sA, sZ, sS]
      refine stN (i := 11) rfl (fun K hK => ?_)
      go_simp
      refine (D.st_propose ((H.out.new HN6.out).pt .gp).st (by omega) (q : Int) (str (showL false (x.config (q : Int)).e k))).mono ?_
      rintro e w7 ⟨rfl, hg7, hu7⟩
      have HT : Hid (Turned W up (B + 1) L { x with g := D.proposeG 3 x.g (q : Int) (str (showL false (x.config (q : Int)).e k)) } w7) := Lib.hid (Turned.pre HN6.out ((H.out.new HN6.out).turnG (by omega) hg7 hu7))
      have f3 := (keepR hu7 (b := up) (Nat.lt_of_lt_of_le g0 HN6.out.size) (fun h => h.elim (H.out.dj .top .gp (by simp) up rfl) (fun h => by have := HN6.out.size; omega)) 3).trans e3
      clear hg7 hu7
      refine hK.out _ _ ?_ (fun hHeld => ?_)
      · exact f3
      clear hK K
      try simp only [Act.put, sA, sZ, sS]
      refine tkN (i := 12) rfl ?_
      try simp only [Act.put, sA, sZ, sS]
      refine wpAnyH_done (by kernel_rfl) ?_ _
      clear hHeld
      rotate_left
      rw [HRES.out]
      have HT2 := Lib.hid (HT.out.mono (show B + 1 ≤ B + 30 by omega))
      clear c3 d3 e3 f3 hfd
      go_wp2_with fail
      go_ret
      exact ⟨rfl, HT2.out⟩
    · obtain rfl : (x, (261 : Int)) = R := by rw [← HRR.out]; unfold Clu.suspect; rw [atL_none (l := x.rs) (by rw [h.rl]; exact hno)]
      have HN := Lib.hid hno
      clear h henv hm hq hno
      go_enter Tryz.func12, Tryz.ntmps12
      go_wp2_with fail
      refine (cnode_no H.out i HN.out).mono ?_
      rintro e w1 ⟨rfl, rfl⟩
      go_wp2_with fail
      go_ret
      exact ⟨rfl, (Turned.refl H.out).mono (by omega)⟩
  · obtain rfl : (x, (261 : Int)) = R := by
      rw [← HRR.out]
      unfold Clu.suspect
      split
      · rfl
      · exact (if_neg hm).symm
    by_cases h0 : m < 0
    · clear hm
      go_enter Tryz.func12, Tryz.ntmps12
      go_wp2_with fail
      go_ret
      exact ⟨rfl, (Turned.refl H.out).mono (by omega)⟩
    · have h3 : 3 ≤ m := by omega
      clear hm
      go_enter Tryz.func12, Tryz.ntmps12
      go_wp2_with fail
      go_ret
      exact ⟨rfl, (Turned.refl H.out).mono (by omega)⟩
end
end Go.Proofs.YtlhlcdjkacglnaaGreatDoor
/- Chapter 26 (cluster): a cluster that is being made. -/
namespace Go.Proofs.YtlhlcdjkacglnaaGreatDoor
open Go.RowKit Go.Lap C
set_option linter.unusedVariables false
set_option linter.unusedSimpArgs false
def Clu.new_ (n m : Nat) : Clu := ⟨(List.range n).map fun (i : Nat) => Rpl.new_ (i : Int) (firstC n), fun _ => false, (List.range m).map fun (i : Nat) => Cli.new_ i, D.Gm.zero, [], fun _ => []⟩
/-- A cluster with j replicas of n, and m clients so far. -/
def Clu.part (n j m : Nat) : Clu := ⟨(List.range j).map fun (i : Nat) => Rpl.new_ (i : Int) (firstC n), fun _ => false, (List.range m).map fun (i : Nat) => Cli.new_ i, D.Gm.zero, [], fun _ => []⟩
def PaCells (L : CuL) (dv : Value) : Array Value := #[L.rv, .map (some L.gm), L.cv, .pointer (some ⟨L.gp, 0, none⟩), .int .u64 1, L.fv, .pointer (some ⟨L.bb, 0, none⟩), .map (some L.wm), dv]
structure PAt (w : World) (b0 up : Nat) (L : CuL) (x : Clu) (fl : List Int) (dv : Value) : Prop where
  blk : Blk w up 101 (PaCells L dv)
  fv : Row w b0 3 1 iEnc L.fv fl
  rl : x.rs.length = L.n
  cl : x.cs.length = L.m
  pt : ∀ p, p ≠ .top → p ≠ .dm → CuP w up 1 L x p
  dj : ∀ p q, p ≠ .dm → q ≠ .dm → p ≠ q → ∀ k, CuF up L p k → ¬ CuF up L q k
  nw : ∀ p, p ≠ .dm → ∀ k, CuF up L p k → b0 ≤ k
  wv : L.wv = fun _ => .slice none 0 0
section
variable {w w' W : World} {b0 up n j m : Nat} {L L' : CuL} {x x' : Clu} {fl fl' : List Int} {dv dv' : Value}
theorem PAt.cln (h : PAt w b0 up L x fl dv) : ∀ p, p ≠ .dm → ∀ k, CuF up L p k → k < w.heap.size ∧ Cln w k := by
  intro p hd k hk
  by_cases ht : p = .top
  · subst ht
    cases hk
    exact ⟨h.blk.lt, Cln.blk h.blk (by decide) (by decide)⟩
  have hp := h.pt p ht hd
  cases p with
  | top => exact absurd rfl ht
  | rv => exact ⟨(Row.lt hp k hk).2, Cln.row hp (by decide) (by decide) hk⟩
  | rp i =>
    have h1 := hp _ (List.getElem?_eq_getElem (by rw [h.rl]; exact hk.1))
    exact ⟨h1.lt k hk.2, fun cs => ⟨fun hb => h1.offW k cs hb hk.2, fun hb => h1.offI k cs hb hk.2⟩⟩
  | gm => obtain ⟨m, _, hm⟩ := hp; cases hk; exact ⟨hm.lt, Cln.map hm⟩
  | cv => exact ⟨(Row.lt hp k hk).2, Cln.row hp (by decide) (by decide) hk⟩
  | cl i =>
    have h1 := hp _ (List.getElem?_eq_getElem (by rw [h.cl]; exact hk.1))
    exact ⟨h1.lt k hk.2, fun cs => ⟨fun hb => h1.off (by decide) (by decide) k cs hb hk.2, fun hb => h1.off (by decide) (by decide) k cs hb hk.2⟩⟩
  | gp => exact hp.2.2 k hk
  | bg => exact ⟨D.BgAt.lt hp k hk, bag_cln hp k hk⟩
  | wt => exact WtAt.cln hp k hk
  | dm => exact absurd rfl hd
/-- Some parts turn, or are made. -/
theorem PAt.step (h : PAt w b0 up L x fl dv) (P : Pt → Prop) (hP : ∀ p, P p → p ≠ .dm) {S : Nat → Prop} (hu : Upd S w w') (hS : ∀ k, S k → (∃ p, P p ∧ CuF up L p k) ∨ L.fv.ownBlock = some k)
    (hblk : Blk w' up 101 (PaCells L' dv')) (hfv : Row w' b0 3 1 iEnc L'.fv fl') (hl : x'.rs.length = L'.n ∧ x'.cs.length = L'.m)
    (hW : Off w 34 S) (hI : (∀ k, S k → ∃ p, P p ∧ CuF up L p k) ∨ L.n = 0)
    (hold : ∀ p, ¬ P p → p ≠ .dm → CuF up L' p = CuF up L p ∧ (p ≠ .top → CuP w' up 1 L x p → CuP w' up 1 L' x' p))
    (hnew : ∀ p, P p → p ≠ .top → CuP w' up 1 L' x' p)
    (hb : ∀ p, P p → ∀ k, CuF up L' p k → CuF up L p k ∨ w.heap.size ≤ k)
    (hdj : ∀ p q, P p → P q → p ≠ q → ∀ k, CuF up L' p k → ¬ CuF up L' q k) (hb0 : b0 ≤ w.heap.size) (hwv : L'.wv = L.wv) : PAt w' b0 up L' x' fl' dv' := by
  have hcl := h.cln
  have hIf : ∀ k, L.fv.ownBlock = some k → ¬ Cln w k := fun k hk hc => by
    rcases h.fv with ⟨hv, _⟩ | ⟨g, off, cap, cur, hv, _, hh, _⟩
    · rw [hv] at hk; cases hk
    · rw [hv] at hk; cases hk; exact (hc cur).2 hh
  have hfar : ∀ p, ¬ P p → p ≠ .dm → ∀ k, CuF up L p k → ¬ S k := fun p hp hd k hk hs => by
    rcases hS k hs with ⟨q, hq, hqk⟩ | hf
    · exact h.dj p q hd (hP q hq) (fun e => hp (e ▸ hq)) k hk hqk
    · exact hIf k hf (hcl p hd k hk).2
  refine ⟨hblk, hfv, hl.1, hl.2, fun p ht hd => ?_, fun p q hp hq hpq k hk hk2 => ?_, fun p hd k hk => ?_, hwv.trans h.wv⟩
  · by_cases hPp : P p
    · exact hnew p hPp ht
    · refine (hold p hPp hd).2 ht ?_
      have hp := h.pt p ht hd
      have hs := hfar p hPp hd
      rcases hI with hI | hI
      · refine hp.upd hu h.rl h.cl hs hW (fun b cs hbb hsb => ?_)
        obtain ⟨q, hq, hqk⟩ := hI b hsb
        exact ((hcl q (hP q hq) b hqk).2 cs).2 hbb
      · cases p with
        | rp i => exact fun r hr => by have := (List.getElem?_eq_some_iff.1 hr).1; have := h.rl; omega
        | top => exact absurd rfl ht
        | rv => exact Row.upd hp hu hs
        | gm => obtain ⟨m, h1, h2⟩ := hp; exact ⟨m, h1, h2.upd hu (hs _ rfl)⟩
        | cv => exact Row.upd hp hu hs
        | cl i => exact fun r hr => (hp r hr).upd hu (fun k hk => hs k ⟨by have := (List.getElem?_eq_some_iff.1 hr).1; have := h.cl; omega, hk⟩) hW
        | gp => exact GrAt.upd hp hu hs
        | bg => exact D.BgAt.upd hp hu hs
        | wt => exact WtAt.upd hp hu hs
        | dm => exact absurd rfl hd
  · by_cases h1 : P p <;> by_cases h2 : P q
    · exact hdj p q h1 h2 hpq k hk hk2
    · rw [(hold q h2 hq).1] at hk2
      rcases hb p h1 k hk with h3 | h3
      · exact h.dj p q hp hq hpq k h3 hk2
      · have := (hcl q hq k hk2).1; omega
    · rw [(hold p h1 hp).1] at hk
      rcases hb q h2 k hk2 with h3 | h3
      · exact h.dj p q hp hq hpq k hk h3
      · have := (hcl p hp k hk).1; omega
    · rw [(hold p h1 hp).1] at hk
      rw [(hold q h2 hq).1] at hk2
      exact h.dj p q hp hq hpq k hk hk2
  · by_cases h1 : P p
    · rcases hb p h1 k hk with h3 | h3
      · exact h.nw p hd k h3
      · omega
    · rw [(hold p h1 hd).1] at hk
      exact h.nw p hd k hk
theorem PAt.new (h : PAt w b0 up L x fl dv) (hn : New w w') : PAt w' b0 up L x fl dv :=
  ⟨h.blk.new hn, h.fv.new hn, h.rl, h.cl, fun p ht hd => (h.pt p ht hd).upd (S := fun _ => False) (Upd.new hn) h.rl h.cl (fun _ _ x => x) (Off.no _ _) (Off.no _ _), h.dj, h.nw, h.wv⟩
/-- One more number in the first configuration. -/
theorem PAt.pushF (h : PAt w b0 up L x fl dv) (h0 : L.n = 0) {v : Value} (hr : Row W b0 3 1 iEnc v fl') (hg : w.grownBy W L.fv.ownBlock) (hb0 : b0 ≤ w.heap.size) : PAt (W.setCell ⟨up, 5, none⟩ v) b0 up { L with fv := v } x fl' dv := by
  have hne : L.fv.ownBlock ≠ some up := fun e => h.fv.ne_blk h.blk (by decide) e
  have hne2 : v.ownBlock ≠ some up := fun e => hr.ne_blk (h.blk.grown hg (fun e => hne e.symm)) (by decide) e
  have hu : Upd (fun k => k = up ∨ L.fv.ownBlock = some k) w (W.setCell ⟨up, 5, none⟩ v) := ((Upd.refl _ w).grown hg (fun k _ e => .inr e)).setCell (fun _ => .inl rfl) _
  refine h.step (fun p => p = .top) (fun p e => by rw [e]; simp) hu ?_ ?_ ?_ ⟨h.rl, h.cl⟩ ?_ (.inr h0) ?_ ?_ ?_ ?_ hb0 rfl
  · rintro k (hk | hk)
    · exact .inl ⟨.top, rfl, hk⟩
    · exact .inr hk
  · exact (h.blk.grown hg (fun e => hne e.symm)).set_ 5 v
  · exact hr.upd ((Upd.refl (· = up) W).setIn 5 _) (fun k hk e => hne2 (e ▸ hk))
  · exact (Off.blk h.blk (by decide)).or (Off.row h.fv (by decide))
  · intro p hp hd
    cases p with
    | top => exact absurd rfl hp
    | _ => exact ⟨rfl, fun _ h => h⟩
  · intro p hp ht; exact absurd hp ht
  · intro p hp k hk; subst hp; exact .inl hk
  · intro p q hp hq hpq; exact absurd (hp.trans hq.symm) hpq
theorem range_snoc {α : Type} (f : Nat → α) (j : Nat) : (List.range (j + 1)).map f = (List.range j).map f ++ [f j] := by rw [List.range_succ, List.map_append]; rfl
theorem map_ext {α : Type} {f g : Nat → α} {j : Nat} (h : ∀ i, i < j → f i = g i) : (List.range j).map f = (List.range j).map g := List.map_congr_left fun i hi => h i (List.mem_range.1 hi)
/-- One more replica. -/
theorem PAt.pushR (h : PAt w b0 up L (Clu.part n j m) fl dv) (hj : L.n = j) {wa : World} (hn : New w wa) {g : Nat} {l : RpL} (hr : RpAt wa g 1 l (Rpl.new_ (j : Int) (firstC n))) (hf : ∀ k, RpF g l k → w.heap.size ≤ k)
    {wb : World} (hnb : New wa wb) {v : Value} (hrow : Row W 0 37 1 pE v ((List.range j).map L.rp ++ [g])) (hg : wb.grownBy W L.rv.ownBlock) (hv : v.ownBlock = L.rv.ownBlock ∨ v.ownBlock = some wb.heap.size) (hb0 : b0 ≤ w.heap.size) :
    PAt (W.setCell ⟨up, 0, none⟩ v) b0 up { L with n := j + 1, rv := v, rp := setD L.rp j g, rl := setD L.rl j l } (Clu.part n (j + 1) m) fl dv := by
  have hB := h.new (hn.trans hnb)
  have hrv : Row w 0 37 1 pE L.rv ((List.range L.n).map L.rp) := h.pt .rv (by simp) (by simp)
  have hne : L.rv.ownBlock ≠ some up := fun e => hrv.ne_blk h.blk (by decide) e
  have hne2 : v.ownBlock ≠ some up := fun e => hrow.ne_blk (hB.blk.grown hg (fun e => hne e.symm)) (by decide) e
  have hu : Upd (fun k => k = up ∨ L.rv.ownBlock = some k) w (W.setCell ⟨up, 0, none⟩ v) := ((Upd.new (S := fun k => k = up ∨ L.rv.ownBlock = some k) (hn.trans hnb)).grown hg (fun k _ e => .inr e)).setCell (fun _ => .inl rfl) _
  have hu2 : Upd (fun k => k = up ∨ L.rv.ownBlock = some k) wa (W.setCell ⟨up, 0, none⟩ v) := ((Upd.new (S := fun k => k = up ∨ L.rv.ownBlock = some k) hnb).grown hg (fun k _ e => .inr e)).setCell (fun _ => .inl rfl) _
  have hold2 : ∀ k, (k = up ∨ L.rv.ownBlock = some k) → k < w.heap.size := by
    rintro k (rfl | hk)
    · exact h.blk.lt
    · exact (hrv.lt k hk).2
  have hoff : ∀ e : TypeId, 101 ≠ e → 37 ≠ e → Off wa e (fun k => k = up ∨ L.rv.ownBlock = some k) := fun e h1 h2 => (Off.blk (h.blk.new hn) h1).or (Off.row (Row.new hrv hn) h2)
  have hra : RpAt (W.setCell ⟨up, 0, none⟩ v) g 1 l (Rpl.new_ (j : Int) (firstC n)) := hr.upd hu2 (fun k hk hs => by have := hold2 k hs; have := hf k hk; omega) (hoff _ (by decide) (by decide)) (hoff _ (by decide) (by decide))
  refine h.step (fun p => p = .top ∨ p = .rv ∨ p = .rp j) (fun p e => by rcases e with e | e | e <;> rw [e] <;> simp) hu ?_ ?_ ?_ ⟨by simp [Clu.part], h.cl⟩ ?_ (.inl ?_) ?_ ?_ ?_ ?_ hb0 rfl
  · rintro k (hk | hk)
    · exact .inl ⟨.top, .inl rfl, hk⟩
    · exact .inl ⟨.rv, .inr (.inl rfl), hk⟩
  · exact (hB.blk.grown hg (fun e => hne e.symm)).set_ 0 v
  · exact h.fv.upd hu (fun k hk hs => by
      rcases hs with e | e
      · exact h.fv.ne_blk h.blk (by decide) (e ▸ hk)
      · exact Row.ne_row h.fv hrv (by decide) hk e)
  · exact (Off.blk h.blk (by decide)).or (Off.row hrv (by decide))
  · rintro k (hk | hk)
    · exact ⟨.top, .inl rfl, hk⟩
    · exact ⟨.rv, .inr (.inl rfl), hk⟩
  · intro p hp hd
    have hpt : p ≠ .top := fun e => hp (.inl e)
    have hprv : p ≠ .rv := fun e => hp (.inr (.inl e))
    have hprj : p ≠ .rp j := fun e => hp (.inr (.inr e))
    cases p with
    | top => exact absurd rfl hpt
    | rv => exact absurd rfl hprv
    | rp i =>
      have hij : i ≠ j := fun e => hprj (by rw [e])
      refine ⟨?_, fun _ hp2 r hrr => ?_⟩
      · funext k
        dsimp only [CuF]
        rw [setD_ne _ _ hij, setD_ne _ _ hij, hj]
        exact propext ⟨fun h => ⟨by omega, h.2⟩, fun h => ⟨by omega, h.2⟩⟩
      · dsimp only
        rw [setD_ne _ _ hij, setD_ne _ _ hij]
        refine hp2 r ?_
        rw [← hrr]
        simp only [Clu.part, List.getElem?_map]
        rcases Nat.lt_or_ge i j with hlt | hge
        · rw [List.getElem?_range hlt, List.getElem?_range (by omega)]
        · rw [List.getElem?_eq_none (by simpa using hge), List.getElem?_eq_none (by simp; omega)]
    | wt =>
      refine ⟨?_, fun _ hp2 => ?_⟩
      · funext k
        show WtF (j + 1) L.wm L.wv k = WtF L.n L.wm L.wv k
        rw [h.wv]
        exact propext ⟨fun h => h.elim .inl (fun ⟨_, _, e⟩ => by cases e), fun h => h.elim .inl (fun ⟨_, _, e⟩ => by cases e)⟩
      · obtain ⟨q1, q2, q3, q4⟩ := (show WtAt _ L.n 1 L.wm L.wv (fun _ => []) from hp2)
        refine (show WtAt _ (j + 1) 1 L.wm L.wv (fun _ => []) from ⟨q1, fun i _ => ?_, fun _ _ => rfl, fun a b _ _ _ k hk => ?_⟩)
        · rw [h.wv]; exact ⟨Row.nil _ _ _ _ _, Nat.zero_le _⟩
        · rw [h.wv] at hk; cases hk
    | _ => exact ⟨rfl, fun _ h => h⟩
  · intro p hp ht
    rcases hp with e | e | e
    · exact absurd e ht
    · subst e
      show Row _ 0 _ 1 pE v ((List.range (j + 1)).map (setD L.rp j g))
      rw [range_snoc, setD_same, map_ext (g := L.rp) (fun i hi => setD_ne _ _ (by omega))]
      exact hrow.upd ((Upd.refl (· = up) W).setIn 0 _) (fun k hk e => hne2 (e ▸ hk))
    · subst e
      intro r hrr
      dsimp only
      rw [setD_same, setD_same]
      have : r = Rpl.new_ (j : Int) (firstC n) := by
        simp only [Clu.part, List.getElem?_map] at hrr
        rw [List.getElem?_range (by omega)] at hrr
        exact (Option.some.inj hrr).symm
      rw [this]
      exact hra
  · intro p hp k hk
    rcases hp with e | e | e
    · subst e; exact .inl hk
    · subst e
      have hk : v.ownBlock = some k := hk
      rcases hv with e2 | e2
      · exact .inl (by rw [e2] at hk; exact hk)
      · rw [e2] at hk; injection hk with hk; exact .inr (by have := (hn.trans hnb).size; omega)
    · subst e
      obtain ⟨_, hk⟩ := hk
      dsimp only at hk
      rw [setD_same, setD_same] at hk
      exact .inr (hf k hk)
  · intro p q hp hq hpq k hk hk2
    have hrpf : ∀ k, CuF up { L with n := j + 1, rv := v, rp := setD L.rp j g, rl := setD L.rl j l } (.rp j) k → w.heap.size ≤ k ∧ k < wa.heap.size := fun k hk => by
      obtain ⟨_, hk⟩ := hk
      dsimp only at hk
      rw [setD_same, setD_same] at hk
      exact ⟨hf k hk, hr.lt k hk⟩
    have hvv : ∀ k, v.ownBlock = some k → k < w.heap.size ∨ wa.heap.size ≤ k := fun k hk => by
      rcases hv with e2 | e2
      · rw [e2] at hk; exact .inl (hrv.lt k hk).2
      · rw [e2] at hk; injection hk with hk; exact .inr (by have := hnb.size; omega)
    have hul := h.blk.lt
    rcases hp with e | e | e <;> rcases hq with e2 | e2 | e2 <;> subst e <;> subst e2
    · exact hpq rfl
    · have hk2 : v.ownBlock = some k := hk2
      have hk : k = up := hk
      exact hne2 (hk ▸ hk2)
    · have := (hrpf k hk2).1; have hk : k = up := hk; omega
    · have hk2 : k = up := hk2
      have hk : v.ownBlock = some k := hk
      exact hne2 (hk2 ▸ hk)
    · exact hpq rfl
    · have := hrpf k hk2; have := hvv k hk; omega
    · have := (hrpf k hk).1; have hk2 : k = up := hk2; omega
    · have := hrpf k hk; have := hvv k hk2; omega
    · exact hpq rfl
/-- One more client. -/
theorem PAt.pushC (h : PAt w b0 up L (Clu.part n j m) fl dv) (hj : L.m = m) {wa : World} (hn : New w wa) {g : Nat} {l : CliL} (hr : CliAt wa g l (Cli.new_ m)) (hf : ∀ k, CliF g l k → w.heap.size ≤ k)
    {wb : World} (hnb : New wa wb) {v : Value} (hrow : Row W 0 79 1 pE v ((List.range m).map L.cp ++ [g])) (hg : wb.grownBy W L.cv.ownBlock) (hv : v.ownBlock = L.cv.ownBlock ∨ v.ownBlock = some wb.heap.size) (hb0 : b0 ≤ w.heap.size) :
    PAt (W.setCell ⟨up, 2, none⟩ v) b0 up { L with m := m + 1, cv := v, cp := setD L.cp m g, cl := setD L.cl m l } (Clu.part n j (m + 1)) fl dv := by
  have hB := h.new (hn.trans hnb)
  have hrv : Row w 0 79 1 pE L.cv ((List.range L.m).map L.cp) := h.pt .cv (by simp) (by simp)
  have hne : L.cv.ownBlock ≠ some up := fun e => hrv.ne_blk h.blk (by decide) e
  have hne2 : v.ownBlock ≠ some up := fun e => hrow.ne_blk (hB.blk.grown hg (fun e => hne e.symm)) (by decide) e
  have hu : Upd (fun k => k = up ∨ L.cv.ownBlock = some k) w (W.setCell ⟨up, 2, none⟩ v) := ((Upd.new (S := fun k => k = up ∨ L.cv.ownBlock = some k) (hn.trans hnb)).grown hg (fun k _ e => .inr e)).setCell (fun _ => .inl rfl) _
  have hu2 : Upd (fun k => k = up ∨ L.cv.ownBlock = some k) wa (W.setCell ⟨up, 2, none⟩ v) := ((Upd.new (S := fun k => k = up ∨ L.cv.ownBlock = some k) hnb).grown hg (fun k _ e => .inr e)).setCell (fun _ => .inl rfl) _
  have hold2 : ∀ k, (k = up ∨ L.cv.ownBlock = some k) → k < w.heap.size := by
    rintro k (rfl | hk)
    · exact h.blk.lt
    · exact (hrv.lt k hk).2
  have hoff : ∀ e : TypeId, 101 ≠ e → 79 ≠ e → Off wa e (fun k => k = up ∨ L.cv.ownBlock = some k) := fun e h1 h2 => (Off.blk (h.blk.new hn) h1).or (Off.row (Row.new hrv hn) h2)
  have hra : CliAt (W.setCell ⟨up, 2, none⟩ v) g l (Cli.new_ m) := hr.upd hu2 (fun k hk hs => by have := hold2 k hs; have := hf k hk; omega) (hoff _ (by decide) (by decide))
  refine h.step (fun p => p = .top ∨ p = .cv ∨ p = .cl m) (fun p e => by rcases e with e | e | e <;> rw [e] <;> simp) hu ?_ ?_ ?_ ⟨h.rl, by simp [Clu.part]⟩ ?_ (.inl ?_) ?_ ?_ ?_ ?_ hb0 rfl
  · rintro k (hk | hk)
    · exact .inl ⟨.top, .inl rfl, hk⟩
    · exact .inl ⟨.cv, .inr (.inl rfl), hk⟩
  · exact (hB.blk.grown hg (fun e => hne e.symm)).set_ 2 v
  · exact h.fv.upd hu (fun k hk hs => by
      rcases hs with e | e
      · exact h.fv.ne_blk h.blk (by decide) (e ▸ hk)
      · exact Row.ne_row h.fv hrv (by decide) hk e)
  · exact (Off.blk h.blk (by decide)).or (Off.row hrv (by decide))
  · rintro k (hk | hk)
    · exact ⟨.top, .inl rfl, hk⟩
    · exact ⟨.cv, .inr (.inl rfl), hk⟩
  · intro p hp hd
    have hpt : p ≠ .top := fun e => hp (.inl e)
    have hprv : p ≠ .cv := fun e => hp (.inr (.inl e))
    have hprj : p ≠ .cl m := fun e => hp (.inr (.inr e))
    cases p with
    | top => exact absurd rfl hpt
    | cv => exact absurd rfl hprv
    | cl i =>
      have hij : i ≠ m := fun e => hprj (by rw [e])
      refine ⟨?_, fun _ hp2 r hrr => ?_⟩
      · funext k
        dsimp only [CuF]
        rw [setD_ne _ _ hij, setD_ne _ _ hij, hj]
        exact propext ⟨fun h => ⟨by omega, h.2⟩, fun h => ⟨by omega, h.2⟩⟩
      · dsimp only
        rw [setD_ne _ _ hij, setD_ne _ _ hij]
        refine hp2 r ?_
        rw [← hrr]
        simp only [Clu.part, List.getElem?_map]
        rcases Nat.lt_or_ge i m with hlt | hge
        · rw [List.getElem?_range hlt, List.getElem?_range (by omega)]
        · rw [List.getElem?_eq_none (by simpa using hge), List.getElem?_eq_none (by simp; omega)]
    | _ => exact ⟨rfl, fun _ h => h⟩
  · intro p hp ht
    rcases hp with e | e | e
    · exact absurd e ht
    · subst e
      show Row _ 0 _ 1 pE v ((List.range (m + 1)).map (setD L.cp m g))
      rw [range_snoc, setD_same, map_ext (g := L.cp) (fun i hi => setD_ne _ _ (by omega))]
      exact hrow.upd ((Upd.refl (· = up) W).setIn 2 _) (fun k hk e => hne2 (e ▸ hk))
    · subst e
      intro r hrr
      dsimp only
      rw [setD_same, setD_same]
      have : r = Cli.new_ m := by
        simp only [Clu.part, List.getElem?_map] at hrr
        rw [List.getElem?_range (by omega)] at hrr
        exact (Option.some.inj hrr).symm
      rw [this]
      exact hra
  · intro p hp k hk
    rcases hp with e | e | e
    · subst e; exact .inl hk
    · subst e
      have hk : v.ownBlock = some k := hk
      rcases hv with e2 | e2
      · exact .inl (by rw [e2] at hk; exact hk)
      · rw [e2] at hk; injection hk with hk; exact .inr (by have := (hn.trans hnb).size; omega)
    · subst e
      obtain ⟨_, hk⟩ := hk
      dsimp only at hk
      rw [setD_same, setD_same] at hk
      exact .inr (hf k hk)
  · intro p q hp hq hpq k hk hk2
    have hrpf : ∀ k, CuF up { L with m := m + 1, cv := v, cp := setD L.cp m g, cl := setD L.cl m l } (.cl m) k → w.heap.size ≤ k ∧ k < wa.heap.size := fun k hk => by
      obtain ⟨_, hk⟩ := hk
      dsimp only at hk
      rw [setD_same, setD_same] at hk
      exact ⟨hf k hk, hr.lt k hk⟩
    have hvv : ∀ k, v.ownBlock = some k → k < w.heap.size ∨ wa.heap.size ≤ k := fun k hk => by
      rcases hv with e2 | e2
      · rw [e2] at hk; exact .inl (hrv.lt k hk).2
      · rw [e2] at hk; injection hk with hk; exact .inr (by have := hnb.size; omega)
    have hul := h.blk.lt
    rcases hp with e | e | e <;> rcases hq with e2 | e2 | e2 <;> subst e <;> subst e2
    · exact hpq rfl
    · have hk2 : v.ownBlock = some k := hk2
      have hk : k = up := hk
      exact hne2 (hk ▸ hk2)
    · have := (hrpf k hk2).1; have hk : k = up := hk; omega
    · have hk2 : k = up := hk2
      have hk : v.ownBlock = some k := hk
      exact hne2 (hk2 ▸ hk)
    · exact hpq rfl
    · have := hrpf k hk2; have := hvv k hk; omega
    · have := (hrpf k hk).1; have hk2 : k = up := hk2; omega
    · have := hrpf k hk; have := hvv k hk2; omega
    · exact hpq rfl
end
end Go.Proofs.YtlhlcdjkacglnaaGreatDoor
/- Chapter 26 (cluster): New. Printed by genCu18.py. -/
namespace Go.Proofs.YtlhlcdjkacglnaaGreatDoor
open Go.RowKit Go.Lap C
set_option linter.unusedVariables false
set_option linter.unusedSimpArgs false
section
variable {w w' W : World} {b0 up n j m : Nat} {L L' : CuL} {x x' : Clu} {fl fl' : List Int} {dv dv' : Value}
/-- All is made. -/
theorem PAt.done (h : PAt w b0 up L (Clu.part n n m) (firstC n).ms dv) (hn : L.n = n ∧ L.m = m) (hnm : 1 ≤ n ∧ n ≤ 5 ∧ 1 ≤ m ∧ m ≤ 4) {dm : Nat} (hd : w.heap.size ≤ dm) (hb0 : b0 ≤ w.heap.size) (hu : Upd (· = up) w w') (hm : D.MpI w' dm 3 (doesV up))
    (hb : Blk w' up 101 (PaCells L (.map (some dm)))) : CuAt w' up 1 { L with dm := dm } (Clu.new_ n m) ∧ ∀ p k, CuF up { L with dm := dm } p k → b0 ≤ k := by
  have hW : Off w 34 (· = up) := Off.blk h.blk (by decide)
  have hI : Off w 3 (· = up) := Off.blk h.blk (by decide)
  have hold : ∀ p, p ≠ .dm → CuF up { L with dm := dm } p = CuF up L p := fun p hp => by
    cases p with
    | dm => exact absurd rfl hp
    | _ => rfl
  refine ⟨⟨h.rl, h.cl, ?_, (fun i e => by cases e), fun p => ?_, fun p q hpq k hk hk2 => ?_⟩, fun p k hk => ?_⟩
  · show 1 ≤ L.n ∧ L.n ≤ 5 ∧ 1 ≤ L.m ∧ L.m ≤ 4
    rw [hn.1, hn.2]; exact hnm
  · by_cases h1 : p = .top
    · subst h1
      refine ⟨hb, ?_⟩
      show TSl w' 3 1 iEnc L.fv (firstC L.n).ms
      rw [hn.1]
      exact Row.tsl iEncOk (h.fv.upd hu (fun k hk e => h.fv.ne_blk h.blk (by decide) (e ▸ hk)))
    · by_cases h2 : p = .dm
      · subst h2; exact hm
      · have h3 := (h.pt p h1 h2).upd hu h.rl h.cl (fun k hk e => h.dj p .top h2 (by simp) h1 k hk e) hW hI
        cases p with
        | top => exact absurd rfl h1
        | dm => exact absurd rfl h2
        | _ => exact h3
  · by_cases h1 : p = .dm <;> by_cases h2 : q = .dm
    · exact hpq (h1.trans h2.symm)
    · subst h1
      rw [hold q h2] at hk2
      have hk : k = dm := hk
      have := (h.cln q h2 k hk2).1
      omega
    · subst h2
      rw [hold p h1] at hk
      have hk2 : k = dm := hk2
      have := (h.cln p h1 k hk).1
      omega
    · rw [hold p h1] at hk
      rw [hold q h2] at hk2
      exact h.dj p q h1 h2 hpq k hk hk2
  · by_cases h1 : p = .dm
    · subst h1
      have hk : k = dm := hk
      omega
    · rw [hold p h1] at hk
      exact h.nw p h1 k hk
theorem zero_okG : D.GmOk 3 1 D.Gm.zero := D.GmOk.zero
def CNew (w : World) (n m : Nat) (e : Ending) (w' : World) : Prop := ∃ up L, e = .returned (.tuple #[.pointer (some ⟨up, 0, none⟩), .int .i64 0]) ∧ CuAt w' up 1 L (Clu.new_ n m) ∧ L.n = n ∧ L.m = m ∧ (∀ p k, CuF up L p k → w.heap.size ≤ k) ∧ New w w'
set_option maxHeartbeats 1000000 in
theorem cNew_no (n m : Int) (h : ¬ (1 ≤ n ∧ n ≤ 5 ∧ 1 ≤ m ∧ m ≤ 4)) : Calls Tryz.prog 35 #[.int .i64 n, .int .i64 m] w fun e w' => e = .returned (.tuple #[.pointer none, .int .i64 260]) ∧ w' = w := by
  by_cases h1 : n < 1
  · clear h
    go_enter Tryz.func35, Tryz.ntmps35
    go_wp2_with fail
    go_ret2
    exact ⟨rfl, rfl⟩
  by_cases h2 : 5 < n
  · clear h
    go_enter Tryz.func35, Tryz.ntmps35
    go_wp2_with fail
    go_ret2
    exact ⟨rfl, rfl⟩
  by_cases h3 : m < 1
  · clear h
    go_enter Tryz.func35, Tryz.ntmps35
    go_wp2_with fail
    go_ret2
    exact ⟨rfl, rfl⟩
  have h4 : 4 < m := by omega
  clear h
  go_enter Tryz.func35, Tryz.ntmps35
  go_wp2_with fail
  go_ret2
  exact ⟨rfl, rfl⟩
theorem PAt.start {w : World} {b0 gm wm up gp bb : Nat} {G : Nat → Prop} (hb : Blk w up 101 #[.slice none 0 0, .map (some gm), .slice none 0 0, .pointer (some ⟨gp, 0, none⟩), .int .u64 1, .slice none 0 0, .pointer (some ⟨bb, 0, none⟩), .map (some wm), .map none])
    (hg : D.MpI w gm 0 (fun _ => none)) (hw : D.MpI w wm 0 (fun _ => none)) (hgr : GrAt w 1 gp G D.Gm.zero) (hbg : D.BgAt w bb (.slice none 0 0) []) (hne : gm ≠ wm) (hG : ∀ k, G k → b0 ≤ k ∧ k ≠ gm ∧ k ≠ wm ∧ k ≠ up ∧ k ≠ bb) (h1 : b0 ≤ gm) (h2 : b0 ≤ wm) (h3 : b0 ≤ up) (h4 : b0 ≤ bb) :
    ∃ L, L.n = 0 ∧ L.m = 0 ∧ L.fv = .slice none 0 0 ∧ L.rv = .slice none 0 0 ∧ L.cv = .slice none 0 0 ∧ PAt w b0 up L (Clu.part n 0 0) [] (.map none) := by
  have n1 : up ≠ gm := Blk.ne_map hb hg
  have n2 : up ≠ wm := Blk.ne_map hb hw
  have n3 : up ≠ bb := Blk.ne_ hb hbg.blk (by decide)
  have n4 : bb ≠ gm := Blk.ne_map hbg.blk hg
  have n5 : bb ≠ wm := Blk.ne_map hbg.blk hw
  refine ⟨⟨0, 0, .slice none 0 0, fun _ => 0, fun _ => ⟨.slice none 0 0, ⟨0, 0, 0⟩, .slice none 0 0, .slice none 0 0⟩, gm, .slice none 0 0, fun _ => 0, fun _ => ⟨0, none, 0⟩, gp, G, .slice none 0 0, bb, .slice none 0 0, wm, fun _ => .slice none 0 0, 0⟩, rfl, rfl, rfl, rfl, rfl, hb, Row.nil _ _ _ _ _, rfl, rfl, fun p ht hd => ?_, ?_, ?_, rfl⟩
  · cases p with
    | top => exact absurd rfl ht
    | rv => exact Row.nil _ _ _ _ _
    | rp i => intro r hr; simp [Clu.part] at hr
    | gm => exact ⟨0, by omega, hg⟩
    | cv => exact Row.nil _ _ _ _ _
    | cl i => intro r hr; simp [Clu.part] at hr
    | gp => exact hgr
    | bg => exact hbg
    | wt => exact ⟨⟨0, by omega, hw⟩, fun i hi => absurd hi (Nat.not_lt_zero i), fun _ _ => rfl, fun a b ha _ _ k hk => absurd ha (Nat.not_lt_zero a)⟩
    | dm => exact absurd rfl hd
  · have hno : ∀ k, ¬ D.BgF bb (.slice none 0 0) k ∨ k = bb := fun k => by
      by_cases h : k = bb
      · exact .inr h
      · exact .inl (fun e => e.elim h (fun e => by cases e))
    intro p q hp hq hpq k hk hk2
    have hcase : ∀ p, p ≠ .dm → CuF up ⟨0, 0, .slice none 0 0, fun _ => 0, fun _ => ⟨.slice none 0 0, ⟨0, 0, 0⟩, .slice none 0 0, .slice none 0 0⟩, gm, .slice none 0 0, fun _ => 0, fun _ => ⟨0, none, 0⟩, gp, G, .slice none 0 0, bb, .slice none 0 0, wm, fun _ => .slice none 0 0, 0⟩ p k → (p = .top ∧ k = up) ∨ (p = .gm ∧ k = gm) ∨ (p = .gp ∧ G k) ∨ (p = .bg ∧ k = bb) ∨ (p = .wt ∧ k = wm) := fun p hp hk => by
      cases p with
      | top => exact .inl ⟨rfl, hk⟩
      | rv => cases hk
      | rp i => exact absurd hk.1 (Nat.not_lt_zero i)
      | gm => exact .inr (.inl ⟨rfl, hk⟩)
      | cv => cases hk
      | cl i => exact absurd hk.1 (Nat.not_lt_zero i)
      | gp => exact .inr (.inr (.inl ⟨rfl, hk⟩))
      | bg => exact .inr (.inr (.inr (.inl ⟨rfl, (hno k).elim (fun h => absurd hk h) id⟩)))
      | wt => exact .inr (.inr (.inr (.inr ⟨rfl, hk.elim id (fun ⟨i, hi, _⟩ => absurd hi (Nat.not_lt_zero i))⟩)))
      | dm => exact absurd rfl hp
    rcases hcase p hp hk with ⟨e, a⟩ | ⟨e, a⟩ | ⟨e, a⟩ | ⟨e, a⟩ | ⟨e, a⟩ <;> rcases hcase q hq hk2 with ⟨e2, a2⟩ | ⟨e2, a2⟩ | ⟨e2, a2⟩ | ⟨e2, a2⟩ | ⟨e2, a2⟩ <;> first | exact hpq (e.trans e2.symm) | (have := hG k ‹G k›; omega) | omega
  · intro p hp k hk
    cases p with
    | top => have hk : k = up := hk; omega
    | rv => cases hk
    | rp i => exact absurd hk.1 (Nat.not_lt_zero i)
    | gm => have hk : k = gm := hk; omega
    | cv => cases hk
    | cl i => exact absurd hk.1 (Nat.not_lt_zero i)
    | gp => exact (hG k hk).1
    | bg =>
      rcases hk with hk | hk
      · have hk : k = bb := hk; omega
      · cases hk
    | wt =>
      rcases hk with hk | ⟨i, hi, _⟩
      · have hk : k = wm := hk; omega
      · exact absurd hi (Nat.not_lt_zero i)
    | dm => exact absurd rfl hp
end
end Go.Proofs.YtlhlcdjkacglnaaGreatDoor
