/- Chapter 24's reference: SameNotes of notes that are the same. Printed by genRsJ.py. -/
import Derived.Test.YtecniafnihpjmaaGreatDoorTk
import Derived.Test.YtecniafnihpjmaaGreatDoorRsI
import Derived.Test.YtecniafnihpjmaaGreatDoorRpB
namespace Go.Proofs.YtecniafnihpjmaaGreatDoor
open Go.RowKit Go.Lap C
set_option linter.unusedVariables false
set_option linter.unusedSimpArgs false
section
variable {w w' W : World}
theorem Blk9R {w : World} {g t : Nat} {a0 a1 a2 a3 a4 a5 a6 a7 a8 : Value} (h : Blk w g t #[a0, a1, a2, a3, a4, a5, a6, a7, a8]) : g < w.heap.size ∧ w.cell? ⟨g, 0, none⟩ = some a0 ∧ w.cell? ⟨g, 1, none⟩ = some a1 ∧ w.cell? ⟨g, 2, none⟩ = some a2 ∧ w.cell? ⟨g, 3, none⟩ = some a3 ∧ w.cell? ⟨g, 4, none⟩ = some a4 ∧ w.cell? ⟨g, 5, none⟩ = some a5 ∧ w.cell? ⟨g, 6, none⟩ = some a6 ∧ w.cell? ⟨g, 7, none⟩ = some a7 ∧ w.cell? ⟨g, 8, none⟩ = some a8 ∧ (∀ i, w.frozen? ⟨g, i, none⟩ = false) := ⟨h.lt, h.cell 0, h.cell 1, h.cell 2, h.cell 3, h.cell 4, h.cell 5, h.cell 6, h.cell 7, h.cell 8, h.frozen⟩
theorem Blk.set9 {g t : Nat} {a0 a1 a2 a3 a4 a5 a6 a7 a8 : Value} (b0 b1 b2 b3 b4 b5 b6 b7 b8 : Value) (h : Blk w g t #[a0, a1, a2, a3, a4, a5, a6, a7, a8]) : Blk (((((((((w.setCell ⟨g, 0, none⟩ (b0)).setCell ⟨g, 1, none⟩ (b1)).setCell ⟨g, 2, none⟩ (b2)).setCell ⟨g, 3, none⟩ (b3)).setCell ⟨g, 4, none⟩ (b4)).setCell ⟨g, 5, none⟩ (b5)).setCell ⟨g, 6, none⟩ (b6)).setCell ⟨g, 7, none⟩ (b7)).setCell ⟨g, 8, none⟩ (b8)) g t #[b0, b1, b2, b3, b4, b5, b6, b7, b8] := by
  have := (((((((((h).set_ 0 (b0)).set_ 1 (b1)).set_ 2 (b2)).set_ 3 (b3)).set_ 4 (b4)).set_ 5 (b5)).set_ 6 (b6)).set_ 7 (b7)).set_ 8 (b8)
  simp only [List.setIfInBounds_toArray, List.set_cons_zero, List.set_cons_succ] at this
  exact this
/-- A note of a row. -/
theorem NtRow.at_ {v : Value} {l : List Nt} {nt : Nt} {m : Nat} (h : NtRow w 0 v l) (hb : l[m]? = some nt) : ∃ g off cap A c, v = .slice (some ⟨g, off, none⟩) l.length cap ∧ l.length ≤ cap ∧ BtAt w ⟨nt.b, A, c⟩ ∧ g < w.heap.size ∧
    ∀ j u, (NtV.enc ⟨nt.k, nt.fr, nt.ds, nt.ep, nt.t, ⟨nt.b, A, c⟩⟩)[j]? = some u → w.cell? ⟨g, off + m * 9 + j, none⟩ = some u := by
  obtain ⟨ps, rfl, h2, h3⟩ := h
  rw [List.getElem?_map] at hb
  obtain ⟨p, hp, rfl⟩ := Option.map_eq_some_iff.1 hb
  obtain ⟨g, off, cap, rfl, _, hr⟩ := h2.at_ (by intro e; rw [e] at hp; simp at hp)
  exact ⟨g, off, cap, p.v.A, p.v.c, by rw [List.length_map], by rw [List.length_map]; exact hr.len.1, h3 p (List.mem_of_getElem? hp), hr.lt, fun j u hu => hr.cell NtV.encOk hp (j := j) hu⟩
set_option maxRecDepth 100000 in
set_option maxHeartbeats 8000000 in
theorem samenotes {v v' : Value} {l : List Nt} (h1 : NtRow w 0 v l) (h2 : NtRow w 0 v' l) (hm : l.length ≤ 2000000) :
    Calls Tryz.prog 21 #[v, v'] w fun e w' => e = .returned (.bool true) ∧ New w w' := by
  obtain ⟨B1, d1, hv1⟩ := h1.shape
  obtain ⟨B2, d2, hv2⟩ := h2.shape
  have H1 := Lib.hid h1
  have H2 := Lib.hid h2
  have HV1 := Lib.hid hv1
  have HV2 := Lib.hid hv2
  rw [hv1, hv2]
  have hne : ((l.length : Int) != (l.length : Int)) = false := by simp
  clear h1 h2 hv1 hv2
  go_enter Tryz.func21, Tryz.ntmps21
  go_wp2_with fail
  go_loopw [5] (fun i wr => ∃ k : Nat, k ≤ l.length ∧ i = .int .i64 (k : Int) ∧ New w wr) (fun i _ => l.length - (intOf i).toNat)
  case atStart => exact ⟨0, by omega, rfl, New.refl _⟩
  case round =>
    obtain ⟨m, hk, rfl, hn⟩ := hrel
    have HN := Lib.hid hn
    by_cases hlt : m < l.length
    · obtain ⟨nt, hb⟩ : ∃ nt, l[m]? = some nt := ⟨_, List.getElem?_eq_getElem hlt⟩
      obtain ⟨g, off, cap, A1, c1, hv, hcap, hba, hg, hc⟩ := (H1.out.new hn).at_ hb
      obtain ⟨g', off', cap', A2, c2, hv', hcap', hba', hg', hc'⟩ := (H2.out.new hn).at_ hb
      rw [HV1.out] at hv
      cases hv
      rw [HV2.out] at hv'
      cases hv'
      obtain ⟨k, fr, ds, ep, t, b⟩ := nt
      dsimp only at hba hba' hc hc'
      have HBA := Lib.hid hba
      have HBA' := Lib.hid hba'
      have e0 : wr.cell? ⟨g, off + m * 9, none⟩ = some (.int .i64 k) := hc 0 _ rfl
      have e1 : wr.cell? ⟨g, off + m * 9 + 1, none⟩ = some (.int .i64 fr) := hc 1 _ rfl
      have e2 : wr.cell? ⟨g, off + m * 9 + 2, none⟩ = some (.int .i64 ds) := hc 2 _ rfl
      have e3 : wr.cell? ⟨g, off + m * 9 + 3, none⟩ = some (.int .u64 (ep : Int)) := hc 3 _ rfl
      have e4 : wr.cell? ⟨g, off + m * 9 + 4, none⟩ = some (.int .u64 (t : Int)) := hc 4 _ rfl
      have e5 : wr.cell? ⟨g, off + m * 9 + 5, none⟩ = some (.int .u64 (b.c : Int)) := hc 5 _ rfl
      have e6 : wr.cell? ⟨g, off + m * 9 + 6, none⟩ = some (.int .u64 (b.r : Int)) := hc 6 _ rfl
      have e7 : wr.cell? ⟨g, off + m * 9 + 7, none⟩ = some (.int .u64 (b.s : Int)) := hc 7 _ rfl
      have e8 : wr.cell? ⟨g, off + m * 9 + 8, none⟩ = some (.slice A1 b.l.length c1) := hc 8 _ rfl
      have f0 : wr.cell? ⟨g', off' + m * 9, none⟩ = some (.int .i64 k) := hc' 0 _ rfl
      have f1 : wr.cell? ⟨g', off' + m * 9 + 1, none⟩ = some (.int .i64 fr) := hc' 1 _ rfl
      have f2 : wr.cell? ⟨g', off' + m * 9 + 2, none⟩ = some (.int .i64 ds) := hc' 2 _ rfl
      have f3 : wr.cell? ⟨g', off' + m * 9 + 3, none⟩ = some (.int .u64 (ep : Int)) := hc' 3 _ rfl
      have f4 : wr.cell? ⟨g', off' + m * 9 + 4, none⟩ = some (.int .u64 (t : Int)) := hc' 4 _ rfl
      have f5 : wr.cell? ⟨g', off' + m * 9 + 5, none⟩ = some (.int .u64 (b.c : Int)) := hc' 5 _ rfl
      have f6 : wr.cell? ⟨g', off' + m * 9 + 6, none⟩ = some (.int .u64 (b.r : Int)) := hc' 6 _ rfl
      have f7 : wr.cell? ⟨g', off' + m * 9 + 7, none⟩ = some (.int .u64 (b.s : Int)) := hc' 7 _ rfl
      have f8 : wr.cell? ⟨g', off' + m * 9 + 8, none⟩ = some (.slice A2 b.l.length c2) := hc' 8 _ rfl
      have hlt2 : (m : Int) < (l.length : Int) := by omega
      have hk0 : (0 : Int) ≤ (m : Int) := by omega
      have hq1 : (k != k) = false := by simp
      have hq2 : (fr != fr) = false := by simp
      have hq3 : (ds != ds) = false := by simp
      have hq4 : ((ep : Int) != (ep : Int)) = false := by simp
      have hq5 : ((t : Int) != (t : Int)) = false := by simp
      have HG := Lib.hid hg
      have HG' := Lib.hid hg'
      clear hb hba hba' hn hc hc'
      go_upto_region 6 with fail
      refine wp_region_held_drew (S := fun w' => (∀ o, w'.cell? ⟨g, o, none⟩ = wr.cell? ⟨g, o, none⟩) ∧ (∀ o, w'.cell? ⟨g', o, none⟩ = wr.cell? ⟨g', o, none⟩)) (by kernel_rfl) (⟨fun _ => rfl, fun _ => rfl⟩) (fun hHeld => ?_)
      have HN0 := Lib.hid (New.refl wr).drew
      generalize wr.drew = w0 at *
      refine tkH (i := 0) (oi := ⟨some 19, .move (.tmp 0), 34, "ref.go:210", #[], none⟩) (v := ?_) (.inl ⟨by rfl, ?_⟩) ?_
      rotate_left
      · (intro wq hSw; (try dsimp only at hSw); go_simp; first | done | with_reducible rfl)
      try simp only [Act.put, sA, sZ, sS]
      refine tkH (i := 1) (oi := ⟨some 20, .move (.tmp 5), 3, "ref.go:210", #[], none⟩) (v := ?_) (.inl ⟨by rfl, ?_⟩) ?_
      rotate_left
      · (intro wq hSw; (try dsimp only at hSw); go_simp; first | done | with_reducible rfl)
      try simp only [Act.put, sA, sZ, sS]
      refine tkH (i := 2) (oi := ⟨some 21, .indexAddr 34 (.tmp 19) (.tmp 20), 0, "ref.go:210", #[⟨0, .data⟩, ⟨1, .data⟩], none⟩) (v := ?_) (.inl ⟨by rfl, ?_⟩) ?_
      rotate_left
      · (intro wq hSw; (try dsimp only at hSw); go_simp; first | done | with_reducible rfl)
      try simp only [Act.put, sA, sZ, sS]
      refine tkH (i := 3) (oi := ⟨some 22, .load 93 (.tmp 21), 93, "ref.go:210", #[⟨2, .data⟩], none⟩) (v := ?_) (.inl ⟨by rfl, ?_⟩) ?_
      rotate_left
      · (intro wq hSw; (try dsimp only at hSw); go_simp; first | done | with_reducible rfl)
      try simp only [Act.put, sA, sZ, sS]
      refine tkH (i := 4) (oi := ⟨some 23, .move (.tmp 1), 34, "ref.go:210", #[⟨10, Ground.gcOnly Departure.lateStores⟩], none⟩) (v := ?_) (.inl ⟨by rfl, ?_⟩) ?_
      rotate_left
      · (intro wq hSw; (try dsimp only at hSw); go_simp; first | done | with_reducible rfl)
      try simp only [Act.put, sA, sZ, sS]
      refine tkH (i := 5) (oi := ⟨some 24, .move (.tmp 5), 3, "ref.go:210", #[⟨10, Ground.gcOnly Departure.lateStores⟩], none⟩) (v := ?_) (.inl ⟨by rfl, ?_⟩) ?_
      rotate_left
      · (intro wq hSw; (try dsimp only at hSw); go_simp; first | done | with_reducible rfl)
      try simp only [Act.put, sA, sZ, sS]
      refine tkH (i := 6) (oi := ⟨some 25, .indexAddr 34 (.tmp 23) (.tmp 24), 0, "ref.go:210", #[⟨4, .data⟩, ⟨5, .data⟩, ⟨10, Ground.gcOnly Departure.lateStores⟩], none⟩) (v := ?_) (.inl ⟨by rfl, ?_⟩) ?_
      rotate_left
      · (intro wq hSw; (try dsimp only at hSw); go_simp; first | done | with_reducible rfl)
      try simp only [Act.put, sA, sZ, sS]
      refine tkH (i := 7) (oi := ⟨some 26, .load 93 (.tmp 25), 93, "ref.go:210", #[⟨6, .data⟩, ⟨10, Ground.gcOnly Departure.lateStores⟩], none⟩) (v := ?_) (.inl ⟨by rfl, ?_⟩) ?_
      rotate_left
      · (intro wq hSw; (try dsimp only at hSw); go_simp; first | done | with_reducible rfl)
      try simp only [Act.put, sA, sZ, sS]
      refine wpAnyH_ready (rs := [8, 9]) (by kernel_rfl) (by simp) ?_
      refine AllReadyH.cons (o := ⟨some 6, .alloc 93, 0, "ref.go:210", #[], none⟩) rfl (fun K hK => ?_) (AllReadyH.cons (o := ⟨some 7, .alloc 93, 0, "ref.go:210", #[], none⟩) rfl (fun K hK => ?_) AllReadyH.nil)
      · go_simp
        have HN1 := Lib.hid (HN0.out.alloc (.cells #[.int .i64 0, .int .i64 0, .int .i64 0, .int .u64 0, .int .u64 0, .int .u64 0, .int .u64 0, .int .u64 0, .slice none 0 0] 93))
        have HP1 := Lib.hid (Blk.mk_new w0 93 #[.int .i64 0, .int .i64 0, .int .i64 0, .int .u64 0, .int .u64 0, .int .u64 0, .int .u64 0, .int .u64 0, .slice none 0 0])
        have HA1 := Lib.hid (HN0.out.size)
        generalize w0.alloc (.cells #[.int .i64 0, .int .i64 0, .int .i64 0, .int .u64 0, .int .u64 0, .int .u64 0, .int .u64 0, .int .u64 0, .slice none 0 0] 93) = w1 at *
        refine hK.out _ _ ?_ (fun hHeld => ?_)
        · exact ⟨fun o => (HN1.out.cells.1 g o HG.out), fun o => (HN1.out.cells.1 g' o HG'.out)⟩
        clear hK K
        try simp only [Act.put, sA, sZ, sS]
        refine wpAnyH_ready (rs := [9]) (by kernel_rfl) (by simp) ?_
        refine AllReadyH.cons (o := ⟨some 7, .alloc 93, 0, "ref.go:210", #[], none⟩) rfl (fun K hK => ?_) AllReadyH.nil
        go_simp
        have HN2 := Lib.hid (HN1.out.alloc (.cells #[.int .i64 0, .int .i64 0, .int .i64 0, .int .u64 0, .int .u64 0, .int .u64 0, .int .u64 0, .int .u64 0, .slice none 0 0] 93))
        have HP2 := Lib.hid (Blk.mk_new w1 93 #[.int .i64 0, .int .i64 0, .int .i64 0, .int .u64 0, .int .u64 0, .int .u64 0, .int .u64 0, .int .u64 0, .slice none 0 0])
        have HA2 := Lib.hid (HN1.out.size)
        have HQ2 := Lib.hid (HP1.out.alloc (.cells #[.int .i64 0, .int .i64 0, .int .i64 0, .int .u64 0, .int .u64 0, .int .u64 0, .int .u64 0, .int .u64 0, .slice none 0 0] 93))
        have HD2 := Lib.hid (Nat.ne_of_lt HP1.out.lt)
        generalize w1.alloc (.cells #[.int .i64 0, .int .i64 0, .int .i64 0, .int .u64 0, .int .u64 0, .int .u64 0, .int .u64 0, .int .u64 0, .slice none 0 0] 93) = w2 at *
        refine hK.out _ _ ?_ (fun hHeld => ?_)
        · exact ⟨fun o => (HN2.out.cells.1 g o HG.out), fun o => (HN2.out.cells.1 g' o HG'.out)⟩
        clear hK K
        try simp only [Act.put, sA, sZ, sS]
        refine wpAnyH_ready (rs := [10]) (by kernel_rfl) (by simp) ?_
        refine AllReadyH.cons (o := ⟨none, .store 93 (.tmp 6) (.tmp 22), 0, "ref.go:210", #[⟨8, .data⟩, ⟨3, .data⟩, ⟨0, .phase⟩, ⟨1, .phase⟩, ⟨2, .phase⟩, ⟨3, .phase⟩, ⟨4, Ground.textOnly Departure.lateStores⟩, ⟨5, Ground.textOnly Departure.lateStores⟩, ⟨6, Ground.textOnly Departure.lateStores⟩, ⟨7, Ground.textOnly Departure.lateStores⟩, ⟨8, .phase⟩, ⟨9, .phase⟩], none⟩) rfl (fun K hK => ?_) AllReadyH.nil
        obtain ⟨z0, z1, z2, z3, z4, z5, z6, z7, z8, z9, zz⟩ := Blk9R HQ2.out
        go_simp
        have hu3 : Upd (· = w0.heap.size) w2 (((((((((w2.setCell ⟨w0.heap.size, 0, none⟩ (.int .i64 k)).setCell ⟨w0.heap.size, 1, none⟩ (.int .i64 fr)).setCell ⟨w0.heap.size, 2, none⟩ (.int .i64 ds)).setCell ⟨w0.heap.size, 3, none⟩ (.int .u64 (ep : Int))).setCell ⟨w0.heap.size, 4, none⟩ (.int .u64 (t : Int))).setCell ⟨w0.heap.size, 5, none⟩ (.int .u64 (b.c : Int))).setCell ⟨w0.heap.size, 6, none⟩ (.int .u64 (b.r : Int))).setCell ⟨w0.heap.size, 7, none⟩ (.int .u64 (b.s : Int))).setCell ⟨w0.heap.size, 8, none⟩ (.slice A1 b.l.length c1)) := (((((((((Upd.refl _ w2).setIn 0 _).setIn 1 _).setIn 2 _).setIn 3 _).setIn 4 _).setIn 5 _).setIn 6 _).setIn 7 _).setIn 8 _
        have HP3 := Lib.hid (Blk.set9 (.int .i64 k) (.int .i64 fr) (.int .i64 ds) (.int .u64 (ep : Int)) (.int .u64 (t : Int)) (.int .u64 (b.c : Int)) (.int .u64 (b.r : Int)) (.int .u64 (b.s : Int)) (.slice A1 b.l.length c1) HQ2.out)
        have HN3 := Lib.hid (HN2.out.upd hu3 (fun i e => by rw [e]; exact HA1.out))
        have HQ3 := Lib.hid (HP2.out.upd hu3 (HD2.out.symm))
        clear hu3 z0 z1 z2 z3 z4 z5 z6 z7 z8 z9 zz
        generalize (((((((((w2.setCell ⟨w0.heap.size, 0, none⟩ (.int .i64 k)).setCell ⟨w0.heap.size, 1, none⟩ (.int .i64 fr)).setCell ⟨w0.heap.size, 2, none⟩ (.int .i64 ds)).setCell ⟨w0.heap.size, 3, none⟩ (.int .u64 (ep : Int))).setCell ⟨w0.heap.size, 4, none⟩ (.int .u64 (t : Int))).setCell ⟨w0.heap.size, 5, none⟩ (.int .u64 (b.c : Int))).setCell ⟨w0.heap.size, 6, none⟩ (.int .u64 (b.r : Int))).setCell ⟨w0.heap.size, 7, none⟩ (.int .u64 (b.s : Int))).setCell ⟨w0.heap.size, 8, none⟩ (.slice A1 b.l.length c1)) = w3 at *
        refine hK.out _ _ ?_ (fun hHeld => ?_)
        · exact ⟨fun o => (HN3.out.cells.1 g o HG.out), fun o => (HN3.out.cells.1 g' o HG'.out)⟩
        clear hK K
        try simp only [Act.put, sA, sZ, sS]
        refine wpAnyH_ready (rs := [11]) (by kernel_rfl) (by simp) ?_
        refine AllReadyH.cons (o := ⟨none, .store 93 (.tmp 7) (.tmp 26), 0, "ref.go:210", #[⟨9, .data⟩, ⟨7, .data⟩, ⟨10, .chain⟩, ⟨0, .phase⟩, ⟨1, .phase⟩, ⟨2, .phase⟩, ⟨3, .phase⟩, ⟨4, .phase⟩, ⟨5, .phase⟩, ⟨6, .phase⟩, ⟨7, .phase⟩, ⟨8, .phase⟩, ⟨9, .phase⟩, ⟨10, .phase⟩], none⟩) rfl (fun K hK => ?_) AllReadyH.nil
        obtain ⟨z0, z1, z2, z3, z4, z5, z6, z7, z8, z9, zz⟩ := Blk9R HQ3.out
        go_simp
        have hu4 : Upd (· = w1.heap.size) w3 (((((((((w3.setCell ⟨w1.heap.size, 0, none⟩ (.int .i64 k)).setCell ⟨w1.heap.size, 1, none⟩ (.int .i64 fr)).setCell ⟨w1.heap.size, 2, none⟩ (.int .i64 ds)).setCell ⟨w1.heap.size, 3, none⟩ (.int .u64 (ep : Int))).setCell ⟨w1.heap.size, 4, none⟩ (.int .u64 (t : Int))).setCell ⟨w1.heap.size, 5, none⟩ (.int .u64 (b.c : Int))).setCell ⟨w1.heap.size, 6, none⟩ (.int .u64 (b.r : Int))).setCell ⟨w1.heap.size, 7, none⟩ (.int .u64 (b.s : Int))).setCell ⟨w1.heap.size, 8, none⟩ (.slice A2 b.l.length c2)) := (((((((((Upd.refl _ w3).setIn 0 _).setIn 1 _).setIn 2 _).setIn 3 _).setIn 4 _).setIn 5 _).setIn 6 _).setIn 7 _).setIn 8 _
        have HP4 := Lib.hid (Blk.set9 (.int .i64 k) (.int .i64 fr) (.int .i64 ds) (.int .u64 (ep : Int)) (.int .u64 (t : Int)) (.int .u64 (b.c : Int)) (.int .u64 (b.r : Int)) (.int .u64 (b.s : Int)) (.slice A2 b.l.length c2) HQ3.out)
        have HN4 := Lib.hid (HN3.out.upd hu4 (fun i e => by rw [e]; exact HA2.out))
        have HQ4 := Lib.hid (HP3.out.upd hu4 (HD2.out))
        clear hu4 z0 z1 z2 z3 z4 z5 z6 z7 z8 z9 zz
        generalize (((((((((w3.setCell ⟨w1.heap.size, 0, none⟩ (.int .i64 k)).setCell ⟨w1.heap.size, 1, none⟩ (.int .i64 fr)).setCell ⟨w1.heap.size, 2, none⟩ (.int .i64 ds)).setCell ⟨w1.heap.size, 3, none⟩ (.int .u64 (ep : Int))).setCell ⟨w1.heap.size, 4, none⟩ (.int .u64 (t : Int))).setCell ⟨w1.heap.size, 5, none⟩ (.int .u64 (b.c : Int))).setCell ⟨w1.heap.size, 6, none⟩ (.int .u64 (b.r : Int))).setCell ⟨w1.heap.size, 7, none⟩ (.int .u64 (b.s : Int))).setCell ⟨w1.heap.size, 8, none⟩ (.slice A2 b.l.length c2)) = w4 at *
        refine hK.out _ _ ?_ (fun hHeld => ?_)
        · exact ⟨fun o => (HN4.out.cells.1 g o HG.out), fun o => (HN4.out.cells.1 g' o HG'.out)⟩
        clear hK K
        try simp only [Act.put, sA, sZ, sS]
        refine wpAnyH_done (by kernel_rfl) ?_ _
        clear hHeld e0 f0 e1 f1 e2 f2 e3 f3 e4 f4 e5 f5 e6 f6 e7 f7 e8 f8
        obtain ⟨y0, y1, y2, y3, y4, y5, y6, y7, y8, y9, yz⟩ := Blk9R HQ4.out
        obtain ⟨z0, z1, z2, z3, z4, z5, z6, z7, z8, z9, zz⟩ := Blk9R HP4.out
        go_wp2_with fail
        refine (refSame_any b.c b.r b.s _ b.l b.c b.r b.s _ b.l w4 (by have := HBA.out.ok.l; dsimp only at this; omega) (by have := HBA.out.ok.l; dsimp only at this; omega) (HBA.out.sl.slIn.new HN4.out) (HBA'.out.sl.slIn.new HN4.out)).mono ?_
        rintro e wx ⟨rfl, hnx⟩
        have HNX := Lib.hid ((HN.out.trans HN4.out).trans hnx)
        rw [sameB_self b]
        clear hnx
        go_wp2_with fail
        go_roundw
        case rel => exact ⟨m + 1, by omega, by go_num, HNX.out⟩
        case measure => simp [intOf]; omega
      · go_simp
        have HN5 := Lib.hid (HN0.out.alloc (.cells #[.int .i64 0, .int .i64 0, .int .i64 0, .int .u64 0, .int .u64 0, .int .u64 0, .int .u64 0, .int .u64 0, .slice none 0 0] 93))
        have HP5 := Lib.hid (Blk.mk_new w0 93 #[.int .i64 0, .int .i64 0, .int .i64 0, .int .u64 0, .int .u64 0, .int .u64 0, .int .u64 0, .int .u64 0, .slice none 0 0])
        have HA5 := Lib.hid (HN0.out.size)
        generalize w0.alloc (.cells #[.int .i64 0, .int .i64 0, .int .i64 0, .int .u64 0, .int .u64 0, .int .u64 0, .int .u64 0, .int .u64 0, .slice none 0 0] 93) = w5 at *
        refine hK.out _ _ ?_ (fun hHeld => ?_)
        · exact ⟨fun o => (HN5.out.cells.1 g o HG.out), fun o => (HN5.out.cells.1 g' o HG'.out)⟩
        clear hK K
        try simp only [Act.put, sA, sZ, sS]
        refine wpAnyH_ready (rs := [8]) (by kernel_rfl) (by simp) ?_
        refine AllReadyH.cons (o := ⟨some 6, .alloc 93, 0, "ref.go:210", #[], none⟩) rfl (fun K hK => ?_) AllReadyH.nil
        go_simp
        have HN6 := Lib.hid (HN5.out.alloc (.cells #[.int .i64 0, .int .i64 0, .int .i64 0, .int .u64 0, .int .u64 0, .int .u64 0, .int .u64 0, .int .u64 0, .slice none 0 0] 93))
        have HP6 := Lib.hid (Blk.mk_new w5 93 #[.int .i64 0, .int .i64 0, .int .i64 0, .int .u64 0, .int .u64 0, .int .u64 0, .int .u64 0, .int .u64 0, .slice none 0 0])
        have HA6 := Lib.hid (HN5.out.size)
        have HQ6 := Lib.hid (HP5.out.alloc (.cells #[.int .i64 0, .int .i64 0, .int .i64 0, .int .u64 0, .int .u64 0, .int .u64 0, .int .u64 0, .int .u64 0, .slice none 0 0] 93))
        have HD6 := Lib.hid (Nat.ne_of_lt HP5.out.lt)
        generalize w5.alloc (.cells #[.int .i64 0, .int .i64 0, .int .i64 0, .int .u64 0, .int .u64 0, .int .u64 0, .int .u64 0, .int .u64 0, .slice none 0 0] 93) = w6 at *
        refine hK.out _ _ ?_ (fun hHeld => ?_)
        · exact ⟨fun o => (HN6.out.cells.1 g o HG.out), fun o => (HN6.out.cells.1 g' o HG'.out)⟩
        clear hK K
        try simp only [Act.put, sA, sZ, sS]
        refine wpAnyH_ready (rs := [10]) (by kernel_rfl) (by simp) ?_
        refine AllReadyH.cons (o := ⟨none, .store 93 (.tmp 6) (.tmp 22), 0, "ref.go:210", #[⟨8, .data⟩, ⟨3, .data⟩, ⟨0, .phase⟩, ⟨1, .phase⟩, ⟨2, .phase⟩, ⟨3, .phase⟩, ⟨4, Ground.textOnly Departure.lateStores⟩, ⟨5, Ground.textOnly Departure.lateStores⟩, ⟨6, Ground.textOnly Departure.lateStores⟩, ⟨7, Ground.textOnly Departure.lateStores⟩, ⟨8, .phase⟩, ⟨9, .phase⟩], none⟩) rfl (fun K hK => ?_) AllReadyH.nil
        obtain ⟨z0, z1, z2, z3, z4, z5, z6, z7, z8, z9, zz⟩ := Blk9R HP6.out
        go_simp
        have hu7 : Upd (· = w5.heap.size) w6 (((((((((w6.setCell ⟨w5.heap.size, 0, none⟩ (.int .i64 k)).setCell ⟨w5.heap.size, 1, none⟩ (.int .i64 fr)).setCell ⟨w5.heap.size, 2, none⟩ (.int .i64 ds)).setCell ⟨w5.heap.size, 3, none⟩ (.int .u64 (ep : Int))).setCell ⟨w5.heap.size, 4, none⟩ (.int .u64 (t : Int))).setCell ⟨w5.heap.size, 5, none⟩ (.int .u64 (b.c : Int))).setCell ⟨w5.heap.size, 6, none⟩ (.int .u64 (b.r : Int))).setCell ⟨w5.heap.size, 7, none⟩ (.int .u64 (b.s : Int))).setCell ⟨w5.heap.size, 8, none⟩ (.slice A1 b.l.length c1)) := (((((((((Upd.refl _ w6).setIn 0 _).setIn 1 _).setIn 2 _).setIn 3 _).setIn 4 _).setIn 5 _).setIn 6 _).setIn 7 _).setIn 8 _
        have HP7 := Lib.hid (Blk.set9 (.int .i64 k) (.int .i64 fr) (.int .i64 ds) (.int .u64 (ep : Int)) (.int .u64 (t : Int)) (.int .u64 (b.c : Int)) (.int .u64 (b.r : Int)) (.int .u64 (b.s : Int)) (.slice A1 b.l.length c1) HP6.out)
        have HN7 := Lib.hid (HN6.out.upd hu7 (fun i e => by rw [e]; exact HA6.out))
        have HQ7 := Lib.hid (HQ6.out.upd hu7 (HD6.out))
        clear hu7 z0 z1 z2 z3 z4 z5 z6 z7 z8 z9 zz
        generalize (((((((((w6.setCell ⟨w5.heap.size, 0, none⟩ (.int .i64 k)).setCell ⟨w5.heap.size, 1, none⟩ (.int .i64 fr)).setCell ⟨w5.heap.size, 2, none⟩ (.int .i64 ds)).setCell ⟨w5.heap.size, 3, none⟩ (.int .u64 (ep : Int))).setCell ⟨w5.heap.size, 4, none⟩ (.int .u64 (t : Int))).setCell ⟨w5.heap.size, 5, none⟩ (.int .u64 (b.c : Int))).setCell ⟨w5.heap.size, 6, none⟩ (.int .u64 (b.r : Int))).setCell ⟨w5.heap.size, 7, none⟩ (.int .u64 (b.s : Int))).setCell ⟨w5.heap.size, 8, none⟩ (.slice A1 b.l.length c1)) = w7 at *
        refine hK.out _ _ ?_ (fun hHeld => ?_)
        · exact ⟨fun o => (HN7.out.cells.1 g o HG.out), fun o => (HN7.out.cells.1 g' o HG'.out)⟩
        clear hK K
        try simp only [Act.put, sA, sZ, sS]
        refine wpAnyH_ready (rs := [11]) (by kernel_rfl) (by simp) ?_
        refine AllReadyH.cons (o := ⟨none, .store 93 (.tmp 7) (.tmp 26), 0, "ref.go:210", #[⟨9, .data⟩, ⟨7, .data⟩, ⟨10, .chain⟩, ⟨0, .phase⟩, ⟨1, .phase⟩, ⟨2, .phase⟩, ⟨3, .phase⟩, ⟨4, .phase⟩, ⟨5, .phase⟩, ⟨6, .phase⟩, ⟨7, .phase⟩, ⟨8, .phase⟩, ⟨9, .phase⟩, ⟨10, .phase⟩], none⟩) rfl (fun K hK => ?_) AllReadyH.nil
        obtain ⟨z0, z1, z2, z3, z4, z5, z6, z7, z8, z9, zz⟩ := Blk9R HQ7.out
        go_simp
        have hu8 : Upd (· = w0.heap.size) w7 (((((((((w7.setCell ⟨w0.heap.size, 0, none⟩ (.int .i64 k)).setCell ⟨w0.heap.size, 1, none⟩ (.int .i64 fr)).setCell ⟨w0.heap.size, 2, none⟩ (.int .i64 ds)).setCell ⟨w0.heap.size, 3, none⟩ (.int .u64 (ep : Int))).setCell ⟨w0.heap.size, 4, none⟩ (.int .u64 (t : Int))).setCell ⟨w0.heap.size, 5, none⟩ (.int .u64 (b.c : Int))).setCell ⟨w0.heap.size, 6, none⟩ (.int .u64 (b.r : Int))).setCell ⟨w0.heap.size, 7, none⟩ (.int .u64 (b.s : Int))).setCell ⟨w0.heap.size, 8, none⟩ (.slice A2 b.l.length c2)) := (((((((((Upd.refl _ w7).setIn 0 _).setIn 1 _).setIn 2 _).setIn 3 _).setIn 4 _).setIn 5 _).setIn 6 _).setIn 7 _).setIn 8 _
        have HP8 := Lib.hid (Blk.set9 (.int .i64 k) (.int .i64 fr) (.int .i64 ds) (.int .u64 (ep : Int)) (.int .u64 (t : Int)) (.int .u64 (b.c : Int)) (.int .u64 (b.r : Int)) (.int .u64 (b.s : Int)) (.slice A2 b.l.length c2) HQ7.out)
        have HN8 := Lib.hid (HN7.out.upd hu8 (fun i e => by rw [e]; exact HA5.out))
        have HQ8 := Lib.hid (HP7.out.upd hu8 (HD6.out.symm))
        clear hu8 z0 z1 z2 z3 z4 z5 z6 z7 z8 z9 zz
        generalize (((((((((w7.setCell ⟨w0.heap.size, 0, none⟩ (.int .i64 k)).setCell ⟨w0.heap.size, 1, none⟩ (.int .i64 fr)).setCell ⟨w0.heap.size, 2, none⟩ (.int .i64 ds)).setCell ⟨w0.heap.size, 3, none⟩ (.int .u64 (ep : Int))).setCell ⟨w0.heap.size, 4, none⟩ (.int .u64 (t : Int))).setCell ⟨w0.heap.size, 5, none⟩ (.int .u64 (b.c : Int))).setCell ⟨w0.heap.size, 6, none⟩ (.int .u64 (b.r : Int))).setCell ⟨w0.heap.size, 7, none⟩ (.int .u64 (b.s : Int))).setCell ⟨w0.heap.size, 8, none⟩ (.slice A2 b.l.length c2)) = w8 at *
        refine hK.out _ _ ?_ (fun hHeld => ?_)
        · exact ⟨fun o => (HN8.out.cells.1 g o HG.out), fun o => (HN8.out.cells.1 g' o HG'.out)⟩
        clear hK K
        try simp only [Act.put, sA, sZ, sS]
        refine wpAnyH_done (by kernel_rfl) ?_ _
        clear hHeld e0 f0 e1 f1 e2 f2 e3 f3 e4 f4 e5 f5 e6 f6 e7 f7 e8 f8
        obtain ⟨y0, y1, y2, y3, y4, y5, y6, y7, y8, y9, yz⟩ := Blk9R HQ8.out
        obtain ⟨z0, z1, z2, z3, z4, z5, z6, z7, z8, z9, zz⟩ := Blk9R HP8.out
        go_wp2_with fail
        refine (refSame_any b.c b.r b.s _ b.l b.c b.r b.s _ b.l w8 (by have := HBA.out.ok.l; dsimp only at this; omega) (by have := HBA.out.ok.l; dsimp only at this; omega) (HBA.out.sl.slIn.new HN8.out) (HBA'.out.sl.slIn.new HN8.out)).mono ?_
        rintro e wx ⟨rfl, hnx⟩
        have HNX := Lib.hid ((HN.out.trans HN8.out).trans hnx)
        rw [sameB_self b]
        clear hnx
        go_wp2_with fail
        go_roundw
        case rel => exact ⟨m + 1, by omega, by go_num, HNX.out⟩
        case measure => simp [intOf]; omega
    · obtain rfl : m = l.length := by omega
      have hlt2 : ¬ (l.length : Int) < (l.length : Int) := by omega
      go_wp2_with fail
      go_ret
      exact ⟨rfl, hn⟩
end
end Go.Proofs.YtecniafnihpjmaaGreatDoor
