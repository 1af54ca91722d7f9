/- The parts RpB, RpB2, joined. -/
import Derived.Test.YtecniafnihpjmaaGreatDoorTk
import Derived.Test.YtecniafnihpjmaaGreatDoorMg11
import Derived.Test.YtecniafnihpjmaaGreatDoorHz
/- Chapter 24 (replica): the reference's Prefix; the law's holds. Printed by genRpB.py. -/
namespace Go.Proofs.YtecniafnihpjmaaGreatDoor
open Go.RowKit Go.Lap C
set_option linter.unusedVariables false
set_option linter.unusedSimpArgs false
section
variable {w w' W wa : World} {S : Nat → Prop} {n B D a : Nat} {L : ChL} {x : Chn}
theorem sameB_self (b : Btc) : sameB b.c b.r b.s b.l b.c b.r b.s b.l = true := by simp [sameB]
theorem BtRow.take {base : Nat} {A : Option Addr} {m c : Nat} {l : List Btc} (h : BtRow w base (.slice A m c) l) {k : Nat} (hk : k ≤ l.length) (hkc : k ≤ c) : BtRow w base (.slice A k c) (l.take k) := by
  obtain ⟨ps, rfl, h2, h3⟩ := h
  rw [List.length_map] at hk
  exact ⟨ps.take k, by rw [List.map_take], h2.take BtV.encOk hk hkc (Nat.le_refl _), fun p hp => h3 p (List.mem_of_mem_take hp)⟩
theorem BtRow.cap {base : Nat} {A : Option Addr} {m c : Nat} {l : List Btc} (h : BtRow w base (.slice A m c) l) : m = l.length ∧ l.length ≤ c := by
  obtain ⟨ps, rfl, h2, h3⟩ := h
  have := (h2.slIn BtV.encOk).cap_le
  rw [List.length_map]
  exact ⟨this.2, this.1⟩
set_option maxRecDepth 100000 in
set_option maxHeartbeats 4000000 in
/-- A list that is the beginning of another one. -/
theorem prefix_any {v v' : Value} {l m : List Btc} (h1 : BtRow w 0 v l) (h2 : BtRow w 0 v' m) (hp : l <+: m) (hm : m.length ≤ 2000000) :
    Calls Tryz.prog 20 #[v, v'] w fun e w' => e = .returned (.bool true) ∧ New w w' := by
  have hle := hp.length_le
  obtain ⟨A1, c1, hv1⟩ := h1.shape
  obtain ⟨A2, c2, hv2⟩ := h2.shape
  have H1 := Lib.hid h1
  have H2 := Lib.hid h2
  have HP := Lib.hid hp
  have HV1 := Lib.hid hv1
  have HV2 := Lib.hid hv2
  rw [hv1, hv2]
  have hgt : ¬ (m.length : Int) < (l.length : Int) := by omega
  clear h1 h2 hp hv1 hv2
  go_enter Tryz.func20, Tryz.ntmps20
  go_wp2_with fail
  go_loopw [5] (fun i wr => ∃ k : Nat, k ≤ l.length ∧ i = .int .i64 (k : Int) ∧ New w wr) (fun i _ => l.length - (intOf i).toNat)
  case atStart => exact ⟨0, by omega, rfl, New.refl _⟩
  case round =>
    obtain ⟨k, hk, rfl, hn⟩ := hrel
    have HN := Lib.hid hn
    by_cases hlt : k < l.length
    · obtain ⟨b, hb⟩ : ∃ b, l[k]? = some b := ⟨_, List.getElem?_eq_getElem hlt⟩
      have hb2 := pre_get HP.out hb
      obtain ⟨g, off, cap, A, cp, hv, hcap, hba, e0, e1, e2, e3, hg⟩ := (H1.out.new hn).at_ hb
      obtain ⟨g', off', cap', A', cp', hv', hcap', hba', f0, f1, f2, f3, hg'⟩ := (H2.out.new hn).at_ hb2
      rw [HV1.out] at hv
      cases hv
      rw [HV2.out] at hv'
      cases hv'
      have HBA := Lib.hid hba
      have HBA' := Lib.hid hba'
      have hlt2 : (k : Int) < (l.length : Int) := by omega
      have hlt3 : (k : Int) < (m.length : Int) := by omega
      have hk0 : (0 : Int) ≤ (k : Int) := by omega
      clear hb hb2 hba hba' hn
      go_upto_region 6 with fail
      refine wp_region_held_drew (S := fun w' => (∀ o, w'.cell? ⟨g, o, none⟩ = wr.cell? ⟨g, o, none⟩) ∧ (∀ o, w'.cell? ⟨g', o, none⟩ = wr.cell? ⟨g', o, none⟩)) (by kernel_rfl) (⟨fun _ => rfl, fun _ => rfl⟩) (fun hHeld => ?_)
      refine tkH (i := 0) (oi := ⟨some 17, .move (.tmp 0), 26, "ref.go:197", #[], none⟩) (v := ?_) (.inl ⟨by rfl, ?_⟩) ?_
      rotate_left
      · (intro wq hSw; (try dsimp only at hSw); go_simp; first | done | with_reducible rfl)
      try simp only [Act.put, sA, sZ, sS]
      refine tkH (i := 1) (oi := ⟨some 18, .move (.tmp 5), 3, "ref.go:197", #[], none⟩) (v := ?_) (.inl ⟨by rfl, ?_⟩) ?_
      rotate_left
      · (intro wq hSw; (try dsimp only at hSw); go_simp; first | done | with_reducible rfl)
      try simp only [Act.put, sA, sZ, sS]
      refine tkH (i := 2) (oi := ⟨some 19, .indexAddr 26 (.tmp 17) (.tmp 18), 0, "ref.go:197", #[⟨0, .data⟩, ⟨1, .data⟩], none⟩) (v := ?_) (.inl ⟨by rfl, ?_⟩) ?_
      rotate_left
      · (intro wq hSw; (try dsimp only at hSw); go_simp; first | done | with_reducible rfl)
      try simp only [Act.put, sA, sZ, sS]
      refine tkH (i := 3) (oi := ⟨some 20, .load 40 (.tmp 19), 40, "ref.go:197", #[⟨2, .data⟩], none⟩) (v := ?_) (.inl ⟨by rfl, ?_⟩) ?_
      rotate_left
      · (intro wq hSw; (try dsimp only at hSw); go_simp; first | done | with_reducible rfl)
      try simp only [Act.put, sA, sZ, sS]
      refine tkH (i := 4) (oi := ⟨some 21, .move (.tmp 1), 26, "ref.go:197", #[], none⟩) (v := ?_) (.inl ⟨by rfl, ?_⟩) ?_
      rotate_left
      · (intro wq hSw; (try dsimp only at hSw); go_simp; first | done | with_reducible rfl)
      try simp only [Act.put, sA, sZ, sS]
      refine tkH (i := 5) (oi := ⟨some 22, .move (.tmp 5), 3, "ref.go:197", #[], none⟩) (v := ?_) (.inl ⟨by rfl, ?_⟩) ?_
      rotate_left
      · (intro wq hSw; (try dsimp only at hSw); go_simp; first | done | with_reducible rfl)
      try simp only [Act.put, sA, sZ, sS]
      refine tkH (i := 6) (oi := ⟨some 23, .indexAddr 26 (.tmp 21) (.tmp 22), 0, "ref.go:197", #[⟨4, .data⟩, ⟨5, .data⟩], none⟩) (v := ?_) (.inl ⟨by rfl, ?_⟩) ?_
      rotate_left
      · (intro wq hSw; (try dsimp only at hSw); go_simp; first | done | with_reducible rfl)
      try simp only [Act.put, sA, sZ, sS]
      refine tkH (i := 7) (oi := ⟨some 24, .load 40 (.tmp 23), 40, "ref.go:197", #[⟨6, .data⟩], none⟩) (v := ?_) (.inl ⟨by rfl, ?_⟩) ?_
      rotate_left
      · (intro wq hSw; (try dsimp only at hSw); go_simp; first | done | with_reducible rfl)
      try simp only [Act.put, sA, sZ, sS]
      refine wpAnyH_ready (rs := [8]) (by kernel_rfl) (by simp) ?_
      refine AllReadyH.cons (o := ⟨some 25, .call { callee := .value (.func 50), args := #[.tmp 20, .tmp 24], argTypes := #[40, 40] }, 4, "ref.go:197", #[⟨3, .data⟩, ⟨7, .data⟩], none⟩) rfl (fun K hK => ?_) AllReadyH.nil
      go_simp
      refine (refSame_any b.c b.r b.s _ b.l b.c b.r b.s _ b.l wr.drew (by have := HBA.out.ok.l; dsimp only at this; omega) (by have := HBA.out.ok.l; dsimp only at this; omega) (HBA.out.sl.slIn.new (New.refl wr).drew) (HBA'.out.sl.slIn.new (New.refl wr).drew)).mono ?_
      rintro e w5 ⟨rfl, hn5⟩
      have hn5W := (New.refl wr).drew.trans hn5
      have HN5 := Lib.hid (HN.out.trans hn5W)
      rw [sameB_self b]
      have k0 := fun o => keepR (S := fun _ => False) (Upd.new hn5W) hg (fun h => h) o
      have k1 := fun o => keepR (S := fun _ => False) (Upd.new hn5W) hg' (fun h => h) o
      refine hK.out _ _ ?_ (fun hHeld => ?_)
      · exact ⟨k0, k1⟩
      clear hK K
      try simp only [Act.put, sA, sZ, sS]
      refine tkH (i := 9) (oi := ⟨some 26, .unOp .not 4 (.tmp 25), 4, "ref.go:197", #[⟨8, .data⟩], none⟩) (v := ?_) (.inl ⟨by rfl, ?_⟩) ?_
      rotate_left
      · (intro wq hSw; (try dsimp only at hSw); go_simp; first | done | with_reducible rfl)
      try simp only [Act.put, sA, sZ, sS]
      refine wpAnyH_done (by kernel_rfl) ?_ _
      clear hHeld
      go_wp2_with fail
      go_roundw
      case rel => exact ⟨k + 1, by omega, by go_num, HN5.out⟩
      case measure => simp [intOf]; omega
    · obtain rfl : k = l.length := by omega
      have hlt2 : ¬ ((l.length : Nat) : Int) < (l.length : Int) := by omega
      clear hn
      go_wp2_with fail
      go_ret
      exact ⟨rfl, HN.out⟩
end
end Go.Proofs.YtecniafnihpjmaaGreatDoor

/- Chapter 24 (replica): the law's holds. Printed by genRpB.py. -/
namespace Go.Proofs.YtecniafnihpjmaaGreatDoor
open Go.RowKit Go.Lap C
set_option linter.unusedVariables false
set_option linter.unusedSimpArgs false
section
variable {w w' W wa : World} {S : Nat → Prop} {n B D a : Nat} {L : ChL} {x : Chn}
def HRel (y : Rpl) (wr wx : World) (s5 s6 : Value) : Prop := ∃ a6 A5 n5, s6 = .pointer (some ⟨a6, 0, none⟩) ∧ New wr wx ∧ Blk wx a6 25 #[.int .u64 (y.cf.e : Int), .slice A5 y.cf.ms.length n5] ∧ BtRow wx 0 s5 y.l ∧ TSl wx 3 1 iEnc (.slice A5 y.cf.ms.length n5) y.cf.ms
theorem rowBlk {base : Nat} {v : Value} {l : List Btc} {a : Nat} {cs : Array Value} (h : BtRow w base v l) (hb : Blk w a 25 cs) (hu : Upd (· = a) w w') : BtRow w' base v l :=
  h.upd hu (fun k hk e => by obtain ⟨ps, _, h2, _⟩ := h; exact h2.ne_blk hb (by decide) (e ▸ hk)) (Off.blk hb (by decide))
theorem HRel.mk (y : Rpl) {wr w6 : World} {a6 n5 : Nat} {A5 : Option Addr} {v : Value} {z0 z1 : Value} (hn : New wr w6) (ha : wr.heap.size ≤ a6) (hb : Blk w6 a6 25 #[z0, z1]) (hr : BtRow w6 0 v y.l) (ht : TSl w6 3 1 iEnc (.slice A5 y.cf.ms.length n5) y.cf.ms) :
    HRel y wr ((w6.setCell ⟨a6, 0, none⟩ (.int .u64 (y.cf.e : Int))).setCell ⟨a6, 1, none⟩ (.slice A5 y.cf.ms.length n5)) v (.pointer (some ⟨a6, 0, none⟩)) := by
  have hu : Upd (· = a6) w6 ((w6.setCell ⟨a6, 0, none⟩ (.int .u64 (y.cf.e : Int))).setCell ⟨a6, 1, none⟩ (.slice A5 y.cf.ms.length n5)) := ((Upd.refl _ w6).setIn 0 _).setIn 1 _
  exact ⟨a6, A5, n5, rfl, hn.upd hu (fun k hk => by omega), (hb.set_ 0 _).set_ 1 _, rowBlk hr hb hu, ht.upd hu (Off.blk hb (by decide))⟩
theorem BtRow.low {base : Nat} {v : Value} {l : List Btc} (h : BtRow w base v l) : BtRow w 0 v l := h.lower (Nat.zero_le _)
set_option maxRecDepth 100000 in
set_option maxHeartbeats 16000000 in
theorem holds_any (h : ChAt w n B L x) (hx : ChOk n x) (hn : n ≤ 7) (hB : B ≤ 100000) (hcl : x.cs.length ≤ 1000) :
    Calls Tryz.prog 25 #[.agg #[L.lv, L.uv, L.cv]] w fun e w' => e = .returned (.bool true) ∧ New w w' := by
  have hN := (New.refl w).alloc (.cells #[L.lv, L.uv, L.cv] 64)
  have hb0 := Blk.mk_new w 64 #[L.lv, L.uv, L.cv]
  have hcs := hx.cs
  have HX := Lib.hid hx
  have HH := Lib.hid h
  obtain ⟨Al, nl, cl0, hlv⟩ := h.l.shp
  have hln : L.lv = .slice Al n cl0 := by obtain ⟨a, c, e⟩ := h.l.shape; rw [hlv] at e; cases e; simp [hlv]
  obtain ⟨ps, hps, hrc, hca⟩ := h.cs
  have hpl : ps.length = x.cs.length := by rw [← hps, List.length_map]
  have hl1 : x.cs.length - 1 < ps.length := by have := (List.getElem?_eq_some_iff.1 hcs.nwAt).1; omega
  obtain ⟨nwv, hnwv⟩ : ∃ p, ps[x.cs.length - 1]? = some p := ⟨_, List.getElem?_eq_getElem hl1⟩
  have HNW : Hid (nwv.c = x.newest) := Lib.hid (by
    have h1 : (ps.map CfgV.c)[x.cs.length - 1]? = some nwv.c := by rw [List.getElem?_map, hnwv]; rfl
    rw [hps, hcs.nwAt] at h1
    exact (Option.some.inj h1).symm)
  obtain ⟨gc, offc, capc, hcv, _, hrcA⟩ := hrc.at_ (by intro e; rw [e] at hl1; simp at hl1)
  have e0 : w.cell? ⟨gc, offc + (x.cs.length - 1) * 2, none⟩ = some (.int .u64 (nwv.c.e : Int)) := hrcA.cell CfgV.encOk hnwv (j := 0) rfl
  have e1 : w.cell? ⟨gc, offc + (x.cs.length - 1) * 2 + 1, none⟩ = some nwv.sl := hrcA.cell CfgV.encOk hnwv (j := 1) rfl
  have hgc : gc < w.heap.size := hrcA.lt
  have HNA := Lib.hid (hca nwv (List.mem_of_getElem? hnwv))
  rw [hpl] at hcv
  obtain ⟨m, hm⟩ : ∃ m, x.cs.length = m + 1 := ⟨x.cs.length - 1, by omega⟩
  rw [hm, Nat.add_sub_cancel] at e0 e1
  rw [hm] at hcv
  have HLN := Lib.hid hln
  have HCV := Lib.hid hcv
  obtain ⟨p0, p1, p2, p3, pz⟩ := Blk3G hb0
  have E0 := (hN.cells.1 gc (offc + m * 2) hgc).trans e0
  have E1 := (hN.cells.1 gc (offc + m * 2 + 1) hgc).trans e1
  have hgc2 := Nat.lt_of_lt_of_le hgc hN.size
  unfold CfgV.sl at E1
  have hm1 : (m : Int) < (m : Int) + 1 := by omega
  have hm0 : (0 : Int) ≤ (m : Int) := by omega
  have hwm : IntKind.i64.wrap (m : Int) = (m : Int) := IntWalk.i64_in _ (by omega)
  have hn2 := hN.alloc (.cells #[.int .u64 (nwv.c.e : Int), .slice nwv.A nwv.c.ms.length nwv.n] 25)
  have hbn := Blk.mk_new (w.alloc (.cells #[L.lv, L.uv, L.cv] 64)) 25 #[.int .u64 (nwv.c.e : Int), .slice nwv.A nwv.c.ms.length nwv.n]
  rw [World.size_alloc] at hbn
  have HN2 := Lib.hid hn2
  have HBN := Lib.hid hbn
  have HB0 := Lib.hid (hb0.alloc (.cells #[.int .u64 (nwv.c.e : Int), .slice nwv.A nwv.c.ms.length nwv.n] 25))
  clear h hx hcs hN hb0 hlv hln hps hrc hca hpl hl1 hnwv hcv hrcA e0 e1 hm hgc hn2 hbn
  go_enter Tryz.func25, Tryz.ntmps25
  go_upto_region 1 with fail
  have HZ0 : Hid ((w.alloc (.cells #[L.lv, L.uv, L.cv] 64)).heap.size = w.heap.size + 1) := Lib.hid (World.size_alloc _ _)
  generalize w.alloc (.cells #[L.lv, L.uv, L.cv] 64) = W0 at *
  rw [HLN.out] at p1
  rw [HCV.out] at p3
  go_upto_region 2 with fail
  rw [HZ0.out]
  generalize W0.alloc (.cells #[.int .u64 (nwv.c.e : Int), .slice nwv.A nwv.c.ms.length nwv.n] 25) = W at *
  clear p0 p1 p2 p3 pz E0 E1 hgc2 hm1 hm0 hwm
  go_wp2_with fail
  go_loopw [4, 5, 6, 7, 8, 9, 10] (fun i _ _ _ _ _ _ wr => ∃ k : Nat, k ≤ n ∧ i = .int .i64 (k : Int) ∧ New W wr) (fun i _ _ _ _ _ _ _ => n - (intOf i).toNat)
  case atStart => exact ⟨0, by omega, rfl, New.refl _⟩
  case round =>
    obtain ⟨i, hi, rfl, hn3⟩ := hrel
    have HN3 := Lib.hid (HN2.out.trans hn3)
    have HN3W := Lib.hid hn3
    have HBX := Lib.hid (HB0.out.new hn3)
    have HBN3 := Lib.hid (HBN.out.new hn3)
    have HH3 := Lib.hid (HH.out.new HN3.out)
    have hi0 : (0 : Int) ≤ (i : Int) := by omega
    obtain ⟨p0, p1, p2, p3, pz⟩ := Blk3G HBX.out
    rw [HLN.out] at p1
    clear hn3
    by_cases hlt : i < n
    · have hlt2 : (i : Int) < (n : Int) := by omega
      have HRP := Lib.hid (HH3.out.rp i hlt)
      have HRO := Lib.hid (HX.out.rp i hlt)
      obtain ⟨gl, ol, cl2, hlv2, hcl2, el, hgl⟩ := HH3.out.node hlt
      rw [HLN.out] at hlv2
      cases hlv2
      have hbl := HBX.out.lt
      go_upto_region 5 with fail
      go_cut [5, 6] (fun s5 s6 wx => HRel (x.rp i) wr wx s5 s6)
      case first =>
        refine wp_region_z [14] (fun w' => (∀ o, w'.cell? ⟨w.heap.size, o, none⟩ = wr.cell? ⟨w.heap.size, o, none⟩) ∧ w'.cell? ⟨gl, ol + i, none⟩ = wr.cell? ⟨gl, ol + i, none⟩) (by kernel_rfl) (⟨fun _ => rfl, rfl⟩) (fun hHeld => ?_)
        refine tkZ (i := 0) (oi := ⟨some 26, .fieldAddr 64 (.tmp 1) 0, 0, "law.go:238", #[], none⟩) (v := ?_) (.inl ⟨by rfl, ?_⟩) ?_
        rotate_left
        · (intro wq hSw; (try dsimp only at hSw); go_simp; first | done | with_reducible rfl)
        try simp only [Act.put, sA, sZ, sS]
        refine tkZ (i := 1) (oi := ⟨some 27, .load 61 (.tmp 26), 61, "law.go:238", #[⟨0, .data⟩], none⟩) (v := ?_) (.inl ⟨by rfl, ?_⟩) ?_
        rotate_left
        · (intro wq hSw; (try dsimp only at hSw); go_simp; first | done | with_reducible rfl)
        try simp only [Act.put, sA, sZ, sS]
        refine tkZ (i := 2) (oi := ⟨some 28, .move (.tmp 4), 3, "law.go:238", #[], none⟩) (v := ?_) (.inl ⟨by rfl, ?_⟩) ?_
        rotate_left
        · (intro wq hSw; (try dsimp only at hSw); go_simp; first | done | with_reducible rfl)
        try simp only [Act.put, sA, sZ, sS]
        refine tkZ (i := 3) (oi := ⟨some 29, .indexAddr 61 (.tmp 27) (.tmp 28), 0, "law.go:238", #[⟨1, .data⟩, ⟨2, .data⟩], none⟩) (v := ?_) (.inl ⟨by rfl, ?_⟩) ?_
        rotate_left
        · (intro wq hSw; (try dsimp only at hSw); go_simp; first | done | with_reducible rfl)
        try simp only [Act.put, sA, sZ, sS]
        refine tkZ (i := 4) (oi := ⟨some 30, .load 45 (.tmp 29), 45, "law.go:238", #[⟨3, .data⟩], none⟩) (v := ?_) (.inl ⟨by rfl, ?_⟩) ?_
        rotate_left
        · (intro wq hSw; (try dsimp only at hSw); go_simp; first | done | with_reducible rfl)
        try simp only [Act.put, sA, sZ, sS]
        refine tkZ (i := 6) (oi := ⟨some 32, .fieldAddr 64 (.tmp 1) 0, 0, "law.go:238", #[], none⟩) (v := ?_) (.inl ⟨by rfl, ?_⟩) ?_
        rotate_left
        · (intro wq hSw; (try dsimp only at hSw); go_simp; first | done | with_reducible rfl)
        try simp only [Act.put, sA, sZ, sS]
        refine tkZ (i := 7) (oi := ⟨some 33, .load 61 (.tmp 32), 61, "law.go:238", #[⟨6, .data⟩], none⟩) (v := ?_) (.inl ⟨by rfl, ?_⟩) ?_
        rotate_left
        · (intro wq hSw; (try dsimp only at hSw); go_simp; first | done | with_reducible rfl)
        try simp only [Act.put, sA, sZ, sS]
        refine tkZ (i := 8) (oi := ⟨some 34, .move (.tmp 4), 3, "law.go:238", #[], none⟩) (v := ?_) (.inl ⟨by rfl, ?_⟩) ?_
        rotate_left
        · (intro wq hSw; (try dsimp only at hSw); go_simp; first | done | with_reducible rfl)
        try simp only [Act.put, sA, sZ, sS]
        refine tkZ (i := 9) (oi := ⟨some 35, .indexAddr 61 (.tmp 33) (.tmp 34), 0, "law.go:238", #[⟨7, .data⟩, ⟨8, .data⟩], none⟩) (v := ?_) (.inl ⟨by rfl, ?_⟩) ?_
        rotate_left
        · (intro wq hSw; (try dsimp only at hSw); go_simp; first | done | with_reducible rfl)
        try simp only [Act.put, sA, sZ, sS]
        refine tkZ (i := 10) (oi := ⟨some 36, .load 45 (.tmp 35), 45, "law.go:238", #[⟨9, .data⟩], none⟩) (v := ?_) (.inl ⟨by rfl, ?_⟩) ?_
        rotate_left
        · (intro wq hSw; (try dsimp only at hSw); go_simp; first | done | with_reducible rfl)
        try simp only [Act.put, sA, sZ, sS]
        refine wpZ_ready (rs := [5, 12]) (by kernel_rfl) (by simp) ?_
        refine AllZ.cons (o := ⟨some 31, .call { callee := .value (.func 18), args := #[.tmp 30], argTypes := #[45] }, 26, "law.go:238", #[⟨4, .data⟩], none⟩) rfl (fun K hK => ?_) (AllZ.cons (o := ⟨some 6, .alloc 25, 0, "law.go:238", #[], none⟩) rfl (fun K hK => ?_) AllZ.nil)
        · go_simp
          refine (rlist (HRP.out.new (New.refl wr).drew) (by omega)).mono ?_
          rintro e wL ⟨vL, rfl, hrL, hnL⟩
          have hnLW := (New.refl wr).drew.trans hnL
          have hrow := hrL.low
          refine hK.out _ _ ?_ (fun hHeld => ?_)
          · exact ⟨fun o => keepR (S := fun _ => False) (Upd.new hnLW) hbl (fun h => h) o, keepR (S := fun _ => False) (Upd.new hnLW) hgl (fun h => h) (ol + i)⟩
          clear hK K
          try simp only [Act.put, sA, sZ, sS]
          refine wpZ_ready (rs := [11, 12]) (by kernel_rfl) (by simp) ?_
          refine AllZ.cons (o := ⟨some 37, .call { callee := .value (.func 38), args := #[.tmp 36], argTypes := #[45] }, 25, "law.go:238", #[⟨10, .data⟩, ⟨5, .chain⟩], none⟩) rfl (fun K hK => ?_) (AllZ.cons (o := ⟨some 6, .alloc 25, 0, "law.go:238", #[], none⟩) rfl (fun K hK => ?_) AllZ.nil)
          · go_simp
            refine (rconfig (HRP.out.new hnLW)).mono ?_
            rintro e wC ⟨A5, n5, rfl, ht5, hn5⟩
            have hnCW := hnLW.trans hn5
            have hrowC := hrow.new hn5
            refine hK.out _ _ ?_ (fun hHeld => ?_)
            · exact ⟨fun o => keepR (S := fun _ => False) (Upd.new hnCW) hbl (fun h => h) o, keepR (S := fun _ => False) (Upd.new hnCW) hgl (fun h => h) (ol + i)⟩
            clear hK K
            try simp only [Act.put, sA, sZ, sS]
            refine wpZ_ready (rs := [12]) (by kernel_rfl) (by simp) ?_
            refine AllZ.cons (o := ⟨some 6, .alloc 25, 0, "law.go:238", #[], none⟩) rfl (fun K hK => ?_) AllZ.nil
            go_simp
            have hnAW := hnCW.alloc (.cells #[.int .u64 0, .slice none 0 0] 25)
            have hbA := Blk.mk_new wC 25 #[.int .u64 0, .slice none 0 0]
            have hszA : wr.heap.size ≤ wC.heap.size := hnCW.size
            have hrowA := hrowC.new ((New.refl wC).alloc (.cells #[.int .u64 0, .slice none 0 0] 25))
            have htA := ht5.new ((New.refl wC).alloc (.cells #[.int .u64 0, .slice none 0 0] 25))
            generalize wC.alloc (.cells #[.int .u64 0, .slice none 0 0] 25) = wA at *
            refine hK.out _ _ ?_ (fun hHeld => ?_)
            · exact ⟨fun o => keepR (S := fun _ => False) (Upd.new hnAW) hbl (fun h => h) o, keepR (S := fun _ => False) (Upd.new hnAW) hgl (fun h => h) (ol + i)⟩
            clear hK K
            try simp only [Act.put, sA, sZ, sS]
            refine tkZ (i := 13) (oi := ⟨some 5, .assign (.tmp 31), 26, "law.go:238", #[⟨5, .data⟩, ⟨11, .chain⟩, ⟨0, .phase⟩, ⟨1, .phase⟩, ⟨2, .phase⟩, ⟨3, .phase⟩, ⟨4, .phase⟩, ⟨5, .phase⟩, ⟨6, Ground.textOnly Departure.lateStores⟩, ⟨7, Ground.textOnly Departure.lateStores⟩, ⟨8, Ground.textOnly Departure.lateStores⟩, ⟨9, Ground.textOnly Departure.lateStores⟩, ⟨10, Ground.textOnly Departure.lateStores⟩, ⟨11, Ground.textOnly Departure.lateStoresUnsure⟩, ⟨12, .phase⟩], none⟩) (v := ?_) (.inl ⟨by rfl, ?_⟩) ?_
            rotate_left
            · (intro wq hSw; (try dsimp only at hSw); go_simp; first | done | with_reducible rfl)
            try simp only [Act.put, sA, sZ, sS]
            refine wpZ_ready (rs := [14]) (by kernel_rfl) (by simp) ?_
            refine AllZ.consZ (o := ⟨none, .store 25 (.tmp 6) (.tmp 37), 0, "law.go:238", #[⟨12, .data⟩, ⟨11, .data⟩, ⟨13, .chain⟩, ⟨0, .phase⟩, ⟨1, .phase⟩, ⟨2, .phase⟩, ⟨3, .phase⟩, ⟨4, .phase⟩, ⟨5, .phase⟩, ⟨6, .phase⟩, ⟨7, .phase⟩, ⟨8, .phase⟩, ⟨9, .phase⟩, ⟨10, .phase⟩, ⟨11, .phase⟩, ⟨12, .phase⟩, ⟨13, .phase⟩], none⟩) rfl (by kernel_rfl) (fun K hK => ?_) AllZ.nil
            have gltA := hbA.lt
            have gfzA := hbA.frozen
            obtain ⟨zz0, zz1, zz2, zz3⟩ := Blk2I hbA
            go_simp
            refine hK.out _ _ ?_
            clear hK K
            try simp only [Act.put, sA, sZ, sS]
            refine wpZ_done (by kernel_rfl) ?_ _
            clear hHeld
            go_wp2_with fail
            go_meet
            exact HRel.mk (x.rp i) hnAW hszA hbA hrowA htA
          · go_simp
            have hnAW := hnLW.alloc (.cells #[.int .u64 0, .slice none 0 0] 25)
            have hbA := Blk.mk_new wL 25 #[.int .u64 0, .slice none 0 0]
            have hszA : wr.heap.size ≤ wL.heap.size := hnLW.size
            have hrowA := hrow.new ((New.refl wL).alloc (.cells #[.int .u64 0, .slice none 0 0] 25))
            generalize wL.alloc (.cells #[.int .u64 0, .slice none 0 0] 25) = wA at *
            refine hK.out _ _ ?_ (fun hHeld => ?_)
            · exact ⟨fun o => keepR (S := fun _ => False) (Upd.new hnAW) hbl (fun h => h) o, keepR (S := fun _ => False) (Upd.new hnAW) hgl (fun h => h) (ol + i)⟩
            clear hK K
            try simp only [Act.put, sA, sZ, sS]
            refine wpZ_ready (rs := [11]) (by kernel_rfl) (by simp) ?_
            refine AllZ.cons (o := ⟨some 37, .call { callee := .value (.func 38), args := #[.tmp 36], argTypes := #[45] }, 25, "law.go:238", #[⟨10, .data⟩, ⟨5, .chain⟩], none⟩) rfl (fun K hK => ?_) AllZ.nil
            go_simp
            refine (rconfig (HRP.out.new hnAW)).mono ?_
            rintro e wC ⟨A5, n5, rfl, ht5, hn5⟩
            have hnCW := hnAW.trans hn5
            have hrowC := hrowA.new hn5
            have hbC := hbA.new hn5
            refine hK.out _ _ ?_ (fun hHeld => ?_)
            · exact ⟨fun o => keepR (S := fun _ => False) (Upd.new hnCW) hbl (fun h => h) o, keepR (S := fun _ => False) (Upd.new hnCW) hgl (fun h => h) (ol + i)⟩
            clear hK K
            try simp only [Act.put, sA, sZ, sS]
            refine tkZ (i := 13) (oi := ⟨some 5, .assign (.tmp 31), 26, "law.go:238", #[⟨5, .data⟩, ⟨11, .chain⟩, ⟨0, .phase⟩, ⟨1, .phase⟩, ⟨2, .phase⟩, ⟨3, .phase⟩, ⟨4, .phase⟩, ⟨5, .phase⟩, ⟨6, Ground.textOnly Departure.lateStores⟩, ⟨7, Ground.textOnly Departure.lateStores⟩, ⟨8, Ground.textOnly Departure.lateStores⟩, ⟨9, Ground.textOnly Departure.lateStores⟩, ⟨10, Ground.textOnly Departure.lateStores⟩, ⟨11, Ground.textOnly Departure.lateStoresUnsure⟩, ⟨12, .phase⟩], none⟩) (v := ?_) (.inl ⟨by rfl, ?_⟩) ?_
            rotate_left
            · (intro wq hSw; (try dsimp only at hSw); go_simp; first | done | with_reducible rfl)
            try simp only [Act.put, sA, sZ, sS]
            refine wpZ_ready (rs := [14]) (by kernel_rfl) (by simp) ?_
            refine AllZ.consZ (o := ⟨none, .store 25 (.tmp 6) (.tmp 37), 0, "law.go:238", #[⟨12, .data⟩, ⟨11, .data⟩, ⟨13, .chain⟩, ⟨0, .phase⟩, ⟨1, .phase⟩, ⟨2, .phase⟩, ⟨3, .phase⟩, ⟨4, .phase⟩, ⟨5, .phase⟩, ⟨6, .phase⟩, ⟨7, .phase⟩, ⟨8, .phase⟩, ⟨9, .phase⟩, ⟨10, .phase⟩, ⟨11, .phase⟩, ⟨12, .phase⟩, ⟨13, .phase⟩], none⟩) rfl (by kernel_rfl) (fun K hK => ?_) AllZ.nil
            have gltA := hbC.lt
            have gfzA := hbC.frozen
            obtain ⟨zz0, zz1, zz2, zz3⟩ := Blk2I hbC
            go_simp
            refine hK.out _ _ ?_
            clear hK K
            try simp only [Act.put, sA, sZ, sS]
            refine wpZ_done (by kernel_rfl) ?_ _
            clear hHeld
            go_wp2_with fail
            go_meet
            exact HRel.mk (x.rp i) hnCW hszA hbC hrowC ht5
        · go_simp
          have hnAW := ((New.refl wr).alloc (.cells #[.int .u64 0, .slice none 0 0] 25)).drew
          have hbA := (Blk.mk_new wr 25 #[.int .u64 0, .slice none 0 0]).drew
          have hszA : wr.heap.size ≤ wr.heap.size := Nat.le_refl _
          generalize (wr.alloc (.cells #[.int .u64 0, .slice none 0 0] 25)).drew = wA at *
          refine hK.out _ _ ?_ (fun hHeld => ?_)
          · exact ⟨fun o => keepR (S := fun _ => False) (Upd.new hnAW) hbl (fun h => h) o, keepR (S := fun _ => False) (Upd.new hnAW) hgl (fun h => h) (ol + i)⟩
          clear hK K
          try simp only [Act.put, sA, sZ, sS]
          refine wpZ_ready (rs := [5]) (by kernel_rfl) (by simp) ?_
          refine AllZ.cons (o := ⟨some 31, .call { callee := .value (.func 18), args := #[.tmp 30], argTypes := #[45] }, 26, "law.go:238", #[⟨4, .data⟩], none⟩) rfl (fun K hK => ?_) AllZ.nil
          go_simp
          refine (rlist (HRP.out.new hnAW) (by omega)).mono ?_
          rintro e wL ⟨vL, rfl, hrL, hnL⟩
          have hnLW := hnAW.trans hnL
          have hrow := hrL.low
          have hbL := hbA.new hnL
          refine hK.out _ _ ?_ (fun hHeld => ?_)
          · exact ⟨fun o => keepR (S := fun _ => False) (Upd.new hnLW) hbl (fun h => h) o, keepR (S := fun _ => False) (Upd.new hnLW) hgl (fun h => h) (ol + i)⟩
          clear hK K
          try simp only [Act.put, sA, sZ, sS]
          refine wpZ_ready (rs := [11]) (by kernel_rfl) (by simp) ?_
          refine AllZ.cons (o := ⟨some 37, .call { callee := .value (.func 38), args := #[.tmp 36], argTypes := #[45] }, 25, "law.go:238", #[⟨10, .data⟩, ⟨5, .chain⟩], none⟩) rfl (fun K hK => ?_) AllZ.nil
          go_simp
          refine (rconfig (HRP.out.new hnLW)).mono ?_
          rintro e wC ⟨A5, n5, rfl, ht5, hn5⟩
          have hnCW := hnLW.trans hn5
          have hrowC := hrow.new hn5
          have hbC := hbL.new hn5
          refine hK.out _ _ ?_ (fun hHeld => ?_)
          · exact ⟨fun o => keepR (S := fun _ => False) (Upd.new hnCW) hbl (fun h => h) o, keepR (S := fun _ => False) (Upd.new hnCW) hgl (fun h => h) (ol + i)⟩
          clear hK K
          try simp only [Act.put, sA, sZ, sS]
          refine tkZ (i := 13) (oi := ⟨some 5, .assign (.tmp 31), 26, "law.go:238", #[⟨5, .data⟩, ⟨11, .chain⟩, ⟨0, .phase⟩, ⟨1, .phase⟩, ⟨2, .phase⟩, ⟨3, .phase⟩, ⟨4, .phase⟩, ⟨5, .phase⟩, ⟨6, Ground.textOnly Departure.lateStores⟩, ⟨7, Ground.textOnly Departure.lateStores⟩, ⟨8, Ground.textOnly Departure.lateStores⟩, ⟨9, Ground.textOnly Departure.lateStores⟩, ⟨10, Ground.textOnly Departure.lateStores⟩, ⟨11, Ground.textOnly Departure.lateStoresUnsure⟩, ⟨12, .phase⟩], none⟩) (v := ?_) (.inl ⟨by rfl, ?_⟩) ?_
          rotate_left
          · (intro wq hSw; (try dsimp only at hSw); go_simp; first | done | with_reducible rfl)
          try simp only [Act.put, sA, sZ, sS]
          refine wpZ_ready (rs := [14]) (by kernel_rfl) (by simp) ?_
          refine AllZ.consZ (o := ⟨none, .store 25 (.tmp 6) (.tmp 37), 0, "law.go:238", #[⟨12, .data⟩, ⟨11, .data⟩, ⟨13, .chain⟩, ⟨0, .phase⟩, ⟨1, .phase⟩, ⟨2, .phase⟩, ⟨3, .phase⟩, ⟨4, .phase⟩, ⟨5, .phase⟩, ⟨6, .phase⟩, ⟨7, .phase⟩, ⟨8, .phase⟩, ⟨9, .phase⟩, ⟨10, .phase⟩, ⟨11, .phase⟩, ⟨12, .phase⟩, ⟨13, .phase⟩], none⟩) rfl (by kernel_rfl) (fun K hK => ?_) AllZ.nil
          have gltA := hbC.lt
          have gfzA := hbC.frozen
          obtain ⟨zz0, zz1, zz2, zz3⟩ := Blk2I hbC
          go_simp
          refine hK.out _ _ ?_
          clear hK K
          try simp only [Act.put, sA, sZ, sS]
          refine wpZ_done (by kernel_rfl) ?_ _
          clear hHeld
          go_wp2_with fail
          go_meet
          exact HRel.mk (x.rp i) hnCW hszA hbC hrowC ht5
      case rest =>
        obtain ⟨a6, A5, n5, h6, hnc, hbc, hrow, hts⟩ := hcut
        rw [h6]
        obtain ⟨AL, cL, hv5⟩ := hrow.shape
        rw [hv5]
        have HV5 := Lib.hid hv5
        have HNC := Lib.hid hnc
        have HBC := Lib.hid hbc
        have HROW := Lib.hid hrow
        have HTS := Lib.hid hts
        have hll := HRP.out.ll
        have hclc := HRO.out.cl
        rw [← HRO.out.l] at hclc
        have hwl : IntKind.u64.wrap ((x.rp i).l.length : Int) = ((x.rp i).l.length : Int) := IntWalk.u64_in _ (by omega)
        have hcc : ¬ ((x.rp i).l.length : Int) < ((x.rp i).cl : Int) := by omega
        have hccn : ¬ (x.rp i).l.length < (x.rp i).cl := by omega
        clear p0 p1 p2 p3 pz el hgl hbl h6 hv5 hrow hts
        obtain ⟨p0, p1, p2, p3, pz⟩ := Blk3G (HBX.out.new hnc)
        rw [HLN.out] at p1
        obtain ⟨g1, o1, c1', hlv2, _, el, hgl⟩ := (HH3.out.new hnc).node hlt
        rw [HLN.out] at hlv2
        cases hlv2
        obtain ⟨d0, d1, d2, dz⟩ := Blk2I hbc
        clear hnc hbc
        go_wp2_with fail
        refine (rclean (HRP.out.new HNC.out)).mono ?_
        rintro e wq ⟨rfl, rfl⟩
        go_wp2_with fail
        refine (C.refPlace_any (x.rp i).cf.e _ (x.rp i).cf.ms (i : Int) wq (by have := HRP.out.cl7; omega) HTS.out.slIn).mono ?_
        rintro e w5 ⟨rfl, hn5⟩
        have HN5 := Lib.hid (HNC.out.trans hn5)
        have HBC5 := Lib.hid (HBC.out.new hn5)
        have HROW5 := Lib.hid (HROW.out.new hn5)
        have HTS5 := Lib.hid (HTS.out.new hn5)
        have HB5 := Lib.hid ((HBX.out.new HNC.out).new hn5)
        have HBN5 := Lib.hid ((HBN3.out.new HNC.out).new hn5)
        have HH5 := Lib.hid ((HH3.out.new HNC.out).new hn5)
        have HN5W := Lib.hid ((HN3W.out.trans HNC.out).trans hn5)
        clear p0 p1 p2 p3 pz el hgl d0 d1 d2 dz hn5 hwl hcc hccn
        go_wp2_with fail
        obtain ⟨wo, rfl⟩ : ∃ wo, wo = wr := ⟨_, rfl⟩
        go_loopw [9] (fun u9 wr => ∃ k : Nat, (k = 0 ∨ (k : Int) ≤ placeC (x.rp i).cf.ms (i : Int)) ∧ u9 = .int .i64 (k : Int) ∧ New w5 wr) (fun u9 _ => (placeC (x.rp i).cf.ms (i : Int)).toNat - (intOf u9).toNat)
        case atStart => exact ⟨0, .inl rfl, rfl, New.refl _⟩
        case round =>
          obtain ⟨k, hk, rfl, hnr⟩ := hrel
          have HNR := Lib.hid hnr
          have hpc : placeC (x.rp i).cf.ms (i : Int) ≤ 1000 := by
            rcases place_cases (x.rp i).cf.ms (i : Int) with ⟨_, h2⟩ | ⟨j, h1, _, _, h2⟩
            · omega
            · have := HRP.out.cl7; omega
          obtain ⟨pc, hpcd⟩ : ∃ pc, pc = placeC (x.rp i).cf.ms (i : Int) := ⟨_, rfl⟩
          rw [← hpcd] at hk hpc ⊢
          have HPC := Lib.hid hpcd
          clear hpcd
          have hk0 : (0 : Int) ≤ (k : Int) := by omega
          by_cases hgo : (k : Int) < pc
          · have HAH : Hid (∃ z : Nat, z < n ∧ (x.rp i).cf.ms[k]? = some (z : Int) ∧ k < (x.rp i).cf.ms.length ∧ (x.rp i).l <+: (x.rp z).l) := Lib.hid (by
              have h0 := HPC.out
              rcases place_cases (x.rp i).cf.ms (i : Int) with ⟨_, h2⟩ | ⟨j, h1, h2, _, h3⟩
              · omega
              · have hkj : k < j := by omega
                have hkl : k < (x.rp i).cf.ms.length := by omega
                have hb := (HX.out.cs.ok _ HRO.out.cf).2 _ (List.getElem_mem hkl)
                obtain ⟨z, hz⟩ : ∃ z : Nat, (x.rp i).cf.ms[k] = (z : Int) := ⟨((x.rp i).cf.ms[k]).toNat, by omega⟩
                have hzn : z < n := by omega
                have hget : (x.rp i).cf.ms[k]? = some (z : Int) := by rw [List.getElem?_eq_getElem hkl, hz]
                refine ⟨z, hzn, hget, hkl, ?_⟩
                have hp := HRO.out.pre z hzn ⟨k, j, hkj, hget, h2⟩
                rw [HRO.out.l]
                exact hp)
            obtain ⟨z, hz, hget, hkl, hpre⟩ := HAH.out
            obtain ⟨A', c', hv', _, hh⟩ := (HTS5.out.slIn.new hnr)
            cases hv'
            rcases hh with h0 | ⟨gm, om, rfl, hgm, hc⟩
            · rw [h0] at hkl; simp at hkl
            have em := SlIn.int_at hc hget
            obtain ⟨p0, p1, p2, p3, pz⟩ := Blk3G (HB5.out.new hnr)
            rw [HLN.out] at p1
            obtain ⟨g1, o1, c1', hlv2, _, el, hgl⟩ := (HH5.out.new hnr).node hz
            rw [HLN.out] at hlv2
            cases hlv2
            obtain ⟨d0, d1, d2, dz⟩ := Blk2I (HBC5.out.new hnr)
            have hz0 : (0 : Int) ≤ (z : Int) := by omega
            have hz1 : (z : Int) < (n : Int) := by omega
            have hkl2 : (k : Int) < ((x.rp i).cf.ms.length : Int) := by omega
            have HPRE := Lib.hid hpre
            have HRZ := Lib.hid ((HH5.out.new hnr).rp z hz)
            have hllz := HRZ.out.ll
            have HLLZ := Lib.hid hllz
            clear hc hget hpre hnr HAH hllz
            go_upto_region 13 with fail
            refine wp_region_held_drew (S := fun w' => (∀ o, w'.cell? ⟨w.heap.size, o, none⟩ = wr.cell? ⟨w.heap.size, o, none⟩) ∧ (∀ o, w'.cell? ⟨a6, o, none⟩ = wr.cell? ⟨a6, o, none⟩) ∧ w'.cell? ⟨gm, om + k, none⟩ = wr.cell? ⟨gm, om + k, none⟩ ∧ w'.cell? ⟨gl, ol + z, none⟩ = wr.cell? ⟨gl, ol + z, none⟩) (by kernel_rfl) (⟨fun _ => rfl, fun _ => rfl, rfl, rfl⟩) (fun hHeld => ?_)
            refine tkH (i := 0) (oi := ⟨some 57, .move (.tmp 5), 26, "law.go:245", #[], none⟩) (v := ?_) (.inl ⟨by rfl, ?_⟩) ?_
            rotate_left
            · (intro wq hSw; (try dsimp only at hSw); go_simp; first | done | with_reducible rfl)
            try simp only [Act.put, sA, sZ, sS]
            refine tkH (i := 1) (oi := ⟨some 58, .fieldAddr 64 (.tmp 1) 0, 0, "law.go:245", #[], none⟩) (v := ?_) (.inl ⟨by rfl, ?_⟩) ?_
            rotate_left
            · (intro wq hSw; (try dsimp only at hSw); go_simp; first | done | with_reducible rfl)
            try simp only [Act.put, sA, sZ, sS]
            refine tkH (i := 2) (oi := ⟨some 59, .load 61 (.tmp 58), 61, "law.go:245", #[⟨1, .data⟩], none⟩) (v := ?_) (.inl ⟨by rfl, ?_⟩) ?_
            rotate_left
            · (intro wq hSw; (try dsimp only at hSw); go_simp; first | done | with_reducible rfl)
            try simp only [Act.put, sA, sZ, sS]
            refine tkH (i := 3) (oi := ⟨some 60, .fieldAddr 25 (.tmp 6) 1, 0, "law.go:245", #[], none⟩) (v := ?_) (.inl ⟨by rfl, ?_⟩) ?_
            rotate_left
            · (intro wq hSw; (try dsimp only at hSw); go_simp; first | done | with_reducible rfl)
            try simp only [Act.put, sA, sZ, sS]
            refine tkH (i := 4) (oi := ⟨some 61, .load 23 (.tmp 60), 23, "law.go:245", #[⟨3, .data⟩], none⟩) (v := ?_) (.inl ⟨by rfl, ?_⟩) ?_
            rotate_left
            · (intro wq hSw; (try dsimp only at hSw); go_simp; first | done | with_reducible rfl)
            try simp only [Act.put, sA, sZ, sS]
            refine tkH (i := 5) (oi := ⟨some 62, .move (.tmp 9), 3, "law.go:245", #[], none⟩) (v := ?_) (.inl ⟨by rfl, ?_⟩) ?_
            rotate_left
            · (intro wq hSw; (try dsimp only at hSw); go_simp; first | done | with_reducible rfl)
            try simp only [Act.put, sA, sZ, sS]
            refine tkH (i := 6) (oi := ⟨some 63, .indexAddr 23 (.tmp 61) (.tmp 62), 0, "law.go:245", #[⟨4, .data⟩, ⟨5, .data⟩], none⟩) (v := ?_) (.inl ⟨by rfl, ?_⟩) ?_
            rotate_left
            · (intro wq hSw; (try dsimp only at hSw); go_simp; first | done | with_reducible rfl)
            try simp only [Act.put, sA, sZ, sS]
            refine tkH (i := 7) (oi := ⟨some 64, .load 3 (.tmp 63), 3, "law.go:245", #[⟨6, .data⟩], none⟩) (v := ?_) (.inl ⟨by rfl, ?_⟩) ?_
            rotate_left
            · (intro wq hSw; (try dsimp only at hSw); go_simp; first | done | with_reducible rfl)
            try simp only [Act.put, sA, sZ, sS]
            refine tkH (i := 8) (oi := ⟨some 65, .indexAddr 61 (.tmp 59) (.tmp 64), 0, "law.go:245", #[⟨2, .data⟩, ⟨7, .data⟩], none⟩) (v := ?_) (.inl ⟨by rfl, ?_⟩) ?_
            rotate_left
            · (intro wq hSw; (try dsimp only at hSw); go_simp; first | done | with_reducible rfl)
            try simp only [Act.put, sA, sZ, sS]
            refine tkH (i := 9) (oi := ⟨some 66, .load 45 (.tmp 65), 45, "law.go:245", #[⟨8, .data⟩], none⟩) (v := ?_) (.inl ⟨by rfl, ?_⟩) ?_
            rotate_left
            · (intro wq hSw; (try dsimp only at hSw); go_simp; first | done | with_reducible rfl)
            try simp only [Act.put, sA, sZ, sS]
            refine wpAnyH_ready (rs := [10]) (by kernel_rfl) (by simp) ?_
            refine AllReadyH.cons (o := ⟨some 67, .call { callee := .value (.func 18), args := #[.tmp 66], argTypes := #[45] }, 26, "law.go:245", #[⟨9, .data⟩], none⟩) rfl (fun K hK => ?_) AllReadyH.nil
            go_simp
            refine (rlist (HRZ.out.new (New.refl wr).drew) (by omega)).mono ?_
            rintro e wL ⟨vL, rfl, hrL, hnL⟩
            have hnLW := (New.refl wr).drew.trans hnL
            have k0 := fun o => keepR (S := fun _ => False) (Upd.new hnLW) p0 (fun h => h) o
            have k1 := fun o => keepR (S := fun _ => False) (Upd.new hnLW) d0 (fun h => h) o
            have k2 := keepR (S := fun _ => False) (Upd.new hnLW) hgm (fun h => h) (om + k)
            have k3 := keepR (S := fun _ => False) (Upd.new hnLW) hgl (fun h => h) (ol + z)
            have HROWL := Lib.hid hrL.low
            refine hK.out _ _ ?_ (fun hHeld => ?_)
            · exact ⟨k0, k1, k2, k3⟩
            clear hK K
            try simp only [Act.put, sA, sZ, sS]
            refine wpAnyH_ready (rs := [11]) (by kernel_rfl) (by simp) ?_
            refine AllReadyH.cons (o := ⟨some 68, .call { callee := .value (.func 20), args := #[.tmp 57, .tmp 67], argTypes := #[26, 26] }, 4, "law.go:245", #[⟨0, .data⟩, ⟨10, .data⟩, ⟨10, .chain⟩], none⟩) rfl (fun K hK => ?_) AllReadyH.nil
            go_simp
            refine (prefix_any (by have := (HROW5.out.new HNR.out).new hnLW; rw [HV5.out] at this; exact this) HROWL.out HPRE.out (by have := HLLZ.out; omega)).mono ?_
            rintro e w7 ⟨rfl, hn7⟩
            have hn7W := hnLW.trans hn7
            have HN7 := Lib.hid (HNR.out.trans hn7W)
            have j0 := fun o => keepR (S := fun _ => False) (Upd.new hn7W) p0 (fun h => h) o
            have j1 := fun o => keepR (S := fun _ => False) (Upd.new hn7W) d0 (fun h => h) o
            have j2 := keepR (S := fun _ => False) (Upd.new hn7W) hgm (fun h => h) (om + k)
            have j3 := keepR (S := fun _ => False) (Upd.new hn7W) hgl (fun h => h) (ol + z)
            refine hK.out _ _ ?_ (fun hHeld => ?_)
            · exact ⟨j0, j1, j2, j3⟩
            clear hK K
            try simp only [Act.put, sA, sZ, sS]
            refine tkH (i := 12) (oi := ⟨some 69, .unOp .not 4 (.tmp 68), 4, "law.go:245", #[⟨11, .data⟩], none⟩) (v := ?_) (.inl ⟨by rfl, ?_⟩) ?_
            rotate_left
            · (intro wq hSw; (try dsimp only at hSw); go_simp; first | done | with_reducible rfl)
            try simp only [Act.put, sA, sZ, sS]
            refine wpAnyH_done (by kernel_rfl) ?_ _
            clear hHeld
            go_wp2_with fail
            go_roundw
            case rel => exact ⟨k + 1, .inr (by omega), by go_num, HN7.out⟩
            case measure => simp [intOf]; omega
          · have hgo2 : ¬ (k : Int) < pc := hgo
            have HNX : Hid (New w5 wr) := HNR
            clear hnr hgo
            go_wp2_with fail
            obtain ⟨wo2, rfl⟩ : ∃ wo2, wo2 = wr := ⟨_, rfl⟩
            go_loopw [10] (fun u10 wr => ∃ k : Nat, k ≤ nwv.c.ms.length ∧ u10 = .int .i64 (k : Int) ∧ New w5 wr) (fun u10 _ => nwv.c.ms.length - (intOf u10).toNat)
            case atStart => exact ⟨0, by omega, rfl, HNX.out⟩
            case round =>
              clear hgo2 hk0 hk
              obtain ⟨k, hk, rfl, hnr⟩ := hrel
              have HNR := Lib.hid hnr
              have hk0 : (0 : Int) ≤ (k : Int) := by omega
              have hnl := HNA.out.l
              obtain ⟨d0, d1, d2, dz⟩ := Blk2I (HBN5.out.new hnr)
              by_cases hgo : k < nwv.c.ms.length
              · have hgo2 : (k : Int) < (nwv.c.ms.length : Int) := by omega
                have HAH : Hid (∃ z : Nat, z < n ∧ nwv.c.ms[k]? = some (z : Int) ∧ ((x.rp i).l.take (x.rp i).cl) <+: (x.rp z).l) := Lib.hid (by
                  have hmem := HX.out.cs.nwMem
                  rw [← HNW.out] at hmem
                  have hb := (HX.out.cs.ok _ hmem).2 _ (List.getElem_mem hgo)
                  obtain ⟨z, hz⟩ : ∃ z : Nat, nwv.c.ms[k] = (z : Int) := ⟨(nwv.c.ms[k]).toNat, by omega⟩
                  have hzn : z < n := by omega
                  have hget : nwv.c.ms[k]? = some (z : Int) := by rw [List.getElem?_eq_getElem hgo, hz]
                  refine ⟨z, hzn, hget, ?_⟩
                  have hp := HRO.out.new_ z hzn (by rw [← HNW.out]; exact List.mem_of_getElem? hget)
                  rw [HRO.out.l]
                  exact hp)
                obtain ⟨z, hz, hget, hpre⟩ := HAH.out
                obtain ⟨A', c', hv', _, hh⟩ := ((HNA.out.sl.slIn.new HN3.out).new HN5.out).new hnr
                unfold CfgV.sl at hv'
                cases hv'
                rcases hh with h0 | ⟨gm, om, hA, hgm, hc⟩
                · rw [h0] at hgo; simp at hgo
                rw [hA] at d2
                have em := SlIn.int_at hc hget
                obtain ⟨p0, p1, p2, p3, pz⟩ := Blk3G (HB5.out.new hnr)
                rw [HLN.out] at p1
                obtain ⟨g1, o1, c1', hlv2, _, el, hgl⟩ := (HH5.out.new hnr).node hz
                rw [HLN.out] at hlv2
                cases hlv2
                have hz0 : (0 : Int) ≤ (z : Int) := by omega
                have hz1 : (z : Int) < (n : Int) := by omega
                have HPRE := Lib.hid hpre
                have HRZ := Lib.hid ((HH5.out.new hnr).rp z hz)
                have HLLZ := Lib.hid HRZ.out.ll
                have HVC : Hid (BtRow wr 0 (.slice AL (x.rp i).l.length cL) (x.rp i).l) := Lib.hid (by have := HROW5.out.new hnr; rw [HV5.out] at this; exact this)
                have hcapL := HVC.out.cap.2
                have hcb1 : ((x.rp i).cl : Int) ≤ (cL : Int) := by omega
                have hcb2 : (0 : Int) ≤ ((x.rp i).cl : Int) := by omega
                have HCLC : Hid ((x.rp i).cl ≤ (x.rp i).l.length) := Lib.hid hclc
                clear hc hget hpre hnr HAH hA
                go_upto_region 18 with fail
                refine wp_region_held_drew (S := fun w' => (∀ o, w'.cell? ⟨w.heap.size, o, none⟩ = wr.cell? ⟨w.heap.size, o, none⟩) ∧ (∀ o, w'.cell? ⟨w.heap.size + 1, o, none⟩ = wr.cell? ⟨w.heap.size + 1, o, none⟩) ∧ w'.cell? ⟨gm, om + k, none⟩ = wr.cell? ⟨gm, om + k, none⟩ ∧ w'.cell? ⟨gl, ol + z, none⟩ = wr.cell? ⟨gl, ol + z, none⟩) (by kernel_rfl) (⟨fun _ => rfl, fun _ => rfl, rfl, rfl⟩) (fun hHeld => ?_)
                refine tkH (i := 0) (oi := ⟨some 77, .move (.tmp 5), 26, "law.go:250", #[], none⟩) (v := ?_) (.inl ⟨by rfl, ?_⟩) ?_
                rotate_left
                · (intro wq hSw; (try dsimp only at hSw); go_simp; first | done | with_reducible rfl)
                try simp only [Act.put, sA, sZ, sS]
                refine tkH (i := 1) (oi := ⟨some 78, .move (.tmp 7), 22, "law.go:250", #[], none⟩) (v := ?_) (.inl ⟨by rfl, ?_⟩) ?_
                rotate_left
                · (intro wq hSw; (try dsimp only at hSw); go_simp; first | done | with_reducible rfl)
                try simp only [Act.put, sA, sZ, sS]
                refine tkH (i := 2) (oi := ⟨some 79, .slice 26 (.tmp 77) none (some (.tmp 78)) none, 26, "law.go:250", #[⟨0, .data⟩, ⟨1, .data⟩], none⟩) (v := ?_) (.inl ⟨by rfl, ?_⟩) ?_
                rotate_left
                · (intro wq hSw; (try dsimp only at hSw); go_simp; first | done | with_reducible rfl)
                try simp only [Act.put, sA, sZ, sS]
                refine tkH (i := 3) (oi := ⟨some 80, .fieldAddr 64 (.tmp 1) 0, 0, "law.go:250", #[], none⟩) (v := ?_) (.inl ⟨by rfl, ?_⟩) ?_
                rotate_left
                · (intro wq hSw; (try dsimp only at hSw); go_simp; first | done | with_reducible rfl)
                try simp only [Act.put, sA, sZ, sS]
                refine tkH (i := 4) (oi := ⟨some 81, .load 61 (.tmp 80), 61, "law.go:250", #[⟨3, .data⟩], none⟩) (v := ?_) (.inl ⟨by rfl, ?_⟩) ?_
                rotate_left
                · (intro wq hSw; (try dsimp only at hSw); go_simp; first | done | with_reducible rfl)
                try simp only [Act.put, sA, sZ, sS]
                refine tkH (i := 5) (oi := ⟨some 82, .fieldAddr 25 (.tmp 3) 1, 0, "law.go:250", #[], none⟩) (v := ?_) (.inl ⟨by rfl, ?_⟩) ?_
                rotate_left
                · (intro wq hSw; (try dsimp only at hSw); go_simp; first | done | with_reducible rfl)
                try simp only [Act.put, sA, sZ, sS]
                refine tkH (i := 6) (oi := ⟨some 83, .load 23 (.tmp 82), 23, "law.go:250", #[⟨5, .data⟩], none⟩) (v := ?_) (.inl ⟨by rfl, ?_⟩) ?_
                rotate_left
                · (intro wq hSw; (try dsimp only at hSw); go_simp; first | done | with_reducible rfl)
                try simp only [Act.put, sA, sZ, sS]
                refine tkH (i := 7) (oi := ⟨some 84, .move (.tmp 10), 3, "law.go:250", #[], none⟩) (v := ?_) (.inl ⟨by rfl, ?_⟩) ?_
                rotate_left
                · (intro wq hSw; (try dsimp only at hSw); go_simp; first | done | with_reducible rfl)
                try simp only [Act.put, sA, sZ, sS]
                refine tkH (i := 8) (oi := ⟨some 85, .indexAddr 23 (.tmp 83) (.tmp 84), 0, "law.go:250", #[⟨6, .data⟩, ⟨7, .data⟩], none⟩) (v := ?_) (.inl ⟨by rfl, ?_⟩) ?_
                rotate_left
                · (intro wq hSw; (try dsimp only at hSw); go_simp; first | done | with_reducible rfl)
                try simp only [Act.put, sA, sZ, sS]
                refine tkH (i := 9) (oi := ⟨some 86, .load 3 (.tmp 85), 3, "law.go:250", #[⟨8, .data⟩], none⟩) (v := ?_) (.inl ⟨by rfl, ?_⟩) ?_
                rotate_left
                · (intro wq hSw; (try dsimp only at hSw); go_simp; first | done | with_reducible rfl)
                try simp only [Act.put, sA, sZ, sS]
                refine tkH (i := 10) (oi := ⟨some 87, .indexAddr 61 (.tmp 81) (.tmp 86), 0, "law.go:250", #[⟨4, .data⟩, ⟨9, .data⟩], none⟩) (v := ?_) (.inl ⟨by rfl, ?_⟩) ?_
                rotate_left
                · (intro wq hSw; (try dsimp only at hSw); go_simp; first | done | with_reducible rfl)
                try simp only [Act.put, sA, sZ, sS]
                refine tkH (i := 11) (oi := ⟨some 88, .load 45 (.tmp 87), 45, "law.go:250", #[⟨10, .data⟩], none⟩) (v := ?_) (.inl ⟨by rfl, ?_⟩) ?_
                rotate_left
                · (intro wq hSw; (try dsimp only at hSw); go_simp; first | done | with_reducible rfl)
                try simp only [Act.put, sA, sZ, sS]
                refine wpAnyH_ready (rs := [12]) (by kernel_rfl) (by simp) ?_
                refine AllReadyH.cons (o := ⟨some 89, .call { callee := .value (.func 18), args := #[.tmp 88], argTypes := #[45] }, 26, "law.go:250", #[⟨11, .data⟩], none⟩) rfl (fun K hK => ?_) AllReadyH.nil
                go_simp
                refine (rlist (HRZ.out.new (New.refl wr).drew) (by omega)).mono ?_
                rintro e wL ⟨vL, rfl, hrL, hnL⟩
                have hnLW := (New.refl wr).drew.trans hnL
                have k0 := fun o => keepR (S := fun _ => False) (Upd.new hnLW) p0 (fun h => h) o
                have k1 := fun o => keepR (S := fun _ => False) (Upd.new hnLW) d0 (fun h => h) o
                have k2 := keepR (S := fun _ => False) (Upd.new hnLW) hgm (fun h => h) (om + k)
                have k3 := keepR (S := fun _ => False) (Upd.new hnLW) hgl (fun h => h) (ol + z)
                have HROWL := Lib.hid hrL.low
                refine hK.out _ _ ?_ (fun hHeld => ?_)
                · exact ⟨k0, k1, k2, k3⟩
                clear hK K
                try simp only [Act.put, sA, sZ, sS]
                refine wpAnyH_ready (rs := [13]) (by kernel_rfl) (by simp) ?_
                refine AllReadyH.cons (o := ⟨some 90, .call { callee := .value (.func 20), args := #[.tmp 79, .tmp 89], argTypes := #[26, 26] }, 4, "law.go:250", #[⟨2, .data⟩, ⟨12, .data⟩, ⟨12, .chain⟩], none⟩) rfl (fun K hK => ?_) AllReadyH.nil
                go_simp
                refine (prefix_any (((HVC.out.new hnLW).take HCLC.out (by omega))) HROWL.out HPRE.out (by have := HLLZ.out; omega)).mono ?_
                rintro e w7 ⟨rfl, hn7⟩
                have hn7W := hnLW.trans hn7
                have HN7 := Lib.hid (HNR.out.trans hn7W)
                have j0 := fun o => keepR (S := fun _ => False) (Upd.new hn7W) p0 (fun h => h) o
                have j1 := fun o => keepR (S := fun _ => False) (Upd.new hn7W) d0 (fun h => h) o
                have j2 := keepR (S := fun _ => False) (Upd.new hn7W) hgm (fun h => h) (om + k)
                have j3 := keepR (S := fun _ => False) (Upd.new hn7W) hgl (fun h => h) (ol + z)
                refine hK.out _ _ ?_ (fun hHeld => ?_)
                · exact ⟨j0, j1, j2, j3⟩
                clear hK K
                try simp only [Act.put, sA, sZ, sS]
                refine tkH (i := 14) (oi := ⟨some 91, .unOp .not 4 (.tmp 90), 4, "law.go:250", #[⟨13, .data⟩], none⟩) (v := ?_) (.inl ⟨by rfl, ?_⟩) ?_
                rotate_left
                · (intro wq hSw; (try dsimp only at hSw); go_simp; first | done | with_reducible rfl)
                try simp only [Act.put, sA, sZ, sS]
                refine wpAnyH_done (by kernel_rfl) ?_ _
                clear hHeld
                go_wp2_with fail
                go_roundw
                case rel => exact ⟨k + 1, by omega, by go_num, HN7.out⟩
                case measure => simp [intOf]; omega
              · have hgo2 : ¬ (k : Int) < (nwv.c.ms.length : Int) := by omega
                have HNF := Lib.hid (HN5W.out.trans hnr)
                clear hgo hnr
                go_wp2_with fail
                go_roundw
                case rel => exact ⟨i + 1, by omega, by go_num, HNF.out⟩
                case measure => simp [intOf]; omega
    · obtain rfl : i = n := by omega
      have hlt2 : ¬ (i : Int) < (i : Int) := by omega
      go_wp2_with fail
      go_ret
      exact ⟨rfl, HN3.out⟩
end
end Go.Proofs.YtecniafnihpjmaaGreatDoor
