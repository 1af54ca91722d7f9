/- Chapter 19's reference: Seen. Printed by genRsB.py. -/
import Derived.Test.YtecniafnihpjmaaGreatDoorTk
import Derived.Test.YtecniafnihpjmaaGreatDoorRsA
import Derived.Test.YtecniafnihpjmaaGreatDoorHz
namespace Go.Proofs.YtecniafnihpjmaaGreatDoor
open Go.RowKit Go.Lap C
set_option linter.unusedVariables false
set_option linter.unusedSimpArgs false
section
variable {w w' : World} {x : RjV}
/-- A client's last request. -/
def seenR (L : List SdV) (c : Nat) : Option (Nat × Vd) := (L.reverse.find? fun p => decide (p.v.b.c = c) && !p.lt).map fun p => (p.v.b.r, p.d)
theorem seenR_snoc (L : List SdV) (p : SdV) (c : Nat) : seenR (L ++ [p]) c = if p.v.b.c = c ∧ p.lt = false then some (p.v.b.r, p.d) else seenR L c := by
  unfold seenR
  rw [List.reverse_append, List.reverse_singleton, List.singleton_append, List.find?_cons]
  by_cases h1 : p.v.b.c = c <;> cases h2 : p.lt <;> simp [h1, h2]
def seenQ (o : Option (Nat × Vd)) : Nat := (o.map Prod.fst).getD 0
def seenV (o : Option (Nat × Vd)) : Vd := (o.map Prod.snd).getD ⟨0, 0⟩
theorem Blk2R {w : World} {g t : Nat} {a b : Value} (h : Blk w g t #[a, b]) : g < w.heap.size ∧ w.cell? ⟨g, 0, none⟩ = some a ∧ w.cell? ⟨g, 1, none⟩ = some b ∧ (∀ i, w.frozen? ⟨g, i, none⟩ = false) := ⟨h.lt, h.cell 0, h.cell 1, h.frozen⟩
set_option maxRecDepth 100000 in
set_option maxHeartbeats 4000000 in
theorem seen_any (h : RjAt w x) (c : Nat) (hc : c < big) :
    Calls Tryz.prog 71 #[x.val, .int .u64 (c : Int)] w fun e w' => e = .returned (.tuple #[.int .u64 (seenQ (seenR x.L c) : Nat), .agg #[.int .u64 ((seenV (seenR x.L c)).t : Int), .int .i64 (seenV (seenR x.L c)).e], .bool (seenR x.L c).isSome]) ∧ New w w' := by
  obtain ⟨la, L, sv, tv⟩ := x
  obtain ⟨hs, ht, hll, hok, hla⟩ := h
  dsimp only [RjV.val] at hs ht hll hok hla ⊢
  obtain ⟨As, cs, rfl, hcs, hh⟩ := hs
  obtain ⟨At, ct, rfl, hct, hht⟩ := ht
  rw [List.length_map] at hct ⊢
  have hN := ((New.refl w).alloc (.cells #[.int .u64 0, .int .u64 (la : Int), .slice As L.length cs, .slice At L.length ct] 33)).alloc (.cells #[.int .u64 0, .int .i64 0] 49)
  have hb := (Blk.mk_new w 33 #[.int .u64 0, .int .u64 (la : Int), .slice As L.length cs, .slice At L.length ct]).alloc (.cells #[.int .u64 0, .int .i64 0] 49)
  have hv := Blk.mk_new (w.alloc (.cells #[.int .u64 0, .int .u64 (la : Int), .slice As L.length cs, .slice At L.length ct] 33)) 49 #[.int .u64 0, .int .i64 0]
  rw [World.size_alloc] at hv
  have HN := Lib.hid hN
  have HCELL : Hid (∀ b, b < w.heap.size → ∀ o, ((w.alloc (.cells #[.int .u64 0, .int .u64 (la : Int), .slice As L.length cs, .slice At L.length ct] 33)).alloc (.cells #[.int .u64 0, .int .i64 0] 49)).cell? ⟨b, o, none⟩ = w.cell? ⟨b, o, none⟩) := Lib.hid (fun b hlt o => hN.cells.1 b o hlt)
  obtain ⟨q0, q1, q2, q3, q4, qz⟩ := Blk4R hb
  obtain ⟨v0, v1, v2, vz⟩ := Blk2R hv
  have HV := Lib.hid hv
  clear hN hok hb hv hla
  go_enter Tryz.func71, Tryz.ntmps71
  go_upto_region 1 with fail
  generalize (w.alloc (.cells #[.int .u64 0, .int .u64 (la : Int), .slice As L.length cs, .slice At L.length ct] 33)).alloc (.cells #[.int .u64 0, .int .i64 0] 49) = W at *
  go_wp2_with fail
  go_loopw [7] (fun u7 wr => ∃ i : Int, u7 = .int .i64 i ∧ -1 ≤ i ∧ i < L.length ∧ seenR (L.take (i + 1).toNat) c = seenR L c ∧ wr = W) (fun u7 _ => (intOf u7 + 1).toNat)
  case atStart => exact ⟨(L.length : Int) - 1, by first | rfl | go_num, by omega, by omega, by rw [show ((L.length : Int) - 1 + 1).toNat = L.length by omega, List.take_length], rfl⟩
  case round =>
    obtain ⟨i, rfl, hi1, hi2, hi3, rfl⟩ := hrel
    by_cases hi0 : 0 ≤ i
    · obtain ⟨k, rfl⟩ := Int.eq_ofNat_of_zero_le hi0
      have hkl : k < L.length := by omega
      obtain ⟨p, hp⟩ : ∃ p, L[k]? = some p := ⟨_, List.getElem?_eq_getElem hkl⟩
      have hpt : (L.map SdV.lt)[k]? = some p.lt := by rw [List.getElem?_map, hp]; rfl
      rcases hh with rfl | ⟨g, off, rfl, hg, hcc⟩
      · simp at hkl
      rcases hht with h0 | ⟨gt, ot, rfl, hgt, hcct⟩
      · rw [List.map_eq_nil_iff.1 h0] at hkl; simp at hkl
      have f0 := (HCELL.out g hg (off + k * 6)).trans (hcc k p hp 0 _ rfl)
      have f1 := (HCELL.out g hg (off + k * 6 + 1)).trans (hcc k p hp 1 _ rfl)
      have f4 := (HCELL.out g hg (off + k * 6 + 4)).trans (hcc k p hp 4 _ rfl)
      have f5 := (HCELL.out g hg (off + k * 6 + 5)).trans (hcc k p hp 5 _ rfl)
      have t0 := (HCELL.out gt hgt (ot + k)).trans (by have := hcct k p.lt hpt 0 _ rfl; simpa using this)
      have hks : ((k : Int) + 1).toNat = k + 1 := by omega
      have HSN : Hid ((if p.v.b.c = c ∧ p.lt = false then some (p.v.b.r, p.d) else seenR (L.take k) c) = seenR L c) := Lib.hid (by rw [← hi3, hks, take_snocS hp, seenR_snoc])
      have hk2 : (k : Int) < (L.length : Int) := by omega
      clear hp hpt hcc hcct hi1 hi2 hi3 hks
      by_cases hpc : p.v.b.c = c
      · have hb1 : ((p.v.b.c : Int) == (c : Int)) = true := by rw [hpc]; simp
        have hb2 : (p.v.b.c == c) = true := by simpa using hpc
        cases hl : p.lt with
        | false =>
          rw [hl] at t0
          have HF : Hid (seenR L c = some (p.v.b.r, p.d)) := Lib.hid (by rw [← HSN.out, if_pos ⟨hpc, hl⟩])
          clear hl hpc
          go_upto_region 5 with fail
          refine wp_region_held_drew (S := fun w' => (∀ o, w'.cell? ⟨w.heap.size, o, none⟩ = wr.cell? ⟨w.heap.size, o, none⟩) ∧ (∀ o, w'.cell? ⟨g, o, none⟩ = wr.cell? ⟨g, o, none⟩)) (by kernel_rfl) (⟨fun _ => rfl, fun _ => rfl⟩) (fun hHeld => ?_)
          refine tkH (i := 0) (oi := ⟨some 33, .fieldAddr 33 (.tmp 2) 2, 0, "ref.go:39", #[], none⟩) (v := ?_) (.inl ⟨by rfl, ?_⟩) ?_
          rotate_left
          · (intro wq hSw; (try dsimp only at hSw); go_simp; first | done | with_reducible rfl)
          try simp only [Act.put, sA, sZ, sS]
          refine tkH (i := 1) (oi := ⟨some 34, .load 30 (.tmp 33), 30, "ref.go:39", #[⟨0, .data⟩], none⟩) (v := ?_) (.inl ⟨by rfl, ?_⟩) ?_
          rotate_left
          · (intro wq hSw; (try dsimp only at hSw); go_simp; first | done | with_reducible rfl)
          try simp only [Act.put, sA, sZ, sS]
          refine tkH (i := 2) (oi := ⟨some 35, .move (.tmp 7), 3, "ref.go:39", #[], none⟩) (v := ?_) (.inl ⟨by rfl, ?_⟩) ?_
          rotate_left
          · (intro wq hSw; (try dsimp only at hSw); go_simp; first | done | with_reducible rfl)
          try simp only [Act.put, sA, sZ, sS]
          refine tkH (i := 3) (oi := ⟨some 36, .indexAddr 30 (.tmp 34) (.tmp 35), 0, "ref.go:39", #[⟨1, .data⟩, ⟨2, .data⟩], none⟩) (v := ?_) (.inl ⟨by rfl, ?_⟩) ?_
          rotate_left
          · (intro wq hSw; (try dsimp only at hSw); go_simp; first | done | with_reducible rfl)
          try simp only [Act.put, sA, sZ, sS]
          refine tkH (i := 4) (oi := ⟨some 37, .fieldAddr 166 (.tmp 36) 0, 0, "ref.go:39", #[⟨3, .data⟩], none⟩) (v := ?_) (.inl ⟨by rfl, ?_⟩) ?_
          rotate_left
          · (intro wq hSw; (try dsimp only at hSw); go_simp; first | done | with_reducible rfl)
          try simp only [Act.put, sA, sZ, sS]
          refine tkH (i := 5) (oi := ⟨some 38, .fieldAddr 40 (.tmp 37) 1, 0, "ref.go:39", #[⟨4, .data⟩], none⟩) (v := ?_) (.inl ⟨by rfl, ?_⟩) ?_
          rotate_left
          · (intro wq hSw; (try dsimp only at hSw); go_simp; first | done | with_reducible rfl)
          try simp only [Act.put, sA, sZ, sS]
          refine tkH (i := 6) (oi := ⟨some 39, .load 22 (.tmp 38), 22, "ref.go:39", #[⟨5, .data⟩], none⟩) (v := ?_) (.inl ⟨by rfl, ?_⟩) ?_
          rotate_left
          · (intro wq hSw; (try dsimp only at hSw); go_simp; first | done | with_reducible rfl)
          try simp only [Act.put, sA, sZ, sS]
          refine tkH (i := 7) (oi := ⟨some 40, .fieldAddr 33 (.tmp 2) 2, 0, "ref.go:39", #[⟨13, Ground.gcOnly Departure.lateStores⟩], none⟩) (v := ?_) (.inl ⟨by rfl, ?_⟩) ?_
          rotate_left
          · (intro wq hSw; (try dsimp only at hSw); go_simp; first | done | with_reducible rfl)
          try simp only [Act.put, sA, sZ, sS]
          refine tkH (i := 8) (oi := ⟨some 41, .load 30 (.tmp 40), 30, "ref.go:39", #[⟨7, .data⟩, ⟨13, Ground.gcOnly Departure.lateStores⟩], none⟩) (v := ?_) (.inl ⟨by rfl, ?_⟩) ?_
          rotate_left
          · (intro wq hSw; (try dsimp only at hSw); go_simp; first | done | with_reducible rfl)
          try simp only [Act.put, sA, sZ, sS]
          refine tkH (i := 9) (oi := ⟨some 42, .move (.tmp 7), 3, "ref.go:39", #[⟨13, Ground.gcOnly Departure.lateStores⟩], none⟩) (v := ?_) (.inl ⟨by rfl, ?_⟩) ?_
          rotate_left
          · (intro wq hSw; (try dsimp only at hSw); go_simp; first | done | with_reducible rfl)
          try simp only [Act.put, sA, sZ, sS]
          refine tkH (i := 10) (oi := ⟨some 43, .indexAddr 30 (.tmp 41) (.tmp 42), 0, "ref.go:39", #[⟨8, .data⟩, ⟨9, .data⟩, ⟨13, Ground.gcOnly Departure.lateStores⟩], none⟩) (v := ?_) (.inl ⟨by rfl, ?_⟩) ?_
          rotate_left
          · (intro wq hSw; (try dsimp only at hSw); go_simp; first | done | with_reducible rfl)
          try simp only [Act.put, sA, sZ, sS]
          refine tkH (i := 11) (oi := ⟨some 44, .fieldAddr 166 (.tmp 43) 1, 0, "ref.go:39", #[⟨10, .data⟩, ⟨13, Ground.gcOnly Departure.lateStores⟩], none⟩) (v := ?_) (.inl ⟨by rfl, ?_⟩) ?_
          rotate_left
          · (intro wq hSw; (try dsimp only at hSw); go_simp; first | done | with_reducible rfl)
          try simp only [Act.put, sA, sZ, sS]
          refine tkH (i := 12) (oi := ⟨some 45, .load 49 (.tmp 44), 49, "ref.go:39", #[⟨11, .data⟩, ⟨13, Ground.gcOnly Departure.lateStores⟩], none⟩) (v := ?_) (.inl ⟨by rfl, ?_⟩) ?_
          rotate_left
          · (intro wq hSw; (try dsimp only at hSw); go_simp; first | done | with_reducible rfl)
          try simp only [Act.put, sA, sZ, sS]
          refine tkH (i := 13) (oi := ⟨some 4, .assign (.tmp 39), 22, "ref.go:39", #[⟨6, .data⟩, ⟨0, .phase⟩, ⟨1, .phase⟩, ⟨2, .phase⟩, ⟨3, .phase⟩, ⟨4, .phase⟩, ⟨5, .phase⟩, ⟨6, .phase⟩, ⟨7, Ground.textOnly Departure.lateStores⟩, ⟨8, Ground.textOnly Departure.lateStores⟩, ⟨9, Ground.textOnly Departure.lateStores⟩, ⟨10, Ground.textOnly Departure.lateStores⟩, ⟨11, Ground.textOnly Departure.lateStores⟩, ⟨12, Ground.textOnly Departure.lateStores⟩], none⟩) (v := ?_) (.inl ⟨by rfl, ?_⟩) ?_
          rotate_left
          · (intro wq hSw; (try dsimp only at hSw); go_simp; first | done | with_reducible rfl)
          try simp only [Act.put, sA, sZ, sS]
          refine wpAnyH_ready (rs := [14]) (by kernel_rfl) (by simp) ?_
          refine AllReadyH.cons (o := ⟨none, .store 49 (.tmp 5) (.tmp 45), 0, "ref.go:39", #[⟨12, .data⟩, ⟨13, .chain⟩, ⟨0, .phase⟩, ⟨1, .phase⟩, ⟨2, .phase⟩, ⟨3, .phase⟩, ⟨4, .phase⟩, ⟨5, .phase⟩, ⟨6, .phase⟩, ⟨7, .phase⟩, ⟨8, .phase⟩, ⟨9, .phase⟩, ⟨10, .phase⟩, ⟨11, .phase⟩, ⟨12, .phase⟩, ⟨13, .phase⟩], none⟩) rfl (fun K hK => ?_) AllReadyH.nil
          go_simp
          have hu9 : Upd (· = w.heap.size + 1) wr ((wr.setCell ⟨w.heap.size + 1, 0, none⟩ (.int .u64 (p.d.t : Int))).setCell ⟨w.heap.size + 1, 1, none⟩ (.int .i64 p.d.e)).drew := (((Upd.refl _ wr).setIn 0 _).setIn 1 _).drew
          have k0 := fun o => keepR hu9 q0 (by omega) o
          have hgw : g < wr.heap.size := Nat.lt_of_lt_of_le hg HN.out.size
          have k1 := fun o => keepR hu9 hgw (by omega) o
          refine hK.out _ _ ?_ (fun hHeld => ?_)
          · exact ⟨k0, k1⟩
          clear hK K
          try simp only [Act.put, sA, sZ, sS]
          refine tkH (i := 15) (oi := ⟨some 6, .assign (.const (.bool true)), 4, "ref.go:39", #[⟨14, .chain⟩, ⟨0, .phase⟩, ⟨1, .phase⟩, ⟨2, .phase⟩, ⟨3, .phase⟩, ⟨4, .phase⟩, ⟨5, .phase⟩, ⟨6, .phase⟩, ⟨7, .phase⟩, ⟨8, .phase⟩, ⟨9, .phase⟩, ⟨10, .phase⟩, ⟨11, .phase⟩, ⟨12, .phase⟩, ⟨13, .phase⟩, ⟨14, .phase⟩], none⟩) (v := ?_) (.inl ⟨by rfl, ?_⟩) ?_
          rotate_left
          · (intro wq hSw; (try dsimp only at hSw); go_simp; first | done | with_reducible rfl)
          try simp only [Act.put, sA, sZ, sS]
          refine wpAnyH_done (by kernel_rfl) ?_ _
          clear hHeld k0 k1
          have HU9 := Lib.hid hu9
          have HV9 := Lib.hid ((HV.out.set_ 0 (.int .u64 (p.d.t : Int))).set_ 1 (.int .i64 p.d.e)).drew
          clear hu9 q0 q1 q2 q3 q4 qz v0 v1 v2 vz
          generalize ((wr.setCell ⟨w.heap.size + 1, 0, none⟩ (.int .u64 (p.d.t : Int))).setCell ⟨w.heap.size + 1, 1, none⟩ (.int .i64 p.d.e)).drew = w9 at *
          obtain ⟨v0, v1, v2, vz⟩ := Blk2R HV9.out
          go_wp2_with fail
          exact bodyPost_ret (v := .tuple #[.int .u64 (p.v.b.r : Int), .agg #[.int .u64 (p.d.t : Int), .int .i64 p.d.e], .bool true]) (by simp [results, Tryz.results71, go_sem, v1, v2]) rfl ⟨by rw [HF.out]; rfl, HN.out.upd HU9.out (fun i e => by omega)⟩
        | true =>
          rw [hl] at t0
          have HF : Hid (seenR (L.take k) c = seenR L c) := Lib.hid (by rw [← HSN.out, if_neg (fun h => by rw [hl] at h; cases h.2)])
          clear hl hpc
          go_wp2_with fail
          go_roundw
          case rel => exact ⟨(k : Int) - 1, by first | rfl | go_num, by omega, by omega, by rw [show ((k : Int) - 1 + 1).toNat = k by omega]; exact HF.out, trivial⟩
          case measure => simp [intOf] <;> omega
      · have hb1 : ((p.v.b.c : Int) == (c : Int)) = false := beq_eq_false_iff_ne.2 (by omega)
        have hb2 : (p.v.b.c == c) = false := beq_eq_false_iff_ne.2 hpc
        have HF : Hid (seenR (L.take k) c = seenR L c) := Lib.hid (by rw [← HSN.out, if_neg (fun h => hpc h.1)])
        clear hpc
        go_wp2_with fail
        go_roundw
        case rel => exact ⟨(k : Int) - 1, by first | rfl | go_num, by omega, by omega, by rw [show ((k : Int) - 1 + 1).toNat = k by omega]; exact HF.out, trivial⟩
        case measure => simp [intOf] <;> omega
    · have hi4 : i = -1 := by omega
      subst hi4
      have HF : Hid (seenR L c = none) := Lib.hid (by rw [← hi3]; rfl)
      go_wp2_with fail
      exact bodyPost_ret (v := .tuple #[.int .u64 0, .agg #[.int .u64 0, .int .i64 0], .bool false]) (by simp [results, Tryz.results71, go_sem, v1, v2]) rfl ⟨by rw [HF.out]; rfl, HN.out.upd (T := (· = w.heap.size + 1)) (((Upd.refl _ wr).setIn 0 _).setIn 1 _) (fun i e => by omega)⟩
end
end Go.Proofs.YtecniafnihpjmaaGreatDoor
