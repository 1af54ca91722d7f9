/- Chapter 24 (replica): the reference's Prefix; the law's holds. Printed by genRpB.py. -/
import Derived.Test.YtecniafnihpjmaaGreatDoorTk
import Derived.Test.YtecniafnihpjmaaGreatDoorMg11
import Derived.Test.YtecniafnihpjmaaGreatDoorHz
namespace Go.Proofs.YtecniafnihpjmaaGreatDoor
open Go.RowKit Go.Lap C
set_option linter.unusedVariables false
set_option linter.unusedSimpArgs false
section
variable {w w' W wa : World} {S : Nat → Prop} {n B D a : Nat} {L : ChL} {x : Chn}
theorem sameB_self (b : Btc) : sameB b.c b.r b.s b.l b.c b.r b.s b.l = true := by simp [sameB]
set_option maxRecDepth 100000 in
set_option maxHeartbeats 4000000 in
/-- A list that is the beginning of another one. -/
theorem prefix_any {v v' : Value} {l m : List Btc} (h1 : BtRow w 0 v l) (h2 : BtRow w 0 v' m) (hp : l <+: m) (hm : m.length ≤ 2000000) :
    Calls Tryz.prog 20 #[v, v'] w fun e w' => e = .returned (.bool true) ∧ New w w' := by
  have hle := hp.length_le
  obtain ⟨A1, c1, hv1⟩ := h1.shape
  obtain ⟨A2, c2, hv2⟩ := h2.shape
  have H1 := Lib.hid h1
  have H2 := Lib.hid h2
  have HP := Lib.hid hp
  have HV1 := Lib.hid hv1
  have HV2 := Lib.hid hv2
  rw [hv1, hv2]
  have hgt : ¬ (m.length : Int) < (l.length : Int) := by omega
  clear h1 h2 hp hv1 hv2
  go_enter Tryz.func20, Tryz.ntmps20
  go_wp2_with fail
  go_loopw [5] (fun i wr => ∃ k : Nat, k ≤ l.length ∧ i = .int .i64 (k : Int) ∧ New w wr) (fun i _ => l.length - (intOf i).toNat)
  case atStart => exact ⟨0, by omega, rfl, New.refl _⟩
  case round =>
    obtain ⟨k, hk, rfl, hn⟩ := hrel
    have HN := Lib.hid hn
    by_cases hlt : k < l.length
    · obtain ⟨b, hb⟩ : ∃ b, l[k]? = some b := ⟨_, List.getElem?_eq_getElem hlt⟩
      have hb2 := pre_get HP.out hb
      obtain ⟨g, off, cap, A, cp, hv, hcap, hba, e0, e1, e2, e3, hg⟩ := (H1.out.new hn).at_ hb
      obtain ⟨g', off', cap', A', cp', hv', hcap', hba', f0, f1, f2, f3, hg'⟩ := (H2.out.new hn).at_ hb2
      rw [HV1.out] at hv
      cases hv
      rw [HV2.out] at hv'
      cases hv'
      have HBA := Lib.hid hba
      have HBA' := Lib.hid hba'
      have hlt2 : (k : Int) < (l.length : Int) := by omega
      have hlt3 : (k : Int) < (m.length : Int) := by omega
      have hk0 : (0 : Int) ≤ (k : Int) := by omega
      clear hb hb2 hba hba' hn
      go_upto_region 6 with fail
      refine wp_region_held_drew (S := fun w' => (∀ o, w'.cell? ⟨g, o, none⟩ = wr.cell? ⟨g, o, none⟩) ∧ (∀ o, w'.cell? ⟨g', o, none⟩ = wr.cell? ⟨g', o, none⟩)) (by kernel_rfl) (⟨fun _ => rfl, fun _ => rfl⟩) (fun hHeld => ?_)
      refine tkH (i := 0) (oi := ⟨some 17, .move (.tmp 0), 26, "ref.go:197", #[], none⟩) (v := ?_) (.inl ⟨by rfl, ?_⟩) ?_
      rotate_left
      · (intro wq hSw; (try dsimp only at hSw); go_simp; first | done | with_reducible rfl)
      try simp only [Act.put, sA, sZ, sS]
      refine tkH (i := 1) (oi := ⟨some 18, .move (.tmp 5), 3, "ref.go:197", #[], none⟩) (v := ?_) (.inl ⟨by rfl, ?_⟩) ?_
      rotate_left
      · (intro wq hSw; (try dsimp only at hSw); go_simp; first | done | with_reducible rfl)
      try simp only [Act.put, sA, sZ, sS]
      refine tkH (i := 2) (oi := ⟨some 19, .indexAddr 26 (.tmp 17) (.tmp 18), 0, "ref.go:197", #[⟨0, .data⟩, ⟨1, .data⟩], none⟩) (v := ?_) (.inl ⟨by rfl, ?_⟩) ?_
      rotate_left
      · (intro wq hSw; (try dsimp only at hSw); go_simp; first | done | with_reducible rfl)
      try simp only [Act.put, sA, sZ, sS]
      refine tkH (i := 3) (oi := ⟨some 20, .load 40 (.tmp 19), 40, "ref.go:197", #[⟨2, .data⟩], none⟩) (v := ?_) (.inl ⟨by rfl, ?_⟩) ?_
      rotate_left
      · (intro wq hSw; (try dsimp only at hSw); go_simp; first | done | with_reducible rfl)
      try simp only [Act.put, sA, sZ, sS]
      refine tkH (i := 4) (oi := ⟨some 21, .move (.tmp 1), 26, "ref.go:197", #[], none⟩) (v := ?_) (.inl ⟨by rfl, ?_⟩) ?_
      rotate_left
      · (intro wq hSw; (try dsimp only at hSw); go_simp; first | done | with_reducible rfl)
      try simp only [Act.put, sA, sZ, sS]
      refine tkH (i := 5) (oi := ⟨some 22, .move (.tmp 5), 3, "ref.go:197", #[], none⟩) (v := ?_) (.inl ⟨by rfl, ?_⟩) ?_
      rotate_left
      · (intro wq hSw; (try dsimp only at hSw); go_simp; first | done | with_reducible rfl)
      try simp only [Act.put, sA, sZ, sS]
      refine tkH (i := 6) (oi := ⟨some 23, .indexAddr 26 (.tmp 21) (.tmp 22), 0, "ref.go:197", #[⟨4, .data⟩, ⟨5, .data⟩], none⟩) (v := ?_) (.inl ⟨by rfl, ?_⟩) ?_
      rotate_left
      · (intro wq hSw; (try dsimp only at hSw); go_simp; first | done | with_reducible rfl)
      try simp only [Act.put, sA, sZ, sS]
      refine tkH (i := 7) (oi := ⟨some 24, .load 40 (.tmp 23), 40, "ref.go:197", #[⟨6, .data⟩], none⟩) (v := ?_) (.inl ⟨by rfl, ?_⟩) ?_
      rotate_left
      · (intro wq hSw; (try dsimp only at hSw); go_simp; first | done | with_reducible rfl)
      try simp only [Act.put, sA, sZ, sS]
      refine wpAnyH_ready (rs := [8]) (by kernel_rfl) (by simp) ?_
      refine AllReadyH.cons (o := ⟨some 25, .call { callee := .value (.func 50), args := #[.tmp 20, .tmp 24], argTypes := #[40, 40] }, 4, "ref.go:197", #[⟨3, .data⟩, ⟨7, .data⟩], none⟩) rfl (fun K hK => ?_) AllReadyH.nil
      go_simp
      refine (refSame_any b.c b.r b.s _ b.l b.c b.r b.s _ b.l wr.drew (by have := HBA.out.ok.l; dsimp only at this; omega) (by have := HBA.out.ok.l; dsimp only at this; omega) (HBA.out.sl.slIn.new (New.refl wr).drew) (HBA'.out.sl.slIn.new (New.refl wr).drew)).mono ?_
      rintro e w5 ⟨rfl, hn5⟩
      have hn5W := (New.refl wr).drew.trans hn5
      have HN5 := Lib.hid (HN.out.trans hn5W)
      rw [sameB_self b]
      have k0 := fun o => keepR (S := fun _ => False) (Upd.new hn5W) hg (fun h => h) o
      have k1 := fun o => keepR (S := fun _ => False) (Upd.new hn5W) hg' (fun h => h) o
      refine hK.out _ _ ?_ (fun hHeld => ?_)
      · exact ⟨k0, k1⟩
      clear hK K
      try simp only [Act.put, sA, sZ, sS]
      refine tkH (i := 9) (oi := ⟨some 26, .unOp .not 4 (.tmp 25), 4, "ref.go:197", #[⟨8, .data⟩], none⟩) (v := ?_) (.inl ⟨by rfl, ?_⟩) ?_
      rotate_left
      · (intro wq hSw; (try dsimp only at hSw); go_simp; first | done | with_reducible rfl)
      try simp only [Act.put, sA, sZ, sS]
      refine wpAnyH_done (by kernel_rfl) ?_ _
      clear hHeld
      go_wp2_with fail
      go_roundw
      case rel => exact ⟨k + 1, by omega, by go_num, HN5.out⟩
      case measure => simp [intOf]; omega
    · obtain rfl : k = l.length := by omega
      have hlt2 : ¬ ((l.length : Nat) : Int) < (l.length : Int) := by omega
      clear hn
      go_wp2_with fail
      go_ret
      exact ⟨rfl, HN.out⟩
end
end Go.Proofs.YtecniafnihpjmaaGreatDoor
