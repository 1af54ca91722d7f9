/- Chapter 23 (config): a command as text: strconv.FormatUint, Itoa; the program's Show. -/
import Derived.Test.YtinpbjknakncdaaDoorCfgG
import Derived.Test.YtinpbjknakncdaaDoorRef03
import Derived.Lib.AppendIntMem
import Derived.Lib.AtoiErrMem
import Derived.Lib.SmallJoins
namespace Go.Proofs.YtinpbjknakncdaaDoor
open Go.RowKit Go.Lap
set_option linter.unusedVariables false

/-- What the library's variables hold. -/
structure Env (w : World) : Prop where
  tab : Lib.TabIs Tryd.prog w "internal/strconv.uint64pow10" .u64 Lib.pow10Tab
  syn : ∃ te pe, w.cell? ⟨1, 0, none⟩ = some (.iface te pe)
  rng : ∃ te pe, w.cell? ⟨2, 0, none⟩ = some (.iface te pe)
theorem tabGlobal : Tryd.prog.globalNamed "internal/strconv.uint64pow10" = some 0 := by kernel_rfl
theorem Env.new {w w' : World} (h : Env w) (hn : New w w') : Env w' := by
  obtain ⟨ht, ⟨te, pe, h1⟩, ⟨te2, pe2, h2⟩⟩ := h
  exact ⟨Go.Joins.tab_stays tabGlobal ht hn (Nat.le_refl _), ⟨te, pe, (hn.cells.1 _ _ (World.block_lt_of_cell? w _ h1)).trans h1⟩, ⟨te2, pe2, (hn.cells.1 _ _ (World.block_lt_of_cell? w _ h2)).trans h2⟩⟩
theorem new_grow (w : World) (k : Nat) (os : Array Obj) : New w (Sort.grow (w.drewN k) os) := Lib.below_grow w.heap.size w (Nat.le_refl _) k os
theorem new_bytes (w : World) (e : TypeId) (s : ByteArray) : New w (Lib.bytesWorld w e s) := Lib.bytesWorld_below w e s

theorem itoa_any (n : Nat) (hn : n < 9223372036854775808) (w : World) (he : Env w) : Calls Tryd.prog 38 #[.int .i64 (n : Int)] w fun e w' => e = .returned (.string (str (Lib.decDigits n))) ∧ New w w' := by
  refine (Tryd.strconv_Itoa (n : Int) (by omega) (by omega) w he.tab).mono ?_
  rintro e w' ⟨rfl, k, os, rfl⟩
  exact ⟨by rw [Lib.itoa_nonneg]; rfl, new_grow w k os⟩

set_option maxRecDepth 100000 in
set_option maxHeartbeats 8000000 in
theorem ifmtUint_any (u : Nat) (hu : u < 18446744073709551616) (w : World) (he : Env w) : Calls Tryd.prog 54 #[.int .u64 (u : Int), .int .i64 10] w fun e w' => e = .returned (.string (str (Lib.decDigits u))) ∧ New w w' := by
  by_cases hs : u < 100
  · have hs2 : (u : Int) < 100 := by omega
    have hw : IntKind.i64.wrap (u : Int) = (u : Int) := by rw [IntWalk.i64_in _ (by omega)]
    go_enter Tryd.func54, Tryd.ntmps54
    go_wp2_with fail
    refine (Tryd.internal_strconv_small u hs _).mono ?_
    rintro e w1 ⟨rfl, rfl⟩
    go_wp2_with fail
    go_ret
    exact ⟨rfl, New.refl _⟩
  · have hs2 : ¬ (u : Int) < 100 := by omega
    have hu1 : 1 ≤ u := by omega
    have hnd20 : Lib.nDigits u ≤ 20 := by have := Lib.numDigits_eq u hu1 hu; split at this <;> omega
    have hb3 : Lib.nDigits u ≤ 24 := by omega
    have hal : Tryd.prog.arrayLen 93 = 24 := by simp [Program.arrayLen, Tryd.underlying93]
    have hsl1 : ∀ W, (Instr.sliceAt 93 (.pointer (some ⟨w.heap.size, 0, none⟩)) none (some (.int .i64 (Lib.nDigits u : Int))) none).run Tryd.prog W = .ok (.slice (some ⟨w.heap.size, 0, none⟩) (Lib.nDigits u) 24) W := fun W => by
      rw [run_sliceAt_array_h W 93 ⟨w.heap.size, 0, none⟩ (by simp [Program.arrayLen, Program.elem, Tryd.underlying93]) .i64 (Lib.nDigits u : Int) (by omega) (by rw [hal]; omega)]
      go_simp
    have hH0 := Lib.holds_zero0 w 93 (Lib.nDigits u) (by omega)
    have hfmt := Tryd.internal_strconv_formatBase10 w.heap.size 0 24 u (Array.replicate (Lib.nDigits u) 0) (w.alloc (.cells Lib.zeros24 93)) hH0 (by rw [Array.size_replicate]; exact Lib.lt_pow_nDigits u) hu (by rw [Array.size_replicate]; omega)
    rw [Array.size_replicate] at hfmt
    have HH0 := Lib.hid hH0
    have HE := Lib.hid he
    clear hH0 hal he
    go_enter Tryd.func54, Tryd.ntmps54
    go_wp2_with fail
    refine (Tryd.internal_strconv_numDigits u hu1 hu _ (Lib.tabIs_alloc HE.out.tab _)).mono ?_
    rintro e w1 ⟨rfl, hw1⟩
    rw [hw1]
    go_wp2_with fail
    refine hfmt.mono ?_
    rintro e w2 ⟨rfl, k, v', dk, rfl, hF⟩
    have hcv : (convert 43 9 (.slice (some ⟨w.heap.size, 0, none⟩) (Lib.nDigits u) 24)).run Tryd.prog ((Sort.putRow (fun (b : UInt8) => Value.int .u8 (b.toNat : Int)) (w.alloc (.cells Lib.zeros24 93)) w.heap.size 0 dk).drewN k) = .ok (.string ⟨(Lib.decDigits u).toArray⟩) ((Sort.putRow (fun (b : UInt8) => Value.int .u8 (b.toNat : Int)) (w.alloc (.cells Lib.zeros24 93)) w.heap.size 0 dk).drewN k) := by
      have h := run_convert_bytes_back (P := Tryd.prog) ((Sort.putRow (fun (b : UInt8) => Value.int .u8 (b.toNat : Int)) (w.alloc (.cells Lib.zeros24 93)) w.heap.size 0 dk).drewN k) 43 9 5 ⟨w.heap.size, 0, none⟩ 24 (Lib.decDigits u) Tryd.underlying43 Tryd.underlying5 Tryd.underlying9 (fun j hj => by
        rw [Lib.row_is_numeral hF j hj, Lib.add_plain, World.cell?_drewN]
        exact Sort.cell?_putRow (fun (b : UInt8) => Value.int .u8 (b.toNat : Int)) _ w.heap.size 0 _ dk HH0.out (by rw [hF.size, Array.size_replicate]) j (by rw [hF.size]; rw [Lib.decDigits_length] at hj; exact hj))
      rw [Lib.decDigits_length] at h
      exact h
    obtain ⟨os, eo⟩ := Lib.fin_at w (.cells Lib.zeros24 93) dk k 0
    have HN : Hid (New w ((Sort.putRow (fun (b : UInt8) => Value.int .u8 (b.toNat : Int)) (w.alloc (.cells Lib.zeros24 93)) w.heap.size 0 dk).drewN k)) := Lib.hid (by rw [eo]; exact new_grow w k os)
    clear eo
    go_wp2_with fail
    go_ret
    exact ⟨rfl, HN.out⟩

set_option maxHeartbeats 1000000 in
theorem fmtUint_any (u : Nat) (hu : u < 18446744073709551616) (w : World) (he : Env w) : Calls Tryd.prog 37 #[.int .u64 (u : Int), .int .i64 10] w fun e w' => e = .returned (.string (str (Lib.decDigits u))) ∧ New w w' := by
  have hc := ifmtUint_any u hu w he
  clear he
  go_enter Tryd.func37, Tryd.ntmps37
  go_wp2_with fail
  refine hc.mono ?_
  rintro e w1 ⟨rfl, hn⟩
  go_wp2_with fail
  go_ret
  exact ⟨rfl, hn⟩

set_option maxRecDepth 100000 in
set_option maxHeartbeats 4000000 in
theorem show_any (j : Bool) (ep : Nat) (n : Int) (w : World) (hep : ep < 18446744073709551616) (hn : n ≤ 9223372036854775807) (he : Env w) :
    Calls Tryd.prog 21 #[.bool j, .int .u64 (ep : Int), .int .i64 n] w fun e w' => e = .returned (.string (str (showL j ep (max n 0).toNat))) ∧ New w w' := by
  obtain ⟨m, hm⟩ : ∃ m : Nat, m = (max n 0).toNat := ⟨_, rfl⟩
  have hm2 : max n 0 = (m : Int) := by omega
  have hm3 : m < 9223372036854775808 := by omega
  rw [← hm]
  have hl1 : (Lib.decDigits ep).length ≤ 20 := by rw [Lib.decDigits_length]; by_cases h : ep = 0; subst h; decide +kernel; have := Lib.numDigits_eq ep (by omega) hep; split at this <;> omega
  have hl2 : (Lib.decDigits m).length ≤ 20 := by rw [Lib.decDigits_length]; by_cases h : m = 0; subst h; decide +kernel; have := Lib.numDigits_eq m (by omega) (by omega); split at this <;> omega
  have hs1 : (str (Lib.decDigits ep)).size ≤ 20 := by rw [str_size]; exact hl1
  have hs2 : (str (Lib.decDigits m)).size ≤ 20 := by rw [str_size]; exact hl2
  have hc1 := fmtUint_any ep hep
  have hc2 := itoa_any m hm3
  have HW : Hid (∀ l : List UInt8, (l = [106, 111, 105, 110] ∧ j = true ∨ l = [114, 101, 109, 111, 118, 101] ∧ j = false) → (⟨l.toArray⟩ : ByteArray) ++ ⟨#[32]⟩ ++ str (Lib.decDigits ep) ++ ⟨#[32]⟩ ++ str (Lib.decDigits m) = str (showL j ep m)) := Lib.hid (by
    rintro l (⟨rfl, rfl⟩ | ⟨rfl, rfl⟩)
    · show str _ ++ str [32] ++ str _ ++ str [32] ++ str _ = _
      simp only [str_append]
      congr 1
      simp [showL, wordL, joinL]
    · show str _ ++ str [32] ++ str _ ++ str [32] ++ str _ = _
      simp only [str_append]
      congr 1
      simp [showL, wordL, removeL])
  have HE := Lib.hid he
  clear he hm hl1 hl2
  cases j with
  | true =>
    have hww := HW.out [106, 111, 105, 110] (.inl ⟨rfl, rfl⟩)
    have HWW := Lib.hid hww
    clear hww HW
    generalize str (Lib.decDigits ep) = s1 at *
    generalize str (Lib.decDigits m) = s2 at *
    go_enter Tryd.func21, Tryd.ntmps21
    go_wp2_with fail
    refine (hc1 _ HE.out).mono ?_
    rintro e w1 ⟨rfl, hn1⟩
    have HE1 := Lib.hid (HE.out.new hn1)
    go_wp2_with fail
    refine (hc2 _ HE1.out).mono ?_
    rintro e w2 ⟨rfl, hn2⟩
    go_wp2_with fail
    go_ret
    exact ⟨ret_eq (congrArg Value.string HWW.out), hn1.trans hn2⟩
  | false =>
    have hww := HW.out [114, 101, 109, 111, 118, 101] (.inr ⟨rfl, rfl⟩)
    have HWW := Lib.hid hww
    clear hww HW
    generalize str (Lib.decDigits ep) = s1 at *
    generalize str (Lib.decDigits m) = s2 at *
    go_enter Tryd.func21, Tryd.ntmps21
    go_wp2_with fail
    refine (hc1 _ HE.out).mono ?_
    rintro e w1 ⟨rfl, hn1⟩
    have HE1 := Lib.hid (HE.out.new hn1)
    go_wp2_with fail
    refine (hc2 _ HE1.out).mono ?_
    rintro e w2 ⟨rfl, hn2⟩
    go_wp2_with fail
    go_ret
    exact ⟨ret_eq (congrArg Value.string HWW.out), hn1.trans hn2⟩
end Go.Proofs.YtinpbjknakncdaaDoor
