/- Chapter 23 (config): a command as text: strconv.FormatUint, Itoa; the program's Show. -/
import Derived.Test.YtlhlcdjkacglnaaGreatDoorJk1
import Derived.Test.YtlhlcdjkacglnaaGreatDoorJk5
import Derived.Test.YtlhlcdjkacglnaaGreatDoorJk8
import Derived.Lib.AppendIntMem
import Derived.Lib.AtoiErrMem
import Derived.Lib.SmallJoins
import Derived.Shelf.Strings.SplitCore
import Derived.Lib.IndexBytes
namespace Go.Proofs.YtlhlcdjkacglnaaGreatDoor.C
open Go.RowKit Go.Lap
set_option linter.unusedVariables false

/-- What the library's variables hold. -/
structure Env (w : World) : Prop where
  tab : Lib.TabIs Tryz.prog w "internal/strconv.uint64pow10" .u64 Lib.pow10Tab
  syn : ∃ te pe, w.cell? ⟨1, 0, none⟩ = some (.iface te pe)
  rng : ∃ te pe, w.cell? ⟨2, 0, none⟩ = some (.iface te pe)
theorem tabGlobal : Tryz.prog.globalNamed "internal/strconv.uint64pow10" = some 0 := by kernel_rfl
theorem Env.new {w w' : World} (h : Env w) (hn : New w w') : Env w' := by
  obtain ⟨ht, ⟨te, pe, h1⟩, ⟨te2, pe2, h2⟩⟩ := h
  exact ⟨Go.Joins.tab_stays tabGlobal ht hn (Nat.le_refl _), ⟨te, pe, (hn.cells.1 _ _ (World.block_lt_of_cell? w _ h1)).trans h1⟩, ⟨te2, pe2, (hn.cells.1 _ _ (World.block_lt_of_cell? w _ h2)).trans h2⟩⟩
theorem new_grow (w : World) (k : Nat) (os : Array Obj) : New w (Sort.grow (w.drewN k) os) := Lib.below_grow w.heap.size w (Nat.le_refl _) k os
theorem new_bytes (w : World) (e : TypeId) (s : ByteArray) : New w (Lib.bytesWorld w e s) := Lib.bytesWorld_below w e s

theorem itoa_any (n : Nat) (hn : n < 9223372036854775808) (w : World) (he : Env w) : Calls Tryz.prog 102 #[.int .i64 (n : Int)] w fun e w' => e = .returned (.string (str (Lib.decDigits n))) ∧ New w w' := by
  refine (Tryz.strconv_Itoa (n : Int) (by omega) (by omega) w he.tab).mono ?_
  rintro e w' ⟨rfl, k, os, rfl⟩
  exact ⟨by rw [Lib.itoa_nonneg]; rfl, new_grow w k os⟩

set_option maxRecDepth 100000 in
set_option maxHeartbeats 8000000 in
theorem ifmtUint_any (u : Nat) (hu : u < 18446744073709551616) (w : World) (he : Env w) : Calls Tryz.prog 147 #[.int .u64 (u : Int), .int .i64 10] w fun e w' => e = .returned (.string (str (Lib.decDigits u))) ∧ New w w' := by
  by_cases hs : u < 100
  · have hs2 : (u : Int) < 100 := by omega
    have hw : IntKind.i64.wrap (u : Int) = (u : Int) := by rw [IntWalk.i64_in _ (by omega)]
    go_enter Tryz.func147, Tryz.ntmps147
    go_wp2_with fail
    refine (Tryz.internal_strconv_small u hs _).mono ?_
    rintro e w1 ⟨rfl, rfl⟩
    go_wp2_with fail
    go_ret
    exact ⟨rfl, New.refl _⟩
  · have hs2 : ¬ (u : Int) < 100 := by omega
    have hu1 : 1 ≤ u := by omega
    have hnd20 : Lib.nDigits u ≤ 20 := by have := Lib.numDigits_eq u hu1 hu; split at this <;> omega
    have hb3 : Lib.nDigits u ≤ 24 := by omega
    have hal : Tryz.prog.arrayLen 283 = 24 := by simp [Program.arrayLen, Tryz.underlying283]
    have hsl1 : ∀ W, (Instr.sliceAt 283 (.pointer (some ⟨w.heap.size, 0, none⟩)) none (some (.int .i64 (Lib.nDigits u : Int))) none).run Tryz.prog W = .ok (.slice (some ⟨w.heap.size, 0, none⟩) (Lib.nDigits u) 24) W := fun W => by
      rw [run_sliceAt_array_h W 283 ⟨w.heap.size, 0, none⟩ (by simp [Program.arrayLen, Program.elem, Tryz.underlying283]) .i64 (Lib.nDigits u : Int) (by omega) (by rw [hal]; omega)]
      go_simp
    have hH0 := Lib.holds_zero0 w 283 (Lib.nDigits u) (by omega)
    have hfmt := Tryz.internal_strconv_formatBase10 w.heap.size 0 24 u (Array.replicate (Lib.nDigits u) 0) (w.alloc (.cells Lib.zeros24 283)) hH0 (by rw [Array.size_replicate]; exact Lib.lt_pow_nDigits u) hu (by rw [Array.size_replicate]; omega)
    rw [Array.size_replicate] at hfmt
    have HH0 := Lib.hid hH0
    have HE := Lib.hid he
    clear hH0 hal he
    go_enter Tryz.func147, Tryz.ntmps147
    go_wp2_with fail
    refine (Tryz.internal_strconv_numDigits u hu1 hu _ (Lib.tabIs_alloc HE.out.tab _)).mono ?_
    rintro e w1 ⟨rfl, hw1⟩
    rw [hw1]
    go_wp2_with fail
    refine hfmt.mono ?_
    rintro e w2 ⟨rfl, k, v', dk, rfl, hF⟩
    have hcv : (convert 86 9 (.slice (some ⟨w.heap.size, 0, none⟩) (Lib.nDigits u) 24)).run Tryz.prog ((Sort.putRow (fun (b : UInt8) => Value.int .u8 (b.toNat : Int)) (w.alloc (.cells Lib.zeros24 283)) w.heap.size 0 dk).drewN k) = .ok (.string ⟨(Lib.decDigits u).toArray⟩) ((Sort.putRow (fun (b : UInt8) => Value.int .u8 (b.toNat : Int)) (w.alloc (.cells Lib.zeros24 283)) w.heap.size 0 dk).drewN k) := by
      have h := run_convert_bytes_back (P := Tryz.prog) ((Sort.putRow (fun (b : UInt8) => Value.int .u8 (b.toNat : Int)) (w.alloc (.cells Lib.zeros24 283)) w.heap.size 0 dk).drewN k) 86 9 5 ⟨w.heap.size, 0, none⟩ 24 (Lib.decDigits u) Tryz.underlying86 Tryz.underlying5 Tryz.underlying9 (fun j hj => by
        rw [Lib.row_is_numeral hF j hj, Lib.add_plain, World.cell?_drewN]
        exact Sort.cell?_putRow (fun (b : UInt8) => Value.int .u8 (b.toNat : Int)) _ w.heap.size 0 _ dk HH0.out (by rw [hF.size, Array.size_replicate]) j (by rw [hF.size]; rw [Lib.decDigits_length] at hj; exact hj))
      rw [Lib.decDigits_length] at h
      exact h
    obtain ⟨os, eo⟩ := Lib.fin_at w (.cells Lib.zeros24 283) dk k 0
    have HN : Hid (New w ((Sort.putRow (fun (b : UInt8) => Value.int .u8 (b.toNat : Int)) (w.alloc (.cells Lib.zeros24 283)) w.heap.size 0 dk).drewN k)) := Lib.hid (by rw [eo]; exact new_grow w k os)
    clear eo
    go_wp2_with fail
    go_ret
    exact ⟨rfl, HN.out⟩

set_option maxHeartbeats 1000000 in
theorem fmtUint_any (u : Nat) (hu : u < 18446744073709551616) (w : World) (he : Env w) : Calls Tryz.prog 101 #[.int .u64 (u : Int), .int .i64 10] w fun e w' => e = .returned (.string (str (Lib.decDigits u))) ∧ New w w' := by
  have hc := ifmtUint_any u hu w he
  clear he
  go_enter Tryz.func101, Tryz.ntmps101
  go_wp2_with fail
  refine hc.mono ?_
  rintro e w1 ⟨rfl, hn⟩
  go_wp2_with fail
  go_ret
  exact ⟨rfl, hn⟩

set_option maxRecDepth 100000 in
set_option maxHeartbeats 4000000 in
theorem show_any (j : Bool) (ep : Nat) (n : Int) (w : World) (hep : ep < 18446744073709551616) (hn : n ≤ 9223372036854775807) (he : Env w) :
    Calls Tryz.prog 49 #[.bool j, .int .u64 (ep : Int), .int .i64 n] w fun e w' => e = .returned (.string (str (showL j ep (max n 0).toNat))) ∧ New w w' := by
  obtain ⟨m, hm⟩ : ∃ m : Nat, m = (max n 0).toNat := ⟨_, rfl⟩
  have hm2 : max n 0 = (m : Int) := by omega
  have hm3 : m < 9223372036854775808 := by omega
  rw [← hm]
  have hl1 : (Lib.decDigits ep).length ≤ 20 := by rw [Lib.decDigits_length]; by_cases h : ep = 0; subst h; decide +kernel; have := Lib.numDigits_eq ep (by omega) hep; split at this <;> omega
  have hl2 : (Lib.decDigits m).length ≤ 20 := by rw [Lib.decDigits_length]; by_cases h : m = 0; subst h; decide +kernel; have := Lib.numDigits_eq m (by omega) (by omega); split at this <;> omega
  have hs1 : (str (Lib.decDigits ep)).size ≤ 20 := by rw [str_size]; exact hl1
  have hs2 : (str (Lib.decDigits m)).size ≤ 20 := by rw [str_size]; exact hl2
  have hc1 := fmtUint_any ep hep
  have hc2 := itoa_any m hm3
  have HW : Hid (∀ l : List UInt8, (l = [106, 111, 105, 110] ∧ j = true ∨ l = [114, 101, 109, 111, 118, 101] ∧ j = false) → (⟨l.toArray⟩ : ByteArray) ++ ⟨#[32]⟩ ++ str (Lib.decDigits ep) ++ ⟨#[32]⟩ ++ str (Lib.decDigits m) = str (showL j ep m)) := Lib.hid (by
    rintro l (⟨rfl, rfl⟩ | ⟨rfl, rfl⟩)
    · show str _ ++ str [32] ++ str _ ++ str [32] ++ str _ = _
      simp only [str_append]
      congr 1
      simp [showL, wordL, joinL]
    · show str _ ++ str [32] ++ str _ ++ str [32] ++ str _ = _
      simp only [str_append]
      congr 1
      simp [showL, wordL, removeL])
  have HE := Lib.hid he
  clear he hm hl1 hl2
  cases j with
  | true =>
    have hww := HW.out [106, 111, 105, 110] (.inl ⟨rfl, rfl⟩)
    have HWW := Lib.hid hww
    clear hww HW
    generalize str (Lib.decDigits ep) = s1 at *
    generalize str (Lib.decDigits m) = s2 at *
    go_enter Tryz.func49, Tryz.ntmps49
    go_wp2_with fail
    refine (hc1 _ HE.out).mono ?_
    rintro e w1 ⟨rfl, hn1⟩
    have HE1 := Lib.hid (HE.out.new hn1)
    go_wp2_with fail
    refine (hc2 _ HE1.out).mono ?_
    rintro e w2 ⟨rfl, hn2⟩
    go_wp2_with fail
    go_ret
    exact ⟨ret_eq (congrArg Value.string HWW.out), hn1.trans hn2⟩
  | false =>
    have hww := HW.out [114, 101, 109, 111, 118, 101] (.inr ⟨rfl, rfl⟩)
    have HWW := Lib.hid hww
    clear hww HW
    generalize str (Lib.decDigits ep) = s1 at *
    generalize str (Lib.decDigits m) = s2 at *
    go_enter Tryz.func49, Tryz.ntmps49
    go_wp2_with fail
    refine (hc1 _ HE.out).mono ?_
    rintro e w1 ⟨rfl, hn1⟩
    have HE1 := Lib.hid (HE.out.new hn1)
    go_wp2_with fail
    refine (hc2 _ HE1.out).mono ?_
    rintro e w2 ⟨rfl, hn2⟩
    go_wp2_with fail
    go_ret
    exact ⟨ret_eq (congrArg Value.string HWW.out), hn1.trans hn2⟩
end Go.Proofs.YtlhlcdjkacglnaaGreatDoor.C
/- Chapter 23 (config): the document's digits and Show; a text cut at its spaces; numbers parsed. -/
namespace Go.Proofs.YtlhlcdjkacglnaaGreatDoor.C
open Go.RowKit Go.Lap
set_option linter.unusedVariables false

/-- The words of a text, as the program has them. -/
def SplitPost (w : World) (s : ByteArray) (e : Ending) (w' : World) : Prop := ∃ (g : Nat) (L : List ByteArray), e = .returned (.slice (some ⟨g, 0, none⟩) L.length L.length) ∧ SlIn w' 1 sEnc (.slice (some ⟨g, 0, none⟩) L.length L.length) L ∧ L.map (fun b => b.data.toList) = wordsL s.data.toList ∧ New w w'
theorem genSplit_one (s : ByteArray) (w : World) (hs : s.size < 4294967281) :
    Calls Tryz.prog 193 #[.string s, .string ⟨#[32]⟩, .int .i64 0, .int .i64 (-1)] w fun e w' => e = .returned (.slice (some ⟨w.heap.size, 0, none⟩) (Lib.countB s ⟨#[32]⟩ + 1) (Lib.countB s ⟨#[32]⟩ + 1)) ∧ w' = w.alloc (.cells ((Lib.splitB ⟨#[32]⟩ 0 (Lib.countB s ⟨#[32]⟩) s).map Value.string).toArray 9) := by
  have h1 : 1 ≤ (⟨#[32]⟩ : ByteArray).size := by decide
  have hle := Lib.countB_le ⟨#[32]⟩ h1 s.size s (Nat.le_refl _)
  have hlen := Lib.splitB_all ⟨#[32]⟩ h1 0 _ s rfl
  have c := Any.strings_genSplit_core Tryz.lays221 (by kernel_rfl) s ⟨#[32]⟩ 0 (-1) (Lib.countB s ⟨#[32]⟩ + 1) w hs h1 (Nat.zero_le _)
    (fun x c hx => by
      refine (Tryz.strings_Index_one x 32 _).mono ?_
      rintro e w' ⟨rfl, hw⟩
      refine ⟨?_, hw⟩
      rw [← Lib.index_one])
    (by
      refine (Tryz.strings_Count_one s 32 w).mono ?_
      rintro e w' ⟨rfl, hw⟩
      refine ⟨?_, hw⟩
      show Ending.returned (Value.int .i64 ((List.count 32 s.data.toList : Nat) : Int)) = Ending.returned (Value.int .i64 ((Lib.count s.data.toList [32] : Nat) : Int))
      rw [Lib.count_one])
    (by decide) (by decide) (by rw [if_pos (by decide)]; omega)
  rw [Nat.add_sub_cancel, hlen] at c
  have e2 : Lib.cellsOf (Lib.splitB ⟨#[32]⟩ 0 (Lib.countB s ⟨#[32]⟩) s) (Lib.countB s ⟨#[32]⟩ + 1) = ((Lib.splitB ⟨#[32]⟩ 0 (Lib.countB s ⟨#[32]⟩) s).map Value.string).toArray := by rw [← hlen]; exact Lib.cellsOf_full _
  rw [e2] at c
  exact c
theorem flat_s : ∀ l : List ByteArray, l.flatMap sEnc = l.map Value.string
  | [] => rfl
  | x :: l => by rw [List.flatMap_cons, flat_s l]; rfl

set_option maxHeartbeats 1000000 in
theorem split_any (s : ByteArray) (w : World) (hs : s.size < 4294967281) : Calls Tryz.prog 152 #[.string s, .string ⟨#[32]⟩] w (SplitPost w s) := by
  have hc := genSplit_one s w hs
  have hlen := Lib.splitB_all ⟨#[32]⟩ (by decide) 0 _ s rfl
  have HL : Hid (∀ W, W = w.alloc (.cells ((Lib.splitB ⟨#[32]⟩ 0 (Lib.countB s ⟨#[32]⟩) s).map Value.string).toArray 9) → SplitPost w s (.returned (.slice (some ⟨w.heap.size, 0, none⟩) (Lib.countB s ⟨#[32]⟩ + 1) (Lib.countB s ⟨#[32]⟩ + 1))) W) := Lib.hid (by
    rintro W rfl
    refine ⟨w.heap.size, Lib.splitB ⟨#[32]⟩ 0 (Lib.countB s ⟨#[32]⟩) s, by rw [hlen], SlIn.lit (Blk.mk_new w _ _) (fun _ => ⟨rfl, by simp [sEnc, Value.oneCell']⟩) (by rw [flat_s]) (Nat.le_refl _), ?_, (New.refl w).alloc _⟩
    rw [Lib.splitB_data]
    rfl)
  clear hlen hs
  go_enter Tryz.func152, Tryz.ntmps152
  go_wp2_with fail
  refine hc.mono ?_
  rintro e w1 ⟨rfl, hw⟩
  have HP := Lib.hid (HL.out w1 hw)
  clear hw HL hc
  go_wp2_with fail
  go_ret
  exact HP.out

theorem splitK_len : ∀ (k : Nat) (s : List UInt8) (a : List UInt8), a ∈ Lib.splitK [32] 0 k s → a.length ≤ s.length
  | 0, s, a, h => by simp only [Lib.splitK, List.mem_singleton] at h; rw [h]; exact Nat.le_refl _
  | k + 1, s, a, h => by
    unfold Lib.splitK at h
    split at h
    · simp only [List.mem_singleton] at h; rw [h]; exact Nat.le_refl _
    · rcases List.mem_cons.1 h with h | h
      · rw [h, List.length_take]; omega
      · have := splitK_len k _ a h
        rw [List.length_drop] at this
        omega
theorem words_size {s a b c : ByteArray} (h : wordsL s.data.toList = [a.data.toList, b.data.toList, c.data.toList]) {n : Nat} (hs : s.size < n) : b.size < n ∧ c.size < n := by
  have h1 := splitK_len _ s.data.toList b.data.toList (by show _ ∈ wordsL _; rw [h]; simp)
  have h2 := splitK_len _ s.data.toList c.data.toList (by show _ ∈ wordsL _; rw [h]; simp)
  rw [strLen, strLen] at h1 h2
  exact ⟨by omega, by omega⟩
theorem parseM_lt (M : Nat) (hM : M ≤ 18446744073709551615) : ∀ (l : List UInt8) (acc u : Nat), acc ≤ M → Lib.parseUintM M acc l = .ok u → u ≤ M
  | [], acc, u, ha, h => by simp only [Lib.parseUintM] at h; injection h with h; omega
  | c :: l, acc, u, ha, h => by
    simp only [Lib.parseUintM] at h
    split at h
    · split at h
      · cases h
      · split at h
        · cases h
        · exact parseM_lt M hM l _ u (by omega) h
    · cases h
theorem parseB_lt {l : List UInt8} {u : Nat} (h : Lib.parseUintB 64 l = .ok u) : u < 18446744073709551616 := by
  unfold Lib.parseUintB at h
  split at h
  · cases h
  · have := parseM_lt _ (by decide) l 0 u (by omega) h
    omega
theorem parse_ok {s : ByteArray} {u : Nat} (h : Lib.parseUintB 64 s.data.toList = .ok u) (hs : s.size < 4294967296) (w : World) :
    Calls Tryz.prog 153 #[.string s, .int .i64 10, .int .i64 64] w fun e w' => e = .returned (.tuple #[.int .u64 (u : Int), .nilIface]) ∧ New w w' := by
  refine (Tryz.strconv_ParseUint_10_at64_ok s (by omega) u h w).mono ?_
  rintro e w' ⟨rfl, rfl | rfl⟩
  · exact ⟨rfl, New.refl _⟩
  · exact ⟨rfl, new_bytes _ _ _⟩
def BadU (w : World) (e : Ending) (w' : World) : Prop := ∃ (u : Int) (N : Nat), e = .returned (.tuple #[.int .u64 u, .iface 318 (.pointer (some ⟨N, 0, none⟩))]) ∧ New w w'
theorem parse_bad {s : ByteArray} (h : ∀ u, Lib.parseUintB 64 s.data.toList ≠ .ok u) (hs : s.size < 4294967296) (w : World) (he : Env w) :
    Calls Tryz.prog 153 #[.string s, .int .i64 10, .int .i64 64] w (BadU w) := by
  cases hp : Lib.parseUintB 64 s.data.toList with
  | ok u => exact absurd hp (h u)
  | «syntax» =>
    obtain ⟨te, pe, hc⟩ := he.syn
    refine (Tryz.strconv_ParseUint_10_at64_syntax s (by omega) hp _ w hc (.inr ⟨te, pe, rfl⟩)).mono ?_
    rintro e w' ⟨N, rfl, _, _, hb⟩
    exact ⟨_, N, rfl, hb⟩
  | range =>
    obtain ⟨te, pe, hc⟩ := he.rng
    refine (Tryz.strconv_ParseUint_10_at64_range s (by omega) hp _ w hc (.inr ⟨te, pe, rfl⟩)).mono ?_
    rintro e w' ⟨N, rfl, _, _, hb⟩
    exact ⟨_, N, rfl, hb⟩
theorem atoi_ok {s : ByteArray} {v : Int} (h : Lib.atoiAll s.data.toList = .ok v) (hs : s.size < 4294967296) (w : World) :
    Calls Tryz.prog 154 #[.string s] w fun e w' => e = .returned (.tuple #[.int .i64 v, .nilIface]) ∧ New w w' := by
  refine (Tryz.strconv_Atoi_ok s (by omega) v h w).mono ?_
  rintro e w' ⟨rfl, rfl | ⟨t, rfl⟩⟩
  · exact ⟨rfl, New.refl _⟩
  · exact ⟨rfl, new_bytes _ _ _⟩
def BadI (w : World) (e : Ending) (w' : World) : Prop := ∃ (u : Int) (N : Nat), e = .returned (.tuple #[.int .i64 u, .iface 318 (.pointer (some ⟨N, 0, none⟩))]) ∧ New w w'
theorem atoi_bad {s : ByteArray} (h : ∀ u, Lib.atoiAll s.data.toList ≠ .ok u) (hs : s.size < 4294967296) (w : World) (he : Env w) :
    Calls Tryz.prog 154 #[.string s] w (BadI w) := by
  cases hp : Lib.atoiAll s.data.toList with
  | ok u => exact absurd hp (h u)
  | «syntax» =>
    obtain ⟨te, pe, hc⟩ := he.syn
    refine (Tryz.strconv_Atoi_syntax s (by omega) hp _ w hc (.inr ⟨te, pe, rfl⟩)).mono ?_
    rintro e w' ⟨N, rfl, _, _, hb⟩
    exact ⟨_, N, rfl, hb⟩
  | range =>
    obtain ⟨te, pe, hc⟩ := he.rng
    refine (Tryz.strconv_Atoi_range s (by omega) hp _ w hc (.inr ⟨te, pe, rfl⟩)).mono ?_
    rintro e w' ⟨N, rfl, _, _, hb⟩
    exact ⟨_, N, rfl, hb⟩
end Go.Proofs.YtlhlcdjkacglnaaGreatDoor.C
/- Chapter 23 (config): what a command makes of a configuration: the program's step. Printed by genCfg.py. -/
namespace Go.Proofs.YtlhlcdjkacglnaaGreatDoor.C
open Go.RowKit Go.Lap
set_option linter.unusedVariables false

/-- A configuration. -/
def OnePost (w : World) (c : Cfg) (e : Ending) (w' : World) : Prop := ∃ u, e = .returned (.agg #[.int .u64 (c.e : Int), u]) ∧ SlIn w' 1 iEnc u c.ms ∧ New w w'
theorem cmdP_words {e : Nat} {cmd a b c : List UInt8} (hw : wordsL cmd = [a, b, c]) : cmdP e cmd = (if a = joinL ∨ a = removeL then (match Lib.parseUintB 64 b, Lib.atoiAll c with
      | .ok u, .ok v => if u = e ∧ showL (decide (a = joinL)) u (max v 0).toNat = cmd then some (decide (a = joinL), v) else none
      | _, _ => none) else none) := by unfold cmdP; rw [hw]; rfl
theorem three_ways (a : ByteArray) : a = ⟨#[106, 111, 105, 110]⟩ ∨ a = ⟨#[114, 101, 109, 111, 118, 101]⟩ ∨ (a ≠ ⟨#[106, 111, 105, 110]⟩ ∧ a ≠ ⟨#[114, 101, 109, 111, 118, 101]⟩) := by
  by_cases h : a = ⟨#[106, 111, 105, 110]⟩
  · exact .inl h
  · by_cases h2 : a = ⟨#[114, 101, 109, 111, 118, 101]⟩
    · exact .inr (.inl h2)
    · exact .inr (.inr ⟨h, h2⟩)
theorem cmdP_not {e : Nat} {cmd : List UInt8} (hw : (wordsL cmd).length ≠ 3) : cmdP e cmd = none := by
  unfold cmdP
  split
  · rename_i h; rw [h] at hw; simp at hw
  · rfl
theorem step_of_none {c : Cfg} {cmd : List UInt8} (h : cmdP c.e cmd = none) : stepC c cmd = c := by unfold stepC; rw [h]
theorem step_of_some {c : Cfg} {cmd : List UInt8} {j : Bool} {v : Int} (h : cmdP c.e cmd = some (j, v)) : stepC c cmd = actC c j v := by unfold stepC; rw [h]
theorem toList_data2 (s : ByteArray) : s.toList = s.data.toList := Lib.toList_data s
theorem ba_ext {a b : ByteArray} (h : a.data.toList = b.data.toList) : a = b := by
  cases a; cases b
  congr 1
  exact Array.toList_inj.1 h
theorem slIn_cfgSet {w : World} {g t : Nat} {a : Int} {s v x y : Value} {l : List Int} (h : SlIn w 1 iEnc v l) (hB : Blk w g t #[.int .u64 a, s]) (hs : ∀ z, s ≠ .int .i64 z) : SlIn ((w.setCell ⟨g, 0, none⟩ x).setCell ⟨g, 1, none⟩ y) 1 iEnc v l := by
  obtain ⟨A, c, rfl, hlc, hh⟩ := h
  refine ⟨A, c, rfl, hlc, ?_⟩
  rcases hh with h | ⟨b, off, rfl, hb, hc⟩
  · exact .inl h
  · refine .inr ⟨b, off, rfl, by simpa using hb, fun k z hz j u hu => ?_⟩
    have h1 := hc k z hz j u hu
    have hne : g ≠ b := by
      rintro rfl
      rw [hB.cell] at h1
      have hu2 : u = .int .i64 z := by
        cases j with
        | zero => exact (Option.some.inj hu).symm
        | succ j => simp [iEnc] at hu
      subst hu2
      generalize off + k * 1 + j = m at h1
      match m, h1 with
      | 0, h1 => cases h1
      | 1, h1 => exact hs z (Option.some.inj h1)
      | m + 2, h1 => simp at h1
    rw [World.cell?_setCell_far _ _ _ _ hne, World.cell?_setCell_far _ _ _ _ hne]
    exact h1
theorem slIn_cfgSet1 {w : World} {g t : Nat} {a : Int} {s v y : Value} {l : List Int} (h : SlIn w 1 iEnc v l) (hB : Blk w g t #[.int .u64 a, s]) (hs : ∀ z, s ≠ .int .i64 z) : SlIn (w.setCell ⟨g, 1, none⟩ y) 1 iEnc v l := by
  obtain ⟨A, c, rfl, hlc, hh⟩ := h
  refine ⟨A, c, rfl, hlc, ?_⟩
  rcases hh with h | ⟨b, off, rfl, hb, hc⟩
  · exact .inl h
  · refine .inr ⟨b, off, rfl, by simpa using hb, fun k z hz j u hu => ?_⟩
    have h1 := hc k z hz j u hu
    have hne : g ≠ b := by
      rintro rfl
      rw [hB.cell] at h1
      have hu2 : u = .int .i64 z := by
        cases j with
        | zero => exact (Option.some.inj hu).symm
        | succ j => simp [iEnc] at hu
      subst hu2
      generalize off + k * 1 + j = m at h1
      match m, h1 with
      | 0, h1 => cases h1
      | 1, h1 => exact hs z (Option.some.inj h1)
      | m + 2, h1 => simp at h1
    rw [World.cell?_setCell_far _ _ _ _ hne]
    exact h1
theorem act_true (c : Cfg) (n : Int) : actC c true n = applyC c (joinC c n) := rfl
theorem act_false (c : Cfg) (n : Int) : actC c false n = applyC c (remC c n) := rfl
set_option maxRecDepth 100000 in
set_option maxHeartbeats 16000000 in
theorem step_any (ep : Nat) (v : Value) (ms : List Int) (cmd : ByteArray) (w : World) (hep : ep < 18446744073709551616) (hl : ms.length ≤ 1000000) (hs : SlIn w 1 iEnc v ms) (hcm : cmd.size < 4294967281) (henv : Env w) :
    Calls Tryz.prog 108 #[.agg #[.int .u64 (ep : Int), v], .string cmd] w (OnePost w (stepC ⟨ep, ms⟩ cmd.data.toList)) := by
  obtain ⟨A, m, cap, rfl⟩ := hs.shape
  obtain ⟨A', c', hv, hlc, -⟩ := id hs
  cases hv
  have HS0 := Lib.hid hs
  have hN := ((New.refl w).alloc (.cells #[.int .u64 (ep : Int), .slice A ms.length cap] 41)).alloc (.cells #[.int .u64 0, .slice none 0 0] 41)
  have hB := (Blk.mk_new w 41 #[.int .u64 (ep : Int), .slice A ms.length cap]).alloc (.cells #[.int .u64 0, .slice none 0 0] 41)
  have hR := Blk.mk_new (w.alloc (.cells #[.int .u64 (ep : Int), .slice A ms.length cap] 41)) 41 #[.int .u64 0, .slice none 0 0]
  rw [World.size_alloc] at hR
  have HE0 := Lib.hid henv
  have hsplit := split_any cmd
  clear hs henv
  go_enter Tryz.func108, Tryz.ntmps108
  go_upto_region 1 with fail
  generalize (w.alloc _).alloc _ = w1 at *
  obtain ⟨p0, p1, p2, pz⟩ := Blk2F hB
  obtain ⟨q0, q1, q2, qz⟩ := Blk2F hR
  go_wp2_with fail
  refine (hsplit _ hcm).mono ?_
  rintro e1 w2 ⟨g, L, rfl, hsL, hwd, hn2⟩
  have hB2 := hB.new hn2
  have hR2 := hR.new hn2
  have hN2 := hN.trans hn2
  clear hB hR hN hn2
  clear p0 p1 p2 pz q0 q1 q2 qz
  obtain ⟨p0, p1, p2, pz⟩ := Blk2F hB2
  obtain ⟨q0, q1, q2, qz⟩ := Blk2F hR2
  have HWD := Lib.hid hwd
  have HSL := Lib.hid hsL
  obtain ⟨A3, c3, hv3, -, hh3⟩ := id hsL
  cases hv3
  clear hsL hwd hsplit
  by_cases h3 : L.length = 3
  rotate_left
  · have HF := Lib.hid (show stepC ⟨ep, ms⟩ cmd.data.toList = ⟨ep, ms⟩ from step_of_none (cmdP_not (by rw [← HWD.out, List.length_map]; exact h3)))
    have h3b : ((L.length : Int) != 3) = true := by rw [bne_iff_ne]; omega
    clear h3 hh3
    go_wp2_with fail
    exact bodyPost_ret (v := .agg #[.int .u64 (ep : Int), .slice A ms.length cap]) (by simp [results, Tryz.results108, go_sem, q1, q2]) rfl (by rw [HF.out]; exact (fun hx => ⟨_, rfl, HS0.out.new hx, hx⟩) ((hN2.setCell (p := ⟨w.heap.size + 1, 0, none⟩) (by simp) _).setCell (p := ⟨w.heap.size + 1, 1, none⟩) (by simp) _))
  obtain ⟨a, b, c, rfl⟩ : ∃ a b c, L = [a, b, c] := by
    match L, h3 with
    | [a, b, c], _ => exact ⟨a, b, c, rfl⟩
  rcases hh3 with h | ⟨gb, off, hgb, hbb, hc⟩
  · cases h
  cases hgb
  have l0 : w2.cell? ⟨g, 0, none⟩ = some (.string a) := by simpa [sEnc] using hc 0 a rfl 0 _ rfl
  have l1 : w2.cell? ⟨g, 1, none⟩ = some (.string b) := by simpa [sEnc] using hc 1 b rfl 0 _ rfl
  have l2 : w2.cell? ⟨g, 2, none⟩ = some (.string c) := by simpa [sEnc] using hc 2 c rfl 0 _ rfl
  have HW : Hid (wordsL cmd.data.toList = [a.data.toList, b.data.toList, c.data.toList]) := Lib.hid HWD.out.symm
  have hgw : g < w2.heap.size := hbb
  clear hc h3 HWD HSL hbb
  have HLEN : Hid (b.size < 4294967281 ∧ c.size < 4294967281) := Lib.hid (words_size HW.out hcm)
  rcases three_ways a with haj | har | ⟨haj, har⟩
  rotate_left
  rotate_left
  · have HF := Lib.hid (show stepC ⟨ep, ms⟩ cmd.data.toList = ⟨ep, ms⟩ from step_of_none (by rw [cmdP_words HW.out, if_neg (by rintro (h | h); exact haj (ba_ext h); exact har (ba_ext h))]))
    have x1 : (a.toList == [106, 111, 105, 110]) = false := by rw [beq_eq_false_iff_ne]; intro h; rw [toList_data2] at h; exact haj (ba_ext h)
    have x2 : (a.toList == [114, 101, 109, 111, 118, 101]) = false := by rw [beq_eq_false_iff_ne]; intro h; rw [toList_data2] at h; exact har (ba_ext h)
    have x3 : ¬ a.toList = [106, 111, 105, 110] := by simpa using x1
    have x4 : ¬ a.toList = [114, 101, 109, 111, 118, 101] := by simpa using x2
    clear haj har
    go_wp2_with fail
    exact bodyPost_ret (v := .agg #[.int .u64 (ep : Int), .slice A ms.length cap]) (by simp [results, Tryz.results108, go_sem, q1, q2]) rfl (by rw [HF.out]; exact (fun hx => ⟨_, rfl, HS0.out.new hx, hx⟩) ((hN2.setCell (p := ⟨w.heap.size + 1, 0, none⟩) (by simp) _).setCell (p := ⟨w.heap.size + 1, 1, none⟩) (by simp) _))
  · subst haj
    have HC : Hid (∀ u v, Lib.parseUintB 64 b.data.toList = .ok u → Lib.atoiAll c.data.toList = .ok v → cmdP ep cmd.data.toList = if u = ep ∧ showL true u (max v 0).toNat = cmd.data.toList then some (true, v) else none) := Lib.hid (by intro u v h1 h2; rw [cmdP_words HW.out, if_pos (.inl rfl), h1, h2]; rfl)
    have HBAD : Hid ((∀ u, Lib.parseUintB 64 b.data.toList ≠ .ok u) ∨ (∀ u, Lib.atoiAll c.data.toList ≠ .ok u) → stepC ⟨ep, ms⟩ cmd.data.toList = ⟨ep, ms⟩) := Lib.hid (by intro h; refine step_of_none ?_; rw [cmdP_words HW.out]; split; split; rename_i u v h1 h2; rcases h with h | h; exact absurd h1 (h u); exact absurd h2 (h v); rfl; rfl)
    go_wp2_with fail
    by_cases hpb : ∃ u, Lib.parseUintB 64 b.data.toList = .ok u
    rotate_left
    · have hpb2 : ∀ u, Lib.parseUintB 64 b.data.toList ≠ .ok u := fun u h => hpb ⟨u, h⟩
      have HF := Lib.hid (HBAD.out (.inl hpb2))
      refine (parse_bad hpb2 (by have := HLEN.out.1; omega) w2 (HE0.out.new hN2)).mono ?_
      rintro e1 w3 ⟨u3, N3, rfl, hn3⟩
      clear hpb hpb2
      have l2b := (hn3.cells.1 _ _ hgw).trans l2
      have l0b := (hn3.cells.1 _ _ hgw).trans l0
      clear l0 l1 l2
      have hB3 := hB2.new hn3
      have hR3 := hR2.new hn3
      have hN3 := hN2.trans hn3
      clear hB2 hR2 hN2 hn3
      clear p0 p1 p2 pz q0 q1 q2 qz
      obtain ⟨p0, p1, p2, pz⟩ := Blk2F hB3
      obtain ⟨q0, q1, q2, qz⟩ := Blk2F hR3
      go_wp2_with fail
      by_cases hpc : ∃ u, Lib.atoiAll c.data.toList = .ok u
      · obtain ⟨v3, hv3⟩ := hpc
        refine (atoi_ok hv3 (by have := HLEN.out.2; omega) w3).mono ?_
        rintro e1 w4 ⟨rfl, hn4⟩
        clear hv3
        have hB4 := hB3.new hn4
        have hR4 := hR3.new hn4
        have hN4 := hN3.trans hn4
        clear hB3 hR3 hN3 hn4
        clear p0 p1 p2 pz q0 q1 q2 qz
        obtain ⟨p0, p1, p2, pz⟩ := Blk2F hB4
        obtain ⟨q0, q1, q2, qz⟩ := Blk2F hR4
        go_wp2_with fail
        exact bodyPost_ret (v := .agg #[.int .u64 (ep : Int), .slice A ms.length cap]) (by simp [results, Tryz.results108, go_sem, q1, q2]) rfl (by rw [HF.out]; exact (fun hx => ⟨_, rfl, HS0.out.new hx, hx⟩) ((hN4.setCell (p := ⟨w.heap.size + 1, 0, none⟩) (by simp) _).setCell (p := ⟨w.heap.size + 1, 1, none⟩) (by simp) _))
      · refine (atoi_bad (fun u h => hpc ⟨u, h⟩) (by have := HLEN.out.2; omega) w3 (HE0.out.new hN3)).mono ?_
        rintro e1 w4 ⟨u4, N4, rfl, hn4⟩
        clear hpc
        have hB4 := hB3.new hn4
        have hR4 := hR3.new hn4
        have hN4 := hN3.trans hn4
        clear hB3 hR3 hN3 hn4
        clear p0 p1 p2 pz q0 q1 q2 qz
        obtain ⟨p0, p1, p2, pz⟩ := Blk2F hB4
        obtain ⟨q0, q1, q2, qz⟩ := Blk2F hR4
        go_wp2_with fail
        exact bodyPost_ret (v := .agg #[.int .u64 (ep : Int), .slice A ms.length cap]) (by simp [results, Tryz.results108, go_sem, q1, q2]) rfl (by rw [HF.out]; exact (fun hx => ⟨_, rfl, HS0.out.new hx, hx⟩) ((hN4.setCell (p := ⟨w.heap.size + 1, 0, none⟩) (by simp) _).setCell (p := ⟨w.heap.size + 1, 1, none⟩) (by simp) _))
    obtain ⟨u, hu⟩ := hpb
    have hu64 := parseB_lt hu
    refine (parse_ok hu (by have := HLEN.out.1; omega) w2).mono ?_
    rintro e1 w3 ⟨rfl, hn3⟩
    have HU := Lib.hid hu
    clear hu
    have l2b := (hn3.cells.1 _ _ hgw).trans l2
    have l0b := (hn3.cells.1 _ _ hgw).trans l0
    have hgw3 : g < w3.heap.size := Nat.lt_of_lt_of_le hgw hn3.size
    clear l0 l1 l2
    have hB3 := hB2.new hn3
    have hR3 := hR2.new hn3
    have hN3 := hN2.trans hn3
    clear hB2 hR2 hN2 hn3
    clear p0 p1 p2 pz q0 q1 q2 qz
    obtain ⟨p0, p1, p2, pz⟩ := Blk2F hB3
    obtain ⟨q0, q1, q2, qz⟩ := Blk2F hR3
    go_wp2_with fail
    by_cases hpc : ∃ u, Lib.atoiAll c.data.toList = .ok u
    rotate_left
    · have hpc2 : ∀ u, Lib.atoiAll c.data.toList ≠ .ok u := fun u h => hpc ⟨u, h⟩
      have HF := Lib.hid (HBAD.out (.inr hpc2))
      refine (atoi_bad hpc2 (by have := HLEN.out.2; omega) w3 (HE0.out.new hN3)).mono ?_
      rintro e1 w4 ⟨u4, N4, rfl, hn4⟩
      clear hpc hpc2
      have hB4 := hB3.new hn4
      have hR4 := hR3.new hn4
      have hN4 := hN3.trans hn4
      clear hB3 hR3 hN3 hn4
      clear p0 p1 p2 pz q0 q1 q2 qz
      obtain ⟨p0, p1, p2, pz⟩ := Blk2F hB4
      obtain ⟨q0, q1, q2, qz⟩ := Blk2F hR4
      go_wp2_with fail
      exact bodyPost_ret (v := .agg #[.int .u64 (ep : Int), .slice A ms.length cap]) (by simp [results, Tryz.results108, go_sem, q1, q2]) rfl (by rw [HF.out]; exact (fun hx => ⟨_, rfl, HS0.out.new hx, hx⟩) ((hN4.setCell (p := ⟨w.heap.size + 1, 0, none⟩) (by simp) _).setCell (p := ⟨w.heap.size + 1, 1, none⟩) (by simp) _))
    obtain ⟨n, hn⟩ := hpc
    have hnb := Lib.atoiAll_bounds hn
    refine (atoi_ok hn (by have := HLEN.out.2; omega) w3).mono ?_
    rintro e1 w4 ⟨rfl, hn4⟩
    have HC2 := Lib.hid (HC.out u n HU.out hn)
    clear hn
    have l0c := (hn4.cells.1 _ _ hgw3).trans l0b
    have hgw4 : g < w4.heap.size := Nat.lt_of_lt_of_le hgw3 hn4.size
    clear l0b l2b HC HU HBAD hgw hgw3
    have hB4 := hB3.new hn4
    have hR4 := hR3.new hn4
    have hN4 := hN3.trans hn4
    clear hB3 hR3 hN3 hn4
    clear p0 p1 p2 pz q0 q1 q2 qz
    obtain ⟨p0, p1, p2, pz⟩ := Blk2F hB4
    obtain ⟨q0, q1, q2, qz⟩ := Blk2F hR4
    by_cases hue : u = ep
    rotate_left
    · have HF := Lib.hid (show stepC ⟨ep, ms⟩ cmd.data.toList = ⟨ep, ms⟩ from step_of_none (by rw [HC2.out, if_neg (fun h => hue h.1)]))
      have hub : ((u : Int) != (ep : Int)) = true := by rw [bne_iff_ne]; omega
      clear hue
      go_wp2_with fail
      exact bodyPost_ret (v := .agg #[.int .u64 (ep : Int), .slice A ms.length cap]) (by simp [results, Tryz.results108, go_sem, q1, q2]) rfl (by rw [HF.out]; exact (fun hx => ⟨_, rfl, HS0.out.new hx, hx⟩) ((hN4.setCell (p := ⟨w.heap.size + 1, 0, none⟩) (by simp) _).setCell (p := ⟨w.heap.size + 1, 1, none⟩) (by simp) _))
    have hue2 := hue.symm
    clear hue
    subst hue2
    have hub : ((ep : Int) != (ep : Int)) = false := by simp
    have hsh := show_any true ep n w4 hu64 (by omega) (HE0.out.new hN4)
    obtain ⟨sh, hshe⟩ : ∃ sh, sh = str (showL true ep (max n 0).toNat) := ⟨_, rfl⟩
    rw [← hshe] at hsh
    by_cases hsc : sh = cmd
    rotate_left
    · have HF := Lib.hid (show stepC ⟨ep, ms⟩ cmd.data.toList = ⟨ep, ms⟩ from step_of_none (by rw [HC2.out, if_neg (fun h => hsc (by rw [hshe, h.2, str_data]))]))
      have hx1 : (sh.toList == cmd.toList) = false := by rw [beq_eq_false_iff_ne]; intro h; rw [toList_data2, toList_data2] at h; exact hsc (ba_ext h)
      have hx2 : ¬ sh.toList = cmd.toList := by simpa using hx1
      clear hshe hsc
      go_wp2_with fail
      refine hsh.mono ?_
      rintro e1 w5 ⟨rfl, hn5⟩
      have l0d := (hn5.cells.1 _ _ hgw4).trans l0c
      have hgw5 : g < w5.heap.size := Nat.lt_of_lt_of_le hgw4 hn5.size
      clear l0c hgw4
      have hB5 := hB4.new hn5
      have hR5 := hR4.new hn5
      have hN5 := hN4.trans hn5
      clear hB4 hR4 hN4 hn5
      clear p0 p1 p2 pz q0 q1 q2 qz
      obtain ⟨p0, p1, p2, pz⟩ := Blk2F hB5
      obtain ⟨q0, q1, q2, qz⟩ := Blk2F hR5
      go_wp2_with fail
      exact bodyPost_ret (v := .agg #[.int .u64 (ep : Int), .slice A ms.length cap]) (by simp [results, Tryz.results108, go_sem, q1, q2]) rfl (by rw [HF.out]; exact (fun hx => ⟨_, rfl, HS0.out.new hx, hx⟩) ((hN5.setCell (p := ⟨w.heap.size + 1, 0, none⟩) (by simp) _).setCell (p := ⟨w.heap.size + 1, 1, none⟩) (by simp) _))
    have HF := Lib.hid (show stepC ⟨ep, ms⟩ cmd.data.toList = actC ⟨ep, ms⟩ true n from step_of_some (by rw [HC2.out, if_pos ⟨rfl, by rw [← hsc, hshe]; simp [str]⟩]))
    subst hsc
    clear hshe HC2
    go_wp2_with fail
    refine hsh.mono ?_
    rintro e1 w5 ⟨rfl, hn5⟩
    have l0d := (hn5.cells.1 _ _ hgw4).trans l0c
    have hgw5 : g < w5.heap.size := Nat.lt_of_lt_of_le hgw4 hn5.size
    clear l0c hgw4
    have hB5 := hB4.new hn5
    have hR5 := hR4.new hn5
    have hN5 := hN4.trans hn5
    clear hB4 hR4 hN4 hn5
    clear p0 p1 p2 pz q0 q1 q2 qz
    obtain ⟨p0, p1, p2, pz⟩ := Blk2F hB5
    obtain ⟨q0, q1, q2, qz⟩ := Blk2F hR5
    go_wp2_with fail
    refine (remove_any ep _ ms n w5 hu64 (by omega) (HS0.out.new hN5)).mono ?_
    rintro e1 w6 ⟨u6, rfl, hs6, hn6⟩
    have l0e := (hn6.cells.1 _ _ hgw5).trans l0d
    have hgw6 : g < w6.heap.size := Nat.lt_of_lt_of_le hgw5 hn6.size
    clear l0d hgw5
    have hB6 := hB5.new hn6
    have hR6 := hR5.new hn6
    have hN6 := hN5.trans hn6
    clear hB5 hR5 hN5 hn6
    clear p0 p1 p2 pz q0 q1 q2 qz
    obtain ⟨p0, p1, p2, pz⟩ := Blk2F hB6
    obtain ⟨q0, q1, q2, qz⟩ := Blk2F hR6
    obtain ⟨A6, n6, c6, rfl⟩ := hs6.shape
    obtain ⟨r, hr⟩ : ∃ r, r = remC ⟨ep, ms⟩ n := ⟨_, rfl⟩
    rw [← hr] at hs6
    rw [← hr]
    obtain ⟨⟨re, rms⟩, rc⟩ := r
    dsimp only at hs6 ⊢
    have hX := Blk.mk_new w6 41 #[.int .u64 (re : Int), .slice A6 n6 c6]
    have hAx := (New.refl w6).alloc (.cells #[.int .u64 (re : Int), .slice A6 n6 c6] 41)
    have HS6 := Lib.hid (hs6.new hAx)
    have l0f := (hAx.cells.1 _ _ hgw6).trans l0e
    have hgw7 : g < (w6.alloc (.cells #[.int .u64 (re : Int), .slice A6 n6 c6] 41)).heap.size := Nat.lt_of_lt_of_le hgw6 hAx.size
    have hB7 := hB6.new hAx
    have hR7 := hR6.new hAx
    have hN7 := hN6.trans hAx
    have hxw : w.heap.size + 2 ≤ w6.heap.size := by have := hR6.lt; omega
    have HR := Lib.hid hr
    clear hB6 hR6 hN6 hAx l0e hgw6 hs6 hr
    clear p0 p1 p2 pz q0 q1 q2 qz
    go_upto_region 9 with fail
    generalize w6.heap.size = gx at *
    generalize w6.alloc _ = w7 at *
    obtain ⟨p0, p1, p2, pz⟩ := Blk2F hB7
    obtain ⟨q0, q1, q2, qz⟩ := Blk2F hR7
    obtain ⟨x0, x1, x2, xz⟩ := Blk2F hX
    clear HR
    go_wp2_with fail
    refine (join_any ep _ ms n w7 hu64 (by omega) (HS0.out.new hN7)).mono ?_
    rintro e1 w8 ⟨u8, rfl, hs8, hn8⟩
    obtain ⟨A8, n8, c8, rfl⟩ := hs8.shape
    obtain ⟨r, hr⟩ : ∃ r, r = joinC ⟨ep, ms⟩ n := ⟨_, rfl⟩
    rw [← hr] at hs8
    rw [← hr]
    obtain ⟨⟨je, jms⟩, jc⟩ := r
    dsimp only at hs8 ⊢
    have hX8 := hX.new hn8
    have hu9 : Upd (· = gx) w8 ((w8.setCell ⟨gx, 0, none⟩ (.int .u64 (je : Int))).setCell ⟨gx, 1, none⟩ (.slice A8 n8 c8)) := ((Upd.refl _ w8).setIn 0 _).setIn 1 _
    have HS9 : Hid (SlIn ((w8.setCell ⟨gx, 0, none⟩ (.int .u64 (je : Int))).setCell ⟨gx, 1, none⟩ (.slice A8 n8 c8)) 1 iEnc (.slice A8 n8 c8) jms) := Lib.hid (slIn_cfgSet hs8 hX8 (by simp))
    have hX9 : Blk ((w8.setCell ⟨gx, 0, none⟩ (.int .u64 (je : Int))).setCell ⟨gx, 1, none⟩ (.slice A8 n8 c8)) gx 41 #[.int .u64 (je : Int), .slice A8 n8 c8] := (hX8.set_ 0 _).set_ 1 _
    have hB9 := (hB7.new hn8).upd hu9 (by omega)
    have hR9 := (hR7.new hn8).upd hu9 (by omega)
    have hN9 := (hN7.trans hn8).upd hu9 (fun k hk => by omega)
    have HJ := Lib.hid hr
    obtain ⟨y0, y1, y2, yz⟩ := Blk2F hX8
    clear hB7 hR7 hN7 hX hr hs8 hn8 x0 x1 x2 xz
    clear p0 p1 p2 pz q0 q1 q2 qz
    go_upto_region 11 with fail
    clear y0 y1 y2 yz hX8 hu9
    generalize World.setCell _ ⟨gx, 1, none⟩ _ = w9 at *
    obtain ⟨p0, p1, p2, pz⟩ := Blk2F hB9
    obtain ⟨q0, q1, q2, qz⟩ := Blk2F hR9
    obtain ⟨x0, x1, x2, xz⟩ := Blk2F hX9
    by_cases hrc : jc = 0
    · subst hrc
      have hF2 : stepC ⟨ep, ms⟩ sh.data.toList = ⟨je, jms⟩ := by rw [HF.out, act_true, ← HJ.out]; rfl
      have HF2 := Lib.hid hF2
      clear hF2
      go_wp2_with fail
      exact bodyPost_ret (v := .agg #[.int .u64 (je : Int), .slice A8 n8 c8]) (by simp [results, Tryz.results108, go_sem, q1, q2]) rfl (by rw [HF2.out]; exact ⟨_, rfl, slIn_cfgSet HS9.out hR9 (by simp), (hN9.setCell (p := ⟨w.heap.size + 1, 0, none⟩) (by simp) _).setCell (p := ⟨w.heap.size + 1, 1, none⟩) (by simp) _⟩)
    · have hrb : (jc != 0) = true := by simpa using hrc
      have HF2 : Hid (stepC ⟨ep, ms⟩ sh.data.toList = ⟨ep, ms⟩) := Lib.hid (by rw [HF.out, act_true, ← HJ.out]; unfold applyC; rw [if_neg hrc])
      clear hrc
      go_wp2_with fail
      exact bodyPost_ret (v := .agg #[.int .u64 (ep : Int), .slice A ms.length cap]) (by simp [results, Tryz.results108, go_sem, q1, q2]) rfl (by rw [HF2.out]; exact (fun hx => ⟨_, rfl, HS0.out.new hx, hx⟩) ((hN9.setCell (p := ⟨w.heap.size + 1, 0, none⟩) (by simp) _).setCell (p := ⟨w.heap.size + 1, 1, none⟩) (by simp) _))
  · subst har
    have HC : Hid (∀ u v, Lib.parseUintB 64 b.data.toList = .ok u → Lib.atoiAll c.data.toList = .ok v → cmdP ep cmd.data.toList = if u = ep ∧ showL false u (max v 0).toNat = cmd.data.toList then some (false, v) else none) := Lib.hid (by intro u v h1 h2; rw [cmdP_words HW.out, if_pos (.inr rfl), h1, h2]; rfl)
    have HBAD : Hid ((∀ u, Lib.parseUintB 64 b.data.toList ≠ .ok u) ∨ (∀ u, Lib.atoiAll c.data.toList ≠ .ok u) → stepC ⟨ep, ms⟩ cmd.data.toList = ⟨ep, ms⟩) := Lib.hid (by intro h; refine step_of_none ?_; rw [cmdP_words HW.out]; split; split; rename_i u v h1 h2; rcases h with h | h; exact absurd h1 (h u); exact absurd h2 (h v); rfl; rfl)
    go_wp2_with fail
    by_cases hpb : ∃ u, Lib.parseUintB 64 b.data.toList = .ok u
    rotate_left
    · have hpb2 : ∀ u, Lib.parseUintB 64 b.data.toList ≠ .ok u := fun u h => hpb ⟨u, h⟩
      have HF := Lib.hid (HBAD.out (.inl hpb2))
      refine (parse_bad hpb2 (by have := HLEN.out.1; omega) w2 (HE0.out.new hN2)).mono ?_
      rintro e1 w3 ⟨u3, N3, rfl, hn3⟩
      clear hpb hpb2
      have l2b := (hn3.cells.1 _ _ hgw).trans l2
      have l0b := (hn3.cells.1 _ _ hgw).trans l0
      clear l0 l1 l2
      have hB3 := hB2.new hn3
      have hR3 := hR2.new hn3
      have hN3 := hN2.trans hn3
      clear hB2 hR2 hN2 hn3
      clear p0 p1 p2 pz q0 q1 q2 qz
      obtain ⟨p0, p1, p2, pz⟩ := Blk2F hB3
      obtain ⟨q0, q1, q2, qz⟩ := Blk2F hR3
      go_wp2_with fail
      by_cases hpc : ∃ u, Lib.atoiAll c.data.toList = .ok u
      · obtain ⟨v3, hv3⟩ := hpc
        refine (atoi_ok hv3 (by have := HLEN.out.2; omega) w3).mono ?_
        rintro e1 w4 ⟨rfl, hn4⟩
        clear hv3
        have hB4 := hB3.new hn4
        have hR4 := hR3.new hn4
        have hN4 := hN3.trans hn4
        clear hB3 hR3 hN3 hn4
        clear p0 p1 p2 pz q0 q1 q2 qz
        obtain ⟨p0, p1, p2, pz⟩ := Blk2F hB4
        obtain ⟨q0, q1, q2, qz⟩ := Blk2F hR4
        go_wp2_with fail
        exact bodyPost_ret (v := .agg #[.int .u64 (ep : Int), .slice A ms.length cap]) (by simp [results, Tryz.results108, go_sem, q1, q2]) rfl (by rw [HF.out]; exact (fun hx => ⟨_, rfl, HS0.out.new hx, hx⟩) ((hN4.setCell (p := ⟨w.heap.size + 1, 0, none⟩) (by simp) _).setCell (p := ⟨w.heap.size + 1, 1, none⟩) (by simp) _))
      · refine (atoi_bad (fun u h => hpc ⟨u, h⟩) (by have := HLEN.out.2; omega) w3 (HE0.out.new hN3)).mono ?_
        rintro e1 w4 ⟨u4, N4, rfl, hn4⟩
        clear hpc
        have hB4 := hB3.new hn4
        have hR4 := hR3.new hn4
        have hN4 := hN3.trans hn4
        clear hB3 hR3 hN3 hn4
        clear p0 p1 p2 pz q0 q1 q2 qz
        obtain ⟨p0, p1, p2, pz⟩ := Blk2F hB4
        obtain ⟨q0, q1, q2, qz⟩ := Blk2F hR4
        go_wp2_with fail
        exact bodyPost_ret (v := .agg #[.int .u64 (ep : Int), .slice A ms.length cap]) (by simp [results, Tryz.results108, go_sem, q1, q2]) rfl (by rw [HF.out]; exact (fun hx => ⟨_, rfl, HS0.out.new hx, hx⟩) ((hN4.setCell (p := ⟨w.heap.size + 1, 0, none⟩) (by simp) _).setCell (p := ⟨w.heap.size + 1, 1, none⟩) (by simp) _))
    obtain ⟨u, hu⟩ := hpb
    have hu64 := parseB_lt hu
    refine (parse_ok hu (by have := HLEN.out.1; omega) w2).mono ?_
    rintro e1 w3 ⟨rfl, hn3⟩
    have HU := Lib.hid hu
    clear hu
    have l2b := (hn3.cells.1 _ _ hgw).trans l2
    have l0b := (hn3.cells.1 _ _ hgw).trans l0
    have hgw3 : g < w3.heap.size := Nat.lt_of_lt_of_le hgw hn3.size
    clear l0 l1 l2
    have hB3 := hB2.new hn3
    have hR3 := hR2.new hn3
    have hN3 := hN2.trans hn3
    clear hB2 hR2 hN2 hn3
    clear p0 p1 p2 pz q0 q1 q2 qz
    obtain ⟨p0, p1, p2, pz⟩ := Blk2F hB3
    obtain ⟨q0, q1, q2, qz⟩ := Blk2F hR3
    go_wp2_with fail
    by_cases hpc : ∃ u, Lib.atoiAll c.data.toList = .ok u
    rotate_left
    · have hpc2 : ∀ u, Lib.atoiAll c.data.toList ≠ .ok u := fun u h => hpc ⟨u, h⟩
      have HF := Lib.hid (HBAD.out (.inr hpc2))
      refine (atoi_bad hpc2 (by have := HLEN.out.2; omega) w3 (HE0.out.new hN3)).mono ?_
      rintro e1 w4 ⟨u4, N4, rfl, hn4⟩
      clear hpc hpc2
      have hB4 := hB3.new hn4
      have hR4 := hR3.new hn4
      have hN4 := hN3.trans hn4
      clear hB3 hR3 hN3 hn4
      clear p0 p1 p2 pz q0 q1 q2 qz
      obtain ⟨p0, p1, p2, pz⟩ := Blk2F hB4
      obtain ⟨q0, q1, q2, qz⟩ := Blk2F hR4
      go_wp2_with fail
      exact bodyPost_ret (v := .agg #[.int .u64 (ep : Int), .slice A ms.length cap]) (by simp [results, Tryz.results108, go_sem, q1, q2]) rfl (by rw [HF.out]; exact (fun hx => ⟨_, rfl, HS0.out.new hx, hx⟩) ((hN4.setCell (p := ⟨w.heap.size + 1, 0, none⟩) (by simp) _).setCell (p := ⟨w.heap.size + 1, 1, none⟩) (by simp) _))
    obtain ⟨n, hn⟩ := hpc
    have hnb := Lib.atoiAll_bounds hn
    refine (atoi_ok hn (by have := HLEN.out.2; omega) w3).mono ?_
    rintro e1 w4 ⟨rfl, hn4⟩
    have HC2 := Lib.hid (HC.out u n HU.out hn)
    clear hn
    have l0c := (hn4.cells.1 _ _ hgw3).trans l0b
    have hgw4 : g < w4.heap.size := Nat.lt_of_lt_of_le hgw3 hn4.size
    clear l0b l2b HC HU HBAD hgw hgw3
    have hB4 := hB3.new hn4
    have hR4 := hR3.new hn4
    have hN4 := hN3.trans hn4
    clear hB3 hR3 hN3 hn4
    clear p0 p1 p2 pz q0 q1 q2 qz
    obtain ⟨p0, p1, p2, pz⟩ := Blk2F hB4
    obtain ⟨q0, q1, q2, qz⟩ := Blk2F hR4
    by_cases hue : u = ep
    rotate_left
    · have HF := Lib.hid (show stepC ⟨ep, ms⟩ cmd.data.toList = ⟨ep, ms⟩ from step_of_none (by rw [HC2.out, if_neg (fun h => hue h.1)]))
      have hub : ((u : Int) != (ep : Int)) = true := by rw [bne_iff_ne]; omega
      clear hue
      go_wp2_with fail
      exact bodyPost_ret (v := .agg #[.int .u64 (ep : Int), .slice A ms.length cap]) (by simp [results, Tryz.results108, go_sem, q1, q2]) rfl (by rw [HF.out]; exact (fun hx => ⟨_, rfl, HS0.out.new hx, hx⟩) ((hN4.setCell (p := ⟨w.heap.size + 1, 0, none⟩) (by simp) _).setCell (p := ⟨w.heap.size + 1, 1, none⟩) (by simp) _))
    have hue2 := hue.symm
    clear hue
    subst hue2
    have hub : ((ep : Int) != (ep : Int)) = false := by simp
    have hsh := show_any false ep n w4 hu64 (by omega) (HE0.out.new hN4)
    obtain ⟨sh, hshe⟩ : ∃ sh, sh = str (showL false ep (max n 0).toNat) := ⟨_, rfl⟩
    rw [← hshe] at hsh
    by_cases hsc : sh = cmd
    rotate_left
    · have HF := Lib.hid (show stepC ⟨ep, ms⟩ cmd.data.toList = ⟨ep, ms⟩ from step_of_none (by rw [HC2.out, if_neg (fun h => hsc (by rw [hshe, h.2, str_data]))]))
      have hx1 : (sh.toList == cmd.toList) = false := by rw [beq_eq_false_iff_ne]; intro h; rw [toList_data2, toList_data2] at h; exact hsc (ba_ext h)
      have hx2 : ¬ sh.toList = cmd.toList := by simpa using hx1
      clear hshe hsc
      go_wp2_with fail
      refine hsh.mono ?_
      rintro e1 w5 ⟨rfl, hn5⟩
      have l0d := (hn5.cells.1 _ _ hgw4).trans l0c
      have hgw5 : g < w5.heap.size := Nat.lt_of_lt_of_le hgw4 hn5.size
      clear l0c hgw4
      have hB5 := hB4.new hn5
      have hR5 := hR4.new hn5
      have hN5 := hN4.trans hn5
      clear hB4 hR4 hN4 hn5
      clear p0 p1 p2 pz q0 q1 q2 qz
      obtain ⟨p0, p1, p2, pz⟩ := Blk2F hB5
      obtain ⟨q0, q1, q2, qz⟩ := Blk2F hR5
      go_wp2_with fail
      exact bodyPost_ret (v := .agg #[.int .u64 (ep : Int), .slice A ms.length cap]) (by simp [results, Tryz.results108, go_sem, q1, q2]) rfl (by rw [HF.out]; exact (fun hx => ⟨_, rfl, HS0.out.new hx, hx⟩) ((hN5.setCell (p := ⟨w.heap.size + 1, 0, none⟩) (by simp) _).setCell (p := ⟨w.heap.size + 1, 1, none⟩) (by simp) _))
    have HF := Lib.hid (show stepC ⟨ep, ms⟩ cmd.data.toList = actC ⟨ep, ms⟩ false n from step_of_some (by rw [HC2.out, if_pos ⟨rfl, by rw [← hsc, hshe]; simp [str]⟩]))
    subst hsc
    clear hshe HC2
    go_wp2_with fail
    refine hsh.mono ?_
    rintro e1 w5 ⟨rfl, hn5⟩
    have l0d := (hn5.cells.1 _ _ hgw4).trans l0c
    have hgw5 : g < w5.heap.size := Nat.lt_of_lt_of_le hgw4 hn5.size
    clear l0c hgw4
    have hB5 := hB4.new hn5
    have hR5 := hR4.new hn5
    have hN5 := hN4.trans hn5
    clear hB4 hR4 hN4 hn5
    clear p0 p1 p2 pz q0 q1 q2 qz
    obtain ⟨p0, p1, p2, pz⟩ := Blk2F hB5
    obtain ⟨q0, q1, q2, qz⟩ := Blk2F hR5
    go_wp2_with fail
    refine (remove_any ep _ ms n w5 hu64 (by omega) (HS0.out.new hN5)).mono ?_
    rintro e1 w6 ⟨u6, rfl, hs6, hn6⟩
    have l0e := (hn6.cells.1 _ _ hgw5).trans l0d
    have hgw6 : g < w6.heap.size := Nat.lt_of_lt_of_le hgw5 hn6.size
    clear l0d hgw5
    have hB6 := hB5.new hn6
    have hR6 := hR5.new hn6
    have hN6 := hN5.trans hn6
    clear hB5 hR5 hN5 hn6
    clear p0 p1 p2 pz q0 q1 q2 qz
    obtain ⟨p0, p1, p2, pz⟩ := Blk2F hB6
    obtain ⟨q0, q1, q2, qz⟩ := Blk2F hR6
    obtain ⟨A6, n6, c6, rfl⟩ := hs6.shape
    obtain ⟨r, hr⟩ : ∃ r, r = remC ⟨ep, ms⟩ n := ⟨_, rfl⟩
    rw [← hr] at hs6
    rw [← hr]
    obtain ⟨⟨re, rms⟩, rc⟩ := r
    dsimp only at hs6 ⊢
    have hX := Blk.mk_new w6 41 #[.int .u64 (re : Int), .slice A6 n6 c6]
    have hAx := (New.refl w6).alloc (.cells #[.int .u64 (re : Int), .slice A6 n6 c6] 41)
    have HS6 := Lib.hid (hs6.new hAx)
    have l0f := (hAx.cells.1 _ _ hgw6).trans l0e
    have hgw7 : g < (w6.alloc (.cells #[.int .u64 (re : Int), .slice A6 n6 c6] 41)).heap.size := Nat.lt_of_lt_of_le hgw6 hAx.size
    have hB7 := hB6.new hAx
    have hR7 := hR6.new hAx
    have hN7 := hN6.trans hAx
    have hxw : w.heap.size + 2 ≤ w6.heap.size := by have := hR6.lt; omega
    have HR := Lib.hid hr
    clear hB6 hR6 hN6 hAx l0e hgw6 hs6 hr
    clear p0 p1 p2 pz q0 q1 q2 qz
    go_upto_region 9 with fail
    generalize w6.heap.size = gx at *
    generalize w6.alloc _ = w7 at *
    obtain ⟨p0, p1, p2, pz⟩ := Blk2F hB7
    obtain ⟨q0, q1, q2, qz⟩ := Blk2F hR7
    obtain ⟨x0, x1, x2, xz⟩ := Blk2F hX
    by_cases hrc : rc = 0
    · subst hrc
      have hF2 : stepC ⟨ep, ms⟩ sh.data.toList = ⟨re, rms⟩ := by rw [HF.out, act_false, ← HR.out]; rfl
      have HF2 := Lib.hid hF2
      clear hF2
      go_wp2_with fail
      exact bodyPost_ret (v := .agg #[.int .u64 (re : Int), .slice A6 n6 c6]) (by simp [results, Tryz.results108, go_sem, q1, q2]) rfl (by rw [HF2.out]; exact ⟨_, rfl, slIn_cfgSet HS6.out hR7 (by simp), (hN7.setCell (p := ⟨w.heap.size + 1, 0, none⟩) (by simp) _).setCell (p := ⟨w.heap.size + 1, 1, none⟩) (by simp) _⟩)
    · have hrb : (rc != 0) = true := by simpa using hrc
      have HF2 : Hid (stepC ⟨ep, ms⟩ sh.data.toList = ⟨ep, ms⟩) := Lib.hid (by rw [HF.out, act_false, ← HR.out]; unfold applyC; rw [if_neg hrc])
      clear hrc
      go_wp2_with fail
      exact bodyPost_ret (v := .agg #[.int .u64 (ep : Int), .slice A ms.length cap]) (by simp [results, Tryz.results108, go_sem, q1, q2]) rfl (by rw [HF2.out]; exact (fun hx => ⟨_, rfl, HS0.out.new hx, hx⟩) ((hN7.setCell (p := ⟨w.heap.size + 1, 0, none⟩) (by simp) _).setCell (p := ⟨w.heap.size + 1, 1, none⟩) (by simp) _))
end Go.Proofs.YtlhlcdjkacglnaaGreatDoor.C
/- Chapter 23 (config): what commands make of a configuration: the program's Fold. Printed by genCfg.py. -/
namespace Go.Proofs.YtlhlcdjkacglnaaGreatDoor.C
open Go.RowKit Go.Lap
set_option linter.unusedVariables false

theorem act_big {c : Cfg} {j : Bool} {n : Int} : actC c j n = c ∨ ((actC c j n).e ≤ lastE ∧ (actC c j n).ms.length ≤ 7) := by
  cases j with
  | true =>
    rw [act_true]
    by_cases h : (joinC c n).2 = 0
    · have h2 : applyC c (joinC c n) = (joinC c n).1 := if_pos h
      obtain ⟨_, a, _⟩ := join_chk (c := c) (d := (joinC c n).1) (n := n) (by rw [← h])
      rw [h2]
      exact .inr ⟨(chk_parts a).2.1, (chk_parts a).2.2.2.1⟩
    · exact .inl (if_neg h)
  | false =>
    rw [act_false]
    by_cases h : (remC c n).2 = 0
    · have h2 : applyC c (remC c n) = (remC c n).1 := if_pos h
      obtain ⟨_, a, _⟩ := rem_chk (c := c) (d := (remC c n).1) (n := n) (by rw [← h])
      rw [h2]
      exact .inr ⟨(chk_parts a).2.1, (chk_parts a).2.2.2.1⟩
    · exact .inl (if_neg h)
def Fits (c : Cfg) : Prop := c.e < 18446744073709551616 ∧ c.ms.length ≤ 1000000
theorem Fits.step {c : Cfg} (h : Fits c) (cmd : List UInt8) : Fits (stepC c cmd) := by
  unfold stepC
  split
  · rename_i j n _
    rcases act_big (c := c) (j := j) (n := n) with e | ⟨a, b⟩
    · rw [e]; exact h
    · exact ⟨by simp only [lastE] at a; omega, by omega⟩
  · exact h
theorem Fits.fold {c : Cfg} (h : Fits c) : ∀ l : List (List UInt8), Fits (foldC c l) := by
  intro l
  induction l generalizing c with
  | nil => exact h
  | cons x l ih => exact ih (h.step x)
theorem fold_snoc {c : Cfg} {l : List ByteArray} {k : Nat} {x : ByteArray} (hx : l[k]? = some x) : foldC c ((l.take (k + 1)).map fun b => b.data.toList) = stepC (foldC c ((l.take k).map fun b => b.data.toList)) x.data.toList := by
  rw [List.take_add_one, hx]
  simp [foldC]
/-- So far folded. -/
structure FRel (w wr : World) (c : Cfg) (v : Value) : Prop where
  box : Blk wr w.heap.size 41 #[.int .u64 (c.e : Int), v]
  res : Blk wr (w.heap.size + 1) 41 #[.int .u64 0, .slice none 0 0]
  sl : SlIn wr 1 iEnc v c.ms
  new : New w wr
theorem FRel.keep {w wr w' : World} {c : Cfg} {v : Value} (h : FRel w wr c v) (hn : New wr w') : FRel w w' c v := ⟨h.box.new hn, h.res.new hn, h.sl.new hn, h.new.trans hn⟩
theorem FRel.of_eq {w wr : World} {c d : Cfg} {v : Value} (h : FRel w wr c v) (e : d = c) : FRel w wr d v := by rw [e]; exact h
theorem FRel.put {w wr : World} {c d : Cfg} {A B : Option Addr} {n m cap cap2 : Nat} (h : FRel w wr c (.slice A n cap)) (hs : SlIn wr 1 iEnc (.slice B m cap2) d.ms) :
    FRel w ((wr.setCell ⟨w.heap.size, 0, none⟩ (.int .u64 (d.e : Int))).setCell ⟨w.heap.size, 1, none⟩ (.slice B m cap2)) d (.slice B m cap2) :=
  ⟨(h.box.set_ 0 _).set_ 1 _, (h.res.far (p := ⟨w.heap.size, 0, none⟩) (by simp) _).far (p := ⟨w.heap.size, 1, none⟩) (by simp) _, slIn_cfgSet hs h.box (by simp), (h.new.setCell (p := ⟨w.heap.size, 0, none⟩) (by simp) _).setCell (p := ⟨w.heap.size, 1, none⟩) (by simp) _⟩
theorem sl_str {w : World} {b off : Nat} {l : List ByteArray} {k : Nat} {x : ByteArray} (hc : ∀ k x, l[k]? = some x → ∀ j u, (sEnc x)[j]? = some u → w.cell? ⟨b, off + k * 1 + j, none⟩ = some u) (h : l[k]? = some x) : w.cell? ⟨b, off + k, none⟩ = some (.string x) := by
  simpa using hc k x h 0 _ rfl

set_option maxRecDepth 100000 in
set_option maxHeartbeats 8000000 in
theorem fold_any (ep : Nat) (v : Value) (ms : List Int) (vc : Value) (l : List ByteArray) (w : World) (hep : ep < 18446744073709551616) (hl : ms.length ≤ 1000000) (hs : SlIn w 1 iEnc v ms) (hsl : SlIn w 1 sEnc vc l) (hll : l.length ≤ 10000000) (hcm : ∀ x ∈ l, x.size < 4294967281) (henv : Env w) :
    Calls Tryz.prog 51 #[.agg #[.int .u64 (ep : Int), v], vc] w (OnePost w (foldC ⟨ep, ms⟩ (l.map fun b => b.data.toList))) := by
  obtain ⟨A, m, cap, rfl⟩ := hs.shape
  obtain ⟨A', c', hv, hlc, -⟩ := id hs
  cases hv
  obtain ⟨B, m2, cap2, rfl⟩ := hsl.shape
  obtain ⟨A', c', hv, hlc2, -⟩ := id hsl
  cases hv
  have hfit : Fits ⟨ep, ms⟩ := ⟨hep, hl⟩
  have HSL := Lib.hid hsl
  have HE := Lib.hid henv
  have HCM := Lib.hid hcm
  have HFIT := Lib.hid hfit
  have hN := ((New.refl w).alloc (.cells #[.int .u64 (ep : Int), .slice A ms.length cap] 41)).alloc (.cells #[.int .u64 0, .slice none 0 0] 41)
  have hB := (Blk.mk_new w 41 #[.int .u64 (ep : Int), .slice A ms.length cap]).alloc (.cells #[.int .u64 0, .slice none 0 0] 41)
  have hR := Blk.mk_new (w.alloc (.cells #[.int .u64 (ep : Int), .slice A ms.length cap] 41)) 41 #[.int .u64 0, .slice none 0 0]
  rw [World.size_alloc] at hR
  have hG : FRel w ((w.alloc (.cells #[.int .u64 (ep : Int), .slice A ms.length cap] 41)).alloc (.cells #[.int .u64 0, .slice none 0 0] 41)) ⟨ep, ms⟩ (.slice A ms.length cap) := ⟨hB, hR, hs.new hN, hN⟩
  clear hs hsl henv hcm hB hR hN hfit
  go_enter Tryz.func51, Tryz.ntmps51
  go_upto_region 1 with fail
  generalize (w.alloc _).alloc _ = w1 at *
  obtain ⟨p0, p1, p2, pz⟩ := Blk2F hG.box
  obtain ⟨q0, q1, q2, qz⟩ := Blk2F hG.res
  go_wp2_with fail
  refine (clone_any _ ms w1 (by omega) hG.sl).mono ?_
  rintro e1 w2 ⟨u, rfl, hou, hn2⟩
  have hsu := Owns.slIn iEncOk hou
  obtain ⟨Au, nu, cu, rfl⟩ := hsu.shape
  have hG2 := hG.keep hn2
  have hG3 : FRel w (w2.setCell ⟨w.heap.size, 1, none⟩ (.slice Au nu cu)) ⟨ep, ms⟩ (.slice Au nu cu) := ⟨hG2.box.set_ 1 _, hG2.res.far (p := ⟨w.heap.size, 1, none⟩) (by simp) _, slIn_cfgSet1 hsu hG2.box (by simp), hG2.new.setCell (p := ⟨w.heap.size, 1, none⟩) (by simp) _⟩
  clear p0 p1 p2 pz q0 q1 q2 qz
  obtain ⟨p0, p1, p2, pz⟩ := Blk2F hG2.box
  obtain ⟨q0, q1, q2, qz⟩ := Blk2F hG2.res
  clear hG hG2 hn2 hou hsu
  go_upto_region 2 with fail
  generalize w2.setCell _ _ = w3 at *
  clear p0 p1 p2 pz q0 q1 q2 qz
  have HG3 := Lib.hid hG3
  clear hG3
  go_wp2_with fail
  go_loopw [12] (fun i wr => ∃ (k : Nat) (A : Option Addr) (n cap : Nat), k ≤ l.length ∧ i = .int .i64 (k : Int) ∧ FRel w wr (foldC ⟨ep, ms⟩ ((l.take k).map fun b => b.data.toList)) (.slice A n cap)) (fun i _ => l.length - (intOf i).toNat)
  case atStart => exact ⟨0, _, _, _, by omega, rfl, HG3.out⟩
  case round =>
    clear HG3
    obtain ⟨k, A3, n3, cap3, hk, rfl, hG⟩ := hrel
    have hft := HFIT.out.fold ((l.take k).map fun b => b.data.toList)
    by_cases hlt : k < l.length
    · have hlt2 : (k : Int) < (l.length : Int) := by omega
      have hk0 : (0 : Int) ≤ (k : Int) := by omega
      obtain ⟨A', c', hv, _, hh⟩ := HSL.out.new hG.new
      cases hv
      rcases hh with rfl | ⟨b, off, rfl, hbb, hc⟩
      · simp at hlt
      obtain ⟨x, hx⟩ : ∃ x, l[k]? = some x := ⟨_, List.getElem?_eq_getElem hlt⟩
      have e0 := sl_str hc hx
      have HX := Lib.hid hx
      have HXS := Lib.hid (HCM.out x (List.mem_of_getElem? hx))
      have HFS := Lib.hid (fold_snoc (c := ⟨ep, ms⟩) hx)
      clear hc hx
      generalize foldC ⟨ep, ms⟩ ((l.take k).map fun b => b.data.toList) = c at *
      obtain ⟨ce, cms⟩ := c
      have HG := Lib.hid hG
      have HFT := Lib.hid hft
      clear hG hft
      obtain ⟨p0, p1, p2, pz⟩ := Blk2F HG.out.box
      dsimp only at p1
      go_upto_region 5 with fail
      refine wp_region_held_drew (S := fun w' => New w w' ∧ w'.cell? ⟨b, off + k, none⟩ = some (.string x)) (by kernel_rfl) (⟨HG.out.new.drew, e0⟩) (fun hHeld => ?_)
      refine tkN (i := 1) rfl ?_
      try simp only [Act.put, sA, sZ, sS]
      refine tkN (i := 2) rfl ?_
      try simp only [Act.put, sA, sZ, sS]
      refine tkN (i := 3) rfl ?_
      try simp only [Act.put, sA, sZ, sS]
      refine tkN (i := 4) rfl ?_
      try simp only [Act.put, sA, sZ, sS]
      refine stN (i := 0) rfl (fun K hK => ?_)
      have q1 := p1
      have q2 := p2
      go_simp
      refine hK.out _ _ ?_ (fun hHeld => ?_)
      · exact hHeld
      clear hK K
      try simp only [Act.put, sA, sZ, sS]
      refine stN (i := 5) rfl (fun K hK => ?_)
      go_simp
      refine (step_any ce _ cms x _ HFT.out.1 HFT.out.2 (HG.out.sl.new (New.refl wr).drew) HXS.out (HE.out.new HG.out.new.drew)).mono ?_
      rintro e1 w4 ⟨u4, rfl, hs4, hn4⟩
      obtain ⟨A4, n4, c4, rfl⟩ := hs4.shape
      have hn4b := (New.refl wr).drew.trans hn4
      have hG4 := HG.out.keep hn4b
      obtain ⟨t0, t1, t2, tz⟩ := Blk2F hG4.box
      refine hK.out _ _ ?_ (fun hHeld => ?_)
      · exact ⟨hG4.new, (hn4b.cells.1 _ _ (World.block_lt_of_cell? wr _ e0)).trans e0⟩
      clear hK K
      try simp only [Act.put, sA, sZ, sS]
      refine stN (i := 6) rfl (fun K hK => ?_)
      go_simp
      have hG5 := hG4.put (d := stepC ⟨ce, cms⟩ x.data.toList) hs4
      have hG6 := hG5.of_eq HFS.out
      have hbx : w.heap.size ≠ b := by intro e9; subst e9; have := hG4.box.cell (off + k); rw [(hn4b.cells.1 _ _ (World.block_lt_of_cell? wr _ e0)).trans e0] at this; match h9 : off + k, this with | 0, this => cases this | 1, this => cases this | m + 2, this => simp at this
      have hce : ∀ X Y : Value, ((w4.setCell ⟨w.heap.size, 0, none⟩ X).setCell ⟨w.heap.size, 1, none⟩ Y).cell? ⟨b, off + k, none⟩ = some (.string x) := fun X Y => (World.cell?_setCell_far _ ⟨w.heap.size, 1, none⟩ ⟨b, off + k, none⟩ _ hbx).trans ((World.cell?_setCell_far _ ⟨w.heap.size, 0, none⟩ ⟨b, off + k, none⟩ _ hbx).trans ((hn4b.cells.1 _ _ (World.block_lt_of_cell? wr _ e0)).trans e0))
      refine hK.out _ _ ?_ (fun hHeld => ?_)
      · exact ⟨hG5.new, hce _ _⟩
      clear hK K
      try simp only [Act.put, sA, sZ, sS]
      refine wpAnyH_done (by kernel_rfl) ?_ _
      clear hHeld
      go_wp2_with fail
      go_roundw
      case rel => exact ⟨k + 1, _, _, _, by omega, by go_num, hG6⟩
      case measure => simp [intOf]; omega
    · have hlt2 : ¬ (k : Int) < (l.length : Int) := by omega
      rw [List.take_of_length_le (by omega)] at hG
      obtain ⟨c, hce⟩ : ∃ c, foldC ⟨ep, ms⟩ (l.map fun b => b.data.toList) = c := ⟨_, rfl⟩
      rw [hce] at hG
      have HCE := Lib.hid hce
      clear hce
      obtain ⟨ce, cms⟩ := c
      obtain ⟨p0, p1, p2, pz⟩ := Blk2F hG.box
      obtain ⟨q0, q1, q2, qz⟩ := Blk2F hG.res
      dsimp only at p1
      have hsf := hG.sl
      have hNf := hG.new
      have hRf := hG.res
      clear hG
      go_wp2_with fail
      exact bodyPost_ret (v := .agg #[.int .u64 (ce : Int), .slice A3 n3 cap3]) (by simp [results, Tryz.results51, go_sem, q1, q2]) rfl (by unfold OnePost; rw [HCE.out]; exact ⟨_, rfl, slIn_cfgSet hsf hRf (by simp), (hNf.setCell (p := ⟨w.heap.size + 1, 0, none⟩) (by simp) _).setCell (p := ⟨w.heap.size + 1, 1, none⟩) (by simp) _⟩)
end Go.Proofs.YtlhlcdjkacglnaaGreatDoor.C
