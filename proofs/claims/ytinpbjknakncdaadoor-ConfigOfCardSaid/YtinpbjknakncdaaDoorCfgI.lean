/- Chapter 23 (config): the document's digits and Show; a text cut at its spaces; numbers parsed. -/
import Derived.Test.YtinpbjknakncdaaDoorCfgH
import Derived.Shelf.Strings.SplitCore
import Derived.Lib.IndexBytes
namespace Go.Proofs.YtinpbjknakncdaaDoor
open Go.RowKit Go.Lap
set_option linter.unusedVariables false

theorem dec_big {u : Nat} (h : ¬ u < 10) : Lib.decDigits u = Lib.decDigits (u / 10) ++ [UInt8.ofNat (48 + u % 10)] := by rw [Lib.decDigits, dif_neg h]
theorem dec_len {u : Nat} (h : u < 18446744073709551616) : (Lib.decDigits u).length ≤ 20 := by
  rw [Lib.decDigits_length]
  by_cases h0 : u = 0
  · subst h0; decide +kernel
  · have := Lib.numDigits_eq u (by omega) h; split at this <;> omega
def DigRel (n : Nat) (w : World) (x s : Value) (wr : World) : Prop := ∃ (m : Nat) (suf : List UInt8), x = .int .u64 m ∧ m < 18446744073709551616 ∧ New w wr ∧ s = .string (str suf) ∧ Lib.decDigits m ++ suf = Lib.decDigits n
theorem dig_byte {m : Nat} : ((UInt8.ofNat (48 + m % 10)).toNat : Int) = 48 + (m : Int) % 10 := by rw [dig_val (by omega)]; omega

set_option maxRecDepth 100000 in
set_option maxHeartbeats 2000000 in
theorem digits_any (n : Nat) (w : World) (hn : n < 18446744073709551616) :
    Calls Tryd.prog 39 #[.int .u64 (n : Int)] w fun e w' => e = .returned (.string (str (Lib.decDigits n))) ∧ New w w' := by
  have HN := Lib.hid hn
  clear hn
  go_enter Tryd.func39, Tryd.ntmps39
  go_wp2_with fail
  go_loopw [0, 3] (fun x s wr => DigRel n w x s wr) (fun x _ _ => (intOf x).toNat)
  case atStart => exact ⟨n, [], rfl, HN.out, New.refl _, rfl, by simp⟩
  case round =>
    obtain ⟨m, suf, rfl, hm, hn, rfl, hp⟩ := hrel
    have HP := Lib.hid hp
    have HMm := Lib.hid hm
    have hl := congrArg List.length hp
    have h20 := dec_len HN.out
    simp only [List.length_append] at hl
    have hm8 : m < 18446744073709551616 := hm
    clear hp
    by_cases h9 : 9 < m
    · have h' : (9 : Int) < (m : Int) := by omega
      have hv := dec_big (u := m) (by omega)
      have hb := dig_byte (m := m)
      have hw1 : IntKind.u8.wrap (48 + (m : Int) % 10) = 48 + (m : Int) % 10 := by rw [IntKind.wrap_u8]; omega
      have hw1b : IntKind.u8.wrap (IntKind.u64.wrap (48 + (m : Int) % 10)) = 48 + (m : Int) % 10 := by rw [IntKind.wrap_u8, IntKind.wrap_u64]; omega
      have HV := Lib.hid hv
      have HB := Lib.hid hb
      clear hv hb
      generalize UInt8.ofNat (48 + m % 10) = y at *
      have hcv := run_str (wr.alloc (.cells #[.int .u8 (48 + (m : Int) % 10)] 5)) (SlIn.one (x := y) (Blk.mk_new wr _ _) bEncOk (by simp only [bEnc]; rw [HB.out]))
      have hsz : (str [y]).size + (str suf).size ≤ 9223372036854775807 := by rw [str_size, str_size]; simp; omega
      have hsz2 : ¬ 9223372036854775807 < (str [y]).size + (str suf).size := by omega
      clear hl h20 hm8
      go_wp2_with fail
      go_roundw
      case rel => exact ⟨m / 10, y :: suf, by go_num, by have := HMm.out; omega, hn.alloc _, by rw [str_append]; rfl, by rw [← HP.out, HV.out]; simp⟩
      case measure => simp [intOf]; omega
    · have h' : ¬ (9 : Int) < (m : Int) := by omega
      have hv := Lib.decDigits_one (i := m) (by omega)
      have hb : ((UInt8.ofNat (48 + m)).toNat : Int) = 48 + (m : Int) := by rw [dig_val (by omega)]; omega
      have hw1 : IntKind.u8.wrap (48 + (m : Int)) = 48 + (m : Int) := by rw [IntKind.wrap_u8]; omega
      have HV := Lib.hid hv
      have HB := Lib.hid hb
      clear hv hb
      generalize UInt8.ofNat (48 + m) = y at *
      have hcv := run_str (wr.alloc (.cells #[.int .u8 (48 + (m : Int))] 5)) (SlIn.one (x := y) (Blk.mk_new wr _ _) bEncOk (by simp only [bEnc]; rw [HB.out]))
      have hsz : (str [y]).size + (str suf).size ≤ 9223372036854775807 := by rw [str_size, str_size]; simp; omega
      have hsz2 : ¬ 9223372036854775807 < (str [y]).size + (str suf).size := by omega
      clear hl h20 hm8
      go_wp2_with fail
      go_ret
      refine ⟨ret_eq ?_, hn.alloc _⟩
      show Value.string (str [y] ++ str suf) = _
      rw [← HP.out, HV.out, str_append]

set_option maxRecDepth 100000 in
set_option maxHeartbeats 4000000 in
theorem refShow_any (j : Bool) (ep : Nat) (n : Int) (w : World) (hep : ep < 18446744073709551616) (hn : n ≤ 9223372036854775807) :
    Calls Tryd.prog 22 #[.bool j, .int .u64 (ep : Int), .int .i64 n] w fun e w' => e = .returned (.string (str (showL j ep (max n 0).toNat))) ∧ New w w' := by
  obtain ⟨m, hm⟩ : ∃ m : Nat, m = (max n 0).toNat := ⟨_, rfl⟩
  have hm3 : m < 9223372036854775808 := by omega
  rw [← hm]
  have hs1 : (str (Lib.decDigits ep)).size ≤ 20 := by rw [str_size]; exact dec_len hep
  have hs2 : (str (Lib.decDigits m)).size ≤ 20 := by rw [str_size]; exact dec_len (by omega)
  have hc1 := fun w => digits_any ep w hep
  have hc2 := fun w => digits_any m w (by omega)
  have HW : Hid (∀ l : List UInt8, (l = [106, 111, 105, 110, 32] ∧ j = true ∨ l = [114, 101, 109, 111, 118, 101, 32] ∧ j = false) → (⟨l.toArray⟩ : ByteArray) ++ str (Lib.decDigits ep) ++ ⟨#[32]⟩ ++ str (Lib.decDigits m) = str (showL j ep m)) := Lib.hid (by
    rintro l (⟨rfl, rfl⟩ | ⟨rfl, rfl⟩)
    · show str _ ++ str _ ++ str [32] ++ str _ = _
      simp only [str_append]
      congr 1
      simp [showL, wordL, joinL]
    · show str _ ++ str _ ++ str [32] ++ str _ = _
      simp only [str_append]
      congr 1
      simp [showL, wordL, removeL])
  by_cases hneg : n < 0
  · have hm0 : m = 0 := by omega
    have HM0 := Lib.hid hm0
    have hc3 : ∀ w, Calls Tryd.prog 39 #[.int .u64 0] w fun e w' => e = .returned (.string (str (Lib.decDigits m))) ∧ New w w' := by rw [hm0] at hc2 ⊢; exact hc2
    clear hm hm0 hc2 hm3
    cases j with
    | true =>
      have HWW := Lib.hid (HW.out [106, 111, 105, 110, 32] (.inl ⟨rfl, rfl⟩))
      clear HW
      generalize str (Lib.decDigits ep) = s1 at *
      generalize str (Lib.decDigits m) = s2 at *
      go_enter Tryd.func22, Tryd.ntmps22
      go_wp2_with fail
      refine (hc1 _).mono ?_
      rintro e w1 ⟨rfl, hn1⟩
      go_wp2_with fail
      refine (hc3 _).mono ?_
      rintro e w2 ⟨rfl, hn2⟩
      go_wp2_with fail
      go_ret
      exact ⟨ret_eq (congrArg Value.string HWW.out), hn1.trans hn2⟩
    | false =>
      have HWW := Lib.hid (HW.out [114, 101, 109, 111, 118, 101, 32] (.inr ⟨rfl, rfl⟩))
      clear HW
      generalize str (Lib.decDigits ep) = s1 at *
      generalize str (Lib.decDigits m) = s2 at *
      go_enter Tryd.func22, Tryd.ntmps22
      go_wp2_with fail
      refine (hc1 _).mono ?_
      rintro e w1 ⟨rfl, hn1⟩
      go_wp2_with fail
      refine (hc3 _).mono ?_
      rintro e w2 ⟨rfl, hn2⟩
      go_wp2_with fail
      go_ret
      exact ⟨ret_eq (congrArg Value.string HWW.out), hn1.trans hn2⟩
  · obtain rfl : n = (m : Int) := by omega
    have hneg2 : ¬ (m : Int) < 0 := by omega
    have hw : IntKind.u64.wrap (m : Int) = (m : Int) := by rw [IntKind.wrap_u64]; omega
    clear hm hn
    cases j with
    | true =>
      have HWW := Lib.hid (HW.out [106, 111, 105, 110, 32] (.inl ⟨rfl, rfl⟩))
      clear HW
      generalize str (Lib.decDigits ep) = s1 at *
      generalize str (Lib.decDigits m) = s2 at *
      go_enter Tryd.func22, Tryd.ntmps22
      go_wp2_with fail
      refine (hc1 _).mono ?_
      rintro e w1 ⟨rfl, hn1⟩
      go_wp2_with fail
      refine (hc2 _).mono ?_
      rintro e w2 ⟨rfl, hn2⟩
      go_wp2_with fail
      go_ret
      exact ⟨ret_eq (congrArg Value.string HWW.out), hn1.trans hn2⟩
    | false =>
      have HWW := Lib.hid (HW.out [114, 101, 109, 111, 118, 101, 32] (.inr ⟨rfl, rfl⟩))
      clear HW
      generalize str (Lib.decDigits ep) = s1 at *
      generalize str (Lib.decDigits m) = s2 at *
      go_enter Tryd.func22, Tryd.ntmps22
      go_wp2_with fail
      refine (hc1 _).mono ?_
      rintro e w1 ⟨rfl, hn1⟩
      go_wp2_with fail
      refine (hc2 _).mono ?_
      rintro e w2 ⟨rfl, hn2⟩
      go_wp2_with fail
      go_ret
      exact ⟨ret_eq (congrArg Value.string HWW.out), hn1.trans hn2⟩

/-- The words of a text, as the program has them. -/
def SplitPost (w : World) (s : ByteArray) (e : Ending) (w' : World) : Prop := ∃ (g : Nat) (L : List ByteArray), e = .returned (.slice (some ⟨g, 0, none⟩) L.length L.length) ∧ SlIn w' 1 sEnc (.slice (some ⟨g, 0, none⟩) L.length L.length) L ∧ L.map (fun b => b.data.toList) = wordsL s.data.toList ∧ New w w'
theorem genSplit_one (s : ByteArray) (w : World) (hs : s.size < 4294967281) :
    Calls Tryd.prog 61 #[.string s, .string ⟨#[32]⟩, .int .i64 0, .int .i64 (-1)] w fun e w' => e = .returned (.slice (some ⟨w.heap.size, 0, none⟩) (Lib.countB s ⟨#[32]⟩ + 1) (Lib.countB s ⟨#[32]⟩ + 1)) ∧ w' = w.alloc (.cells ((Lib.splitB ⟨#[32]⟩ 0 (Lib.countB s ⟨#[32]⟩) s).map Value.string).toArray 9) := by
  have h1 : 1 ≤ (⟨#[32]⟩ : ByteArray).size := by decide
  have hle := Lib.countB_le ⟨#[32]⟩ h1 s.size s (Nat.le_refl _)
  have hlen := Lib.splitB_all ⟨#[32]⟩ h1 0 _ s rfl
  have c := Any.strings_genSplit_core Tryd.lays221 (by kernel_rfl) s ⟨#[32]⟩ 0 (-1) (Lib.countB s ⟨#[32]⟩ + 1) w hs h1 (Nat.zero_le _)
    (fun x c hx => by
      refine (Tryd.strings_Index_one x 32 _).mono ?_
      rintro e w' ⟨rfl, hw⟩
      refine ⟨?_, hw⟩
      rw [← Lib.index_one])
    (by
      refine (Tryd.strings_Count_one s 32 w).mono ?_
      rintro e w' ⟨rfl, hw⟩
      refine ⟨?_, hw⟩
      show Ending.returned (Value.int .i64 ((List.count 32 s.data.toList : Nat) : Int)) = Ending.returned (Value.int .i64 ((Lib.count s.data.toList [32] : Nat) : Int))
      rw [Lib.count_one])
    (by decide) (by decide) (by rw [if_pos (by decide)]; omega)
  rw [Nat.add_sub_cancel, hlen] at c
  have e2 : Lib.cellsOf (Lib.splitB ⟨#[32]⟩ 0 (Lib.countB s ⟨#[32]⟩) s) (Lib.countB s ⟨#[32]⟩ + 1) = ((Lib.splitB ⟨#[32]⟩ 0 (Lib.countB s ⟨#[32]⟩) s).map Value.string).toArray := by rw [← hlen]; exact Lib.cellsOf_full _
  rw [e2] at c
  exact c
theorem flat_s : ∀ l : List ByteArray, l.flatMap sEnc = l.map Value.string
  | [] => rfl
  | x :: l => by rw [List.flatMap_cons, flat_s l]; rfl

set_option maxHeartbeats 1000000 in
theorem split_any (s : ByteArray) (w : World) (hs : s.size < 4294967281) : Calls Tryd.prog 51 #[.string s, .string ⟨#[32]⟩] w (SplitPost w s) := by
  have hc := genSplit_one s w hs
  have hlen := Lib.splitB_all ⟨#[32]⟩ (by decide) 0 _ s rfl
  have HL : Hid (∀ W, W = w.alloc (.cells ((Lib.splitB ⟨#[32]⟩ 0 (Lib.countB s ⟨#[32]⟩) s).map Value.string).toArray 9) → SplitPost w s (.returned (.slice (some ⟨w.heap.size, 0, none⟩) (Lib.countB s ⟨#[32]⟩ + 1) (Lib.countB s ⟨#[32]⟩ + 1))) W) := Lib.hid (by
    rintro W rfl
    refine ⟨w.heap.size, Lib.splitB ⟨#[32]⟩ 0 (Lib.countB s ⟨#[32]⟩) s, by rw [hlen], SlIn.lit (Blk.mk_new w _ _) (fun _ => ⟨rfl, by simp [sEnc, Value.oneCell']⟩) (by rw [flat_s]) (Nat.le_refl _), ?_, (New.refl w).alloc _⟩
    rw [Lib.splitB_data]
    rfl)
  clear hlen hs
  go_enter Tryd.func51, Tryd.ntmps51
  go_wp2_with fail
  refine hc.mono ?_
  rintro e w1 ⟨rfl, hw⟩
  have HP := Lib.hid (HL.out w1 hw)
  clear hw HL hc
  go_wp2_with fail
  go_ret
  exact HP.out

theorem splitK_len : ∀ (k : Nat) (s : List UInt8) (a : List UInt8), a ∈ Lib.splitK [32] 0 k s → a.length ≤ s.length
  | 0, s, a, h => by simp only [Lib.splitK, List.mem_singleton] at h; rw [h]; exact Nat.le_refl _
  | k + 1, s, a, h => by
    unfold Lib.splitK at h
    split at h
    · simp only [List.mem_singleton] at h; rw [h]; exact Nat.le_refl _
    · rcases List.mem_cons.1 h with h | h
      · rw [h, List.length_take]; omega
      · have := splitK_len k _ a h
        rw [List.length_drop] at this
        omega
theorem words_size {s a b c : ByteArray} (h : wordsL s.data.toList = [a.data.toList, b.data.toList, c.data.toList]) {n : Nat} (hs : s.size < n) : b.size < n ∧ c.size < n := by
  have h1 := splitK_len _ s.data.toList b.data.toList (by show _ ∈ wordsL _; rw [h]; simp)
  have h2 := splitK_len _ s.data.toList c.data.toList (by show _ ∈ wordsL _; rw [h]; simp)
  rw [strLen, strLen] at h1 h2
  exact ⟨by omega, by omega⟩
theorem parseM_lt (M : Nat) (hM : M ≤ 18446744073709551615) : ∀ (l : List UInt8) (acc u : Nat), acc ≤ M → Lib.parseUintM M acc l = .ok u → u ≤ M
  | [], acc, u, ha, h => by simp only [Lib.parseUintM] at h; injection h with h; omega
  | c :: l, acc, u, ha, h => by
    simp only [Lib.parseUintM] at h
    split at h
    · split at h
      · cases h
      · split at h
        · cases h
        · exact parseM_lt M hM l _ u (by omega) h
    · cases h
theorem parseB_lt {l : List UInt8} {u : Nat} (h : Lib.parseUintB 64 l = .ok u) : u < 18446744073709551616 := by
  unfold Lib.parseUintB at h
  split at h
  · cases h
  · have := parseM_lt _ (by decide) l 0 u (by omega) h
    omega
theorem parse_ok {s : ByteArray} {u : Nat} (h : Lib.parseUintB 64 s.data.toList = .ok u) (hs : s.size < 4294967296) (w : World) :
    Calls Tryd.prog 52 #[.string s, .int .i64 10, .int .i64 64] w fun e w' => e = .returned (.tuple #[.int .u64 (u : Int), .nilIface]) ∧ New w w' := by
  refine (Tryd.strconv_ParseUint_10_at64_ok s (by omega) u h w).mono ?_
  rintro e w' ⟨rfl, rfl | rfl⟩
  · exact ⟨rfl, New.refl _⟩
  · exact ⟨rfl, new_bytes _ _ _⟩
def BadU (w : World) (e : Ending) (w' : World) : Prop := ∃ (u : Int) (N : Nat), e = .returned (.tuple #[.int .u64 u, .iface 108 (.pointer (some ⟨N, 0, none⟩))]) ∧ New w w'
theorem parse_bad {s : ByteArray} (h : ∀ u, Lib.parseUintB 64 s.data.toList ≠ .ok u) (hs : s.size < 4294967296) (w : World) (he : Env w) :
    Calls Tryd.prog 52 #[.string s, .int .i64 10, .int .i64 64] w (BadU w) := by
  cases hp : Lib.parseUintB 64 s.data.toList with
  | ok u => exact absurd hp (h u)
  | «syntax» =>
    obtain ⟨te, pe, hc⟩ := he.syn
    refine (Tryd.strconv_ParseUint_10_at64_syntax s (by omega) hp _ w hc (.inr ⟨te, pe, rfl⟩)).mono ?_
    rintro e w' ⟨N, rfl, _, _, hb⟩
    exact ⟨_, N, rfl, hb⟩
  | range =>
    obtain ⟨te, pe, hc⟩ := he.rng
    refine (Tryd.strconv_ParseUint_10_at64_range s (by omega) hp _ w hc (.inr ⟨te, pe, rfl⟩)).mono ?_
    rintro e w' ⟨N, rfl, _, _, hb⟩
    exact ⟨_, N, rfl, hb⟩
theorem atoi_ok {s : ByteArray} {v : Int} (h : Lib.atoiAll s.data.toList = .ok v) (hs : s.size < 4294967296) (w : World) :
    Calls Tryd.prog 53 #[.string s] w fun e w' => e = .returned (.tuple #[.int .i64 v, .nilIface]) ∧ New w w' := by
  refine (Tryd.strconv_Atoi_ok s (by omega) v h w).mono ?_
  rintro e w' ⟨rfl, rfl | ⟨t, rfl⟩⟩
  · exact ⟨rfl, New.refl _⟩
  · exact ⟨rfl, new_bytes _ _ _⟩
def BadI (w : World) (e : Ending) (w' : World) : Prop := ∃ (u : Int) (N : Nat), e = .returned (.tuple #[.int .i64 u, .iface 108 (.pointer (some ⟨N, 0, none⟩))]) ∧ New w w'
theorem atoi_bad {s : ByteArray} (h : ∀ u, Lib.atoiAll s.data.toList ≠ .ok u) (hs : s.size < 4294967296) (w : World) (he : Env w) :
    Calls Tryd.prog 53 #[.string s] w (BadI w) := by
  cases hp : Lib.atoiAll s.data.toList with
  | ok u => exact absurd hp (h u)
  | «syntax» =>
    obtain ⟨te, pe, hc⟩ := he.syn
    refine (Tryd.strconv_Atoi_syntax s (by omega) hp _ w hc (.inr ⟨te, pe, rfl⟩)).mono ?_
    rintro e w' ⟨N, rfl, _, _, hb⟩
    exact ⟨_, N, rfl, hb⟩
  | range =>
    obtain ⟨te, pe, hc⟩ := he.rng
    refine (Tryd.strconv_Atoi_range s (by omega) hp _ w hc (.inr ⟨te, pe, rfl⟩)).mono ?_
    rintro e w' ⟨N, rfl, _, _, hb⟩
    exact ⟨_, N, rfl, hb⟩
end Go.Proofs.YtinpbjknakncdaaDoor
