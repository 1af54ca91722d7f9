/- The document's answer for a field taken (chapter 3). -/
import Derived.Test.YtcganajbfplmpaaCodeQ
namespace Go.Proofs.Ytcganajbfplmpaa
open Go.RowKit Go.Lap
set_option linter.unusedVariables false

theorem str_toList (l : List UInt8) : (str l).toList = l := ByteArray.toList_mk l
theorem str_get (bs : List UInt8) (i : Nat) (h : i < (str bs).size) : (str bs)[i] = bs[i]'(by rw [str_size] at h; exact h) := by
  show (str bs).data[i]'_ = _
  simp [str]
theorem str_extract (bs : List UInt8) (a b : Nat) : (str bs).extract a b = str ((bs.take b).drop a) := by
  apply ByteArray.ext
  rw [ByteArray.data_extract]
  apply Array.ext'
  simp [str, List.extract_eq_take_drop, List.drop_take]

theorem run_ix {bs : List UInt8} {i : Nat} {x : UInt8} (h : bs[i]? = some x) (wx : World) : (Instr.index 9 (.string (str bs)) (.int .i64 (i : Int))).run Try.prog wx = .ok (.int .u8 (x.toNat : Int)) wx := by
  obtain ⟨hi, rfl⟩ := List.getElem?_eq_some_iff.1 h
  rw [run_index_string wx 9 (str bs) .i64 (i : Int) Try.underlying9, dif_pos ⟨by omega, by rw [str_size]; omega⟩]
  simp [str_get]
theorem run_cutl (k : IntKind) {bs : List UInt8} {n : Nat} (h : n ≤ bs.length) (wx : World) : (Instr.slice 9 (.string (str bs)) (some (.int k (n : Int))) none none).run Try.prog wx = .ok (.string (str (bs.drop n))) wx := by
  rw [run_slice_string_l wx 9 (str bs) Try.underlying9 k (n : Int) (by omega) (by rw [str_size]; omega), str_extract, str_size]
  simp
theorem run_cuth (k : IntKind) {bs : List UInt8} {n : Nat} (h : n ≤ bs.length) (wx : World) : (Instr.slice 9 (.string (str bs)) none (some (.int k (n : Int))) none).run Try.prog wx = .ok (.string (str (bs.take n))) wx := by
  rw [run_slice_string_h wx 9 (str bs) Try.underlying9 k (n : Int) (by omega) (by rw [str_size]; omega), str_extract]
  simp

/-- What the document's GetVar answers. -/
def refGet (bs : List UInt8) : Value := .tuple #[.int .u64 ((getV 0 0 bs).2.1 : Int), .int .i64 (if (getV 0 0 bs).1 = 0 then ((bs.length - (getV 0 0 bs).2.2.length : Nat) : Int) else 0), .int .i64 (getV 0 0 bs).1]
def refGetOf (bs : List UInt8) (r : Int × Nat × List UInt8) : Value := .tuple #[.int .u64 (r.2.1 : Int), .int .i64 (if r.1 = 0 then ((bs.length - r.2.2.length : Nat) : Int) else 0), .int .i64 r.1]

theorem mulW (X i : Nat) (hi : i ≤ 9) (h9 : i = 9 → X % 128 ≤ 1) : X % 128 * 128 ^ i < 18446744073709551616 := (put_fits (i := i) (acc := 0) (y := X % 128) hi (Nat.pow_pos (by decide)) (by omega) h9).1

set_option maxRecDepth 100000 in
set_option maxHeartbeats 2000000 in
theorem refGetVar_any (bs : List UInt8) (w : World) (hbs : bs.length ≤ 1000000000) :
    Calls Try.prog 76 #[.string (str bs)] w fun e w' => e = .returned (refGetOf bs (getV 0 0 bs)) ∧ New w w' := by
  have hsz := str_size bs
  go_enter Try.func76, Try.ntmps76
  go_wp2_with fail
  go_loopw [5, 6, 7, 8] (fun v p k _ wr => ∃ (i acc pw : Nat), i ≤ 9 ∧ i ≤ bs.length ∧ acc < 128 ^ i ∧ k = .int .i64 i ∧ v = .int .u64 acc ∧ p = .int .u64 pw ∧ pw = 128 ^ i ∧ w = wr ∧ getV i acc (bs.drop i) = getV 0 0 bs) (fun _ _ k _ _ => bs.length - (intOf k).toNat)
  case atStart => exact ⟨0, 0, 1, by omega, by omega, by simp, rfl, rfl, rfl, rfl, rfl, rfl⟩
  case round =>
    obtain ⟨i, acc, pw, hi, hil, hacc, rfl, rfl, rfl, hpw, rfl, hg⟩ := hrel
    by_cases hlt : i < bs.length
    · obtain ⟨x, hx⟩ : ∃ x, bs[i]? = some x := ⟨_, List.getElem?_eq_getElem hlt⟩
      have hix := run_ix hx
      have hd : bs.drop i = x :: bs.drop (i + 1) := by
        obtain ⟨h1, rfl⟩ := List.getElem?_eq_some_iff.1 hx
        exact List.drop_eq_getElem_cons h1
      rw [hd, getV] at hg
      have hlt' : (i : Int) < (bs.length : Int) := by omega
      have hi0 : (0 : Int) ≤ (i : Int) := by omega
      have hx1 := x.toNat_lt
      have HG := Lib.hid hg
      have HD := Lib.hid hd
      have HA := Lib.hid hacc
      have HP := Lib.hid hpw
      clear hg hd hx hacc hpw
      generalize x.toNat = X at *
      by_cases hbad : (i = 9 ∧ 1 < X) ∨ (0 < i ∧ X = 0)
      · have hgb : getV 0 0 bs = (12, 0, []) := by rw [← HG.out, if_pos hbad]
        have HB := Lib.hid hgb
        clear hgb
        rcases hbad with ⟨hi9, hX⟩ | ⟨hi1, hX⟩
        · have b1 : ((i : Int) == 9) = true := by simp; omega
          have b2 : (1 : Int) < (X : Int) := by omega
          clear hi9
          go_wp2_with fail
          go_ret3
          exact ⟨by rw [HB.out]; rfl, New.refl _⟩
        · subst hX
          by_cases hi9 : i = 9
          · have b1 : ((i : Int) == 9) = true := by simp; omega
            have b2 : (0 : Int) < (i : Int) := by omega
            clear hi9
            go_wp2_with fail
            go_ret3
            exact ⟨by rw [HB.out]; rfl, New.refl _⟩
          · have b1 : ((i : Int) == 9) = false := by simp; omega
            have b2 : (0 : Int) < (i : Int) := by omega
            go_wp2_with fail
            go_ret3
            exact ⟨by rw [HB.out]; rfl, New.refl _⟩
      · have hn9 : i = 9 → X ≤ 1 := fun h => by
          rcases Nat.lt_or_ge 1 X with h1 | h1
          · exact absurd (.inl ⟨h, h1⟩) hbad
          · exact h1
        have hn0 : 0 < i → X ≠ 0 := fun h h1 => hbad (.inr ⟨h, h1⟩)
        have hfit := put_fits (i := i) (acc := acc) (y := X % 128) hi HA.out (by omega) (fun h => by have := hn9 h; omega)
        have hval : IntKind.u64.wrap ((acc : Int) + IntKind.u64.wrap ((X : Int) % 128 * (pw : Int))) = ((acc + X % 128 * 128 ^ i : Nat) : Int) := by
          have e1 : (X : Int) % 128 * (pw : Int) = ((X % 128 * 128 ^ i : Nat) : Int) := by rw [HP.out, Int.natCast_mul]; rfl
          rw [e1]
          generalize X % 128 * 128 ^ i = z at *
          rw [IntKind.wrap_u64, IntKind.wrap_u64]
          omega
        have HVAL := Lib.hid hval
        clear hval hfit
        have hkey : ∀ (P : Prop), (((i : Int) == 9) = true → ¬ (1 : Int) < (X : Int) → (0 : Int) < (i : Int) → ((X : Int) == 0) = false → P) → (((i : Int) == 9) = false → (0 : Int) < (i : Int) → ((X : Int) == 0) = false → P) → (((i : Int) == 9) = false → ¬ (0 : Int) < (i : Int) → ¬ 0 < i → P) → P := fun P h1 h2 h3 => by
          by_cases h9 : i = 9
          · exact h1 (by simp; omega) (by have := hn9 h9; omega) (by omega) (by have := hn0 (by omega); simp; omega)
          · by_cases h0 : i = 0
            · exact h3 (by simp; omega) (by omega) (by omega)
            · exact h2 (by simp; omega) (by omega) (by have := hn0 (by omega); simp; omega)
        by_cases h128 : X < 128
        · have hgn : getV 0 0 bs = (0, acc + X % 128 * 128 ^ i, bs.drop (i + 1)) := by rw [← HG.out, if_neg hbad, if_pos h128, Nat.mod_eq_of_lt h128]
          have HGN := Lib.hid hgn
          have b4 : (X : Int) < 128 := by omega
          have hln : (bs.length - (bs.drop (i + 1)).length : Nat) = i + 1 := by rw [List.length_drop]; omega
          have HLN := Lib.hid hln
          clear hgn hbad hn0 hn9 hln
          apply hkey
          all_goals
            intros
            clear hkey
            go_wp2_with fail
            go_ret3
            refine ⟨?_, New.refl _⟩
            rw [HGN.out, refGetOf, if_pos rfl, HLN.out]
            exact congrArg Ending.returned (congrArg (fun z => Value.tuple #[.int .u64 z, .int .i64 ((i + 1 : Nat) : Int), .int .i64 0]) HVAL.out)
        · have hi9 : i ≠ 9 := fun h => by have := hn9 h; omega
          have hgn : getV (i + 1) (acc + (X % 128) * 128 ^ i) (bs.drop (i + 1)) = getV 0 0 bs := by
            rw [← HG.out, if_neg hbad, if_neg h128, show X - 128 = X % 128 from by omega]
          have hacc' : acc + (X % 128) * 128 ^ i < 128 ^ (i + 1) := by
            have := HA.out
            rw [Nat.pow_succ]
            have h1 : (X % 128) * 128 ^ i ≤ 127 * 128 ^ i := Nat.mul_le_mul_right _ (by omega)
            omega
          have hpow : IntKind.u64.wrap ((pw : Int) * 128) = ((pw * 128 : Nat) : Int) := by
            have := pow_le8 (i := i) (by omega)
            rw [← HP.out] at this
            rw [IntKind.wrap_u64]
            omega
          have HPOW := Lib.hid hpow
          have HGN := Lib.hid hgn
          have HAC := Lib.hid hacc'
          have b1 : ((i : Int) == 9) = false := by simp; omega
          have b3 : ((X : Int) == 0) = false := by simp; omega
          have b4 : ¬ (X : Int) < 128 := by omega
          clear hgn hacc' hn9 hn0 hpow hkey
          by_cases hi1 : i = 0
          · have b2 : ¬ (0 : Int) < (i : Int) := by omega
            have b2n : ¬ 0 < i := by omega
            clear hi1
            go_wp2_with fail
            go_roundw
            case rel => exact ⟨i + 1, _, pw * 128, by omega, by omega, HAC.out, by go_num, by rw [HVAL.out], by rw [HPOW.out], by rw [HP.out, Nat.pow_succ], by trivial, HGN.out⟩
            case measure => simp [intOf]; omega
          · have b2 : (0 : Int) < (i : Int) := by omega
            go_wp2_with fail
            go_roundw
            case rel => exact ⟨i + 1, _, pw * 128, by omega, by omega, HAC.out, by go_num, by rw [HVAL.out], by rw [HPOW.out], by rw [HP.out, Nat.pow_succ], by trivial, HGN.out⟩
            case measure => simp [intOf]; omega
    · have hge : bs.drop i = [] := List.drop_eq_nil_of_le (by omega)
      rw [hge] at hg
      have hgb : getV 0 0 bs = (10, 0, []) := by rw [← hg]; rfl
      have HB := Lib.hid hgb
      have hlt' : ¬ (i : Int) < (bs.length : Int) := by omega
      clear hgb hg hge
      go_wp2_with fail
      go_ret3
      exact ⟨by rw [HB.out]; rfl, New.refl _⟩
end Go.Proofs.Ytcganajbfplmpaa
