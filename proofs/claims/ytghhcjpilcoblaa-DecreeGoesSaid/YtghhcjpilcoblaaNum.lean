/- Numbers in as few bytes as they need: the plain functions, and the contracts of the package num. -/
import Derived.Test.YtghhcjpilcoblaaRows
import Derived.Test.YtghhcjpilcoblaaSl
import Derived.Deep.QuietTactic
import Derived.BigQuiet
import Derived.Deep.RegionHeld3
import Derived.Laws.Bits64b
namespace Go.Proofs.Ytghhcjpilcoblaa
open Go.RowKit Go.Lap
set_option linter.unusedVariables false

/-- A byte as a cell. -/
def bEnc (b : UInt8) : List Value := [.int .u8 (b.toNat : Int)]
theorem bEncOk : Enc bEnc 1 := fun _ => ⟨rfl, by simp [bEnc, Value.oneCell']⟩
theorem bTy : SlTy Try.prog 42 5 (.int .u8 0) 1 1 := ⟨Try.underlying42, by kernel_rfl, rfl, by decide⟩

def varB (n : Nat) : List UInt8 := if n < 128 then [UInt8.ofNat n] else UInt8.ofNat (n % 128 + 128) :: varB (n / 128)
termination_by n
decreasing_by omega
theorem varB_small {n : Nat} (h : n < 128) : varB n = [UInt8.ofNat n] := by rw [varB, if_pos h]
theorem varB_big {n : Nat} (h : 128 ≤ n) : varB n = UInt8.ofNat (n % 128 + 128) :: varB (n / 128) := by rw [varB, if_neg (by omega)]
theorem varB_len : ∀ (k n : Nat), n < 128 ^ (k + 1) → (varB n).length ≤ k + 1
  | 0, n, h => by rw [varB_small (by simpa using h)]; simp
  | k + 1, n, h => by
    by_cases hn : n < 128
    · rw [varB_small hn]; simp
    · rw [varB_big (by omega)]
      have := varB_len k (n / 128) (by rw [Nat.div_lt_iff_lt_mul (by omega)]; rw [Nat.pow_succ] at h; exact h)
      simp only [List.length_cons]
      omega
theorem varB_len10 {n : Nat} (h : n < 18446744073709551616) : (varB n).length ≤ 10 := varB_len 9 n (by omega)
theorem varB_pos (n : Nat) : 0 < (varB n).length := by rw [varB]; split <;> simp

theorem byte_lo {n : Nat} (h : n < 128) : ((UInt8.ofNat n).toNat : Int) = (n : Int) := by simp [UInt8.toNat_ofNat']; omega
theorem byte_hi (n : Nat) : ((UInt8.ofNat (n % 128 + 128)).toNat : Int) = ((n % 128 + 128 : Nat) : Int) := by simp [UInt8.toNat_ofNat']; omega

theorem or128_fin : ∀ x : Fin 256, bits BinOp.or IntKind.u8 (x.val : Int) 128 = ((x.val % 128 + 128 : Nat) : Int) := by decide +kernel
theorem or128 (m : Nat) : bits BinOp.or IntKind.u8 ((m : Int) % 256) 128 = ((UInt8.ofNat (m % 128 + 128)).toNat : Int) := by
  rw [byte_hi]
  have h := or128_fin ⟨m % 256, Nat.mod_lt _ (by decide)⟩
  simp only [Int.natCast_emod] at h
  rw [show ((256 : Nat) : Int) = 256 from rfl] at h
  rw [h]
  congr 1
  omega
theorem low_byte {m : Nat} (h : m < 128) : (m : Int) % 256 = ((UInt8.ofNat m).toNat : Int) := by rw [byte_lo h]; omega

set_option maxRecDepth 100000 in
set_option maxHeartbeats 2000000 in
theorem putVar_any (bs : List UInt8) (v : Value) (n : Nat) (w : World) (hbs : bs.length ≤ 1000000000) (hn : n < 18446744073709551616) (hs : SlIn w 1 bEnc v bs) :
    Calls Try.prog 59 #[v, .int .u64 n] w fun e w' => ∃ u, e = .returned u ∧ Owns w' w.heap.size 5 1 bEnc u (bs ++ varB n) ∧ New w w' := by
  have hm1 : ([] : List UInt8).length + bs.length ≤ maxLen := by simp [maxLen]; omega
  have hm2 : (([] : List UInt8).length + bs.length) * 1 ≤ 140737488355328 := by simp; omega
  have HM1 := Lib.hid hm1
  have HM2 := Lib.hid hm2
  have HN := Lib.hid hn
  clear hm1 hm2 hn
  go_enter Try.func59, Try.ntmps59
  go_wp2_with (at_builtin; have ho0 : Owns _ w.heap.size 5 1 bEnc _ ([] : List UInt8) := World.ownsRow_made (base := w.heap.size) (e := 5) (size := 1) w #[] 0 (Nat.le_refl _) (by simp) (by simp); refine wpList_app bTy bEncOk rfl (.tmp 6) (.tmp 7) rfl rfl rfl ho0 (hs.alloc _) HM1.out HM2.out (by simp) ?_; intro v1 w1 ho1 hg1 _)
  have hN1 : New w w1 := ((New.refl w).alloc _).grown hg1 (fun k hk => ho0.blockGe k hk)
  simp only [List.nil_append] at ho1
  clear hg1 HM1 HM2
  go_loopw [1, 5] (fun x o wr => ∃ (m : Nat) (pre : List UInt8), x = .int .u64 m ∧ m < 18446744073709551616 ∧ New w wr ∧ Owns wr w.heap.size 5 1 bEnc o (bs ++ pre) ∧ pre ++ varB m = varB n) (fun x _ _ => (intOf x).toNat)
  case atStart => exact ⟨n, [], rfl, HN.out, hN1, by simpa using ho1, rfl⟩
  case round =>
    obtain ⟨m, pre, rfl, hm, hn, ho, hp⟩ := hrel
    have hl := congrArg List.length hp
    have h10 := varB_len10 HN.out
    have hl0 := varB_pos m
    simp only [List.length_append] at hl
    have hm1 : (bs ++ pre).length + [(0 : UInt8)].length ≤ maxLen := by simp [maxLen]; omega
    have hm2 : ((bs ++ pre).length + [(0 : UInt8)].length) * 1 ≤ 140737488355328 := by simp; omega
    have HM1 := Lib.hid hm1
    have HM2 := Lib.hid hm2
    have HP := Lib.hid hp
    have HMm := Lib.hid hm
    have hsz := hn.size
    clear hm1 hm2 hp hl h10 hl0
    by_cases h128 : 128 ≤ m
    · have h' : (128 : Int) ≤ (m : Int) := by omega
      have hb := or128 m
      have HB := Lib.hid hb
      have hv := varB_big h128
      have HV := Lib.hid hv
      clear hb hv
      go_wp2_with (at_builtin; refine wpList_app (m := [UInt8.ofNat (m % 128 + 128)]) bTy bEncOk rfl (.tmp 13) (.tmp 17) rfl rfl rfl (ho.alloc _) (SlIn.one (Blk.mk_new _ _ _) bEncOk (by simp only [bEnc]; rw [HB.out])) HM1.out HM2.out (by simp; omega) ?_; intro v2 w2 ho2 hg2 _)
      go_roundw
      case rel => exact ⟨m / 128, pre ++ [UInt8.ofNat (m % 128 + 128)], by go_num, by omega, (hn.alloc _).grown hg2 (fun k hk => ho.blockGe k hk), by simpa using ho2, by rw [← HP.out, HV.out]; simp⟩
      case measure => simp [intOf]; omega
    · have h' : ¬ (128 : Int) ≤ (m : Int) := by omega
      have hb := byte_lo (n := m) (by omega)
      have HB := Lib.hid hb
      have hv := varB_small (n := m) (by omega)
      have HV := Lib.hid hv
      clear hb hv
      go_wp2_with (at_builtin; refine wpList_app (m := [UInt8.ofNat m]) bTy bEncOk rfl (.tmp 19) (.tmp 22) rfl rfl rfl (ho.alloc _) (SlIn.one (Blk.mk_new _ _ _) bEncOk (by simp only [bEnc]; rw [HB.out])) HM1.out HM2.out (by simp; omega) ?_; intro v2 w2 ho2 hg2 _)
      go_ret
      exact ⟨v2, rfl, by rw [← HP.out, HV.out]; simpa using ho2, (hn.alloc _).grown hg2 (fun k hk => ho.blockGe k hk)⟩
theorem and127_fin : ∀ x : Fin 256, bits BinOp.and IntKind.u8 (x.val : Int) 127 = ((x.val % 128 : Nat) : Int) := by decide +kernel
theorem and127 {X : Nat} (h : X < 256) : bits BinOp.and IntKind.u8 (X : Int) 127 = ((X % 128 : Nat) : Int) := and127_fin ⟨X, h⟩
theorem pow_le {i : Nat} (h : i ≤ 9) : 128 ^ i ≤ 9223372036854775808 := Nat.le_trans (Nat.pow_le_pow_right (by decide) h) (by decide)
theorem pow_le8 {i : Nat} (h : i ≤ 8) : 128 ^ i ≤ 72057594037927936 := Nat.le_trans (Nat.pow_le_pow_right (by decide) h) (by decide)
theorem put_fits {i acc y : Nat} (hi : i ≤ 9) (hacc : acc < 128 ^ i) (hy : y < 128) (h9 : i = 9 → y ≤ 1) : y * 128 ^ i < 18446744073709551616 ∧ acc + y * 128 ^ i < 18446744073709551616 := by
  by_cases he : i = 9
  · subst he
    have := h9 rfl
    have hp : (128 : Nat) ^ 9 = 9223372036854775808 := by decide
    rw [hp] at *
    omega
  · have := pow_le8 (i := i) (by omega)
    generalize 128 ^ i = p at *
    have h1 : y * p ≤ 127 * p := Nat.mul_le_mul_right _ (by omega)
    omega
theorem or_shift (i acc y : Nat) (hi : i ≤ 9) (hacc : acc < 128 ^ i) (hy : y < 128) (h9 : i = 9 → y ≤ 1) : bits BinOp.or IntKind.u64 (acc : Int) (IntKind.u64.wrap ((y : Int) * 2 ^ (7 * i))) = ((acc + y * 128 ^ i : Nat) : Int) := by
  obtain ⟨h1, h2⟩ := put_fits hi hacc hy h9
  have hp : (2 : Int) ^ (7 * i) = ((128 ^ i : Nat) : Int) := by rw [Int.pow_mul]; simp
  have hlt : acc < 18446744073709551616 := by omega
  rw [hp, ← Int.natCast_mul, IntKind.wrap_u64, show ((y * 128 ^ i : Nat) : Int) % 18446744073709551616 = ((y * 128 ^ i : Nat) : Int) from by omega, bits_or_u64_nat _ _ hlt h1]
  congr 1
  have h3 : (128 : Nat) ^ i = 2 ^ (7 * i) := by rw [Nat.pow_mul]
  rw [h3] at hacc ⊢
  have := Nat.shiftLeft_add_eq_or_of_lt (i := 7 * i) hacc y
  rw [Nat.shiftLeft_eq] at this
  rw [Nat.or_comm, ← this, Nat.add_comm]

theorem or_shift2 (i acc X : Nat) (hi : i ≤ 9) (hacc : acc < 128 ^ i) (hX : X < 256) (h9 : i ≠ 9) : bits BinOp.or IntKind.u64 (acc : Int) (IntKind.u64.wrap (IntKind.u64.wrap (bits BinOp.and IntKind.u8 (X : Int) 127) * 2 ^ (7 * i))) = ((acc + X % 128 * 128 ^ i : Nat) : Int) := by
  rw [and127 hX, ← or_shift i acc (X % 128) hi hacc (by omega) (fun h => absurd h h9)]
  have : IntKind.u64.wrap ((X % 128 : Nat) : Int) = ((X % 128 : Nat) : Int) := by rw [IntKind.wrap_u64]; omega
  rw [this]

/-- The number that stands first: what went wrong (0: nothing), the number, the rest. -/
def getV : Nat → Nat → List UInt8 → Int × Nat × List UInt8
  | _, _, [] => (10, 0, [])
  | i, acc, x :: xs => if (i = 9 ∧ 1 < x.toNat) ∨ (0 < i ∧ x.toNat = 0) then (12, 0, []) else if x.toNat < 128 then (0, acc + x.toNat * 128 ^ i, xs) else getV (i + 1) (acc + (x.toNat - 128) * 128 ^ i) xs

/-- What GetVar answers. -/
def GetPost (w : World) (r : Int × Nat × List UInt8) (e : Ending) (w' : World) : Prop :=
  ∃ u, e = .returned (.tuple #[.int .u64 (r.2.1 : Int), u, .int .i64 r.1]) ∧ (if r.1 = 0 then Owns w' w.heap.size 5 1 bEnc u r.2.2 else u = .slice none 0 0) ∧ New w w'

set_option maxRecDepth 100000 in
set_option maxHeartbeats 2000000 in
theorem getVar_some (bs : List UInt8) (b off c : Nat) (w : World) (hbs : bs.length ≤ 1000000000) (hlc : bs.length ≤ c) (hs : SlIn w 1 bEnc (.slice (some ⟨b, off, none⟩) bs.length c) bs)
    (hc : ∀ k x, bs[k]? = some x → w.cell? ⟨b, off + k, none⟩ = some (.int .u8 (x.toNat : Int))) :
    Calls Try.prog 72 #[.slice (some ⟨b, off, none⟩) bs.length c] w (GetPost w (getV 0 0 bs)) := by
  go_enter Try.func72, Try.ntmps72
  go_wp2_with fail
  go_loopw [5, 6, 7, 10, 26, 39] (fun v _ _ k _ _ wr => ∃ (i acc : Nat), i ≤ 9 ∧ i ≤ bs.length ∧ acc < 128 ^ i ∧ k = .int .i64 i ∧ v = .int .u64 acc ∧ w = wr ∧ getV i acc (bs.drop i) = getV 0 0 bs) (fun _ _ _ k _ _ _ => bs.length - (intOf k).toNat)
  case atStart => exact ⟨0, 0, by omega, by omega, by simp, rfl, rfl, rfl, rfl⟩
  case round =>
    obtain ⟨i, acc, hi, hil, hacc, rfl, rfl, rfl, hg⟩ := hrel
    by_cases hlt : i < bs.length
    · obtain ⟨x, hx⟩ : ∃ x, bs[i]? = some x := ⟨_, List.getElem?_eq_getElem hlt⟩
      have e1 := hc i x hx
      have hd : bs.drop i = x :: bs.drop (i + 1) := by
        obtain ⟨h1, rfl⟩ := List.getElem?_eq_some_iff.1 hx
        exact List.drop_eq_getElem_cons h1
      rw [hd, getV] at hg
      have hlt' : (i : Int) < (bs.length : Int) := by omega
      have hi0 : (0 : Int) ≤ (i : Int) := by omega
      have hx1 := x.toNat_lt
      have HG := Lib.hid hg
      have HD := Lib.hid hd
      have HA := Lib.hid hacc
      clear hg hd hx hc hacc
      generalize x.toNat = X at *
      by_cases hbad : (i = 9 ∧ 1 < X) ∨ (0 < i ∧ X = 0)
      · have hgb : getV 0 0 bs = (12, 0, []) := by rw [← HG.out, if_pos hbad]
        have HB := Lib.hid hgb
        clear hgb
        have h9 : ((i : Int) == 9) = decide (i = 9) := by rw [Bool.eq_iff_iff]; simp; omega
        rcases hbad with ⟨hi9, hX⟩ | ⟨hi1, hX⟩
        · have b1 : ((i : Int) == 9) = true := by simp; omega
          have b2 : (1 : Int) < (X : Int) := by omega
          clear h9 hi9
          go_wp2_with fail
          go_ret3
          exact ⟨_, by rw [HB.out]; rfl, by rw [HB.out]; rfl, New.refl _⟩
        · subst hX
          clear h9
          by_cases hi9 : i = 9
          · subst hi9
            go_wp2_with fail
            go_ret3
            exact ⟨_, by rw [HB.out]; rfl, by rw [HB.out]; rfl, New.refl _⟩
          · have b1 : ((i : Int) == 9) = false := by simp; omega
            have b2 : (0 : Int) < (i : Int) := by omega
            go_wp2_with fail
            go_ret3
            exact ⟨_, by rw [HB.out]; rfl, by rw [HB.out]; rfl, New.refl _⟩
      · have hn9 : i = 9 → X ≤ 1 := fun h => by
          rcases Nat.lt_or_ge 1 X with h1 | h1
          · exact absurd (.inl ⟨h, h1⟩) hbad
          · exact h1
        have hn0 : 0 < i → X ≠ 0 := fun h h1 => hbad (.inr ⟨h, h1⟩)
        by_cases h128 : X < 128
        · have hor := or_shift i acc X hi HA.out h128 hn9
          have hgn : getV 0 0 bs = (0, acc + X * 128 ^ i, bs.drop (i + 1)) := by rw [← HG.out, if_neg hbad, if_pos h128]
          have HOR := Lib.hid hor
          have HGN := Lib.hid hgn
          have b4 : (X : Int) < 128 := by omega
          have c1 : (i : Int) + 1 ≤ (c : Int) := by omega
          have c2 : (i : Int) + 1 ≤ (bs.length : Int) := by omega
          have c3 : (0 : Int) ≤ (i : Int) + 1 := by omega
          have hm1 : ([] : List UInt8).length + (bs.drop (i + 1)).length ≤ maxLen := by simp [maxLen]; omega
          have hm2 : (([] : List UInt8).length + (bs.drop (i + 1)).length) * 1 ≤ 140737488355328 := by simp; omega
          have HM1 := Lib.hid hm1
          have HM2 := Lib.hid hm2
          have hX0 : i = 0 ∨ X ≠ 0 := by rcases Nat.eq_zero_or_pos i with h | h; exact .inl h; exact .inr (hn0 h)
          clear hor hgn hm1 hm2 hbad hn0
          have hkey : ∀ (P : Prop), (((i : Int) == 9) = true → ¬ (1 : Int) < (X : Int) → (0 : Int) < (i : Int) → ((X : Int) == 0) = false → P) → (((i : Int) == 9) = false → (0 : Int) < (i : Int) → ((X : Int) == 0) = false → P) → (((i : Int) == 9) = false → ¬ (0 : Int) < (i : Int) → ¬ 0 < i → P) → P := fun P h1 h2 h3 => by
            by_cases h9 : i = 9
            · exact h1 (by simp; omega) (by have := hn9 h9; omega) (by omega) (by rcases hX0 with h | h; omega; simp; omega)
            · by_cases h0 : i = 0
              · exact h3 (by simp; omega) (by omega) (by omega)
              · exact h2 (by simp; omega) (by omega) (by rcases hX0 with h | h; omega; simp; omega)
          clear hX0 hn9
          by_cases hci : c = i + 1
          · have hdn : bs.drop (i + 1) = [] := List.drop_eq_nil_of_le (by omega)
            have HDN := Lib.hid hdn
            have hm3 : ([] : List UInt8).length + ([] : List UInt8).length ≤ maxLen := by simp
            have hm4 : (([] : List UInt8).length + ([] : List UInt8).length) * 1 ≤ 140737488355328 := by simp
            have HM3 := Lib.hid hm3
            have HM4 := Lib.hid hm4
            clear hdn hm3 hm4 HM1 HM2
            subst hci
            apply hkey
            all_goals
              intros
              clear hkey
              go_wp2_with (at_builtin; have ho0 : Owns _ w.heap.size 5 1 bEnc _ ([] : List UInt8) := World.ownsRow_made (base := w.heap.size) (e := 5) (size := 1) w #[] 0 (Nat.le_refl _) (by simp) (by simp); refine wpList_app bTy bEncOk rfl (.tmp 50) (.tmp 54) rfl rfl rfl ho0 (SlIn.empty _ _ _ _ _) HM3.out HM4.out (by simp) ?_; intro v1 w1 ho1 hg1 _)
              go_ret3
              exact ⟨v1, by rw [HGN.out, ← HOR.out]; rfl, by rw [HGN.out, if_pos rfl, HDN.out]; exact ho1, ((New.refl w).alloc _).grown hg1 (fun k hk => ho0.blockGe k hk)⟩
          · have hsd := SlIn.drop_at hs (k := i + 1) (by omega) hci
            rw [Nat.mul_one] at hsd
            have HSD := Lib.hid hsd
            clear hsd
            apply hkey
            all_goals
              intros
              clear hkey
              go_wp2_with (at_builtin; have ho0 : Owns _ w.heap.size 5 1 bEnc _ ([] : List UInt8) := World.ownsRow_made (base := w.heap.size) (e := 5) (size := 1) w #[] 0 (Nat.le_refl _) (by simp) (by simp); refine wpList_app bTy bEncOk rfl (.tmp 50) (.tmp 54) rfl rfl rfl ho0 (SlIn.alloc HSD.out _) HM1.out HM2.out (by simp) ?_; intro v1 w1 ho1 hg1 _)
              go_ret3
              exact ⟨v1, by rw [HGN.out, ← HOR.out]; rfl, by rw [HGN.out, if_pos rfl]; exact ho1, ((New.refl w).alloc _).grown hg1 (fun k hk => ho0.blockGe k hk)⟩
        · have hi9 : i ≠ 9 := fun h => by have := hn9 h; omega
          have hor := or_shift2 i acc X hi HA.out hx1 hi9
          have hgn : getV (i + 1) (acc + (X % 128) * 128 ^ i) (bs.drop (i + 1)) = getV 0 0 bs := by
            rw [← HG.out, if_neg hbad, if_neg h128, show X - 128 = X % 128 from by omega]
          have hacc' : acc + (X % 128) * 128 ^ i < 128 ^ (i + 1) := by
            have := HA.out
            rw [Nat.pow_succ]
            have h1 : (X % 128) * 128 ^ i ≤ 127 * 128 ^ i := Nat.mul_le_mul_right _ (by omega)
            omega
          have HOR := Lib.hid hor
          have HGN := Lib.hid hgn
          have HAC := Lib.hid hacc'
          have b1 : ((i : Int) == 9) = false := by simp; omega
          have b3 : ((X : Int) == 0) = false := by simp; omega
          have b4 : ¬ (X : Int) < 128 := by omega
          clear hor hgn hacc' hn9 hn0
          by_cases hi1 : i = 0
          · have b2 : ¬ (0 : Int) < (i : Int) := by omega
            have b2n : ¬ 0 < i := by omega
            clear hi1
            go_wp2_with fail
            go_roundw
            case rel => exact ⟨i + 1, _, by omega, by omega, HAC.out, by go_num, by rw [HOR.out], by trivial, HGN.out⟩
            case measure => simp [intOf]; omega
          · have b2 : (0 : Int) < (i : Int) := by omega
            go_wp2_with fail
            go_roundw
            case rel => exact ⟨i + 1, _, by omega, by omega, HAC.out, by go_num, by rw [HOR.out], by trivial, HGN.out⟩
            case measure => simp [intOf]; omega
    · have hge : bs.drop i = [] := List.drop_eq_nil_of_le (by omega)
      rw [hge] at hg
      have hgb : getV 0 0 bs = (10, 0, []) := by rw [← hg]; rfl
      have HB := Lib.hid hgb
      have hlt' : ¬ (i : Int) < (bs.length : Int) := by omega
      clear hgb hg hge hc
      go_wp2_with fail
      go_ret3
      exact ⟨_, by rw [HB.out]; rfl, by rw [HB.out]; rfl, New.refl _⟩
theorem getVar_any (bs : List UInt8) (v : Value) (w : World) (hbs : bs.length ≤ 1000000000) (hs : SlIn w 1 bEnc v bs) :
    Calls Try.prog 72 #[v] w (GetPost w (getV 0 0 bs)) := by
  have hs' := hs
  obtain ⟨A, c, rfl, hlc, h⟩ := hs
  rcases h with rfl | ⟨b, off, rfl, hb, hc⟩
  · go_enter Try.func72, Try.ntmps72
    go_wp2_with fail
    refine wp_loop_rounds 1 ?_
    rw [rounds_succ]
    go_wp2_with fail
    go_ret3
    exact ⟨_, rfl, rfl, New.refl _⟩
  · exact getVar_some bs b off c w hbs hlc hs' (fun k x hx => by simpa [bEnc] using hc k x hx 0 _ rfl)
end Go.Proofs.Ytghhcjpilcoblaa
