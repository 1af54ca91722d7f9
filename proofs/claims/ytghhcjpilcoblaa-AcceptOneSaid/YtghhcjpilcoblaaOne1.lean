/- Chapter 20 (accept), the law AcceptOne: count; an acceptor made anew of its bytes. -/
import Derived.Test.YtghhcjpilcoblaaAccO
import Derived.Test.YtghhcjpilcoblaaAwake20
import Derived.Test.YtghhcjpilcoblaaLaw20a
import Derived.Test.YtghhcjpilcoblaaPax
namespace Go.Proofs.Ytghhcjpilcoblaa
open Go.RowKit Go.Lap Go.Lap.Pax
set_option linter.unusedVariables false

def b8 (f : Nat → Bool) : Array Value := #[.bool (f 0), .bool (f 1), .bool (f 2), .bool (f 3), .bool (f 4), .bool (f 5), .bool (f 6), .bool (f 7)]
theorem b8_at (f : Nat → Bool) {i : Nat} (h : i < 8) : (b8 f)[i]? = some (.bool (f i)) := by
  match i, h with
  | 0, _ => rfl
  | 1, _ => rfl
  | 2, _ => rfl
  | 3, _ => rfl
  | 4, _ => rfl
  | 5, _ => rfl
  | 6, _ => rfl
  | 7, _ => rfl
set_option maxRecDepth 100000 in
set_option maxHeartbeats 2000000 in
theorem count8_any (f : Nat → Bool) (w : World) : Calls Try.prog 14 #[.agg #[.bool (f 0), .bool (f 1), .bool (f 2), .bool (f 3), .bool (f 4), .bool (f 5), .bool (f 6), .bool (f 7)]] w fun e w' => e = .returned (.int .i64 ((cnt f 8 : Nat) : Int)) ∧ New w w' := by
  have hB := Blk.mk_new w 34 (b8 f)
  have hN := (New.refl w).alloc (.cells (b8 f) 34)
  have hc : ∀ i, i < 8 → (w.alloc (.cells (b8 f) 34)).cell? ⟨w.heap.size, i, none⟩ = some (.bool (f i)) := fun i hi => by rw [hB.cell i, b8_at f hi]
  unfold b8 at hc hN
  have HC := Lib.hid hc
  have HN := Lib.hid hN
  clear hB hc hN
  go_enter Try.func14, Try.ntmps14
  go_wp2_with fail
  go_loopw [3, 4] (fun m i wr => ∃ k : Nat, k ≤ 8 ∧ i = .int .i64 k ∧ m = .int .i64 ((cnt f k : Nat) : Int) ∧ wr = (w.alloc (.cells #[.bool (f 0), .bool (f 1), .bool (f 2), .bool (f 3), .bool (f 4), .bool (f 5), .bool (f 6), .bool (f 7)] 34))) (fun _ i _ => 8 - (intOf i).toNat)
  case atStart => exact ⟨0, by omega, rfl, rfl, rfl⟩
  case round =>
    obtain ⟨k, hk, rfl, rfl, rfl⟩ := hrel
    have hle : cnt f k ≤ k := by
      clear HC
      clear hk
      induction k with
      | zero => exact Nat.le_refl _
      | succ k ih =>
        have : cnt f (k + 1) = cnt f k + if f k then 1 else 0 := rfl
        rw [this]
        split <;> omega
    by_cases hlt : k < 8
    · have hlt' : (k : Int) < 8 := by omega
      have hk0 : (0 : Int) ≤ (k : Int) := by omega
      have e0 := HC.out k hlt
      have HS := Lib.hid (show cnt f (k + 1) = cnt f k + if f k then 1 else 0 from rfl)
      generalize cnt f k = m at HS hle ⊢
      cases hf : f k with
      | true =>
        rw [hf] at e0 HS
        go_wp2_with fail
        go_roundw
        case rel => exact ⟨k + 1, by omega, by go_num, by rw [HS.out]; go_num, by first | trivial | rfl⟩
        case measure => simp [intOf]; omega
      | false =>
        rw [hf] at e0 HS
        go_wp2_with fail
        go_roundw
        case rel => exact ⟨k + 1, by omega, by go_num, by rw [HS.out]; simp, by first | trivial | rfl⟩
        case measure => simp [intOf]; omega
    · have hlt' : ¬ (k : Int) < 8 := by omega
      obtain rfl : k = 8 := by omega
      go_wp2_with fail
      go_ret
      exact ⟨rfl, HN.out⟩
theorem ofC_enc {pr pn ar an : Nat} {h : Bool} {v : ByteArray} (h1 : pr < 18446744073709551616) (h2 : pn < 18446744073709551616) (h3 : ar < 18446744073709551616) (h4 : an < 18446744073709551616) (hv : v.size ≤ 65536)
    (hl : lessB pr pn ar an = false) (hz : h = false → ar = 0 ∧ an = 0 ∧ v = ⟨#[]⟩) : ofC (accB pr pn h ar an v) = some ⟨pr, pn, h, ar, an, v.data.toList⟩ := by
  have hend : endR [] 0 = 0 := by decide
  cases h with
  | false =>
    obtain ⟨rfl, rfl, rfl⟩ := hz rfl
    have e : accB pr pn false 0 0 ⟨#[]⟩ = varB pr ++ (varB pn ++ (varB (flagN false) ++ [])) := by unfold accB; simp
    rw [e]
    unfold ofC
    simp only [numR_enc pr _ h1, numR_enc pn _ h2, flagR_enc, hend]
    rfl
  | true =>
    have e : accB pr pn true ar an v = varB pr ++ (varB pn ++ (varB (flagN true) ++ (varB ar ++ (varB an ++ (varB v.size ++ v.data.toList ++ []))))) := by unfold accB; simp
    rw [e]
    unfold ofC
    simp only [numR_enc pr _ h1, numR_enc pn _ h2, flagR_enc, numR_enc ar _ h3, numR_enc an _ h4, textR_enc v [] hv, hend, hl, if_true]
theorem accB_len {pr pn ar an : Nat} {h : Bool} {v : ByteArray} (h1 : pr < 18446744073709551616) (h2 : pn < 18446744073709551616) (h3 : ar < 18446744073709551616) (h4 : an < 18446744073709551616) (hv : v.size ≤ 65536) : (accB pr pn h ar an v).length ≤ 100000000 := by
  have l1 := varB_len10 h1
  have l2 := varB_len10 h2
  have l3 := varB_len10 h3
  have l4 := varB_len10 h4
  have l5 := varB_len10 (n := v.size) (by omega)
  have l6 := varB_len10 (flagN_lt h)
  have e2 : v.data.toList.length = v.size := by rw [Array.length_toList]; rfl
  unfold accB
  split <;> simp only [List.length_append, List.length_nil] <;> omega
end Go.Proofs.Ytghhcjpilcoblaa
