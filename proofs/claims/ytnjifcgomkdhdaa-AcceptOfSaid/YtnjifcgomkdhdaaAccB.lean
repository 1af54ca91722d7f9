/- Contracts of accept.Bytes and of its reference (chapter 20). -/
import Derived.Test.YtnjifcgomkdhdaaAcc
import Derived.Test.YtnjifcgomkdhdaaRef03
namespace Go.Proofs.Ytnjifcgomkdhdaa
open Go.RowKit Go.Lap
set_option linter.unusedVariables false

/-- An acceptor's bytes. -/
def accB (pr pn : Nat) (h : Bool) (ar an : Nat) (v : ByteArray) : List UInt8 :=
  varB pr ++ varB pn ++ varB (flagN h) ++ if h then varB ar ++ varB an ++ varB v.size ++ v.data.toList else []

set_option maxHeartbeats 1000000 in
theorem refText_any (s : ByteArray) (w : World) (hs : s.size ≤ 1000000000) :
    Calls Try.prog 47 #[.string s] w fun e w' => e = .returned (.string (str (varB s.size ++ s.data.toList))) ∧ New w w' := by
  have h10 := varB_len10 (n := s.size) (by omega)
  have hsz : (str (varB s.size)).size + s.size ≤ 9223372036854775807 := by rw [str_size]; omega
  go_enter Try.func47, Try.ntmps47
  go_wp2_with fail
  refine (refVar_any s.size _ (by omega)).mono ?_
  rintro e w1 ⟨rfl, hn1⟩
  go_wp2_with fail
  go_ret
  refine ⟨ret_eq ?_, hn1⟩
  show Value.string (str (varB s.size) ++ s) = _
  rw [← str_append, str_data]

set_option maxRecDepth 100000 in
set_option maxHeartbeats 2000000 in
theorem refBytes_any (pr pn : Nat) (h : Bool) (ar an : Nat) (v : ByteArray) (w : World) (h1 : pr < 18446744073709551616) (h2 : pn < 18446744073709551616) (h3 : ar < 18446744073709551616) (h4 : an < 18446744073709551616) (hv : v.size ≤ 65536) :
    Calls Try.prog 25 #[.agg #[.int .u64 pr, .int .u64 pn, .bool h, .int .u64 ar, .int .u64 an, .string v]] w fun e w' => e = .returned (.string (str (accB pr pn h ar an v))) ∧ New w w' := by
  have l1 := varB_len10 h1
  have l2 := varB_len10 h2
  have l3 := varB_len10 h3
  have l4 := varB_len10 h4
  have l5 := varB_len10 (n := v.size) (by omega)
  have H1 := Lib.hid h1
  have H2 := Lib.hid h2
  have H3 := Lib.hid h3
  have H4 := Lib.hid h4
  have hsz1 : ¬ 9223372036854775807 < (str (varB pr)).size + (str (varB pn)).size := by rw [str_size, str_size]; omega
  have hp : varB (flagN false) = [0] := by rw [varB_small (by decide)]; rfl
  have hp1 : varB (flagN true) = [1] := by rw [varB_small (by decide)]; rfl
  have HP := Lib.hid hp
  have HP1 := Lib.hid hp1
  clear h1 h2 h3 h4 hp hp1
  cases h with
  | false =>
    have hsz2 : ¬ 9223372036854775807 < (str (varB pr)).size + (str (varB pn)).size + 1 := by rw [str_size, str_size]; omega
    go_enter Try.func25, Try.ntmps25
    go_wp2_with fail
    generalize hW : w.alloc (Obj.cells #[Value.int IntKind.u64 ↑pr, Value.int IntKind.u64 ↑pn, Value.bool false, Value.int IntKind.u64 ↑ar, Value.int IntKind.u64 ↑an, Value.string v] 39) = W
    have hnW : New w W := by rw [← hW]; exact (New.refl _).alloc _
    have hbW := Blk.mk_new w 39 #[Value.int IntKind.u64 ↑pr, Value.int IntKind.u64 ↑pn, Value.bool false, Value.int IntKind.u64 ↑ar, Value.int IntKind.u64 ↑an, Value.string v]
    rw [hW] at hbW
    have c0 : W.cell? ⟨w.heap.size, 0, none⟩ = some (.int .u64 pr) := hbW.cell 0
    have c1 : W.cell? ⟨w.heap.size, 1, none⟩ = some (.int .u64 pn) := hbW.cell 1
    have c2 : W.cell? ⟨w.heap.size, 2, none⟩ = some (.bool false) := hbW.cell 2
    have hlt := hbW.lt
    clear hW hbW
    go_region_held3 (fun w' => Held W w') (first | exact Held.of (New.refl _).drew | assumption | exact Held.step (by assumption) (by assumption))
      (first | (go_at_call 46; refine (refVar_any _ _ (by first | exact H1.out | exact H2.out)).mono ?_; rintro e wb ⟨rfl, hnb⟩))
    go_wp2_with fail
    go_ret
    refine ⟨ret_eq ?_, hnW.trans (show Held W _ by assumption).1⟩
    show Value.string (str (varB pr) ++ str (varB pn) ++ ⟨#[0]⟩) = _
    simp only [accB, HP.out, Bool.false_eq_true, if_false, List.append_nil]
    rw [← str_append, ← str_append]
    rfl
  | true =>
    have e1 : (⟨#[1]⟩ : ByteArray) = str [1] := rfl
    have hsz2 : ¬ 9223372036854775807 < (str (varB pr)).size + (str (varB pn)).size + 1 := by rw [str_size, str_size]; omega
    have hsz3 : ¬ 9223372036854775807 < (str (varB pr)).size + (str (varB pn)).size + 1 + (str (varB ar)).size := by rw [str_size, str_size, str_size]; omega
    have hsz4 : ¬ 9223372036854775807 < (str (varB pr)).size + (str (varB pn)).size + 1 + (str (varB ar)).size + (str (varB an)).size := by rw [str_size, str_size, str_size, str_size]; omega
    have hsz5 : ¬ 9223372036854775807 < (str (varB pr)).size + (str (varB pn)).size + 1 + (str (varB ar)).size + (str (varB an)).size + (str (varB v.size ++ v.data.toList)).size := by rw [str_size, str_size, str_size, str_size, str_size, List.length_append, strLen]; omega
    have HE := Lib.hid e1
    clear e1
    go_enter Try.func25, Try.ntmps25
    go_wp2_with fail
    generalize hW : w.alloc (Obj.cells #[Value.int IntKind.u64 ↑pr, Value.int IntKind.u64 ↑pn, Value.bool true, Value.int IntKind.u64 ↑ar, Value.int IntKind.u64 ↑an, Value.string v] 39) = W
    have hnW : New w W := by rw [← hW]; exact (New.refl _).alloc _
    have hbW := Blk.mk_new w 39 #[Value.int IntKind.u64 ↑pr, Value.int IntKind.u64 ↑pn, Value.bool true, Value.int IntKind.u64 ↑ar, Value.int IntKind.u64 ↑an, Value.string v]
    rw [hW] at hbW
    have c0 : W.cell? ⟨w.heap.size, 0, none⟩ = some (.int .u64 pr) := hbW.cell 0
    have c1 : W.cell? ⟨w.heap.size, 1, none⟩ = some (.int .u64 pn) := hbW.cell 1
    have c2 : W.cell? ⟨w.heap.size, 2, none⟩ = some (.bool true) := hbW.cell 2
    have c3 : W.cell? ⟨w.heap.size, 3, none⟩ = some (.int .u64 ar) := hbW.cell 3
    have c4 : W.cell? ⟨w.heap.size, 4, none⟩ = some (.int .u64 an) := hbW.cell 4
    have c5 : W.cell? ⟨w.heap.size, 5, none⟩ = some (.string v) := hbW.cell 5
    have hlt := hbW.lt
    clear hW hbW
    go_region_held3 (fun w' => Held W w') (first | exact Held.of (New.refl _).drew | assumption | exact Held.step (by assumption) (by assumption))
      (first | (go_at_call 46; refine (refVar_any _ _ (by first | exact H1.out | exact H2.out)).mono ?_; rintro e wb ⟨rfl, hnb⟩))
    go_wp2_with fail
    obtain ⟨wq, hwq⟩ : ∃ wq : World, wq = wb := ⟨_, rfl⟩
    have hq : Held W wb := by assumption
    clear hwq
    go_region_held3 (fun w' => Held W w') (first | exact Held.step hq (New.refl _).drew | assumption | exact Held.step (by assumption) (by assumption))
      (first
        | (go_at_call 46; refine (refVar_any _ _ (by first | exact H3.out | exact H4.out)).mono ?_; rintro e wc ⟨rfl, hnc⟩)
        | (go_at_call 47; refine (refText_any _ _ (by omega)).mono ?_; rintro e wd ⟨rfl, hnd⟩))
    go_wp2_with fail
    go_ret
    refine ⟨ret_eq ?_, hnW.trans (show Held W _ by assumption).1⟩
    show Value.string (str (varB pr) ++ str (varB pn) ++ ⟨#[1]⟩ ++ str (varB ar) ++ str (varB an) ++ str (varB v.size ++ v.data.toList)) = _
    rw [HE.out, str_append, str_append, str_append, str_append, str_append]
    simp only [accB, HP1.out, if_true, List.append_assoc]
end Go.Proofs.Ytnjifcgomkdhdaa
