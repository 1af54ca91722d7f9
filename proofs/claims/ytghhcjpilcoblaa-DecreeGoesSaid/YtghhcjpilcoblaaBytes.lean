/- Bytes: append of a string to bytes of the call's own; strings and bytes made of each other. -/
import Derived.Test.YtghhcjpilcoblaaNum
import Derived.Lib.AppendStr
namespace Go.Proofs.Ytghhcjpilcoblaa
open Go.RowKit Go.Lap
set_option linter.unusedVariables false

theorem strCells_flat (s : ByteArray) : Lib.strCells s = s.data.toList.flatMap bEnc := by
  unfold Lib.strCells
  generalize s.data.toList = l
  induction l with
  | nil => rfl
  | cons x l ih => simp only [List.map_cons, List.flatMap_cons, ih, bEnc, List.singleton_append]

theorem strLen (s : ByteArray) : s.data.toList.length = s.size := by rw [Array.length_toList]; rfl

theorem okBlock {v v' : Value} {w w' : World} {b : Option Nat} (h : Result.ok v w = Result.ok v' w') (hv : v.ownBlock = b) : v'.ownBlock = b := by
  injection h with h1 _
  rw [← h1]; exact hv

theorem run_app_str (w : World) (ty : TypeId) {base : Nat} {v : Value} {l : List UInt8} (hown : Owns w base 5 1 bEnc v l) (s : ByteArray) (h63 : l.length + s.size ≤ 1000000000000) (hbase : base ≤ w.heap.size) :
    ∃ v' w', (Builtin.append_ #[42, 9] ty #[v, .string s]).run Try.prog w = .ok v' w' ∧ Owns w' base 5 1 bEnc v' (l ++ s.data.toList) ∧ w.grownBy w' v.ownBlock ∧ (v'.ownBlock = v.ownBlock ∨ v'.ownBlock = some w.heap.size) := by
  obtain ⟨ht, hinfo, _, _⟩ := bTy
  obtain ⟨i, hi, hii⟩ := Option.map_eq_some_iff.1 hinfo
  simp only [Prod.mk.injEq] at hii
  obtain ⟨hz, hsize, hby⟩ := hii
  have hu := Try.underlying9
  obtain ⟨v', w', hrun, h1, h2, h3⟩ := Lib.run_append_own_string (P := Try.prog) w base 42 9 ty 5 i ht hu hi hz hsize hby v l.length _ hown s (by unfold maxLen; omega) (by omega) hbase
  have hO : Owns w' base 5 1 bEnc v' (l ++ s.data.toList) := by
    rw [strCells_flat] at h1
    show w'.ownsRow _ _ _ _ _ _
    rw [List.length_append, strLen, List.flatMap_append]
    exact h1
  refine ⟨v', w', hrun, hO, h2, ?_⟩
  rcases hown.2 with ⟨rfl, hl0⟩ | ⟨g, cap, cur, rfl, hbg, hg, hnc, hcm, hcs, htake⟩
  · by_cases hm : s.size = 0
    · left
      have := h3.2 ⟨rfl, hm⟩
      rw [this]
    · right
      have hr := run_append_nil_string (P := Try.prog) w 42 9 ty 5 i (.int .u8 0) ht hu hi hz s (by omega) (by omega) (by rw [hby]; omega)
      exact okBlock (hr.symm.trans hrun) rfl
  · by_cases hroom : l.length + s.size ≤ cap
    · left
      have hcs' : cur.size = cap := by simpa using hcs
      have hr := Lib.run_append_room_string (P := Try.prog) w 42 9 ty 5 i ht hu hi hsize g l.length cap cur hg s hroom (by omega)
      exact okBlock (hr.symm.trans hrun) rfl
    · right
      have holds : ∀ j u, (l.flatMap bEnc)[j]? = some u → w.cell? ((⟨g, 0, none⟩ : Addr).add j) = some u := hown.cells (g := g) rfl
      have hr := Lib.run_append_grow_string (P := Try.prog) w 42 9 ty 5 i (.int .u8 0) ht hu hi hz ⟨g, 0, none⟩ l.length cap _ (by rw [hsize]; exact flat_length bEncOk l) holds s (by omega) (by omega) (by rw [hby]; exact growslice_fits (by omega) (by omega))
      exact okBlock (hr.symm.trans hrun) rfl

theorem wpList_app_str {w : World} {ops : Array Oper} {rest : List Oper} {o : Oper} {a : Act} {Q : Exit → Act → World → Prop} (hgd : o.guard = none) (s x : Operand)
    (ho : o.op = .call { callee := .builtin .append, args := #[s, x], argTypes := #[42, 9] }) {base : Nat} {v : Value} {l : List UInt8} {b : ByteArray} (hs : a.eval s = v) (hx : a.eval x = .string b) (hown : Owns w base 5 1 bEnc v l)
    (h63 : l.length + b.size ≤ 1000000000000) (hbase : base ≤ w.heap.size)
    (h : ∀ v' w', Owns w' base 5 1 bEnc v' (l ++ b.data.toList) → w.grownBy w' v.ownBlock → (v'.ownBlock = v.ownBlock ∨ v'.ownBlock = some w.heap.size) → wpList Try.prog ops Q rest (a.put o.dst v') w') : wpList Try.prog ops Q (o :: rest) a w := by
  refine wpList_plain hgd fun K hK => ?_
  obtain ⟨v', w', hrun, h2, h3, h4⟩ := run_app_str w o.type hown b h63 hbase
  unfold Oper.wp execOp
  simp only [ho, resolve, invoke, builtin, Sem.run_bind, Sem.run_pure, Result.andThen_ok, List.map_toArray, List.map_cons, List.map_nil, hs, hx, hrun]
  exact hK _ _ (h v' w' h2 h3 h4)
end Go.Proofs.Ytghhcjpilcoblaa
