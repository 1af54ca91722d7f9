/- Chapter 11 (cache), the laws' acts as they lie in memory. -/
import Derived.Test.YtcganajbfplmpaaLaw11
import Derived.Test.YtcganajbfplmpaaCaX
namespace Go.Proofs.Ytcganajbfplmpaa
open Go.RowKit Go.Lap
set_option linter.unusedVariables false

/-- An act as it lies in memory. -/
structure CAct where
  kind : Int
  id : Int
  more : Int
  b : ByteArray
  d : Bool
def caE (x : CAct) : List Value := [.int .i64 x.kind, .int .i64 x.id, .int .i64 x.more, .string x.b, .bool x.d]
def CAct.good (x : CAct) : Prop := (Lit.int .i64 x.kind).wf = true ∧ (Lit.int .i64 x.id).wf = true ∧ (Lit.int .i64 x.more).wf = true ∧ x.b.size ≤ maxLen
theorem Blk5A {w : World} {g t : Nat} {a b c d e : Value} (h : Blk w g t #[a, b, c, d, e]) : g < w.heap.size ∧ w.cell? ⟨g, 0, none⟩ = some a ∧ w.cell? ⟨g, 1, none⟩ = some b ∧ w.cell? ⟨g, 2, none⟩ = some c ∧ w.cell? ⟨g, 3, none⟩ = some d ∧ w.cell? ⟨g, 4, none⟩ = some e ∧ (∀ i, w.frozen? ⟨g, i, none⟩ = false) := ⟨h.lt, h.cell 0, h.cell 1, h.cell 2, h.cell 3, h.cell 4, h.frozen⟩
end Go.Proofs.Ytcganajbfplmpaa
