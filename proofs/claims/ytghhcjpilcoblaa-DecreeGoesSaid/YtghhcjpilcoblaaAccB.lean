/- Contracts of accept.Bytes and of its reference (chapter 20). -/
import Derived.Test.YtghhcjpilcoblaaAcc
import Derived.Test.YtghhcjpilcoblaaRef03
namespace Go.Proofs.Ytghhcjpilcoblaa
open Go.RowKit Go.Lap
set_option linter.unusedVariables false

/-- An acceptor's bytes. -/
def accB (pr pn : Nat) (h : Bool) (ar an : Nat) (v : ByteArray) : List UInt8 :=
  varB pr ++ varB pn ++ varB (flagN h) ++ if h then varB ar ++ varB an ++ varB v.size ++ v.data.toList else []

end Go.Proofs.Ytghhcjpilcoblaa
