/- Contracts of the package accept: each says what the call answers and which memory it may have changed. -/
import Derived.Test.YtlhlcdjkacglnaaGreatDoorRows
import Derived.Test.YtlhlcdjkacglnaaGreatDoorJk1
import Derived.Deep.QuietTactic
import Derived.BigQuiet
import Derived.Deep.RegionHeld3
namespace Go.Proofs.YtlhlcdjkacglnaaGreatDoor.D
open Go.RowKit Go.Lap

/-- An acceptor in memory. -/
def AccAt (w : World) (g : Nat) (pr pn : Int) (h : Bool) (ar an : Int) (v : ByteArray) : Prop :=
  Blk w g 296 #[.int .u64 pr, .int .u64 pn, .bool h, .int .u64 ar, .int .u64 an, .string v]

/-- The better one of two promises. -/
structure Pro where
  has : Bool
  r : Int
  n : Int
  v : ByteArray

def Pro.enc (p : Pro) : List Value := [.bool p.has, .int .u64 p.r, .int .u64 p.n, .string p.v]
end Go.Proofs.YtlhlcdjkacglnaaGreatDoor.D
