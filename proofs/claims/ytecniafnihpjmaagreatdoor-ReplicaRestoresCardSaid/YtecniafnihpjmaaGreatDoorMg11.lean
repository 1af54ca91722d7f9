/- The parts RpI, RpI2, RpI3, RpI4, joined. -/
import Derived.Test.YtecniafnihpjmaaGreatDoorMg10
import Derived.Deep.DeepCutAuto
import Derived.Deep.CutBlock
import Derived.Test.YtecniafnihpjmaaGreatDoorTk
/- Chapter 24 (replica): the law's step. Printed by genRpI.py. -/
namespace Go.Proofs.YtecniafnihpjmaaGreatDoor
open Go.RowKit Go.Lap C
set_option linter.unusedVariables false
set_option linter.unusedSimpArgs false
/-- A step of the law as it comes in. -/
structure StV where
  kind : Int
  node : Nat
  at_ : Nat
  b : Btc
  A : Option Addr
  c : Nat
section
variable {w w' W wa : World} {S : Nat → Prop} {n B D a : Nat} {L : ChL} {x : Chn} {s : StV} {nw : CfgV}
end
end Go.Proofs.YtecniafnihpjmaaGreatDoor

/- Chapter 24 (replica): the law's step, by kinds. Printed by genRpI.py. -/
namespace Go.Proofs.YtecniafnihpjmaaGreatDoor
open Go.RowKit Go.Lap C
set_option linter.unusedVariables false
set_option linter.unusedSimpArgs false
section
variable {w w' W wa : World} {S : Nat → Prop} {n B D a : Nat} {L : ChL} {x : Chn} {s : StV} {nw : CfgV}
end
end Go.Proofs.YtecniafnihpjmaaGreatDoor

/- Chapter 24 (replica): the law's step, by kinds. Printed by genRpI.py. -/
namespace Go.Proofs.YtecniafnihpjmaaGreatDoor
open Go.RowKit Go.Lap C
set_option linter.unusedVariables false
set_option linter.unusedSimpArgs false
section
variable {w w' W wa : World} {S : Nat → Prop} {n B D a : Nat} {L : ChL} {x : Chn} {s : StV} {nw : CfgV}
end
end Go.Proofs.YtecniafnihpjmaaGreatDoor

/- Chapter 24 (replica): the law's step, by kinds. Printed by genRpI.py. -/
namespace Go.Proofs.YtecniafnihpjmaaGreatDoor
open Go.RowKit Go.Lap C
set_option linter.unusedVariables false
set_option linter.unusedSimpArgs false
section
variable {w w' W wa : World} {S : Nat → Prop} {n B D a : Nat} {L : ChL} {x : Chn} {s : StV} {nw : CfgV}
end
end Go.Proofs.YtecniafnihpjmaaGreatDoor
