/- The parts RpD, RpN, Law24, joined. -/
import Derived.Test.YtecniafnihpjmaaGreatDoorMg10
import Derived.Deep.DeepCutAuto
import Derived.Deep.CutBlock
import Derived.Test.YtecniafnihpjmaaGreatDoorMg5
import Derived.Test.YtecniafnihpjmaaGreatDoorTk
import Derived.Test.YtecniafnihpjmaaGreatDoorMg12
import Derived.Test.YtecniafnihpjmaaGreatDoorMg11
import Derived.Test.YtecniafnihpjmaaGreatDoorMg14
/- Chapter 24 (replica): the law's begin: a chain of n replicas. -/
namespace Go.Proofs.YtecniafnihpjmaaGreatDoor
open Go.RowKit Go.Lap C
set_option linter.unusedVariables false
set_option linter.unusedSimpArgs false
section
variable {w w' w0 W wa : World} {S : Nat → Prop} {n k B D a : Nat} {L : ChL} {x : Chn} {R : RpL}
end
end Go.Proofs.YtecniafnihpjmaaGreatDoor

/- Chapter 24 (replica): no request is in a list twice; between a batch's start and its place nobody writes one of its keys. No program here. -/
namespace Go.Proofs.YtecniafnihpjmaaGreatDoor
open Go.RowKit Go.Lap C
set_option linter.unusedVariables false
theorem toList_inj24 {a b : ByteArray} (h : a.toList = b.toList) : a = b := by
  rw [ByteArray.toList_eq, ByteArray.toList_eq] at h
  have : a.data = b.data := Array.toList_inj.1 h
  cases a; cases b; simp_all
section
variable {l m : List Btc} {j : Jd} {b : Btc} {x y : Rpl}
end
section
variable {n y : Nat} {cs : List Cfg} {nw : Cfg} {L : Nat → List Btc} {x : Rpl} {nt : Nt}
end
section
variable {n : Nat} {x : Chn}
end
end Go.Proofs.YtecniafnihpjmaaGreatDoor

/- Chapter 24 (replica): what the walks of the chain's laws share. Printed by genLaw24.py. -/
namespace Go.Proofs.YtecniafnihpjmaaGreatDoor
open Go.RowKit Go.Lap C
set_option linter.unusedVariables false
set_option linter.unusedSimpArgs false
section
variable {W w w' wr w5 : World} {n M bx : Nat} {L L' : ChL} {x : Chn} {s : StV}
end
end Go.Proofs.YtecniafnihpjmaaGreatDoor
