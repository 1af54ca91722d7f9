/- The parts RpI5, RpR, RpI6, RpI7, joined. -/
import Derived.Test.YtecniafnihpjmaaGreatDoorTk
import Derived.Test.YtecniafnihpjmaaGreatDoorMg11
import Derived.Test.YtecniafnihpjmaaGreatDoorHz
import Derived.Test.YtecniafnihpjmaaGreatDoorMg5
/- Chapter 24 (replica): the law's step, by kinds. Printed by genRpI.py. -/
namespace Go.Proofs.YtecniafnihpjmaaGreatDoor
open Go.RowKit Go.Lap C
set_option linter.unusedVariables false
set_option linter.unusedSimpArgs false
section
variable {w w' W wa : World} {S : Nat → Prop} {n B D a : Nat} {L : ChL} {x : Chn} {s : StV} {nw : CfgV}
end
end Go.Proofs.YtecniafnihpjmaaGreatDoor

/- Chapter 23 (config): removing a node, the members that are left in a block of ints of their own. Printed by genRpR.py. -/
namespace Go.Proofs.YtecniafnihpjmaaGreatDoor
open Go.RowKit Go.Lap C
set_option linter.unusedVariables false
set_option linter.unusedSimpArgs false
theorem tslOf {α : Type} {w : World} {e size g n c : Nat} {enc : α → List Value} {l : List α} {cs : Array Value} (hb : Blk w g e cs) (h : SlIn w size enc (.slice (some ⟨g, 0, none⟩) n c) l) : TSl w e size enc (.slice (some ⟨g, 0, none⟩) n c) l := by
  obtain ⟨A, c', hv, hlc, hh⟩ := h
  cases hv
  refine ⟨_, _, rfl, hlc, hh.imp id ?_⟩
  rintro ⟨b, off, hA, hlt, hc⟩
  cases hA
  exact ⟨g, 0, cs, rfl, hb, fun k x hx j u hu => (hb.cell _).symm.trans (hc k x hx j u hu)⟩
end Go.Proofs.YtecniafnihpjmaaGreatDoor

/- Chapter 24 (replica): the law's step, by kinds. Printed by genRpI.py. -/
namespace Go.Proofs.YtecniafnihpjmaaGreatDoor
open Go.RowKit Go.Lap C
set_option linter.unusedVariables false
set_option linter.unusedSimpArgs false
section
variable {w w' W wa : World} {S : Nat → Prop} {n B D a : Nat} {L : ChL} {x : Chn} {s : StV} {nw : CfgV}
end
end Go.Proofs.YtecniafnihpjmaaGreatDoor

/- Chapter 24 (replica): the law's step, by kinds. Printed by genRpI.py. -/
namespace Go.Proofs.YtecniafnihpjmaaGreatDoor
open Go.RowKit Go.Lap C
set_option linter.unusedVariables false
set_option linter.unusedSimpArgs false
section
variable {w w' W wa : World} {S : Nat → Prop} {n B D a : Nat} {L : ChL} {x : Chn} {s : StV} {nw : CfgV}
end
end Go.Proofs.YtecniafnihpjmaaGreatDoor
