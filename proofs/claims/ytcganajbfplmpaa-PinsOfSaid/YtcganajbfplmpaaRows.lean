/-
  No cell of these rows narrows 'for every input' (looked for: loops, veiled, ifaces, maps, wideKeys, modest, calm, conditions, laid).
  DERIVED. THE GIVEN ROWS OF THIS SEAT. 7 by the template 'for every input the law returns true; each argument reads behind the call as it read before'; 0 by the template 'total and deterministic' (their statements: YtcganajbfplmpaaTotals.lean).
  GIVEN WITH THE SEED: the statements are not yours to turn. If you find one false, say at which input.
  Laid BY PROGRAM, IN A SANDBOX (cutbox-rows.mjs): the forced cells as the released guide's own fill.sh prints them over the translation 7b7f0c264c083fa6… (all of the seat's roots in one cut). By AI agents, Wed Nov 11 2026. No macro, syntax, notation, axiom, sorry.
-/
import Derived.Test.YtcganajbfplmpaaChecked
import GoSem.Claim
import GoSem.ClaimJoined
import GoSem.ClaimMapViews
import Derived.JoinedTies
import Derived.KernelRfl
namespace Go.Proofs.Ytcganajbfplmpaa
/- THE CELL 'sum', in the pinned program and in every row, IS THE sha256 OF THE DUMP (.gsa) THAT YtcganajbfplmpaaProg.lean LOADS. Nothing in Lean hashes anything: it is a label: what it is worth is what the hold of that sum in a sandbox is worth. -/
noncomputable def Try.pinned : Pinned := { name := "ytcganajbfplmpaa", sum := "7b7f0c264c083fa663a2af80340106337a3af79e98efb19163edb36d132c6d33", checked := Try.checked }
namespace Rows
def none {H : Type} : Left H := { results := [], args := [] }

/-- 'lapstonelaw11.CachePlays': WHATEVER THE INPUT: true; the input reads as it did. -/
def cachePlaysSpec : ChangeSpec := { name := "cachePlays", fn := fun _ => fun
  | [d1, d2] => { results := [.lit (.bool true)], args := [d1, d2] }
  | _ => none }
def cachePlaysRow : OpenClaim := { program := "ytcganajbfplmpaa", sum := "7b7f0c264c083fa663a2af80340106337a3af79e98efb19163edb36d132c6d33", func := "lapstone/lapstonelaw11.CachePlays", spec := "cachePlays", unfollowed := true, recurses := true, apart := false }
def CachePlaysSaid : Prop := cachePlaysRow.holds Try.pinned (OpenSpec.ofChange cachePlaysSpec)

/-- ITS FALSE NEIGHBOUR: 'it returns false'. Refute it at one input. -/
def cachePlaysWrong : ChangeSpec := { name := "cachePlays", fn := fun _ => fun
  | [d1, d2] => { results := [.lit (.bool false)], args := [d1, d2] }
  | _ => none }
def CachePlaysWrongFalsely : Prop := cachePlaysRow.holds Try.pinned (OpenSpec.ofChange cachePlaysWrong)

/-- 'lapstonelaw11.CacheKeeps': WHATEVER THE INPUT: true; the input reads as it did. -/
def cacheKeepsSpec : ChangeSpec := { name := "cacheKeeps", fn := fun _ => fun
  | [d1, d2, d3] => { results := [.lit (.bool true)], args := [d1, d2, d3] }
  | _ => none }
def cacheKeepsRow : OpenClaim := { program := "ytcganajbfplmpaa", sum := "7b7f0c264c083fa663a2af80340106337a3af79e98efb19163edb36d132c6d33", func := "lapstone/lapstonelaw11.CacheKeeps", spec := "cacheKeeps", unfollowed := true, recurses := true, apart := false }
def CacheKeepsSaid : Prop := cacheKeepsRow.holds Try.pinned (OpenSpec.ofChange cacheKeepsSpec)

/-- ITS FALSE NEIGHBOUR: 'it returns false'. Refute it at one input. -/
def cacheKeepsWrong : ChangeSpec := { name := "cacheKeeps", fn := fun _ => fun
  | [d1, d2, d3] => { results := [.lit (.bool false)], args := [d1, d2, d3] }
  | _ => none }
def CacheKeepsWrongFalsely : Prop := cacheKeepsRow.holds Try.pinned (OpenSpec.ofChange cacheKeepsWrong)

/-- 'lapstonelaw11.CacheDirty': WHATEVER THE INPUT: true; the input reads as it did. -/
def cacheDirtySpec : ChangeSpec := { name := "cacheDirty", fn := fun _ => fun
  | [d1, d2] => { results := [.lit (.bool true)], args := [d1, d2] }
  | _ => none }
def cacheDirtyRow : OpenClaim := { program := "ytcganajbfplmpaa", sum := "7b7f0c264c083fa663a2af80340106337a3af79e98efb19163edb36d132c6d33", func := "lapstone/lapstonelaw11.CacheDirty", spec := "cacheDirty", unfollowed := true, recurses := true, apart := false }
def CacheDirtySaid : Prop := cacheDirtyRow.holds Try.pinned (OpenSpec.ofChange cacheDirtySpec)

/-- ITS FALSE NEIGHBOUR: 'it returns false'. Refute it at one input. -/
def cacheDirtyWrong : ChangeSpec := { name := "cacheDirty", fn := fun _ => fun
  | [d1, d2] => { results := [.lit (.bool false)], args := [d1, d2] }
  | _ => none }
def CacheDirtyWrongFalsely : Prop := cacheDirtyRow.holds Try.pinned (OpenSpec.ofChange cacheDirtyWrong)

/-- 'lapstonelaw18.PinsFloor': WHATEVER THE INPUT: true; the input reads as it did. -/
def pinsFloorSpec : ChangeSpec := { name := "pinsFloor", fn := fun _ => fun
  | [d1, d2] => { results := [.lit (.bool true)], args := [d1, d2] }
  | _ => none }
def pinsFloorRow : OpenClaim := { program := "ytcganajbfplmpaa", sum := "7b7f0c264c083fa663a2af80340106337a3af79e98efb19163edb36d132c6d33", func := "lapstone/lapstonelaw18.PinsFloor", spec := "pinsFloor", unfollowed := true, recurses := true, apart := false }
def PinsFloorSaid : Prop := pinsFloorRow.holds Try.pinned (OpenSpec.ofChange pinsFloorSpec)

/-- ITS FALSE NEIGHBOUR: 'it returns false'. Refute it at one input. -/
def pinsFloorWrong : ChangeSpec := { name := "pinsFloor", fn := fun _ => fun
  | [d1, d2] => { results := [.lit (.bool false)], args := [d1, d2] }
  | _ => none }
def PinsFloorWrongFalsely : Prop := pinsFloorRow.holds Try.pinned (OpenSpec.ofChange pinsFloorWrong)

/-- 'lapstonelaw18.PinsPlays': WHATEVER THE INPUT: true; the input reads as it did. -/
def pinsPlaysSpec : ChangeSpec := { name := "pinsPlays", fn := fun _ => fun
  | [d1, d2] => { results := [.lit (.bool true)], args := [d1, d2] }
  | _ => none }
def pinsPlaysRow : OpenClaim := { program := "ytcganajbfplmpaa", sum := "7b7f0c264c083fa663a2af80340106337a3af79e98efb19163edb36d132c6d33", func := "lapstone/lapstonelaw18.PinsPlays", spec := "pinsPlays", unfollowed := true, recurses := true, apart := false }
def PinsPlaysSaid : Prop := pinsPlaysRow.holds Try.pinned (OpenSpec.ofChange pinsPlaysSpec)

/-- ITS FALSE NEIGHBOUR: 'it returns false'. Refute it at one input. -/
def pinsPlaysWrong : ChangeSpec := { name := "pinsPlays", fn := fun _ => fun
  | [d1, d2] => { results := [.lit (.bool false)], args := [d1, d2] }
  | _ => none }
def PinsPlaysWrongFalsely : Prop := pinsPlaysRow.holds Try.pinned (OpenSpec.ofChange pinsPlaysWrong)

/-- 'lapstonelaw18.PinsOf': WHATEVER THE INPUT: true; the input reads as it did. -/
def pinsOfSpec : ChangeSpec := { name := "pinsOf", fn := fun _ => fun
  | [d] => { results := [.lit (.bool true)], args := [d] }
  | _ => none }
def pinsOfRow : OpenClaim := { program := "ytcganajbfplmpaa", sum := "7b7f0c264c083fa663a2af80340106337a3af79e98efb19163edb36d132c6d33", func := "lapstone/lapstonelaw18.PinsOf", spec := "pinsOf", unfollowed := true, recurses := true, apart := false }
def PinsOfSaid : Prop := pinsOfRow.holds Try.pinned (OpenSpec.ofChange pinsOfSpec)

/-- ITS FALSE NEIGHBOUR: 'it returns false'. Refute it at one input. -/
def pinsOfWrong : ChangeSpec := { name := "pinsOf", fn := fun _ => fun
  | [d] => { results := [.lit (.bool false)], args := [d] }
  | _ => none }
def PinsOfWrongFalsely : Prop := pinsOfRow.holds Try.pinned (OpenSpec.ofChange pinsOfWrong)

/-- 'lapstonelaw18.PinsBack': WHATEVER THE INPUT: true; the input reads as it did. -/
def pinsBackSpec : ChangeSpec := { name := "pinsBack", fn := fun _ => fun
  | [d1, d2] => { results := [.lit (.bool true)], args := [d1, d2] }
  | _ => none }
def pinsBackRow : OpenClaim := { program := "ytcganajbfplmpaa", sum := "7b7f0c264c083fa663a2af80340106337a3af79e98efb19163edb36d132c6d33", func := "lapstone/lapstonelaw18.PinsBack", spec := "pinsBack", unfollowed := true, recurses := true, apart := false }
def PinsBackSaid : Prop := pinsBackRow.holds Try.pinned (OpenSpec.ofChange pinsBackSpec)

/-- ITS FALSE NEIGHBOUR: 'it returns false'. Refute it at one input. -/
def pinsBackWrong : ChangeSpec := { name := "pinsBack", fn := fun _ => fun
  | [d1, d2] => { results := [.lit (.bool false)], args := [d1, d2] }
  | _ => none }
def PinsBackWrongFalsely : Prop := pinsBackRow.holds Try.pinned (OpenSpec.ofChange pinsBackWrong)

/- THE SECOND FORM. 'bulk': how many values and letters a reading holds, each counted each time it is reached (what is shared counts as often as it is met; a slice's spare places count too). A statement '..UptoSaid' is the law's where the arguments, and the package variables that the reading takes, are together of bulk at most 1048576: NARROWER than '..Said'. Prove '..Said' where nothing that the law and all that it calls make is longer than what came in: it says more and counts as full. Else prove '..UptoSaid'. A law counts once. -/
mutual
def uptoBulk {H : Type} : DataW H → Nat
  | .lit (.string bytes) => bytes.length + 1
  | .lit _ => 1
  | .nil => 1
  | .ptr d => uptoBulk d + 1
  | .slice elems spare => uptoBulkAll elems + uptoBulkAll spare + 1
  | .agg parts => uptoBulkAll parts + 1
  | .iface _ d => uptoBulk d + 1
  | .map entries => uptoBulkEntries entries + 1
  | .held _ => 1
def uptoBulkAll {H : Type} : List (DataW H) → Nat
  | [] => 0
  | d :: r => uptoBulk d + uptoBulkAll r
def uptoBulkEntries {H : Type} : List (Lit × DataW H) → Nat
  | [] => 0
  | x :: r => uptoBulkEntry x + uptoBulkEntries r
def uptoBulkEntry {H : Type} : Lit × DataW H → Nat
  | (.string bytes, d) => bytes.length + uptoBulk d + 1
  | (_, d) => uptoBulk d + 1
 end
def uptoSmall : (H : Type) → List (DataW H) → Bool := fun _ ds => decide (uptoBulkAll ds ≤ 1048576)
def OpenSpec.upto (s : _root_.Go.ChangeSpec) : _root_.Go.OpenSpec := { _root_.Go.OpenSpec.ofChange s with cond := some uptoSmall }

/-- 'lapstonelaw11.CachePlays', WHERE WHAT IT READS IS OF BULK AT MOST 1048576: true; the input reads as it did. -/
def cachePlaysUptoRow : OpenClaim := { program := "ytcganajbfplmpaa", sum := "7b7f0c264c083fa663a2af80340106337a3af79e98efb19163edb36d132c6d33", func := "lapstone/lapstonelaw11.CachePlays", spec := "cachePlays", unfollowed := true, recurses := true, apart := false, narrowed := true }
def CachePlaysUptoSaid : Prop := cachePlaysUptoRow.holds Try.pinned (OpenSpec.upto cachePlaysSpec)

/-- 'lapstonelaw11.CacheKeeps', WHERE WHAT IT READS IS OF BULK AT MOST 1048576: true; the input reads as it did. -/
def cacheKeepsUptoRow : OpenClaim := { program := "ytcganajbfplmpaa", sum := "7b7f0c264c083fa663a2af80340106337a3af79e98efb19163edb36d132c6d33", func := "lapstone/lapstonelaw11.CacheKeeps", spec := "cacheKeeps", unfollowed := true, recurses := true, apart := false, narrowed := true }
def CacheKeepsUptoSaid : Prop := cacheKeepsUptoRow.holds Try.pinned (OpenSpec.upto cacheKeepsSpec)

/-- 'lapstonelaw11.CacheDirty', WHERE WHAT IT READS IS OF BULK AT MOST 1048576: true; the input reads as it did. -/
def cacheDirtyUptoRow : OpenClaim := { program := "ytcganajbfplmpaa", sum := "7b7f0c264c083fa663a2af80340106337a3af79e98efb19163edb36d132c6d33", func := "lapstone/lapstonelaw11.CacheDirty", spec := "cacheDirty", unfollowed := true, recurses := true, apart := false, narrowed := true }
def CacheDirtyUptoSaid : Prop := cacheDirtyUptoRow.holds Try.pinned (OpenSpec.upto cacheDirtySpec)

/-- 'lapstonelaw18.PinsFloor', WHERE WHAT IT READS IS OF BULK AT MOST 1048576: true; the input reads as it did. -/
def pinsFloorUptoRow : OpenClaim := { program := "ytcganajbfplmpaa", sum := "7b7f0c264c083fa663a2af80340106337a3af79e98efb19163edb36d132c6d33", func := "lapstone/lapstonelaw18.PinsFloor", spec := "pinsFloor", unfollowed := true, recurses := true, apart := false, narrowed := true }
def PinsFloorUptoSaid : Prop := pinsFloorUptoRow.holds Try.pinned (OpenSpec.upto pinsFloorSpec)

/-- 'lapstonelaw18.PinsPlays', WHERE WHAT IT READS IS OF BULK AT MOST 1048576: true; the input reads as it did. -/
def pinsPlaysUptoRow : OpenClaim := { program := "ytcganajbfplmpaa", sum := "7b7f0c264c083fa663a2af80340106337a3af79e98efb19163edb36d132c6d33", func := "lapstone/lapstonelaw18.PinsPlays", spec := "pinsPlays", unfollowed := true, recurses := true, apart := false, narrowed := true }
def PinsPlaysUptoSaid : Prop := pinsPlaysUptoRow.holds Try.pinned (OpenSpec.upto pinsPlaysSpec)

/-- 'lapstonelaw18.PinsOf', WHERE WHAT IT READS IS OF BULK AT MOST 1048576: true; the input reads as it did. -/
def pinsOfUptoRow : OpenClaim := { program := "ytcganajbfplmpaa", sum := "7b7f0c264c083fa663a2af80340106337a3af79e98efb19163edb36d132c6d33", func := "lapstone/lapstonelaw18.PinsOf", spec := "pinsOf", unfollowed := true, recurses := true, apart := false, narrowed := true }
def PinsOfUptoSaid : Prop := pinsOfUptoRow.holds Try.pinned (OpenSpec.upto pinsOfSpec)

/-- 'lapstonelaw18.PinsBack', WHERE WHAT IT READS IS OF BULK AT MOST 1048576: true; the input reads as it did. -/
def pinsBackUptoRow : OpenClaim := { program := "ytcganajbfplmpaa", sum := "7b7f0c264c083fa663a2af80340106337a3af79e98efb19163edb36d132c6d33", func := "lapstone/lapstonelaw18.PinsBack", spec := "pinsBack", unfollowed := true, recurses := true, apart := false, narrowed := true }
def PinsBackUptoSaid : Prop := pinsBackUptoRow.holds Try.pinned (OpenSpec.upto pinsBackSpec)

end Rows
end Go.Proofs.Ytcganajbfplmpaa
