/- Chapter 23 (config): what the listed package-level variables give the walks. -/
import Derived.Test.YtinpbjknakncdaaDoorCfgH
import Derived.ProofKit
import Derived.LaidMore
import Derived.OpenShut
import Derived.Stop.Joined
import Derived.Lay
namespace Go.Proofs.YtinpbjknakncdaaDoor
open Go.ChangeShapes Go.WideShapes Go.ChangeAt Go.RowKit Go.Lap
set_option linter.unusedVariables false
set_option maxRecDepth 100000

def laidL : List (String × DataW Unit) := Rows.configShowsRow.laid
theorem ownK : ownKnob Tryd.prog.godebug = none := by kernel_rfl
theorem plainL {w : World} (h : laidMet Tryd.prog laidL w) : laidMetH Tryd.prog laidL w := by rw [MakeChecks.laidMetH_plain _ _ _ (by kernel_rfl)]; exact h
theorem gTab : Tryd.prog.globalNamed "internal/strconv.uint64pow10" = some 0 := by kernel_rfl
theorem gSyn : Tryd.prog.globalNamed "strconv.ErrSyntax" = some 1 := by kernel_rfl
theorem gRng : Tryd.prog.globalNamed "strconv.ErrRange" = some 2 := by kernel_rfl
theorem tTab : (Tryd.prog.globals[0]?).map (·.type) = some 114 := by kernel_rfl
theorem tSyn : (Tryd.prog.globals[1]?).map (·.type) = some 74 := by kernel_rfl
theorem tRng : (Tryd.prog.globals[2]?).map (·.type) = some 74 := by kernel_rfl
theorem tabDatum : (Rows.laid_internal_strconv_uint64pow10 : DataW Unit) = Lib.tabData .u64 Lib.pow10Tab := by kernel_rfl

/-- WHAT THE CONDITION GIVES THE WALKS. -/
theorem env_of_laid {W : World} (h : laidMetH Tryd.prog laidL W) : Env W := by
  rw [MakeChecks.laidMetH_plain _ _ _ (by kernel_rfl)] at h
  obtain ⟨ps, h, _, _⟩ := h
  obtain ⟨_, _, _, _, _, _, _, _, _, _, h, _⟩ := h
  obtain ⟨_, _, _, _, _, _, _, _, _, _, h, _⟩ := h
  obtain ⟨g0, t0, cs0, f0, p0, q0, hg0, ht0, hv0, hd0, h, _⟩ := h
  obtain ⟨_, _, _, _, _, _, _, _, _, _, h, _⟩ := h
  obtain ⟨g1, t1, cs1, f1, p1, q1, hg1, ht1, hv1, hd1, h, _⟩ := h
  obtain ⟨g2, t2, cs2, f2, p2, q2, hg2, ht2, hv2, hd2, _, _⟩ := h
  obtain rfl := Option.some.inj (gTab.symm.trans hg0)
  obtain rfl := Option.some.inj (gRng.symm.trans hg1)
  obtain rfl := Option.some.inj (gSyn.symm.trans hg2)
  obtain rfl := Option.some.inj (tTab.symm.trans ht0)
  obtain rfl := Option.some.inj (tRng.symm.trans ht1)
  obtain rfl := Option.some.inj (tSyn.symm.trans ht2)
  refine ⟨?_, ?_, ?_⟩
  · unfold Lib.TabIs
    rw [tabDatum] at hd0
    rw [hv0, ← Lib.cells_of_tab Tryd.underlying114 Tryd.underlying22 (by kernel_rfl) (by kernel_rfl) hd0]
  · obtain ⟨_, u, v, hc, _, _⟩ := iface_of_trod (by exact Tryd.underlying74) hd2
    have := World.var?_cell hg2 hv2 0
    rw [Array.eq_one_of_toList hc] at this
    exact ⟨u, v, by simpa using this⟩
  · obtain ⟨_, u, v, hc, _, _⟩ := iface_of_trod (by exact Tryd.underlying74) hd1
    have := World.var?_cell hg1 hv1 0
    rw [Array.eq_one_of_toList hc] at this
    exact ⟨u, v, by simpa using this⟩
end Go.Proofs.YtinpbjknakncdaaDoor
