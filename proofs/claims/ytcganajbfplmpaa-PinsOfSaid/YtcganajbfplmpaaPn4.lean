/- Chapter 18 (pins): New. -/
import Derived.Test.YtcganajbfplmpaaPn3
namespace Go.Proofs.Ytcganajbfplmpaa
open Go.RowKit Go.Lap
set_option linter.unusedVariables false

set_option maxHeartbeats 1000000 in
theorem pnew (w : World) : Calls Try.prog 23 #[] w fun e w' => ∃ p nm lm, e = .returned (.pointer (some ⟨p, 0, none⟩)) ∧ PnAt w' p nm lm (fun _ => none) 0 (fun _ => none) 0 ∧ (∀ k, PnF p nm lm k → w.heap.size ≤ k) ∧ New w w' := by
  have hmk := @run_makeMap Try.prog
  have ha := MpAt.made Try.prog 9 litS okS w
  have hb := MpAt.made Try.prog 55 litU okU (w.alloc (.map #[] 0))
  rw [World.size_alloc] at hb
  have hc := Blk.mk_new ((w.alloc (.map #[] 0)).alloc (.map #[] 0)) 102 #[.map (some w.heap.size), .map (some (w.heap.size + 1))]
  rw [World.size_alloc, World.size_alloc] at hc
  have hN1 := (New.refl (w.alloc (.map #[] 0))).alloc (.map #[] 0)
  have hN2 := (New.refl ((w.alloc (.map #[] 0)).alloc (.map #[] 0))).alloc (.cells #[.map (some w.heap.size), .map (some (w.heap.size + 1))] 102)
  have H := Lib.hid (And.intro hc (And.intro ((ha.new hN1).new hN2) (And.intro (hb.new hN2) (((New.refl w).alloc (.map #[] 0)).trans (hN1.trans hN2)))))
  clear ha hb hc hN1 hN2
  go_enter Try.func23, Try.ntmps23
  go_wp2_with fail
  go_ret
  refine ⟨w.heap.size + 2, w.heap.size, w.heap.size + 1, rfl, ⟨H.out.1, H.out.2.1, H.out.2.2.1, by omega, by omega, by omega⟩, fun k hk => ?_, H.out.2.2.2⟩
  rcases hk with rfl | rfl | rfl <;> omega
end Go.Proofs.Ytcganajbfplmpaa
