/- The walk of the law ConfigShows (chapter 23): for every input it answers true. -/
import Derived.Test.YtinpbjknakncdaaDoorCfgO
namespace Go.Proofs.YtinpbjknakncdaaDoor
open Go.RowKit Go.Lap
set_option linter.unusedVariables false

set_option maxRecDepth 100000 in
set_option maxHeartbeats 4000000 in
theorem configShows_walk (j : Bool) (ep : Nat) (n : Int) (w : World) (hep : ep < 18446744073709551616) (hn : n ≤ 9223372036854775807) (he : Env w) :
    Calls Tryd.prog 5 #[.bool j, .int .u64 (ep : Int), .int .i64 n] w fun e w' => e = .returned (.bool true) ∧ New w w' := by
  have hs1 := fun wx hx => show_any j ep n wx hep hn hx
  have hs2 := fun wx => refShow_any j ep n wx hep hn
  have HE := Lib.hid he
  clear he
  generalize str (showL j ep (max n 0).toNat) = sh at *
  go_enter Tryd.func5, Tryd.ntmps5
  go_wp2_with fail
  refine (awake23 _ HE.out).mono ?_
  rintro e w1 ⟨rfl, hn1⟩
  go_wp2_with fail
  refine (hs1 _ (HE.out.new hn1)).mono ?_
  rintro e w2 ⟨rfl, hn2⟩
  go_wp2_with fail
  refine (hs2 _).mono ?_
  rintro e w3 ⟨rfl, hn3⟩
  go_wp2_with fail
  go_ret
  exact ⟨rfl, hn1.trans (hn2.trans hn3)⟩
end Go.Proofs.YtinpbjknakncdaaDoor
