/- ConfigOnce, where the arguments are of bulk at most 1048576: the law answers true, and each argument reads afterwards as before; the package-level variables start as the program's text lays them. -/
import Derived.Test.YtinpbjknakncdaaDoorLaw23f
import Derived.Test.YtinpbjknakncdaaDoorBulk23
import Derived.Test.YtinpbjknakncdaaDoorLaid23
import Derived.Test.YtinpbjknakncdaaDoorTie
import Derived.Test.YtinpbjknakncdaaDoorCards
import Derived.Test.YtinpbjknakncdaaDoorDec23
import Derived.SevenTiedAt
import Derived.Deep.DeepHandedRow
namespace Go.Proofs.YtinpbjknakncdaaDoor.pConfigOnce
open Go.ChangeShapes Go.WideShapes Go.ChangeAt Go.RowKit Go.Lap
open Go.ChangeMaps (open_string shut_string)
set_option linter.unusedVariables false
set_option maxRecDepth 100000

theorem laidOut : laidOutB Tryd.prog = true := by kernel_rfl

theorem reads (os : Os) {H : Type} (enc : TypeId × Value → H) : ∃ places, DataW.whole enc Tryd.prog ((World.laidAll Tryd.prog os laidL).forCall (fun _ _ => 0) ⟨#[], #[.agg #[.int .u64 0, .slice none 0 0], .slice none 0 0], []⟩).memory Tryd.f6.params.toList Rows.configOnceSpec.vars false (#[.agg #[.int .u64 0, .slice none 0 0], .slice none 0 0] : Array Value).toList 8 = some ([.agg [.lit (.int .u64 0), .nil], .nil], [], places) :=
  ⟨[], by kernel_rfl⟩
theorem lifted (os : Os) (started : os.Started) (H : Type) (enc : TypeId × Value → H) (F : Stop.Interp) :
    ReturnsInHanded {} Tryd.checked os 6 .any ((Rows.OpenSpec.upto Rows.configOnceSpec).preRow enc Tryd.prog Tryd.f6 Rows.configOnceUptoRow.domain false laidL) (((Rows.OpenSpec.upto Rows.configOnceSpec).at F).post enc Tryd.prog Tryd.f6 false true false false) := by
  obtain ⟨places, hx⟩ := reads os enc
  refine returnsInHanded_of_row (C := Tryd.checked) (s := Rows.OpenSpec.upto Rows.configOnceSpec) ownK started (by kernel_rfl) Tryd.func6 (by
    obtain ⟨w, tape, i, h1, h2, h3, h4, ⟨⟨_, hX⟩, _⟩, h6⟩ := ChangeSpec.witness_shaped (enc := enc) (C := Tryd.checked) (os := os) (f := 6) (fn := Tryd.f6) (s := Rows.configOnceSpec) (conds := []) (apart := false) (X := fun w args => (Rows.OpenSpec.upto Rows.configOnceSpec).preRow enc Tryd.prog Tryd.f6 Rows.configOnceUptoRow.domain false laidL w args) false (World.laidAll Tryd.prog os laidL) #[.agg #[.int .u64 0, .slice none 0 0], .slice none 0 0] 8 (World.laidAll_os _ _ _)
      (World.shaped_of_ZipB (by kernel_rfl) (by kernel_rfl)) (by kernel_rfl) (by kernel_rfl) (by kernel_rfl)
      (OpenSpec.preRow_of_cond 8 hx (by kernel_rfl) (fun k hk => by cases hk; kernel_rfl) (by kernel_rfl) (plainL (laidMet_laidAll _ (by kernel_rfl) (by kernel_rfl))))
    exact ⟨w, tape, i, h1, h2, h3, h4, hX, h6⟩) ?_
  intro W base args ds gs before hval0 hW _ hcond hsz0 hL _ _
  have hval : ∀ (j : Nat) t v, Tryd.f6.params[j]? = some t → args[j]? = some v → Value.okWide Tryd.prog W .any base t v := hval0
  have hW' := hW
  obtain ⟨p, q, hA0, hV, rfl, hfz, hnd⟩ := hW
  have hA : DataW.TrodAll enc Tryd.prog W 0 (fun _ => true) true Tryd.f6.params.toList args.toList ds p := hA0
  have hbulk := bulk_bound (hcond _ rfl)
  rw [Tryd.params6] at hA hval
  obtain ⟨v0, vs0, d0, ds0, p0, q0, hargs, rfl, rfl, h0, r0⟩ := trodAll_cons hA
  obtain ⟨v1, vs1, d1, ds1, p1, q1, rfl, rfl, rfl, h1, r1⟩ := trodAll_cons r0
  obtain ⟨rfl, rfl, rfl⟩ := trodAll_nil r1
  obtain rfl : args = #[v0, v1] := by cases args; simp_all
  obtain ⟨rfl, rfl⟩ := trodVars_none hV
  have k0 := h0
  have lt0 : ∀ x ∈ p0, x.block < W.heap.size := by obtain ⟨m, hm⟩ := k0; exact DataW.trod_lt m _ _ _ hm
  have k1 := h1
  have lt1 : ∀ x ∈ p1, x.block < W.heap.size := by obtain ⟨m, hm⟩ := k1; exact DataW.trod_lt m _ _ _ hm
  simp only [List.append_nil, Rows.uptoBulkAll] at hbulk
  obtain ⟨cs0, rfl, ok0⟩ := okAll_of_trod (n := 4) Tryd.underlying25 (by kernel_rfl : flat Tryd.prog 4 25 = some [22, 23]) (hval 0 25 _ rfl rfl) h0
  obtain ⟨e0, u0, rfl, be0, okv0⟩ := decCfg ok0
  obtain ⟨l0, hsl0, hgl0, hll0⟩ := open_sl (n := 4) Tryd.underlying23 (by kernel_rfl : flat Tryd.prog 4 3 = some [3]) (by kernel_rfl) (by decide) (fun _ ok => decInt ok) okv0
  obtain ⟨A1, len1, cap1, rfl⟩ := okWide_slice Tryd.underlying33 (hval 1 33 _ rfl rfl)
  obtain ⟨ls, hsls, hgls, hlls⟩ := open_sl (n := 4) Tryd.underlying33 (by kernel_rfl : flat Tryd.prog 4 9 = some [9]) (by kernel_rfl) (by decide) (fun _ ok => decStr ok) (okL_of_trod rfl h1)
  have hstr := strs_bulk (n := 1048576) (by obtain ⟨m, hm⟩ := k1; exact ⟨m, hm⟩) hsls (by omega)
  have henv := env_of_laid hL
  clear hA0 hval0 hsz0 hL
  refine (configOnce_walk e0 _ l0 _ ls W be0 hsl0 hsls (fun x hx => by have := hstr x hx; omega) henv).mono fun e W' ⟨he, bel⟩ => ?_
  subst he
  exact ⟨_, rfl, _, _, _, [], _, [], hW', trodAll_mk1 (shut_bool Tryd.underlying4 _), (trodAll_cons_mk (Below.trod laidOut (by kernel_rfl) (of_decide_eq_true (by kernel_rfl)) k0 bel lt0) (trodAll_cons_mk (Below.trod laidOut (by kernel_rfl) (of_decide_eq_true (by kernel_rfl)) k1 bel lt1) trodAll_mk0)), rfl, bel.frame _, fun h => by cases h⟩

theorem row_holds : Rows.ConfigOnceUptoSaid :=
  OpenClaim.holds_of_cond 6 Tryd.f6 rfl rfl rfl rfl rfl rfl rfl ⟨rfl, rfl, rfl, rfl, rfl⟩ rfl rfl rfl rfl rfl (by kernel_rfl) Tryd.func6 (by kernel_rfl)
    (of_decide_eq_true (by kernel_rfl)) (by unfold Func.isWrapper; first | (rw [if_pos (by decide +kernel)]; kernel_rfl) | (rw [if_neg (by decide +kernel)]; exact ⟨rfl, rfl⟩))
    (fun os started H enc _ F => by rw [OpenClaim.pre_eq_preRow]; exact lifted os started H enc F)

theorem holds : Rows.ConfigOnceUptoCardSaid :=
  Claim7.holds_tied_plain_at .later [] _ _ _ _ row_holds (fun _ h => by cases h) (by kernel_rfl) (fun _ h => by cases h) configOnceUpto_row_tie rfl ⟨rfl, rfl⟩ (by kernel_rfl) rfl
    (fun f fn hf hfn => by
      obtain rfl : f = 6 := Option.some.inj ((show Tryd.prog.funcNamed "lapstone/lapstonelaw23.ConfigOnce" = some 6 by kernel_rfl).symm.trans hf) |>.symm
      obtain rfl : fn = Tryd.f6 := (Option.some.inj (Tryd.func6.symm.trans hfn)).symm
      exact ⟨by kernel_rfl, fun j t ht => by
        rw [Tryd.params6] at ht
        have hm : t ∈ [25, 33] := by simpa using Array.mem_of_getElem? ht
        have hall : ([25, 33].all fun u => !Tryd.prog.wantsStandIn u) = true := by kernel_rfl
        exact (show Tryd.prog.wantsStandIn t = false by simpa using List.all_eq_true.1 hall t hm)⟩)
    (by kernel_rfl)

#print axioms holds
end Go.Proofs.YtinpbjknakncdaaDoor.pConfigOnce
