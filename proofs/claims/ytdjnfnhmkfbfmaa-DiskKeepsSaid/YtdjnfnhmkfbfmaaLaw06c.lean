/- Chapter 6 (disk): the laws' own example. -/
import Derived.Test.YtdjnfnhmkfbfmaaLaw06b
import Derived.Lib.SlBytesConst
namespace Go.Proofs.Ytdjnfnhmkfbfmaa
open Go.RowKit Go.Lap
set_option linter.unusedVariables false

set_option maxRecDepth 100000 in
set_option maxHeartbeats 4000000 in
theorem awake06 (w : World) : Calls Try.prog 29 #[] w fun e w' => e = .returned (.bool true) ∧ New w w' := by
  have kc := fun (w : World) (C : Array Value) (n c : Nat) => Lib.run_convert_bytes_const (P := Try.prog) w 63 5 C n c Try.underlying63 Try.underlying5
  go_enter Try.func29, Try.ntmps29
  go_wp2_with fail
  refine (new_s 9 _ (by decide) (by decide)).mono ?_
  rintro e w1 ⟨d, rfl, h1, hn1⟩
  have b1 : DB w w1 d _ := ⟨h1, hn1⟩
  clear h1 hn1
  have s1 := made_bytes w1 [97, 98, 99] (3, 4)
  have b1' := b1.new ((New.refl w1).alloc (.cells (([97, 98, 99] : List UInt8).map (fun b => Value.int .u8 (b.toNat : Int))).toArray 5 (3, 4)))
  go_wp2_with fail
  refine (write_s _ b1'.1 3 (by decide) s1 (by decide) (by decide)).mono ?_
  rintro e w2 ⟨rfl, hr⟩
  have b2 := b1'.step hr
  rw [show writeR (newD 9) 3 ([97, 98, 99] : List UInt8).length = 0 by decide]
  clear hr b1 b1' s1
  go_wp2_with fail
  refine (sync_s _ b2.1).mono ?_
  rintro e w3 ⟨rfl, hr⟩
  have b3 := b2.step hr
  clear hr b2
  have s3 := made_bytes w3 [120, 121] (2, 3)
  have b3' := b3.new ((New.refl w3).alloc (.cells (([120, 121] : List UInt8).map (fun b => Value.int .u8 (b.toNat : Int))).toArray 5 (2, 3)))
  go_wp2_with fail
  refine (write_s _ b3'.1 3 (by decide) s3 (by decide) (by decide)).mono ?_
  rintro e w4 ⟨rfl, hr⟩
  have b4 := b3'.step hr
  rw [show writeR (syncD (writeD (newD 9) 3 [97, 98, 99])) 3 ([120, 121] : List UInt8).length = 0 by decide]
  clear hr b3 b3' s3
  have s4 := made_bytes w4 [113] (1, 2)
  have b4' := b4.new ((New.refl w4).alloc (.cells (([113] : List UInt8).map (fun b => Value.int .u8 (b.toNat : Int))).toArray 5 (1, 2)))
  go_wp2_with fail
  refine (write_s _ b4'.1 4 (by decide) s4 (by decide) (by decide)).mono ?_
  rintro e w5 ⟨rfl, hr⟩
  have b5 := b4'.step hr
  rw [show writeR (writeD (syncD (writeD (newD 9) 3 [97, 98, 99])) 3 [120, 121]) 4 ([113] : List UInt8).length = 0 by decide]
  clear hr b4 b4' s4
  go_wp2_with fail
  refine (copy_s _ b5.1 (by decide)).mono ?_
  rintro e w6 ⟨c, rfl, hc6, hn6⟩
  have hd6 : DSt w6 (fun k => w.heap.size ≤ k ∧ k < w5.heap.size) d _ := b5.1.ltG.new hn6
  have hN6 : New w w6 := b5.2.trans hn6
  clear b5
  have hNs : New w6 (w6.alloc (.cells #[.int .i64 0, .int .i64 1] 71)) := (New.refl w6).alloc _
  have hs6 : SlIn (w6.alloc (.cells #[.int .i64 0, .int .i64 1] 71)) 2 svE (.slice (some ⟨w6.heap.size, 0, none⟩) 1 1) [(0, 1)] := SlIn.one (x := ((0, 1) : Int × Int)) (Blk.mk_new w6 _ _) svEOk rfl
  have hc7 := hc6.new hNs
  have hd7 := hd6.new hNs
  go_wp2_with fail
  refine (crash_s _ hd7 hs6 (by decide) (by decide) (by decide)).mono ?_
  rintro e w8 ⟨rfl, hr⟩
  have hd8 := hr.1
  have hc8 := hc7.other hr.2 (fun k hk h => by omega)
  have hN8 := (hN6.trans hNs).upd hr.2.upd (fun k hk => hk.1)
  generalize Grw (fun k => w.heap.size ≤ k ∧ k < w5.heap.size) _ w8 = F at hd8
  clear hr hd7 hc7 hs6 hNs hc6 hd6
  go_wp2_with fail
  refine (readS_s _ hd8 3 (by decide) (bs := [120, 98, 99]) (by decide)).mono ?_
  rintro e w9 ⟨v, rfl, hs9, hn9⟩
  have hd9 := hd8.new hn9
  have hc9 := hc8.new hn9
  go_wp2_with fail
  refine (readN_s _ hd9 4 (by decide) (by decide)).mono ?_
  rintro e w10 ⟨rfl, hn10⟩
  have hd10 := hd9.new hn10
  have hc10 := hc9.new hn10
  have hN10 := hN8.trans (hn9.trans hn10)
  have hcv := run_str w10 (hs9.new hn10)
  rw [show str [120, 98, 99] = ⟨#[120, 98, 99]⟩ from rfl] at hcv
  go_wp2_with fail
  refine (used_s _ hc10).mono ?_
  rintro e w11 ⟨rfl, rfl⟩
  go_wp2_with fail
  refine (pend_s _ hc10).mono ?_
  rintro e w12 ⟨rfl, rfl⟩
  go_wp2_with fail
  refine (used_s _ hd10).mono ?_
  rintro e w13 ⟨rfl, rfl⟩
  go_wp2_with fail
  go_ret
  exact ⟨rfl, hN10⟩
end Go.Proofs.Ytdjnfnhmkfbfmaa
