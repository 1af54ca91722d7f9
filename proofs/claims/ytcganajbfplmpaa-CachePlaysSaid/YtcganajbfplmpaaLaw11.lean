/- The law's own example (chapter 11), and the walk of the law CacheLeast: for every input it answers true. -/
import Derived.Test.YtcganajbfplmpaaCaW
import Derived.Test.YtcganajbfplmpaaCa7
import Derived.Laws.StructEq
namespace Go.Proofs.Ytcganajbfplmpaa
open Go.RowKit Go.Lap
set_option linter.unusedVariables false

set_option maxRecDepth 100000 in
set_option maxHeartbeats 4000000 in
theorem awake11 (w : World) : Calls Try.prog 11 #[] w fun e w' => e = .returned (.bool true) ∧ New w w' := by
  go_enter Try.func11, Try.ntmps11
  go_wp2_with fail
  refine (newC 2 _ (by decide) (by decide)).mono ?_
  rintro e w1 ⟨c, rfl, h1, hn1⟩
  have hF1 : ∀ k, Grow (fun _ => False) w w1 k → w.heap.size ≤ k := fun k hk => hk.elim (fun h => h.elim) (fun h => h.1)
  generalize Grow (fun _ => False) w w1 = F1 at h1 hF1
  go_wp2_with fail
  refine (put_to _ h1 1 (by decide) ⟨#[97]⟩ true (v := .tuple #[.agg #[.int .i64 0, .string ⟨#[]⟩, .bool false], .bool false]) (E' := [⟨1, ⟨#[97]⟩, true⟩]) rfl rfl).mono ?_
  rintro e w2 ⟨rfl, h2, hu2⟩
  have hF2 : ∀ k, Grow F1 w1 w2 k → w.heap.size ≤ k := fun k hk => hk.elim (hF1 k) (fun h => Nat.le_trans hn1.size h.1)
  have hn2 : New w w2 := hn1.upd hu2 hF1
  generalize Grow F1 w1 w2 = F2 at h2 hF2
  clear hu2 h1 hF1 hn1
  go_wp2_with fail
  refine (put_to _ h2 2 (by decide) ⟨#[98]⟩ false (v := .tuple #[.agg #[.int .i64 0, .string ⟨#[]⟩, .bool false], .bool false]) (E' := [⟨2, ⟨#[98]⟩, false⟩, ⟨1, ⟨#[97]⟩, true⟩]) rfl rfl).mono ?_
  rintro e w3 ⟨rfl, h3, hu3⟩
  have hF3 : ∀ k, Grow F2 w2 w3 k → w.heap.size ≤ k := fun k hk => hk.elim (hF2 k) (fun h => Nat.le_trans hn2.size h.1)
  have hn3 : New w w3 := hn2.upd hu3 hF2
  generalize Grow F2 w2 w3 = F3 at h3 hF3
  clear hu3 h2 hF2 hn2
  go_wp2_with fail
  refine (get_is _ h3 1 (by decide) (x := ⟨1, ⟨#[97]⟩, true⟩) rfl).mono ?_
  rintro e w4 ⟨rfl, h4, hu4⟩
  have h4 : CSt w4 F3 c 2 [⟨1, ⟨#[97]⟩, true⟩, ⟨2, ⟨#[98]⟩, false⟩] := h4
  have hn4 : New w w4 := hn3.upd hu4 hF3
  clear hu4 h3 hn3
  go_wp2_with fail
  refine (put_to _ h4 3 (by decide) ⟨#[99]⟩ false (v := .tuple #[.agg #[.int .i64 2, .string ⟨#[98]⟩, .bool false], .bool true]) (E' := [⟨3, ⟨#[99]⟩, false⟩, ⟨1, ⟨#[97]⟩, true⟩]) rfl rfl).mono ?_
  rintro e w5 ⟨rfl, h5, hu5⟩
  have hn5 : New w w5 := hn4.upd hu5 hF3
  clear hu5 h4 hn4
  have hB := Blk.mk_new w5 32 #[.int .i64 2, .string ⟨#[98]⟩, .bool false]
  have h6 := h5.new ((New.refl w5).alloc (.cells #[.int .i64 2, .string ⟨#[98]⟩, .bool false] 32))
  have hn6 := hn5.alloc (.cells #[.int .i64 2, .string ⟨#[98]⟩, .bool false] 32)
  go_wp2_with fail
  refine (listC _ h6).mono ?_
  rintro e w7 ⟨u, rfl, ho, hn7⟩
  have h7 := h6.new hn7
  have hB7 := hB.new hn7
  obtain ⟨q0, q1, q2, q3, qz⟩ := Blk3G hB7
  obtain ⟨A, cp, rfl, hcp, hor⟩ := Owns.slIn entOk ho
  obtain ⟨b, off, rfl, hb, hc⟩ := hor.resolve_left (by simp)
  have e0 : w7.cell? ⟨b, off, none⟩ = some (.int .i64 3) := hc 0 _ rfl 0 _ rfl
  have e3 : w7.cell? ⟨b, off + 3, none⟩ = some (.int .i64 1) := by have := hc 1 _ rfl 0 _ rfl; simpa using this
  have e4 : w7.cell? ⟨b, off + 3 + 1, none⟩ = some (.string ⟨#[97]⟩) := by have := hc 1 _ rfl 1 _ rfl; simpa using this
  have e5 : w7.cell? ⟨b, off + 3 + 2, none⟩ = some (.bool true) := by have := hc 1 _ rfl 2 _ rfl; simpa using this
  clear hc hor hB7 hB h5 h6
  have hcp2 : 2 ≤ cp := hcp
  simp only [List.length_cons, List.length_nil]
  go_wp2_with fail
  refine (lenC _ h7).mono ?_
  rintro e w8 ⟨rfl, rfl⟩
  go_wp2_with fail
  go_ret
  exact ⟨rfl, hn6.trans hn7⟩
end Go.Proofs.Ytcganajbfplmpaa
