/- Chapter 23 (config): who is beside a node; the law's of. -/
import Derived.Test.YtinpbjknakncdaaDoorCfgE
namespace Go.Proofs.YtinpbjknakncdaaDoor
open Go.RowKit Go.Lap
set_option linter.unusedVariables false

/-- Who stands at place k, where the node is there (i). -/
def atC (ms : List Int) (i k : Int) : Int × Bool := if 0 ≤ i ∧ 0 ≤ k then (match ms[k.toNat]? with | some x => (x, true) | none => (0, false)) else (0, false)
theorem at_no {ms : List Int} {i k : Int} (h : i < 0 ∨ k < 0 ∨ (ms.length : Int) ≤ k) : atC ms i k = (0, false) := by
  unfold atC
  split
  · rename_i h2
    have : ms[k.toNat]? = none := List.getElem?_eq_none (by omega)
    rw [this]
  · rfl
theorem at_yes {ms : List Int} {i : Int} {k : Nat} {x : Int} (hi : 0 ≤ i) (hx : ms[k]? = some x) : atC ms i (k : Int) = (x, true) := by
  unfold atC
  rw [if_pos ⟨hi, by omega⟩, Int.toNat_natCast, hx]
def AtPost (w : World) (r : Int × Bool) (e : Ending) (w' : World) : Prop := e = .returned (.tuple #[.int .i64 r.1, .bool r.2]) ∧ New w w'
theorem AtPost.no {w w' : World} {r : Int × Bool} (hr : r = (0, false)) (hn : New w w') : AtPost w r (.returned (.tuple #[.int .i64 0, .bool false])) w' := by subst hr; exact ⟨rfl, hn⟩
theorem AtPost.yes {w w' : World} {r : Int × Bool} {x : Int} (hr : r = (x, true)) (hn : New w w') : AtPost w r (.returned (.tuple #[.int .i64 x, .bool true])) w' := by subst hr; exact ⟨rfl, hn⟩

set_option maxRecDepth 100000 in
set_option maxHeartbeats 4000000 in
theorem atFn_any (k i : Int) (gi gb : Nat) (e : Nat) (A : Option Addr) (cap : Nat) (ms : List Int) (w : World) (hi : w.cell? ⟨gi, 0, none⟩ = some (.int .i64 i)) (hb : Blk w gb 25 #[.int .u64 (e : Int), .slice A ms.length cap]) (hs : SlIn w 1 iEnc (.slice A ms.length cap) ms) :
    Calls Tryd.prog 56 #[.int .i64 k, .pointer (some ⟨gi, 0, none⟩), .pointer (some ⟨gb, 0, none⟩)] w (AtPost w (atC ms i k)) := by
  obtain ⟨p0, p1, p2, pz⟩ := Blk2F hb
  by_cases h1 : i < 0
  · have HF := Lib.hid (at_no (ms := ms) (k := k) (.inl h1))
    clear hs
    go_enter Tryd.func56, Tryd.ntmps56
    go_wp2_with fail
    go_ret2
    exact AtPost.no HF.out (New.refl _)
  by_cases h2 : k < 0
  · have HF := Lib.hid (at_no (ms := ms) (i := i) (.inr (.inl h2)))
    clear hs
    go_enter Tryd.func56, Tryd.ntmps56
    go_wp2_with fail
    go_ret2
    exact AtPost.no HF.out (New.refl _)
  by_cases h3 : (ms.length : Int) ≤ k
  · have HF := Lib.hid (at_no (ms := ms) (i := i) (.inr (.inr h3)))
    clear hs
    go_enter Tryd.func56, Tryd.ntmps56
    go_wp2_with fail
    go_ret2
    exact AtPost.no HF.out (New.refl _)
  obtain ⟨m, rfl⟩ : ∃ m : Nat, k = (m : Int) := ⟨k.toNat, by omega⟩
  have hlt : m < ms.length := by omega
  have hlt2 : (m : Int) < (ms.length : Int) := by omega
  have hk0 : (0 : Int) ≤ (m : Int) := by omega
  obtain ⟨A', c', hv, _, hh⟩ := hs
  cases hv
  rcases hh with rfl | ⟨b, off, rfl, hbb, hc⟩
  · simp at hlt
  obtain ⟨x, hx⟩ : ∃ x, ms[m]? = some x := ⟨_, List.getElem?_eq_getElem hlt⟩
  have e0 := SlIn.int_at hc hx
  have HF := Lib.hid (at_yes (i := i) (by omega) hx)
  clear hc hx
  go_enter Tryd.func56, Tryd.ntmps56
  go_wp2_with fail
  go_ret2
  exact AtPost.yes HF.out (New.refl _)

set_option maxRecDepth 100000 in
set_option maxHeartbeats 4000000 in
theorem beside_any (e : Nat) (v : Value) (ms : List Int) (n d : Int) (w : World) (hl : ms.length ≤ 1000000000) (hd : d = 1 ∨ d = -1) (hs : SlIn w 1 iEnc v ms) :
    Calls Tryd.prog 41 #[.agg #[.int .u64 (e : Int), v], .int .i64 n, .int .i64 d] w (AtPost w (atC ms (placeC ms n) (placeC ms n + d))) := by
  obtain ⟨A, m, cap, rfl⟩ := hs.shape
  obtain ⟨A', c', hv, hlc, -⟩ := id hs
  cases hv
  have hN := (New.refl w).alloc (.cells #[.int .u64 (e : Int), .slice A ms.length cap] 25)
  have hB := Blk.mk_new w 25 #[.int .u64 (e : Int), .slice A ms.length cap]
  have HS := Lib.hid (hs.new hN)
  clear hs
  have hpb : -1 ≤ placeC ms n ∧ placeC ms n < 1000000000 := by rcases place_cases ms n with ⟨_, h⟩ | ⟨k, hk, _, _, h⟩ <;> rw [h] <;> omega
  go_enter Tryd.func41, Tryd.ntmps41
  obtain ⟨p0, p1, p2, pz⟩ := Blk2F hB
  go_upto_region 1 with fail
  generalize w.alloc _ = w1 at *
  go_wp2_with fail
  refine (place_any e _ ms n w1 hl HS.out).mono ?_
  rintro e1 w2 ⟨rfl, hn2⟩
  have hB2 := hB.new hn2
  have hN2 := hN.trans hn2
  have hP := Blk.mk_new w2 3 #[.int .i64 (placeC ms n)]
  have hAx := (New.refl w2).alloc (.cells #[.int .i64 (placeC ms n)] 3)
  have HS3 := Lib.hid ((HS.out.new hn2).new hAx)
  have HB3 := Lib.hid (hB2.new hAx)
  have HN3 := Lib.hid (hN2.trans hAx)
  have c1 := hP.cell 0
  have HP := Lib.hid hP
  clear hB hN HS hn2 hB2 hN2 hP hAx p0 p1 p2 pz
  generalize placeC ms n = i at *
  have hw : IntKind.i64.wrap (i + d) = i + d := by rw [IntWalk.i64_in _ (by omega)]
  go_upto_region 2 with fail
  generalize w2.heap.size = gi at *
  generalize w2.alloc _ = w3 at *
  have hgi := HP.out.lt
  have c2 : w3.cell? ⟨gi, 0, none⟩ = some (.int .i64 i) := c1
  clear c1
  go_wp2_with fail
  refine (atFn_any (i + d) i gi w.heap.size e A cap ms w3 c2 HB3.out HS3.out).mono ?_
  rintro e1 w4 ⟨rfl, hn4⟩
  go_wp2_with fail
  go_ret2
  exact ⟨rfl, HN3.out.trans hn4⟩

set_option maxHeartbeats 1000000 in
theorem next_any (e : Nat) (v : Value) (ms : List Int) (n : Int) (w : World) (hl : ms.length ≤ 1000000000) (hs : SlIn w 1 iEnc v ms) :
    Calls Tryd.prog 25 #[.agg #[.int .u64 (e : Int), v], .int .i64 n] w (AtPost w (atC ms (placeC ms n) (placeC ms n + 1))) := by
  obtain ⟨A, m, cap, rfl⟩ := hs.shape
  have hN := (New.refl w).alloc (.cells #[.int .u64 (e : Int), .slice A m cap] 25)
  have HS := Lib.hid (hs.new hN)
  clear hs
  go_enter Tryd.func25, Tryd.ntmps25
  go_wp2_with fail
  refine (beside_any e _ ms n 1 _ hl (.inl rfl) HS.out).mono ?_
  rintro e1 w2 ⟨rfl, hn2⟩
  generalize atC ms (placeC ms n) (placeC ms n + 1) = r at *
  obtain ⟨r1, r2⟩ := r
  go_wp2_with fail
  go_ret2
  exact ⟨rfl, hN.trans hn2⟩
set_option maxHeartbeats 1000000 in
theorem before_any (e : Nat) (v : Value) (ms : List Int) (n : Int) (w : World) (hl : ms.length ≤ 1000000000) (hs : SlIn w 1 iEnc v ms) :
    Calls Tryd.prog 26 #[.agg #[.int .u64 (e : Int), v], .int .i64 n] w (AtPost w (atC ms (placeC ms n) (placeC ms n + -1))) := by
  obtain ⟨A, m, cap, rfl⟩ := hs.shape
  have hN := (New.refl w).alloc (.cells #[.int .u64 (e : Int), .slice A m cap] 25)
  have HS := Lib.hid (hs.new hN)
  clear hs
  go_enter Tryd.func26, Tryd.ntmps26
  go_wp2_with fail
  refine (beside_any e _ ms n (-1) _ hl (.inr rfl) HS.out).mono ?_
  rintro e1 w2 ⟨rfl, hn2⟩
  generalize atC ms (placeC ms n) (placeC ms n + -1) = r at *
  obtain ⟨r1, r2⟩ := r
  go_wp2_with fail
  go_ret2
  exact ⟨rfl, hN.trans hn2⟩

set_option maxHeartbeats 1000000 in
theorem of_any (e : Nat) (A : Option Addr) (n cap : Nat) (w : World) : Calls Tryd.prog 31 #[.int .u64 (e : Int), .slice A n cap] w fun e' w' => e' = .returned (.agg #[.int .u64 (e : Int), .slice A n cap]) ∧ New w w' := by
  go_enter Tryd.func31, Tryd.ntmps31
  go_wp2_with fail
  exact bodyPost_ret (v := .agg #[.int .u64 (e : Int), .slice A n cap]) (by simp [results, Tryd.results31, go_sem]) rfl ⟨rfl, (New.refl w).alloc _⟩
end Go.Proofs.YtinpbjknakncdaaDoor
