/- Chapter 5 (batch): Sorted, of few writes. -/
import Derived.Test.YtdobingccipkkaaBat11
import Derived.Test.YtdobingccipkkaaBat7
namespace Go.Proofs.Ytdobingccipkkaa
open Go.RowKit Go.Lap
set_option linter.unusedVariables false

/-- Sorted rows of writes: one contract for the insertion sort's callers. -/
def SortsTo (w0 : World) (base g n cap : Nat) (l : List Wri) (e : Ending) (w' : World) : Prop := e = .returned (.tuple #[]) ∧ Upd (· = g) w0 w' ∧ Owns w' base 43 3 Wri.enc (.slice (some ⟨g, 0, none⟩) n cap) (sortW l)

theorem insSort_all (base g n cap : Nat) (l : List Wri) (w : World) (hn : n ≤ 100000) (hl : n = l.length) (ho : Owns w base 43 3 Wri.enc (.slice (some ⟨g, 0, none⟩) n cap) l) :
    Calls Try.prog 55 #[.slice (some ⟨g, 0, none⟩) n cap, .int .i64 0, .int .i64 (n : Int), (.func (.func 28) #[] #[])] w (SortsTo w base g n cap l) := by
  have h := insSort_any base g n cap [] l [] w hn (by simpa using hl) (by simpa using ho)
  simp only [List.length_nil, Nat.zero_add, List.nil_append, List.append_nil, ← hl] at h
  exact h

set_option maxRecDepth 100000 in
set_option maxHeartbeats 1000000 in
theorem stable_small (base g n cap : Nat) (l : List Wri) (w : World) (hn : n < 20) (hl : n = l.length) (ho : Owns w base 43 3 Wri.enc (.slice (some ⟨g, 0, none⟩) n cap) l) :
    Calls Try.prog 47 #[.slice (some ⟨g, 0, none⟩) n cap, .int .i64 (n : Int), (.func (.func 28) #[] #[])] w (SortsTo w base g n cap l) := by
  have hc := insSort_all base g n cap l w (by omega) hl ho
  have h20 : ¬ (20 : Int) ≤ (n : Int) := by omega
  have h21 : ¬ (20 : Int) < (n : Int) := by omega
  clear hl ho
  go_enter Try.func47, Try.ntmps47
  go_wp2_with fail
  refine wp_loop_rounds 1 ?_
  rw [rounds_succ]
  go_wp2_with fail
  refine hc.mono ?_
  rintro e w1 ⟨rfl, hu, ho⟩
  go_wp2_with fail
  refine wp_loop_rounds 1 ?_
  rw [rounds_succ]
  go_wp2_with fail
  go_end0
  exact ⟨rfl, hu, ho⟩

set_option maxRecDepth 100000 in
set_option maxHeartbeats 1000000 in
theorem sortStable_small (base g n cap : Nat) (l : List Wri) (w : World) (hn : n < 20) (hl : n = l.length) (ho : Owns w base 43 3 Wri.enc (.slice (some ⟨g, 0, none⟩) n cap) l) :
    Calls Try.prog 27 #[.slice (some ⟨g, 0, none⟩) n cap, (.func (.func 28) #[] #[])] w (SortsTo w base g n cap l) := by
  have hc := stable_small base g n cap l w hn hl ho
  clear hl ho
  go_enter Try.func27, Try.ntmps27
  go_wp2_with fail
  refine hc.mono ?_
  rintro e w1 ⟨rfl, hu, ho⟩
  go_wp2_with fail
  go_end0
  exact ⟨rfl, hu, ho⟩

/-- A batch with its writes in order. -/
def SortPost (w : World) (c r s : Nat) (l : List Wri) (e : Ending) (w' : World) : Prop := ∃ u, e = .returned (.agg #[.int .u64 (c : Int), .int .u64 (r : Int), .int .u64 (s : Int), u]) ∧ Owns w' w.heap.size 43 3 Wri.enc u (sortW l) ∧ New w w'

theorem owns_some {w : World} {base a b : Nat} {v : Value} {l : List Wri} (h : Owns w base 43 3 Wri.enc v l) (hb : v.ownBlock = some a ∨ v.ownBlock = some b) : ∃ g cap, v = .slice (some ⟨g, 0, none⟩) l.length cap ∧ base ≤ g ∧ g < w.heap.size := by
  have hlt := h.lt
  rcases h.2 with ⟨rfl, _⟩ | ⟨g, cap, cur, rfl, hg, hh, _⟩
  · rcases hb with hb | hb <;> simp [Value.ownBlock] at hb
  · exact ⟨g, cap, rfl, hg, Blk.lt hh⟩

set_option maxRecDepth 100000 in
set_option maxHeartbeats 2000000 in
theorem sorted_of (K : List Wri → Prop) (hK : ∀ l, K l → l.length ≤ 100000)
    (hsort : ∀ (base g n cap : Nat) (l : List Wri) (w : World), K l → n = l.length → Owns w base 43 3 Wri.enc (.slice (some ⟨g, 0, none⟩) n cap) l → Calls Try.prog 27 #[.slice (some ⟨g, 0, none⟩) n cap, (.func (.func 28) #[] #[])] w (SortsTo w base g n cap l))
    (c r s : Nat) (v : Value) (l : List Wri) (w : World) (hl : K l) (hs : SlIn w 3 Wri.enc v l) :
    Calls Try.prog 15 #[.agg #[.int .u64 (c : Int), .int .u64 (r : Int), .int .u64 (s : Int), v]] w (SortPost w c r s l) := by
  have hlen := hK l hl
  have HS := fun base g cap wx ho => hsort base g l.length cap l wx hl rfl ho
  clear hsort hK hl
  obtain ⟨A, n, cap, rfl⟩ := hs.shape
  have hB := (Blk.mk_new w 25 #[.int .u64 (c : Int), .int .u64 (r : Int), .int .u64 (s : Int), .slice A n cap]).alloc (.cells #[.int .u64 0, .int .u64 0, .int .u64 0, .slice none 0 0] 25)
  have hR := Blk.mk_new (w.alloc (.cells #[.int .u64 (c : Int), .int .u64 (r : Int), .int .u64 (s : Int), .slice A n cap] 25)) 25 #[.int .u64 0, .int .u64 0, .int .u64 0, .slice none 0 0]
  rw [World.size_alloc] at hR
  have hN := ((New.refl w).alloc (.cells #[.int .u64 (c : Int), .int .u64 (r : Int), .int .u64 (s : Int), .slice A n cap] 25)).alloc (.cells #[.int .u64 0, .int .u64 0, .int .u64 0, .slice none 0 0] 25)
  go_enter Try.func15, Try.ntmps15
  go_upto_region 1 with fail
  have hs1 := hs.new hN
  have hsz : ((w.alloc (.cells #[.int .u64 (c : Int), .int .u64 (r : Int), .int .u64 (s : Int), .slice A n cap] 25)).alloc (.cells #[.int .u64 0, .int .u64 0, .int .u64 0, .slice none 0 0] 25)).heap.size = w.heap.size + 2 := by rw [World.size_alloc, World.size_alloc]
  generalize (w.alloc (.cells #[.int .u64 (c : Int), .int .u64 (r : Int), .int .u64 (s : Int), .slice A n cap] 25)).alloc (.cells #[.int .u64 0, .int .u64 0, .int .u64 0, .slice none 0 0] 25) = w1 at *
  have hO1 : Owns (w1.alloc (.cells #[] 43)) (w.heap.size + 2) 43 3 Wri.enc (.slice (some ⟨w1.heap.size, 0, none⟩) 0 0) ([] : List Wri) := World.ownsRow_made w1 #[] 0 (by omega) (by unfold maxLen; omega) rfl
  rw [hsz] at hO1
  have hs2 := hs1.alloc (.cells #[] 43)
  have hB2 := hB.alloc (.cells #[] 43)
  have hR2 := hR.alloc (.cells #[] 43)
  have hN2 := hN.alloc (.cells #[] 43)
  have HM1 := Lib.hid (show ([] : List Wri).length + l.length ≤ maxLen by unfold maxLen; simp only [List.length_nil]; omega)
  have HM2 := Lib.hid (show (([] : List Wri).length + l.length) * 40 ≤ 140737488355328 by simp only [List.length_nil]; omega)
  have HM3 := Lib.hid (show w.heap.size + 2 ≤ (w1.alloc (.cells #[] 43)).heap.size by rw [World.size_alloc]; omega)
  obtain ⟨p0, p1, p2, p3, p4, pz⟩ := Blk4F hB
  go_wp2_with (at_builtin; refine wpList_app wTy Wri.encOk rfl _ _ rfl rfl rfl hO1 hs2 HM1.out HM2.out HM3.out ?_; intro v2 w2 ho2 hg2 hb2; rw [List.nil_append] at ho2; have hu2 : Upd (· = w.heap.size + 2) (w1.alloc (.cells #[] 43)) w2 := (Upd.refl _ _).grown hg2 (fun k _ hk => (Option.some.inj hk).symm); have hB3 := hB2.upd hu2 (by omega); have hR3 := hR2.upd hu2 (by omega); have hN3 := hN2.upd hu2 (fun k hk => by omega); obtain ⟨t0, t1, t2, t3, t4, tz⟩ := Blk4F hB3; obtain ⟨g, cap2, rfl, hgb, hgl⟩ := owns_some ho2 hb2)
  have hu4 : Upd (· = w.heap.size) w2 (w2.setCell ⟨w.heap.size, 3, none⟩ (.slice (some ⟨g, 0, none⟩) l.length cap2)) := (Upd.refl _ w2).setIn 3 _
  have hB4 : Blk (w2.setCell ⟨w.heap.size, 3, none⟩ (.slice (some ⟨g, 0, none⟩) l.length cap2)) w.heap.size 25 #[.int .u64 (c : Int), .int .u64 (r : Int), .int .u64 (s : Int), .slice (some ⟨g, 0, none⟩) l.length cap2] := Blk.set_ hB3 3 _
  have hR4 := hR3.upd hu4 (by omega)
  have hN4 := hN3.upd hu4 (fun k hk => by omega)
  have hO4 := ho2.upd hu4 (fun k hk e => by have := (ho2.lt k hk).1; omega)
  refine (HS (w.heap.size + 2) g cap2 _ hO4).mono ?_
  rintro e w5 ⟨rfl, hu5, hO5⟩
  have hB5 := hB4.upd hu5 (by omega)
  have hR5 := hR4.upd hu5 (by omega)
  have hN5 := hN4.upd hu5 (fun k hk => by omega)
  clear hB hR hB2 hR2 hN2 hB3 hR3 hN3 hB4 hR4 hN4 hO4 hu4 hu2 hO1 hs2 p0 p1 p2 p3 p4 pz t0 t1 t2 t3 t4 tz HS ho2 hg2 hb2 hs1 hN
  obtain ⟨p0, p1, p2, p3, p4, pz⟩ := Blk4F hB5
  obtain ⟨q0, q1, q2, q3, q4, qz⟩ := Blk4F hR5
  go_wp2_with fail
  have hu6 : Upd (· = w.heap.size + 1) w5 ((((w5.setCell ⟨w.heap.size + 1, 0, none⟩ (.int .u64 (c : Int))).setCell ⟨w.heap.size + 1, 1, none⟩ (.int .u64 (r : Int))).setCell ⟨w.heap.size + 1, 2, none⟩ (.int .u64 (s : Int))).setCell ⟨w.heap.size + 1, 3, none⟩ (.slice (some ⟨g, 0, none⟩) l.length cap2)) := ((((Upd.refl _ w5).setIn 0 _).setIn 1 _).setIn 2 _).setIn 3 _
  exact bodyPost_ret (v := .agg #[.int .u64 (c : Int), .int .u64 (r : Int), .int .u64 (s : Int), .slice (some ⟨g, 0, none⟩) l.length cap2]) (by simp [results, Try.results15, go_sem, q1, q2, q3, q4]) rfl ⟨_, rfl, (hO5.upd hu6 (fun k hk e => by have := (hO5.lt k hk).1; omega)).lower (by omega), hN5.upd hu6 (fun k hk => by omega)⟩

theorem sorted_small (c r s : Nat) (v : Value) (l : List Wri) (w : World) (hl : l.length < 20) (hs : SlIn w 3 Wri.enc v l) :
    Calls Try.prog 15 #[.agg #[.int .u64 (c : Int), .int .u64 (r : Int), .int .u64 (s : Int), v]] w (SortPost w c r s l) :=
  sorted_of (fun l => l.length < 20) (fun _ h => by omega) (fun base g n cap l w h hn ho => sortStable_small base g n cap l w (by omega) hn ho) c r s v l w hl hs
end Go.Proofs.Ytdobingccipkkaa
