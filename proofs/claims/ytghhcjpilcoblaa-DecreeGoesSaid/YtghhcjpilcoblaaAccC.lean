/- The contract of accept.Bytes (chapter 20). -/
import Derived.Test.YtghhcjpilcoblaaAccB
namespace Go.Proofs.Ytghhcjpilcoblaa
open Go.RowKit Go.Lap
set_option linter.unusedVariables false

theorem AccAt.upd {w w' : World} {S : Nat → Prop} {g : Nat} {pr pn : Int} {h : Bool} {ar an : Int} {v : ByteArray} (ha : AccAt w g pr pn h ar an v) (hu : Upd S w w') (hS : ¬ S g) : AccAt w' g pr pn h ar an v := Blk.upd ha hu hS
theorem AccAt.new {w w' : World} {g : Nat} {pr pn : Int} {h : Bool} {ar an : Int} {v : ByteArray} (ha : AccAt w g pr pn h ar an v) (hn : New w w') : AccAt w' g pr pn h ar an v := Blk.new ha hn

/-- What Bytes of an acceptor answers. -/
def AccBytesPost (w : World) (bs : List UInt8) (e : Ending) (w' : World) : Prop := ∃ u, e = .returned u ∧ Owns w' w.heap.size 5 1 bEnc u bs ∧ New w w'

set_option maxRecDepth 100000 in
set_option maxHeartbeats 2000000 in
theorem accBytes_any (g pr pn : Nat) (h : Bool) (ar an : Nat) (v : ByteArray) (w : World) (ha : AccAt w g pr pn h ar an v) (h1 : pr < 18446744073709551616) (h2 : pn < 18446744073709551616) (h3 : ar < 18446744073709551616) (h4 : an < 18446744073709551616) (hv : v.size ≤ 65536) :
    Calls Try.prog 12 #[.pointer (some ⟨g, 0, none⟩)] w (AccBytesPost w (accB pr pn h ar an v)) := by
  have hg := Blk.lt ha
  have l1 := varB_len10 h1
  have l2 := varB_len10 h2
  have l3 := varB_len10 h3
  have l4 := varB_len10 h4
  have hr1 : ∀ n ∈ [pr, pn], n < 18446744073709551616 := by simp; exact ⟨h1, h2⟩
  have hr2 : ∀ n ∈ [ar, an], n < 18446744073709551616 := by simp; exact ⟨h3, h4⟩
  have HR1 := Lib.hid hr1
  have HR2 := Lib.hid hr2
  clear hr1 hr2 h1 h2 h3 h4
  go_enter Try.func12, Try.ntmps12
  go_wp2_with fail
  refine (write_any _).mono ?_
  rintro e w1 ⟨rfl, hw1, hn1⟩
  have ha1 := ha.new hn1
  obtain ⟨hg1, a0, a1, _, _, _, _, _⟩ := ha1.facts
  go_wp2_with fail
  go_region_held3 (fun w' => w'.cell? ⟨g, 0, none⟩ = some (.int .u64 pr) ∧ w'.cell? ⟨g, 1, none⟩ = some (.int .u64 pn))
    (first | exact ⟨a0, a1⟩ | exact ⟨(World.cell?_alloc_lt _ _ _ hg1).trans a0, (World.cell?_alloc_lt _ _ _ hg1).trans a1⟩ | exact ⟨b0, b1⟩)
    (first
      | (go_at_call 39
         refine (num_any w.heap.size w.heap.size (.slice none 0 0) [] 0 _ [pr, pn] _ (hw1.new (((New.refl w1).alloc _).drew)) (SlIn.lit (l := [pr, pn]) (Blk.drew (Blk.mk_new w1 29 #[.int .u64 pr, .int .u64 pn])) nEncOk rfl (by simp)) (fun i hi => hw1.fresh (by simp [Value.ownBlock] at hi; omega)) (by simp) HR1.out (by simp)).mono ?_
         rintro e w2 ⟨v2, rfl, hw2, hu2, hf2⟩
         have ha2 := ((ha1.new (((New.refl w1).alloc (Obj.cells #[Value.int IntKind.u64 ↑pr, Value.int IntKind.u64 ↑pn] 29)).drew))).upd hu2 ((hw1.new (((New.refl w1).alloc (Obj.cells #[Value.int IntKind.u64 ↑pr, Value.int IntKind.u64 ↑pn] 29)).drew)).below hg)
         obtain ⟨hg2, b0, b1, b2, b3, b4, b5, bz⟩ := ha2.facts))
  have hB2 : numB 0 [] [pr, pn] = varB pr ++ varB pn := by simp [numB]
  rw [hB2] at hw2
  have hN2 : New w w2 := WrAt.step ((hn1.alloc _).drew) (hw1.new (((New.refl w1).alloc _).drew)) hu2
  have hle2 : (varB pr ++ varB pn).length ≤ 20 := by simp; omega
  clear hu2 hf2 hB2 hw1 ha1 hn1 a0 a1
  go_wp2_with fail
  refine (flag_any w.heap.size w.heap.size v2 (varB pr ++ varB pn) 0 h w2 hw2 (by omega)).mono ?_
  rintro e w3 ⟨v3, rfl, hw3, hu3, hf3⟩
  have ha3 := ha2.upd hu3 (hw2.below hg)
  have hN3 := WrAt.step hN2 hw2 hu3
  have hB3 : numB 0 (varB pr ++ varB pn) [flagN h] = varB pr ++ varB pn ++ varB (flagN h) := by simp [numB]
  rw [hB3] at hw3
  have lf := varB_len10 (flagN_lt h)
  clear hu3 hf3 hw2 ha2 hN2 b0 b1 b2 b3 b4 b5 bz hB3
  obtain ⟨hg3, c0, c1, c2, c3, c4, c5, cz⟩ := ha3.facts
  cases h with
  | false =>
    go_wp2_with fail
    refine (wbytes_any w.heap.size w.heap.size v3 _ 0 w3 hw3 (by simp; omega)).mono ?_
    rintro e w4 ⟨u, rfl, ho, hn4⟩
    rw [if_pos rfl] at ho
    go_wp2_with fail
    go_ret
    exact ⟨u, rfl, by simpa [accB] using ho.lower hN3.size, hN3.trans hn4⟩
  | true =>
    generalize hbs : varB pr ++ varB pn ++ varB (flagN true) = bs at *
    have hle3 : bs.length ≤ 30 := by rw [← hbs]; simp only [List.length_append]; omega
    have HBS := Lib.hid hbs
    clear hbs hle2
    go_wp2_with fail
    go_region_held3 (fun w' => w'.cell? ⟨g, 3, none⟩ = some (.int .u64 ar) ∧ w'.cell? ⟨g, 4, none⟩ = some (.int .u64 an))
      (first | exact ⟨c3, c4⟩ | exact ⟨(World.cell?_alloc_lt _ _ _ hg3).trans c3, (World.cell?_alloc_lt _ _ _ hg3).trans c4⟩ | exact ⟨b3, b4⟩)
      (first
        | (go_at_call 39
           refine (num_any w.heap.size w.heap.size v3 bs 0 _ [ar, an] _ (hw3.new (((New.refl w3).alloc _).drew)) (SlIn.lit (l := [ar, an]) (Blk.drew (Blk.mk_new w3 29 #[.int .u64 ar, .int .u64 an])) nEncOk rfl (by simp)) (fun i hi => hw3.fresh (by simp [Value.ownBlock] at hi; omega)) (by omega) HR2.out (by simp)).mono ?_
           rintro e w4 ⟨v4, rfl, hw4, hu4, hf4⟩
           have hwm := hw3.new (((New.refl w3).alloc (Obj.cells #[Value.int IntKind.u64 ↑ar, Value.int IntKind.u64 ↑an] 29)).drew)
           have ha4 := ((ha3.new (((New.refl w3).alloc (Obj.cells #[Value.int IntKind.u64 ↑ar, Value.int IntKind.u64 ↑an] 29)).drew))).upd hu4 (hwm.below hg)
           obtain ⟨hg4, b0, b1, b2, b3, b4, b5, bz⟩ := ha4.facts))
    have hB4 : numB 0 bs [ar, an] = bs ++ (varB ar ++ varB an) := by simp [numB]
    rw [hB4] at hw4
    have hN4 : New w w4 := WrAt.step ((hN3.alloc _).drew) hwm hu4
    have hle4 : (bs ++ (varB ar ++ varB an)).length ≤ 50 := by simp; omega
    clear hu4 hf4 hB4 hw3 ha3 hN3 c0 c1 c2 c3 c4 c5 cz hwm
    go_wp2_with fail
    refine (text_any w.heap.size w.heap.size v4 (bs ++ (varB ar ++ varB an)) 0 _ [v] _ (hw4.new ((New.refl w4).alloc _)) (SlIn.one (x := v) (Blk.mk_new w4 _ _) sEncOk rfl) (fun i hi => hw4.fresh (by simp [Value.ownBlock] at hi; omega)) (by simp only [List.length_singleton]; omega) (by simp [maxLen]; omega)).mono ?_
    rintro e w5 ⟨v5, rfl, hw5, hu5, hf5⟩
    have hT : textB (bs ++ (varB ar ++ varB an), 0) [v] = (bs ++ (varB ar ++ varB an) ++ varB v.size ++ v.data.toList, 0) := by simp only [textB, List.foldl_cons, List.foldl_nil, textS, if_true, if_neg (show ¬ 65536 < v.size by omega)]
    rw [hT] at hw5
    have hN5 : New w w5 := WrAt.step (hN4.alloc _) (hw4.new ((New.refl w4).alloc _)) hu5
    have l5 := varB_len10 (n := v.size) (by omega)
    clear hu5 hf5 hT hw4 ha4 hN4 b0 b1 b2 b3 b4 b5 bz
    go_wp2_with fail
    refine (wbytes_any w.heap.size w.heap.size v5 _ 0 w5 hw5 (by simp only [List.length_append, strLen] at *; omega)).mono ?_
    rintro e w6 ⟨u, rfl, ho, hn6⟩
    rw [if_pos rfl] at ho
    go_wp2_with fail
    go_ret
    refine ⟨u, rfl, ?_, hN5.trans hn6⟩
    have := ho.lower (b' := w.heap.size) hN5.size
    rw [← HBS.out] at this
    simpa [accB] using this
end Go.Proofs.Ytghhcjpilcoblaa
