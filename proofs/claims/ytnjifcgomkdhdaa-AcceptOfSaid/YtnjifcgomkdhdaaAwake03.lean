/- The law's own example (chapter 3): it answers true, and changes nothing that was there. -/
import Derived.Test.YtnjifcgomkdhdaaCodeR2
namespace Go.Proofs.Ytnjifcgomkdhdaa
open Go.RowKit Go.Lap
set_option linter.unusedVariables false

theorem RdAt.step {w a b : World} {g : Nat} (hn : New w a) (hg : w.heap.size ≤ g) (hu : Upd (· = g) a b) : New w b := hn.upd hu (fun i hi => by omega)

def exB : List UInt8 := [172, 2, 2, 97, 98, 1]

theorem exW : numB 0 (textB (numB 0 [] [300], 0) [str [97, 98]]).1 [flagN true] = exB := by
  have h1 : varB 300 = [172, 2] := by rw [varB_big (by decide), varB_small (by decide)]; rfl
  have h2 : varB 2 = [2] := by rw [varB_small (by decide)]; rfl
  have h3 : varB 1 = [1] := by rw [varB_small (by decide)]; rfl
  simp [numB, textB, textS, h1, h2, h3, flagN, str, exB, ByteArray.size]
theorem exW2 : (textB (numB 0 [] [300], 0) [str [97, 98]]).2 = 0 := by simp [textB, textS, str, ByteArray.size]
theorem exS : ∀ s ∈ [str [97, 98]], s.size ≤ maxLen := by
  intro s hs
  rw [List.mem_singleton] at hs
  rw [hs, str_size]
  simp only [List.length_cons, List.length_nil]
  unfold maxLen
  omega
theorem exL : (numB 0 [] [300]).length + 65546 * [str [97, 98]].length ≤ 90000000 := by
  have h := numB_len (err := 0) (bs := []) [300] (fun n hn => by rw [List.mem_singleton] at hn; omega)
  simp only [List.length_cons, List.length_nil] at *
  generalize (numB 0 [] [300]).length = n at *
  omega
theorem exL3 : (textB (numB 0 [] [300], 0) [str [97, 98]]).1.length ≤ 90000000 := by
  have h := textB_len [str [97, 98]] (numB 0 [] [300], 0)
  have h2 := exL
  generalize (textB (numB 0 [] [300], 0) [str [97, 98]]).1.length = n at *
  simp only [List.length_cons, List.length_nil] at *
  generalize (numB 0 [] [300]).length = m at *
  omega
theorem exN : numR exB 0 = (300, [2, 97, 98, 1], 0) := by decide
theorem exT : textR [2, 97, 98, 1] 0 = ([97, 98], [1], 0) := by decide
theorem exE : endR [1] 0 = 31 := by decide
theorem exF : flagR [1] 0 = (true, [], 0) := by decide
theorem exE2 : endR [] 0 = 0 := by decide

set_option maxRecDepth 100000 in
set_option maxHeartbeats 4000000 in
theorem awake03 (w : World) : Calls Try.prog 27 #[] w fun e w' => e = .returned (.bool true) ∧ New w w' := by
  go_enter Try.func27, Try.ntmps27
  go_wp2_with fail
  refine (write_any _).mono ?_
  rintro e w1 ⟨rfl, hw1, hn1⟩
  go_wp2_with fail
  have hwa := hw1.new ((New.refl w1).alloc (Obj.cells #[.int .u64 300] 28))
  refine (num_any w.heap.size w.heap.size _ [] 0 _ [300] _ hwa (SlIn.one (x := 300) (Blk.mk_new w1 28 #[.int .u64 300]) nEncOk rfl) (fun i hi => hw1.fresh (by simp [Value.ownBlock] at hi; omega)) (by simp) (fun n hn => by rw [List.mem_singleton] at hn; omega) (by simp)).mono ?_
  rintro e w2 ⟨v2, rfl, hw2, hu2, hf2⟩
  have hN2 := (hwa.step (hn1.alloc _) hu2)
  clear hwa hu2 hf2 hw1 hn1
  go_wp2_with fail
  have hwa := hw2.new ((New.refl w2).alloc (Obj.cells #[.string (str [97, 98])] 9))
  refine (text_any w.heap.size w.heap.size v2 (numB 0 [] [300]) 0 _ [str [97, 98]] _ hwa (SlIn.one (x := str [97, 98]) (Blk.mk_new w2 9 #[.string (str [97, 98])]) sEncOk rfl) (fun i hi => hw2.fresh (by simp [Value.ownBlock] at hi; omega)) exL exS).mono ?_
  rintro e w3 ⟨v3, rfl, hw3, hu3, hf3⟩
  have hN3 := (hwa.step (hN2.alloc _) hu3)
  rw [exW2] at hw3
  clear hwa hu3 hf3 hw2 hN2
  go_wp2_with fail
  refine (flag_any w.heap.size w.heap.size v3 _ 0 true w3 hw3 exL3).mono ?_
  rintro e w4 ⟨v4, rfl, hw4, hu4, hf4⟩
  have hN4 := (hw3.step hN3 hu4)
  rw [exW] at hw4
  clear hu4 hf4 hw3 hN3
  go_wp2_with fail
  refine (wbytes_any w.heap.size w.heap.size v4 exB 0 w4 hw4 (by decide)).mono ?_
  rintro e w5 ⟨u5, rfl, ho5, hn5⟩
  rw [if_pos rfl] at ho5
  have hN5 := hN4.trans hn5
  have hsl5 := Owns.slIn bEncOk ho5
  clear hw4 hN4 hn5 ho5
  go_wp2_with fail
  refine (read_any exB u5 w5 (by decide) hsl5).mono ?_
  rintro e w6 ⟨g, v6, rfl, hg6, _, hr6, hn6⟩
  have hN6 := hN5.trans hn6
  have hgw : w.heap.size ≤ g := by have := hN5.size; omega
  have hcv := run_str w6 (hsl5.new hn6)
  rw [show str exB = ⟨#[172, 2, 2, 97, 98, 1]⟩ from rfl] at hcv
  clear hN5 hn6
  go_wp2_with fail
  refine (rnum_any g v6 exB 0 w6 hr6 (by decide)).mono ?_
  rintro e w7 ⟨v7, rfl, hr7, hu7, _⟩
  rw [exN] at hr7
  rw [exN]
  have hN7 := RdAt.step hN6 hgw hu7
  clear hcv hr6 hu7 hN6
  go_wp2_with fail
  refine (rtext_any g v7 [2, 97, 98, 1] 0 w7 hr7 (by decide)).mono ?_
  rintro e w8 ⟨v8, rfl, hr8, hu8, _⟩
  rw [exT] at hr8
  rw [exT]
  have hN8 := RdAt.step hN7 hgw hu8
  clear hr7 hu8 hN7
  rw [show str [97, 98] = ⟨#[97, 98]⟩ from rfl]
  go_wp2_with fail
  refine (end_any g v8 [1] 0 w8 hr8 (by decide)).mono ?_
  rintro e w9 ⟨rfl, rfl⟩
  rw [exE]
  go_wp2_with fail
  refine (rflag_any g v8 [1] 0 w8 hr8 (by decide)).mono ?_
  rintro e w10 ⟨v10, rfl, hr10, hu10, _⟩
  rw [exF] at hr10
  rw [exF]
  have hN10 := RdAt.step hN8 hgw hu10
  go_wp2_with fail
  refine (end_any g v10 [] 0 w10 hr10 (by decide)).mono ?_
  rintro e w11 ⟨rfl, rfl⟩
  rw [exE2]
  go_wp2_with fail
  go_ret
  exact ⟨rfl, hN10⟩
end Go.Proofs.Ytnjifcgomkdhdaa
