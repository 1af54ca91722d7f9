/- Chapter 5 (batch): Put. Printed by genBat5.py. -/
import Derived.Test.YtdobingccipkkaaBat4
import Derived.Test.YtdobingccipkkaaCodeQ
namespace Go.Proofs.Ytdobingccipkkaa
open Go.RowKit Go.Lap
set_option linter.unusedVariables false

/-- A write's bytes, and a batch's. -/
def encW (x : Wri) : List UInt8 := varB x.key.size ++ x.key.data.toList ++ varB (flagN x.gone) ++ if x.gone then [] else varB x.val.size ++ x.val.data.toList
def encH (c r s n : Nat) : List UInt8 := varB c ++ varB r ++ varB s ++ varB n
def encB (c r s : Nat) (l : List Wri) : List UInt8 := encH c r s l.length ++ l.flatMap encW

theorem chk1_ok {x : Wri} (h : chk1 x = 0) : x.key.size ≠ 0 ∧ x.key.size ≤ 64 ∧ x.val.size ≤ 256 ∧ (x.gone = true → x.val.size = 0) := by
  unfold chk1 at h
  split at h
  · cases h
  · split at h
    · cases h
    · rename_i h1 h2
      simp only [not_or, not_and, Decidable.not_not] at h1 h2
      exact ⟨h1.1, by omega, by omega, h2.2⟩
theorem chkFrom_ok : ∀ {p : Option ByteArray} {l : List Wri}, chkFrom p l = 0 → ∀ x ∈ l, chk1 x = 0
  | _, [], _, x, hx => by simp at hx
  | p, y :: l, h, x, hx => by
    have e : chkFrom p (y :: l) = if chk1 y ≠ 0 then chk1 y else if prevBad p y.key = true then 54 else chkFrom (some y.key) l := rfl
    rw [e] at h
    by_cases h1 : chk1 y = 0
    · rw [if_neg (by simpa using h1)] at h
      by_cases h2 : prevBad p y.key = true
      · rw [if_pos h2] at h
        cases h
      · rw [if_neg h2] at h
        rcases List.mem_cons.1 hx with rfl | hx
        · exact h1
        · exact chkFrom_ok h x hx
    · rw [if_pos h1] at h
      exact absurd h h1
theorem chk_ok {l : List Wri} (h : chk l = 0) : l.length ≠ 0 ∧ l.length ≤ 8 ∧ ∀ x ∈ l, chk1 x = 0 := by
  unfold chk at h
  split at h
  · cases h
  · split at h
    · cases h
    · exact ⟨by assumption, by omega, chkFrom_ok h⟩
theorem encW_len {x : Wri} (h : chk1 x = 0) : (encW x).length ≤ 400 := by
  obtain ⟨h1, h2, h3, h4⟩ := chk1_ok h
  have l1 := varB_len10 (n := x.key.size) (by omega)
  have l2 := varB_len10 (n := x.val.size) (by omega)
  have l3 := varB_len10 (flagN_lt x.gone)
  have e1 : x.key.data.toList.length = x.key.size := by rw [Array.length_toList]; rfl
  have e2 : x.val.data.toList.length = x.val.size := by rw [Array.length_toList]; rfl
  unfold encW
  split <;> simp only [List.length_append, List.length_nil] <;> omega
theorem encs_snoc {l : List Wri} {k : Nat} {x : Wri} (h : l[k]? = some x) : (l.take (k + 1)).flatMap encW = (l.take k).flatMap encW ++ encW x := by rw [take_snoc h, List.flatMap_append]; simp

theorem textOne (bs : List UInt8) (s : ByteArray) (h : s.size ≤ 65536) : textB (bs, 0) [s] = (bs ++ varB s.size ++ s.data.toList, 0) := by
  simp only [textB, List.foldl_cons, List.foldl_nil, textS, if_true, if_neg (show ¬ 65536 < s.size by omega)]
theorem numFlag (bs : List UInt8) (b : Bool) : numB 0 bs [flagN b] = bs ++ varB (flagN b) := by simp [numB]

/-- What Put answers. -/
def PutBPost (w : World) (c r s : Nat) (l : List Wri) (e : Ending) (w' : World) : Prop := New w w' ∧
  ((chk l = 0 ∧ ∃ u, e = .returned (.tuple #[u, .int .i64 0]) ∧ Owns w' w.heap.size 5 1 bEnc u (encB c r s l)) ∨ (chk l ≠ 0 ∧ e = .returned (.tuple #[.slice none 0 0, .int .i64 (chk l)])))

/-- A writer in work: so many writes are put. -/
def PutRel (w2 : World) (c r s : Nat) (l : List Wri) (k : Nat) (wr : World) : Prop := New w2 wr ∧ ∃ v, WrAt wr w2.heap.size w2.heap.size v (encH c r s l.length ++ (l.take k).flatMap encW) 0 ∧ (encH c r s l.length ++ (l.take k).flatMap encW).length ≤ 40 + 400 * k

set_option maxRecDepth 100000 in
set_option maxHeartbeats 8000000 in
theorem putB_any (c r s : Nat) (v : Value) (l : List Wri) (w : World) (hl : l.length ≤ 1000000000) (hc : c < 18446744073709551616) (hr : r < 18446744073709551616) (hst : s < 18446744073709551616) (hs : SlIn w 3 Wri.enc v l) :
    Calls Try.prog 17 #[.agg #[.int .u64 (c : Int), .int .u64 (r : Int), .int .u64 (s : Int), v]] w (PutBPost w c r s l) := by
  have HS := Lib.hid hs
  obtain ⟨A, cap, rfl, hlc, hh⟩ := hs
  have HB0 := Lib.hid (Blk.mk_new w 25 #[.int .u64 (c : Int), .int .u64 (r : Int), .int .u64 (s : Int), .slice A l.length cap])
  have HN0 := Lib.hid ((New.refl w).alloc (.cells #[.int .u64 (c : Int), .int .u64 (r : Int), .int .u64 (s : Int), .slice A l.length cap] 25))
  have hl1 := varB_len10 hc
  have hl2 := varB_len10 hr
  have hl3 := varB_len10 hst
  have hl4 := varB_len10 (n := l.length) (by omega)
  go_enter Try.func17, Try.ntmps17
  go_wp2_with fail
  refine (check_any c r s _ l _ hl (HS.out.new HN0.out)).mono ?_
  rintro e w1 ⟨rfl, hn1⟩
  by_cases hch : chk l = 0
  rotate_left
  · have HF := Lib.hid hch
    have hne : ((chk l : Int) != 0) = true := by simpa using hch
    clear hch
    go_wp2_with fail
    go_ret2
    exact ⟨HN0.out.trans hn1, .inr ⟨HF.out, rfl⟩⟩
  have HCH := Lib.hid hch
  rw [hch]
  clear hch
  obtain ⟨hne, hl8, hall⟩ := chk_ok HCH.out
  have hn1w := HN0.out.trans hn1
  obtain ⟨p0, p1, p2, p3, p4, pz⟩ := Blk4F (HB0.out.new hn1)
  rcases hh with rfl | ⟨b, off, rfl, hbb, hcel⟩
  · simp at hne
  go_wp2_with fail
  refine (write_any w1).mono ?_
  rintro e w2 ⟨rfl, hw2, hn2⟩
  have hB2 := (HB0.out.new hn1).new hn2
  have hw2p : w.heap.size < w1.heap.size := p0
  have hns : ∀ n ∈ [c, r, s, l.length], n < 18446744073709551616 := by simp; omega
  have HNS := Lib.hid hns
  have hlw : IntKind.u64.wrap (l.length : Int) = (l.length : Int) := by rw [IntKind.wrap_u64]; omega
  clear p0 p1 p2 p3 p4 pz hns
  obtain ⟨p0, p1, p2, p3, p4, pz⟩ := Blk4F hB2
  go_wp2_with fail
  refine (num_any w1.heap.size w1.heap.size (.slice none 0 0) [] 0 _ [c, r, s, l.length] _ (hw2.new ((New.refl w2).alloc _)) (SlIn.lit (l := [c, r, s, l.length]) (Blk.mk_new w2 22 #[.int .u64 (c : Int), .int .u64 (r : Int), .int .u64 (s : Int), .int .u64 (l.length : Int)]) nEncOk rfl (by simp)) (fun i hi => hw2.fresh (by simp [Value.ownBlock] at hi; omega)) (by simp) HNS.out (by simp)).mono ?_
  rintro e w3 ⟨v3, rfl, hw3, hu3, hf3⟩
  have hB3 : numB 0 [] [c, r, s, l.length] = encH c r s l.length ++ (l.take 0).flatMap encW := by simp [numB, encH]
  rw [hB3] at hw3
  have hN3 : New w1 w3 := WrAt.step (hn2.alloc _) (hw2.new ((New.refl w2).alloc _)) hu3
  have hR3 : PutRel w1 c r s l 0 w3 := ⟨hN3, v3, hw3, by simp [encH]; omega⟩
  have HR3 := Lib.hid hR3
  have HC1 := Lib.hid hn1w
  have HBX := Lib.hid (HB0.out.new hn1)
  obtain ⟨q0, q1, q2, q3, q4, qz⟩ := Blk4F (HBX.out.new hN3)
  clear hR3 hB3 hw3 hu3 hf3 hw2 hn2 hN3 p0 p1 p2 p3 p4 pz hB2 hn1 hn1w HNS hlw
  go_wp2_with fail
  go_loopw [6, 7, 30] (fun _ _ i wr => ∃ k : Nat, k ≤ l.length ∧ i = .int .i64 k ∧ PutRel w1 c r s l k wr) (fun _ _ i _ => l.length - (intOf i).toNat)
  case atStart => exact ⟨0, by omega, rfl, HR3.out⟩
  case round =>
    clear q0 q1 q2 q3 q4 qz HR3
    obtain ⟨k, hk, rfl, hn, v4, hw4, hle⟩ := hrel
    by_cases hlt : k < l.length
    · have hlt2 : (k : Int) < (l.length : Int) := by omega
      have hk0 : (0 : Int) ≤ (k : Int) := by omega
      obtain ⟨x, hx⟩ : ∃ x, l[k]? = some x := ⟨_, List.getElem?_eq_getElem hlt⟩
      have hck := hall x (List.mem_of_getElem? hx)
      obtain ⟨s1, s2, s3, s4⟩ := chk1_ok hck
      have hwl := encW_len hck
      have hCo := HC1.out.trans hn
      obtain ⟨e0, e1, e2⟩ := SlIn.three (fun k x h j u hu => (hCo.cells.1 _ _ hbb).trans (hcel k x h j u hu)) hx
      obtain ⟨p0, p1, p2, p3, p4, pz⟩ := Blk4F (HBX.out.new hn)
      have hsn := encs_snoc hx
      have hsn := encs_snoc hx
      have HSN := Lib.hid hsn
      have hev : encW x = varB x.key.size ++ x.key.data.toList ++ varB (flagN x.gone) ++ if x.gone then [] else varB x.val.size ++ x.val.data.toList := rfl
      have HEV := Lib.hid hev
      have HWL := Lib.hid hwl
      have S4 := Lib.hid s4
      clear hsn hev hx hcel hck hwl s4
      obtain ⟨key, val, gone⟩ := x
      simp only at e0 e1 e2 s1 s2 s3
      generalize hbs : encH c r s l.length ++ (l.take k).flatMap encW = bs at hw4 hle
      have HB := Lib.hid hbs
      clear hbs
      have hXa := Blk.mk_new wr 43 #[.string key, .string val, .bool gone]
      have hna := (New.refl wr).alloc (.cells #[.string key, .string val, .bool gone] 43)
      have hwa := hw4.new hna
      have hN4 := hn.trans hna
      have kk : key.data.toList.length = key.size := by rw [Array.length_toList]; rfl
      have vv : val.data.toList.length = val.size := by rw [Array.length_toList]; rfl
      have KK := Lib.hid kk
      have VV := Lib.hid vv
      clear kk vv
      have fX : ¬ WrS w1.heap.size v4 wr.heap.size := hw4.fresh (Nat.le_refl _)
      go_wp2_with fail
      refine (text_any w1.heap.size w1.heap.size v4 bs 0 _ [key] _ (hwa.new ((New.refl _).alloc _)) (SlIn.one (x := key) (by have h := Blk.mk_new (wr.alloc (.cells #[.string key, .string val, .bool gone] 43)) 9 #[.string key]; rw [World.size_alloc] at h; exact h) sEncOk rfl) (fun i hi => hw4.fresh (by simp [Value.ownBlock] at hi; omega)) (by simp only [List.length_singleton]; omega) (by simp [maxLen]; omega)).mono ?_
      rintro e w5 ⟨v5, rfl, hw5, hu5, hf5⟩
      rw [textOne bs key (by omega)] at hw5
      have hX5 := (hXa.alloc (.cells #[.string key] 9)).upd hu5 fX
      have hN5 : New w1 w5 := WrAt.step (hN4.alloc _) (hwa.new ((New.refl _).alloc _)) hu5
      have fX5 : ¬ WrS w1.heap.size v5 wr.heap.size := fun h => fX (WrS.back hf5 _ (by rw [World.size_alloc, World.size_alloc]; omega) h)
      have l5 : (bs ++ varB key.size ++ key.data.toList).length ≤ 40 + 400 * k + 74 := by have := varB_len10 (n := key.size) (by omega); simp only [List.length_append, KK.out]; omega
      obtain ⟨x0, x1, x2, x3, xz⟩ := Blk3F hX5
      clear hwa hu5 hf5 hw4 hXa hna hN4 e0 e1 e2 p0 p1 p2 p3 p4 pz
      go_wp2_with fail
      refine (flag_any w1.heap.size w1.heap.size v5 (bs ++ varB key.size ++ key.data.toList) 0 gone w5 hw5 (by omega)).mono ?_
      rintro e w6 ⟨v6, rfl, hw6, hu6, hf6⟩
      rw [numFlag] at hw6
      have hX6 := hX5.upd hu6 fX5
      have hN6 := WrAt.step hN5 hw5 hu6
      have fX6 : ¬ WrS w1.heap.size v6 wr.heap.size := fun h => fX5 (WrS.back hf6 _ x0 h)
      have l6 : (bs ++ varB key.size ++ key.data.toList ++ varB (flagN gone)).length ≤ 40 + 400 * k + 84 := by have := varB_len10 (flagN_lt gone); rw [List.length_append]; omega
      clear x0 x1 x2 x3 xz hw5 hu6 hf6 hX5 hN5
      obtain ⟨x0, x1, x2, x3, xz⟩ := Blk3F hX6
      cases gone with
      | true =>
        have HF2 : Hid (encH c r s l.length ++ (l.take (k + 1)).flatMap encW = bs ++ varB key.size ++ key.data.toList ++ varB (flagN true)) := Lib.hid (by rw [HSN.out, ← List.append_assoc, HB.out, HEV.out]; simp)
        go_wp2_with fail
        go_roundw
        case rel => exact ⟨k + 1, by omega, by go_num, hN6, v6, by rw [HF2.out]; exact hw6, by rw [HF2.out]; omega⟩
        case measure => simp [intOf]; omega
      | false =>
        have HF2 : Hid (encH c r s l.length ++ (l.take (k + 1)).flatMap encW = bs ++ varB key.size ++ key.data.toList ++ varB (flagN false) ++ varB val.size ++ val.data.toList) := Lib.hid (by rw [HSN.out, ← List.append_assoc, HB.out, HEV.out]; simp)
        generalize bs ++ varB key.size ++ key.data.toList ++ varB (flagN false) = bs6 at *
        go_wp2_with fail
        refine (text_any w1.heap.size w1.heap.size v6 bs6 0 _ [val] _ (hw6.new ((New.refl _).alloc _)) (SlIn.one (x := val) (Blk.mk_new w6 _ _) sEncOk rfl) (fun i hi => hw6.fresh (by simp [Value.ownBlock] at hi; omega)) (by simp only [List.length_singleton]; omega) (by simp [maxLen]; omega)).mono ?_
        rintro e w7 ⟨v7, rfl, hw7, hu7, hf7⟩
        rw [textOne bs6 val (by omega)] at hw7
        have hN7 : New w1 w7 := WrAt.step (hN6.alloc _) (hw6.new ((New.refl _).alloc _)) hu7
        have l7 : (bs6 ++ varB val.size ++ val.data.toList).length ≤ 40 + 400 * k + 350 := by have := varB_len10 (n := val.size) (by omega); simp only [List.length_append, VV.out]; omega
        clear hw6 hu7 hf7 x0 x1 x2 x3 xz
        go_wp2_with fail
        go_roundw
        case rel => exact ⟨k + 1, by omega, by go_num, hN7, v7, by rw [HF2.out]; exact hw7, by rw [HF2.out]; omega⟩
        case measure => simp [intOf]; omega
    · have hlt2 : ¬ (k : Int) < (l.length : Int) := by omega
      have hkl : l.take k = l := List.take_of_length_le (by omega)
      rw [hkl] at hw4 hle
      clear hkl
      have HE := Lib.hid (show encH c r s l.length ++ l.flatMap encW = encB c r s l from rfl)
      generalize encH c r s l.length ++ l.flatMap encW = bs at *
      go_wp2_with fail
      refine (wbytes_any w1.heap.size w1.heap.size v4 bs 0 wr hw4 (by omega)).mono ?_
      rintro e w5 ⟨u, rfl, ho, hn5⟩
      rw [if_pos rfl] at ho
      have hN5 := HC1.out.trans hn
      go_wp2_with fail
      go_ret2
      exact ⟨hN5.trans hn5, .inl ⟨HCH.out, u, rfl, by rw [← HE.out]; exact ho.lower hN5.size⟩⟩
end Go.Proofs.Ytdobingccipkkaa
