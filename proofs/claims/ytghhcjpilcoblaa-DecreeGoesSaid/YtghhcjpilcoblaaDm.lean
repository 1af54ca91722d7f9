/- Chapter 22 (decree): what a packet says; show and parse. -/
import Derived.Test.YtghhcjpilcoblaaAccO
namespace Go.Proofs.Ytghhcjpilcoblaa
open Go.RowKit Go.Lap
set_option linter.unusedVariables false

/-- What a packet says. -/
structure Msg where
  k : Nat
  s : Nat
  r : Nat
  n : Nat
  v : ByteArray
  h : Bool
  hr : Nat
  hn : Nat
  hv : ByteArray
abbrev Msg.cs (m : Msg) : Array Value := #[.int .i64 (m.k : Int), .int .u64 (m.s : Int), .int .u64 (m.r : Int), .int .u64 (m.n : Int), .string m.v, .bool m.h, .int .u64 (m.hr : Int), .int .u64 (m.hn : Int), .string m.hv]
abbrev Msg.val (m : Msg) : Value := .agg m.cs
structure Msg.good (m : Msg) : Prop where
  k : m.k ≤ 6
  s : m.s < 18446744073709551616
  r : m.r < 18446744073709551616
  n : m.n < 18446744073709551616
  v : m.v.size ≤ 65536
  hr : m.hr < 18446744073709551616
  hn : m.hn < 18446744073709551616
  hv : m.hv.size ≤ 65536
def Msg.enc (m : Msg) : List UInt8 := varB m.k ++ (varB m.s ++ (varB m.r ++ (varB m.n ++ (varB m.v.size ++ m.v.data.toList ++ (varB (flagN m.h) ++ (varB m.hr ++ (varB m.hn ++ (varB m.hv.size ++ m.hv.data.toList ++ []))))))))
theorem Msg.enc_len {m : Msg} (h : m.good) : m.enc.length ≤ 200000 := by
  have h1 := varB_len10 (n := m.k) (by have := h.k; omega)
  have h2 := varB_len10 h.s
  have h3 := varB_len10 h.r
  have h4 := varB_len10 h.n
  have h5 := varB_len10 (n := m.v.size) (by have := h.v; omega)
  have h6 := varB_len10 (flagN_lt m.h)
  have h7 := varB_len10 h.hr
  have h8 := varB_len10 h.hn
  have h9 := varB_len10 (n := m.hv.size) (by have := h.hv; omega)
  have h10 := h.v
  have h11 := h.hv
  unfold Msg.enc
  simp only [List.length_append, strLen, List.length_nil]
  omega
theorem Blk9F {w : World} {g t : Nat} {a b c d e f i j k : Value} (h : Blk w g t #[a, b, c, d, e, f, i, j, k]) : g < w.heap.size ∧ w.cell? ⟨g, 0, none⟩ = some a ∧ w.cell? ⟨g, 1, none⟩ = some b ∧ w.cell? ⟨g, 2, none⟩ = some c ∧ w.cell? ⟨g, 3, none⟩ = some d ∧ w.cell? ⟨g, 4, none⟩ = some e ∧
    w.cell? ⟨g, 5, none⟩ = some f ∧ w.cell? ⟨g, 6, none⟩ = some i ∧ w.cell? ⟨g, 7, none⟩ = some j ∧ w.cell? ⟨g, 8, none⟩ = some k ∧ (∀ i, w.frozen? ⟨g, i, none⟩ = false) :=
  ⟨h.lt, h.cell 0, h.cell 1, h.cell 2, h.cell 3, h.cell 4, h.cell 5, h.cell 6, h.cell 7, h.cell 8, h.frozen⟩
theorem textB_one {bs : List UInt8} {s : ByteArray} (h : s.size ≤ 65536) : textB (bs, 0) [s] = (bs ++ varB s.size ++ s.data.toList, 0) := by simp only [textB, List.foldl_cons, List.foldl_nil, textS, if_true, if_neg (show ¬ 65536 < s.size by omega)]

set_option maxRecDepth 100000 in
set_option maxHeartbeats 8000000 in
theorem show_any (m : Msg) (h : m.good) (w : World) : Calls Try.prog 74 #[m.val] w fun e w' => e = .returned (.string (str m.enc)) ∧ New w w' := by
  obtain ⟨k, s, r, n, v, hh, hr, hn, hv⟩ := m
  have l1 := varB_len10 (n := k) (by have := h.k; simp at this; omega)
  have l2 := varB_len10 h.s
  have l3 := varB_len10 h.r
  have l4 := varB_len10 h.n
  have l5 := varB_len10 (n := v.size) (by have := h.v; simp at this; omega)
  have l6 := varB_len10 (flagN_lt hh)
  have l7 := varB_len10 h.hr
  have l8 := varB_len10 h.hn
  have l10 := h.v
  have l11 := h.hv
  have hk := h.k
  have HN1 := Lib.hid (show ∀ x ∈ [k, s, r, n], x < 18446744073709551616 by have := h.s; have := h.r; have := h.n; simp at *; omega)
  have HN2 := Lib.hid (show ∀ x ∈ [hr, hn], x < 18446744073709551616 by have := h.hr; have := h.hn; simp at *; omega)
  simp only at l2 l3 l4 l7 l8 l10 l11 hk
  have hwk : IntKind.u64.wrap (k : Int) = (k : Int) := by rw [IntKind.wrap_u64]; omega
  have hkk : (k : Int) % 18446744073709551616 = (k : Int) := by omega
  have HENC := Lib.hid (show Msg.enc ⟨k, s, r, n, v, hh, hr, hn, hv⟩ = varB k ++ (varB s ++ (varB r ++ (varB n ++ (varB v.size ++ v.data.toList ++ (varB (flagN hh) ++ (varB hr ++ (varB hn ++ (varB hv.size ++ hv.data.toList ++ [])))))))) from rfl)
  clear h
  have hM := Blk.mk_new w 107 (Msg.cs ⟨k, s, r, n, v, hh, hr, hn, hv⟩)
  have HN0 := Lib.hid ((New.refl w).alloc (.cells (Msg.cs ⟨k, s, r, n, v, hh, hr, hn, hv⟩) 107))
  have hM1 := hM
  go_enter Try.func74, Try.ntmps74
  go_wp2_with fail
  refine (write_any _).mono ?_
  rintro e w1 ⟨rfl, hw1, hn1⟩
  have hb1 := hM.new hn1
  have hbase : w.heap.size < w.heap.size + 1 := by omega
  rw [World.size_alloc] at hw1
  have HN1w := Lib.hid (HN0.out.trans hn1)
  obtain ⟨g0, c0, c1, c2, c3, c4, c5, c6, c7, c8, cz⟩ := Blk9F hb1
  clear hn1 hM hM1
  go_wp2_with fail
  have hal1 := (New.refl w1).alloc (.cells #[.int .u64 (k : Int), .int .u64 (s : Int), .int .u64 (r : Int), .int .u64 (n : Int)] 29)
  refine (num_any (w.heap.size + 1) (w.heap.size + 1) (.slice none 0 0) [] 0 _ [k, s, r, n] _ (hw1.new hal1) (SlIn.lit (l := [k, s, r, n]) (Blk.mk_new w1 29 #[.int .u64 (k : Int), .int .u64 (s : Int), .int .u64 (r : Int), .int .u64 (n : Int)]) nEncOk rfl (by simp)) (fun i hi => hw1.fresh (by simp [Value.ownBlock] at hi; omega)) (by simp) HN1.out (by simp)).mono ?_
  rintro e w2 ⟨v2, rfl, hw2, hu2, hf2⟩
  have hN2 : New w w2 := HN1w.out.upd ((Upd.new hal1).trans hu2 (fun i _ h => h)) (fun i hi => by rcases hi with rfl | hi <;> first | omega | (have := (hw1.2.2.lt i hi).1; omega))
  have hb2 := (hb1.new hal1).upd hu2 ((hw1.new hal1).below hbase)
  have hB2 : numB 0 [] [k, s, r, n] = varB k ++ (varB s ++ (varB r ++ (varB n ++ []))) := by simp [numB]
  rw [hB2] at hw2
  obtain ⟨B2, hB2e⟩ : ∃ B, varB k ++ (varB s ++ (varB r ++ (varB n ++ []))) = B := ⟨_, rfl⟩
  rw [hB2e] at hw2
  have hl2 : B2.length ≤ 40 := by rw [← hB2e]; simp only [List.length_append, List.length_nil]; omega
  have HB2 := Lib.hid hB2e
  have HN2w := Lib.hid hN2
  clear hN2 hB2 hB2e hu2 hf2 hal1 hw1 hb1 c0 c1 c2 c3 c4 c5 c6 c7 c8 cz g0
  obtain ⟨g0, c0, c1, c2, c3, c4, c5, c6, c7, c8, cz⟩ := Blk9F hb2
  go_wp2_with fail
  have hal2 := (New.refl w2).alloc (.cells #[.string v] 9)
  refine (text_any (w.heap.size + 1) (w.heap.size + 1) v2 B2 0 _ [v] _ (hw2.new hal2) (SlIn.one (x := v) (Blk.mk_new w2 _ _) sEncOk rfl) (fun i hi => hw2.fresh (by simp [Value.ownBlock] at hi; omega)) (by simp only [List.length_singleton]; omega) (by simp [maxLen]; omega)).mono ?_
  rintro e w3 ⟨v3, rfl, hw3, hu3, hf3⟩
  have hN3 : New w w3 := HN2w.out.upd ((Upd.new hal2).trans hu3 (fun i _ h => h)) (fun i hi => by rcases hi with rfl | hi <;> first | omega | (have := (hw2.2.2.lt i hi).1; omega))
  have hb3 := (hb2.new hal2).upd hu3 ((hw2.new hal2).below hbase)
  rw [textB_one (by omega)] at hw3
  obtain ⟨B3, hB3e⟩ : ∃ B, B2 ++ varB v.size ++ v.data.toList = B := ⟨_, rfl⟩
  simp only [hB3e] at hw3
  have hl3 : B3.length ≤ 70000 := by rw [← hB3e]; simp only [List.length_append, strLen]; omega
  have HB3 := Lib.hid hB3e
  have HN3w := Lib.hid hN3
  clear hN3 hB3e hu3 hf3 hal2 hw2 hb2 c0 c1 c2 c3 c4 c5 c6 c7 c8 cz g0
  obtain ⟨g0, c0, c1, c2, c3, c4, c5, c6, c7, c8, cz⟩ := Blk9F hb3
  go_wp2_with fail
  refine (flag_any (w.heap.size + 1) (w.heap.size + 1) v3 B3 0 hh w3 hw3 (by omega)).mono ?_
  rintro e w4 ⟨v4, rfl, hw4, hu4, hf4⟩
  have hN4 : New w w4 := HN3w.out.upd hu4 (fun i hi => by rcases hi with rfl | hi <;> first | omega | (have := (hw3.2.2.lt i hi).1; omega))
  have hb4 := hb3.upd hu4 (hw3.below hbase)
  have hB4 : numB 0 B3 [flagN hh] = B3 ++ varB (flagN hh) := by simp [numB]
  rw [hB4] at hw4
  obtain ⟨B4, hB4e⟩ : ∃ B, B3 ++ varB (flagN hh) = B := ⟨_, rfl⟩
  rw [hB4e] at hw4
  have hl4 : B4.length ≤ 70010 := by rw [← hB4e]; simp only [List.length_append]; omega
  have HB4 := Lib.hid hB4e
  have HN4w := Lib.hid hN4
  clear hN4 hB4 hB4e hu4 hf4 hw3 hb3 c0 c1 c2 c3 c4 c5 c6 c7 c8 cz g0
  obtain ⟨g0, c0, c1, c2, c3, c4, c5, c6, c7, c8, cz⟩ := Blk9F hb4
  go_wp2_with fail
  have hal4 := (New.refl w4).alloc (.cells #[.int .u64 (hr : Int), .int .u64 (hn : Int)] 29)
  refine (num_any (w.heap.size + 1) (w.heap.size + 1) v4 B4 0 _ [hr, hn] _ (hw4.new hal4) (SlIn.lit (l := [hr, hn]) (Blk.mk_new w4 29 #[.int .u64 (hr : Int), .int .u64 (hn : Int)]) nEncOk rfl (by simp)) (fun i hi => hw4.fresh (by simp [Value.ownBlock] at hi; omega)) (by omega) HN2.out (by simp)).mono ?_
  rintro e w5 ⟨v5, rfl, hw5, hu5, hf5⟩
  have hN5 : New w w5 := HN4w.out.upd ((Upd.new hal4).trans hu5 (fun i _ h => h)) (fun i hi => by rcases hi with rfl | hi <;> first | omega | (have := (hw4.2.2.lt i hi).1; omega))
  have hb5 := (hb4.new hal4).upd hu5 ((hw4.new hal4).below hbase)
  have hB5 : numB 0 B4 [hr, hn] = B4 ++ (varB hr ++ varB hn) := by simp [numB]
  rw [hB5] at hw5
  obtain ⟨B5, hB5e⟩ : ∃ B, B4 ++ (varB hr ++ varB hn) = B := ⟨_, rfl⟩
  rw [hB5e] at hw5
  have hl5 : B5.length ≤ 70030 := by rw [← hB5e]; simp only [List.length_append]; omega
  have HB5 := Lib.hid hB5e
  have HN5w := Lib.hid hN5
  clear hN5 hB5 hB5e hu5 hf5 hal4 hw4 hb4 c0 c1 c2 c3 c4 c5 c6 c7 c8 cz g0
  obtain ⟨g0, c0, c1, c2, c3, c4, c5, c6, c7, c8, cz⟩ := Blk9F hb5
  go_wp2_with fail
  have hal5 := (New.refl w5).alloc (.cells #[.string hv] 9)
  refine (text_any (w.heap.size + 1) (w.heap.size + 1) v5 B5 0 _ [hv] _ (hw5.new hal5) (SlIn.one (x := hv) (Blk.mk_new w5 _ _) sEncOk rfl) (fun i hi => hw5.fresh (by simp [Value.ownBlock] at hi; omega)) (by simp only [List.length_singleton]; omega) (by simp [maxLen]; omega)).mono ?_
  rintro e w6 ⟨v6, rfl, hw6, hu6, hf6⟩
  have hN6 : New w w6 := HN5w.out.upd ((Upd.new hal5).trans hu6 (fun i _ h => h)) (fun i hi => by rcases hi with rfl | hi <;> first | omega | (have := (hw5.2.2.lt i hi).1; omega))
  have hb6 := (hb5.new hal5).upd hu6 ((hw5.new hal5).below hbase)
  rw [textB_one (by omega)] at hw6
  obtain ⟨B6, hB6e⟩ : ∃ B, B5 ++ varB hv.size ++ hv.data.toList = B := ⟨_, rfl⟩
  simp only [hB6e] at hw6
  have l9 := varB_len10 (n := hv.size) (by omega)
  have hl6 : B6.length ≤ 140000 := by rw [← hB6e]; simp only [List.length_append, strLen]; omega
  have HB6 := Lib.hid hB6e
  have HN6w := Lib.hid hN6
  clear hN6 hB6e hu6 hf6 hal5 hw5 hb5 c0 c1 c2 c3 c4 c5 c6 c7 c8 cz g0
  obtain ⟨g0, c0, c1, c2, c3, c4, c5, c6, c7, c8, cz⟩ := Blk9F hb6
  go_wp2_with fail
  refine (wbytes_any (w.heap.size + 1) (w.heap.size + 1) v6 _ 0 w6 hw6 (by omega)).mono ?_
  rintro e w7 ⟨u, rfl, ho, hn7⟩
  rw [if_pos rfl] at ho
  have hcv := run_str w7 (Owns.slIn bEncOk ho)
  have HNF := Lib.hid (HN6w.out.trans hn7)
  have HFIN := Lib.hid (show B6 = Msg.enc ⟨k, s, r, n, v, hh, hr, hn, hv⟩ by rw [HENC.out, ← HB6.out, ← HB5.out, ← HB4.out, ← HB3.out, ← HB2.out]; simp only [List.append_assoc, List.append_nil])
  clear hn7 ho hb6 c0 c1 c2 c3 c4 c5 c6 c7 c8 cz g0
  go_wp2_with fail
  go_ret
  exact ⟨by rw [HFIN.out]; rfl, HNF.out⟩
theorem countR_enc6 {k : Nat} (rest : List UInt8) (h : k ≤ 6) : countR (varB k ++ rest) 0 6 = (k, rest, 0) := by
  unfold countR
  rw [takeV_varB k rest (by omega), if_pos ⟨rfl, rfl, by dsimp only; omega⟩]
theorem str_inj (s : ByteArray) : str s.data.toList = s := by unfold str; simp
set_option maxRecDepth 100000 in
set_option maxHeartbeats 8000000 in
theorem parse_any (m : Msg) (h : m.good) (w : World) : Calls Try.prog 62 #[.string (str m.enc)] w fun e w' => e = .returned m.val ∧ New w w' := by
  have hlen := Msg.enc_len h
  obtain ⟨k, s, r, n, v, hh, hr, hn, hv⟩ := m
  have hk := h.k
  have H := Lib.hid h
  have HENC := Lib.hid (show Msg.enc ⟨k, s, r, n, v, hh, hr, hn, hv⟩ = varB k ++ (varB s ++ (varB r ++ (varB n ++ (varB v.size ++ v.data.toList ++ (varB (flagN hh) ++ (varB hr ++ (varB hn ++ (varB hv.size ++ hv.data.toList ++ [])))))))) from rfl)
  simp only at hk
  clear h
  obtain ⟨bv, wb, hrun, hbs, hnb⟩ := run_bytesP (str (Msg.enc ⟨k, s, r, n, v, hh, hr, hn, hv⟩)) (w.alloc (.cells #[.int .i64 0, .int .u64 0, .int .u64 0, .int .u64 0, .string ⟨#[]⟩, .bool false, .int .u64 0, .int .u64 0, .string ⟨#[]⟩] 107))
  rw [str_list] at hbs
  have hres := (Blk.mk_new w 107 #[.int .i64 0, .int .u64 0, .int .u64 0, .int .u64 0, .string ⟨#[]⟩, .bool false, .int .u64 0, .int .u64 0, .string ⟨#[]⟩]).new hnb
  have hN0 := ((New.refl w).alloc (.cells #[.int .i64 0, .int .u64 0, .int .u64 0, .int .u64 0, .string ⟨#[]⟩, .bool false, .int .u64 0, .int .u64 0, .string ⟨#[]⟩] 107)).trans hnb
  rw [HENC.out] at hbs hlen
  generalize Msg.enc ⟨k, s, r, n, v, hh, hr, hn, hv⟩ = B at hrun ⊢
  clear HENC hnb
  go_enter Try.func62, Try.ntmps62
  go_wp2_with fail
  refine (read_any _ bv wb (by omega) hbs).mono ?_
  rintro e w1 ⟨g, u1, rfl, hg1, _, hr1, hn1⟩
  have hres1 := hres.new hn1
  have hN1 := hN0.trans hn1
  have hgw : w.heap.size ≤ g := Nat.le_trans hN0.size hg1
  have hgr : w.heap.size ≠ g := by have := hres.lt; omega
  clear hbs hn1 hres hN0
  have hc := count_any g u1 _ 0 6 w1 hr1 (by simp only [List.length_append] at hlen ⊢; omega) (by omega) (by omega)
  rw [countR_enc6 _ hk] at hc
  go_wp2_with fail
  refine hc.mono ?_
  rintro e w2 ⟨u2, rfl, hr2, hu2, _⟩
  have hres2 := hres1.upd hu2 hgr
  have hN2 := hN1.upd hu2 (fun i hi => by omega)
  clear hc hr1 hu2 hres1 hN1
  have hc := rnum_any g u2 _ 0 w2 hr2 (by simp only [List.length_append] at hlen ⊢; omega)
  rw [numR_enc s _ H.out.s] at hc
  go_wp2_with fail
  refine hc.mono ?_
  rintro e w3 ⟨u3, rfl, hr3, hu3, _⟩
  have hres3 := hres2.upd hu3 hgr
  have hN3 := hN2.upd hu3 (fun i hi => by omega)
  clear hc hr2 hu3 hres2 hN2
  have hc := rnum_any g u3 _ 0 w3 hr3 (by simp only [List.length_append] at hlen ⊢; omega)
  rw [numR_enc r _ H.out.r] at hc
  go_wp2_with fail
  refine hc.mono ?_
  rintro e w4 ⟨u4, rfl, hr4, hu4, _⟩
  have hres4 := hres3.upd hu4 hgr
  have hN4 := hN3.upd hu4 (fun i hi => by omega)
  clear hc hr3 hu4 hres3 hN3
  have hc := rnum_any g u4 _ 0 w4 hr4 (by simp only [List.length_append] at hlen ⊢; omega)
  rw [numR_enc n _ H.out.n] at hc
  go_wp2_with fail
  refine hc.mono ?_
  rintro e w5 ⟨u5, rfl, hr5, hu5, _⟩
  have hres5 := hres4.upd hu5 hgr
  have hN5 := hN4.upd hu5 (fun i hi => by omega)
  clear hc hr4 hu5 hres4 hN4
  have hc := rtext_any g u5 _ 0 w5 hr5 (by simp only [List.length_append] at hlen ⊢; omega)
  rw [textR_enc v _ H.out.v] at hc
  dsimp only at hc
  rw [str_inj] at hc
  go_wp2_with fail
  refine hc.mono ?_
  rintro e w6 ⟨u6, rfl, hr6, hu6, _⟩
  have hres6 := hres5.upd hu6 hgr
  have hN6 := hN5.upd hu6 (fun i hi => by omega)
  clear hc hr5 hu6 hres5 hN5
  have hM7 := Blk.mk_new w6 107 #[.int .i64 (k : Int), .int .u64 (s : Int), .int .u64 (r : Int), .int .u64 (n : Int), .string v, .bool false, .int .u64 0, .int .u64 0, .string ⟨#[]⟩]
  have hnM := (New.refl w6).alloc (.cells #[.int .i64 (k : Int), .int .u64 (s : Int), .int .u64 (r : Int), .int .u64 (n : Int), .string v, .bool false, .int .u64 0, .int .u64 0, .string ⟨#[]⟩] 107)
  have hgM : w6.heap.size ≠ g := by have := hr6.facts.1; omega
  have hr7 := hr6.new hnM
  have hres7 := hres6.new hnM
  have hN7 := hN6.trans hnM
  have hpw : w.heap.size < w6.heap.size := hres6.lt
  have hc := rflag_any g u6 _ 0 _ hr7 (by simp only [List.length_append] at hlen ⊢; omega)
  rw [flagR_enc hh _] at hc
  go_wp2_with fail
  generalize w6.alloc (.cells #[.int .i64 (k : Int), .int .u64 (s : Int), .int .u64 (r : Int), .int .u64 (n : Int), .string v, .bool false, .int .u64 0, .int .u64 0, .string ⟨#[]⟩] 107) = w7 at *
  refine hc.mono ?_
  rintro e w8 ⟨u8, rfl, hr8, hu8, _⟩
  have hres8 := hres7.upd hu8 hgr
  have hM8 := hM7.upd hu8 hgM
  have hN8 := hN7.upd hu8 (fun i hi => by omega)
  generalize w6.heap.size = p at *
  clear hc hr7 hu8 hres7 hN7 hM7 hnM hr6 hres6 hN6
  have hc := rnum_any g u8 _ 0 w8 hr8 (by simp only [List.length_append] at hlen ⊢; omega)
  rw [numR_enc hr _ H.out.hr] at hc
  go_wp2_with fail
  refine hc.mono ?_
  rintro e w9 ⟨u9, rfl, hr9, hu9, _⟩
  have hres9 := hres8.upd hu9 hgr
  have hM9 := hM8.upd hu9 hgM
  have hN9 := hN8.upd hu9 (fun i hi => by omega)
  clear hc hr8 hu9 hres8 hN8 hM8
  have hc := rnum_any g u9 _ 0 w9 hr9 (by simp only [List.length_append] at hlen ⊢; omega)
  rw [numR_enc hn _ H.out.hn] at hc
  go_wp2_with fail
  refine hc.mono ?_
  rintro e w10 ⟨u10, rfl, hr10, hu10, _⟩
  have hres10 := hres9.upd hu10 hgr
  have hM10 := hM9.upd hu10 hgM
  have hN10 := hN9.upd hu10 (fun i hi => by omega)
  clear hc hr9 hu10 hres9 hN9 hM9
  have hc := rtext_any g u10 _ 0 w10 hr10 (by simp only [List.length_append] at hlen ⊢; omega)
  rw [textR_enc hv _ H.out.hv] at hc
  dsimp only at hc
  rw [str_inj] at hc
  go_wp2_with fail
  refine hc.mono ?_
  rintro e w11 ⟨u11, rfl, hr11, hu11, _⟩
  have hres11 := hres10.upd hu11 hgr
  have hM11 := hM10.upd hu11 hgM
  have hN11 := hN10.upd hu11 (fun i hi => by omega)
  clear hc hr10 hu11 hres10 hN10 hM10
  have HN := Lib.hid hN11
  have hpq : p ≠ w.heap.size := by omega
  have hW : Blk ((((w11.setCell ⟨p, 5, none⟩ (.bool hh)).setCell ⟨p, 6, none⟩ (.int .u64 (hr : Int))).setCell ⟨p, 7, none⟩ (.int .u64 (hn : Int))).setCell ⟨p, 8, none⟩ (.string hv)) p 107 #[.int .i64 (k : Int), .int .u64 (s : Int), .int .u64 (r : Int), .int .u64 (n : Int), .string v, .bool hh, .int .u64 (hr : Int), .int .u64 (hn : Int), .string hv] := (((hM11.set_ 5 _).set_ 6 _).set_ 7 _).set_ 8 _
  have hR : Blk ((((w11.setCell ⟨p, 5, none⟩ (.bool hh)).setCell ⟨p, 6, none⟩ (.int .u64 (hr : Int))).setCell ⟨p, 7, none⟩ (.int .u64 (hn : Int))).setCell ⟨p, 8, none⟩ (.string hv)) w.heap.size 107 _ := (((hres11.far hpq.symm _).far hpq.symm _).far hpq.symm _).far hpq.symm _
  have hN : New w ((((w11.setCell ⟨p, 5, none⟩ (.bool hh)).setCell ⟨p, 6, none⟩ (.int .u64 (hr : Int))).setCell ⟨p, 7, none⟩ (.int .u64 (hn : Int))).setCell ⟨p, 8, none⟩ (.string hv)) := (((HN.out.setCell (p := ⟨p, 5, none⟩) (by simp; omega) _).setCell (p := ⟨p, 6, none⟩) (by simp; omega) _).setCell (p := ⟨p, 7, none⟩) (by simp; omega) _).setCell (p := ⟨p, 8, none⟩) (by simp; omega) _
  obtain ⟨pl, p0, p1, p2, p3, p4, p5, p6, p7, p8, pz⟩ := Blk9F hM11
  have HW := Lib.hid hW
  have HR := Lib.hid hR
  have HNN := Lib.hid hN
  clear hM11 hres11 hN11 hr11 hlen H hW hR hN
  go_upto_region 4 with fail
  generalize ((((w11.setCell ⟨p, 5, none⟩ (.bool hh)).setCell ⟨p, 6, none⟩ (.int .u64 (hr : Int))).setCell ⟨p, 7, none⟩ (.int .u64 (hn : Int))).setCell ⟨p, 8, none⟩ (.string hv)) = w12 at *
  clear p0 p1 p2 p3 p4 p5 p6 p7 p8 pz pl
  obtain ⟨pl, p0, p1, p2, p3, p4, p5, p6, p7, p8, pz⟩ := Blk9F HW.out
  obtain ⟨ql, q0, q1, q2, q3, q4, q5, q6, q7, q8, qz⟩ := Blk9F HR.out
  go_wp2_with fail
  exact bodyPost_ret (v := .agg #[.int .i64 (k : Int), .int .u64 (s : Int), .int .u64 (r : Int), .int .u64 (n : Int), .string v, .bool hh, .int .u64 (hr : Int), .int .u64 (hn : Int), .string hv]) (by simp [results, Try.results62, go_sem, q0, q1, q2, q3, q4, q5, q6, q7, q8]) rfl ⟨rfl, by
    repeat (refine New.setCell ?_ (by simp) _)
    exact HNN.out⟩
end Go.Proofs.Ytghhcjpilcoblaa
