/- The walk of the law CodeWrites (chapter 3): for every input it answers true. -/
import Derived.Test.YtnjifcgomkdhdaaRef03b
import Derived.Laws.OwnMore
namespace Go.Proofs.Ytnjifcgomkdhdaa
open Go.RowKit Go.Lap
set_option linter.unusedVariables false

/-- A writer in work, and what is wanted of it. -/
def Want (w wr : World) (g k : Nat) (want long : Value) : Prop := ∃ (v : Value) (bs : List UInt8), bs.length ≤ 210 * k ∧ New w wr ∧
  ((WrAt wr w.heap.size g v bs 0 ∧ want = .string (str bs) ∧ long = .bool false) ∨ (WrAt wr w.heap.size g v bs 32 ∧ (∃ s, want = .string s) ∧ long = .bool true))

theorem putF_bad (bs : List UInt8) (f : Fld) : putF (bs, 32) f = (bs, 32) := by
  unfold putF textS numB
  simp
theorem putF_long (bs : List UInt8) (f : Fld) (h : f.kind = 1) (hs : 65536 < f.s.size) : putF (bs, 0) f = (bs, 32) := by
  unfold putF textS
  simp [h, hs]

theorem WrAt.setNew {w w' : World} {base g : Nat} {v : Value} {bs : List UInt8} {err : Int} (h : WrAt w base g v bs err) (hn : New w w') {p : Addr} (hp : w.heap.size ≤ p.block) (u : Value) : WrAt (w'.setCell p u) base g v bs err := by
  have hg := h.2.1.lt
  refine (h.new hn).upd (S := fun k => k = p.block) ((Upd.refl (fun k => k = p.block) w').setCell (fun _ => rfl) u) (by omega) (fun k hk => ?_)
  have := (h.2.2.lt k hk).2
  omega

/-- The bytes of a new row. -/
theorem made_sl {w : World} {p n : Nat} (h : Blk w p 5 (madeCells (Value.int .u8 0).cells (n * 1))) : SlIn w 1 bEnc (.slice (some ⟨p, 0, none⟩) n n) (List.replicate n 0) := by
  have := SlIn.lit (l := List.replicate n (0 : UInt8)) (c := n) h bEncOk (by
    rw [Nat.mul_one, show (Value.int .u8 0).cells = #[Value.int .u8 0] from rfl, toList_madeCells_one]
    clear h
    induction n with
    | zero => rfl
    | succ n ih => rw [List.replicate_succ, List.replicate_succ, List.flatMap_cons, ← ih]; rfl) (by simp)
  rw [List.length_replicate] at this
  exact this

theorem len_step {f : Fld} {bs : List UInt8} {k : Nat} (hb : bs.length ≤ 210 * k) (hv : f.v < 18446744073709551616) (hs : f.s.size ≤ 200) : (bs ++ encF f).length ≤ 210 * (k + 1) := by
  have := encF_len f hv (by omega)
  rw [List.length_append]
  omega

/-- The first 200 bytes of a string, by no more than that. -/
theorem cut_ex (s : ByteArray) (h : 200 ≤ s.size) : ∃ cs : ByteArray, (∀ wx, (Instr.slice 9 (.string s) none (some (.int .i64 200)) none).run Try.prog wx = .ok (.string cs) wx) ∧ cs.size ≤ 200 :=
  ⟨s.extract 0 200, fun wx => run_slice_string_h wx 9 s Try.underlying9 .i64 200 (by decide) (by omega), by simp only [ByteArray.size_extract]; omega⟩
def cutS (s : ByteArray) : ByteArray := if 200 < s.size then s.extract 0 200 else s
theorem cutS_size (s : ByteArray) : (cutS s).size ≤ 200 := by
  unfold cutS
  split
  · simp only [ByteArray.size_extract]; omega
  · omega

/-- The round from the cut field on: the field lies at p. -/
def CutAt (wr : World) (p : Nat) (x : Fld) : Prop := Blk wr p 55 #[.int .i64 (x.kind % 4), .int .u64 (x.v : Int), .string (cutS x.s), .bool x.yes, .int .i64 x.most]

set_option maxRecDepth 100000 in
set_option maxHeartbeats 20000000 in
theorem codeWrites_walk (l : List Fld) (v0 : Value) (w : World) (hl : l.length ≤ maxLen) (hs : SlIn w 5 Fld.enc v0 l) (hgood : ∀ a ∈ l, a.good) :
    Calls Try.prog 6 #[v0] w fun e w' => e = .returned (.bool true) ∧ New w w' := by
  unfold maxLen at hl
  obtain ⟨A, c, rfl, hlc, hh⟩ := hs
  go_enter Try.func6, Try.ntmps6
  go_wp2_with fail
  refine (write_any _).mono ?_
  rintro e w1 ⟨rfl, hw1, hn1⟩
  go_wp2_with fail
  refine (awake03 _).mono ?_
  rintro e w2 ⟨rfl, hn2⟩
  have hw2 := hw1.new hn2
  have hN2 := hn1.trans hn2
  clear hw1 hn1 hn2
  by_cases ht : l.length ≤ 50
  · have t2' : ¬ (50 : Int) < (l.length : Int) := by omega
    clear hl
    generalize hgG : w.heap.size = g at hw2 ⊢
    have HG := Lib.hid hgG
    clear hgG
    go_wp2_with fail
    go_loopw [4, 5, 6, 7, 8] (fun want long i _ _ wr => ∃ k : Nat, k ≤ l.length ∧ i = .int .i64 k ∧ Want w wr g k want long) (fun _ _ i _ _ _ => l.length - (intOf i).toNat)
    case atStart => exact ⟨0, by omega, rfl, _, [], by simp, hN2, .inl ⟨by rw [HG.out]; exact hw2, rfl, rfl⟩⟩
    case round =>
      clear hw2 hN2
      obtain ⟨k, hk, rfl, v, bs, hbl, hn, hst⟩ := hrel
      by_cases hlt : k < l.length
      · have hlt' : (k : Int) < (l.length : Int) := by omega
        have hk0 : (0 : Int) ≤ (k : Int) := by omega
        rcases hh with rfl | ⟨b, off, rfl, hbb, hc⟩
        · simp at hlt
        obtain ⟨x, hx⟩ : ∃ x, l[k]? = some x := ⟨_, List.getElem?_eq_getElem hlt⟩
        have hg := hgood x (List.mem_of_getElem? hx)
        have hC := hn.cells.1
        have e0 : wr.cell? ⟨b, off + k * 5, none⟩ = some (.int .i64 x.kind) := (hC _ _ hbb).trans (hc k x hx 0 _ rfl)
        have e1 : wr.cell? ⟨b, off + k * 5 + 1, none⟩ = some (.int .u64 x.v) := (hC _ _ hbb).trans (hc k x hx 1 _ rfl)
        have e2 : wr.cell? ⟨b, off + k * 5 + 2, none⟩ = some (.string x.s) := (hC _ _ hbb).trans (hc k x hx 2 _ rfl)
        have e3 : wr.cell? ⟨b, off + k * 5 + 3, none⟩ = some (.bool x.yes) := (hC _ _ hbb).trans (hc k x hx 3 _ rfl)
        have e4 : wr.cell? ⟨b, off + k * 5 + 4, none⟩ = some (.int .i64 x.most) := (hC _ _ hbb).trans (hc k x hx 4 _ rfl)
        have HGd := Lib.hid hg
        clear hC hc hx hg
        go_wp2_with fail
        refine (kinds_any x wr).mono ?_
        rintro e w3 ⟨rfl, hn3⟩
        have hN3 := hn.trans hn3
        clear e0 e1 e2 e3 e4
        obtain ⟨kind, fv, fs, yes, most⟩ := x
        obtain ⟨g1, g2, _, _, g5, g6⟩ := HGd.out
        simp only at g1 g2 g5 g6 ⊢
        have G1 := Lib.hid g1
        clear g1 HGd
        unfold maxLen at g2
        have hK : (kind % 4 = 1 ∧ (∃ n : Nat, most = (n : Int)) ∧ 70000 < most ∧ most < 80000) ∨ ((kind % 4 == 1) = false) ∨ (kind % 4 = 1 ∧ ¬ 70000 < most) ∨ (kind % 4 = 1 ∧ 70000 < most ∧ ¬ most < 80000) := by
          by_cases h1 : kind % 4 = 1
          · by_cases h2 : 70000 < most
            · by_cases h3 : most < 80000
              · exact .inl ⟨h1, ⟨most.toNat, by omega⟩, h2, h3⟩
              · exact .inr (.inr (.inr ⟨h1, h2, h3⟩))
            · exact .inr (.inr (.inl ⟨h1, h2⟩))
          · exact .inr (.inl (by simpa using h1))
        by_cases hsz : 200 < fs.size
        · have hsz' : (200 : Int) < (fs.size : Int) := by omega
          obtain ⟨cs, hcut, hcsz⟩ := cut_ex fs (by omega)
          have hS' : cs.size ≤ 200 := hcsz
          have HS' := Lib.hid hS'
          clear hS'
          have hend : ∀ (K : Int), -9223372036854775808 ≤ K % 4 ∧ K % 4 ≤ 9223372036854775807 := fun K => by omega
          have HEND := Lib.hid hend
          clear hend
          rcases hK with ⟨k1, ⟨n, rfl⟩, k3, k4⟩ | k1
          · have k3' : (70000 : Int) < (n : Int) := by omega
            have k4' : (n : Int) < (80000 : Int) := by omega
            have K3 := Lib.hid k3
            have hm1 : 1 * n ≤ 281474976710656 := by omega
            have hm2 : n ≤ maxLen := by unfold maxLen; omega
            have HM1 := Lib.hid hm1
            have HM2 := Lib.hid hm2
            clear hm1 hm2
            rw [k1]
            have hBF := Blk.mk_new w3 55 #[.int .i64 1, .int .u64 (fv : Int), .string cs, .bool yes, .int .i64 (n : Int)]
            have hNF := hN3.alloc (Obj.cells #[.int .i64 1, .int .u64 (fv : Int), .string cs, .bool yes, .int .i64 (n : Int)] 55)
            have hnF := hn3.alloc (Obj.cells #[.int .i64 1, .int .u64 (fv : Int), .string cs, .bool yes, .int .i64 (n : Int)] 55)
            have hLs : (str (List.replicate n 0)).size = n := by rw [str_size, List.length_replicate]
            have HLS := Lib.hid hLs
            clear hLs
            rcases hst with ⟨hw, rfl, rfl⟩ | ⟨hw, ⟨sw, rfl⟩, rfl⟩
            · go_wp2_with (at_make; refine wpList_mk (n := n) (kl := .i64) (kc := .i64) bTy rfl _ _ rfl rfl rfl HM1.out HM2.out ?_; intro w4 hb4 hn4 hs4; have hq := Blk5F (hBF.new hn4); obtain ⟨q0, q1, q2, q3, q4, q5, qz⟩ := hq; have hcv := run_str w4 (made_sl hb4); rw [World.size_alloc] at hcv)
              have hwA := hw.setNew (hnF.trans hn4) (p := ⟨w3.heap.size, 2, none⟩) hn3.size (.string (str (List.replicate n 0)))
              have hNA := (hNF.trans hn4).setCell (p := ⟨w3.heap.size, 2, none⟩) hN3.size (.string (str (List.replicate n 0)))
              refine (put_any w.heap.size g v bs 0 ⟨1, fv, str (List.replicate n 0), yes, n⟩ _ hwA (by omega) ⟨G1.out, by show (str (List.replicate n 0)).size ≤ maxLen; rw [HLS.out]; exact HM2.out, by show (-9223372036854775808 : Int) ≤ 1; decide, by show (1 : Int) ≤ 9223372036854775807; decide, g5, g6⟩).mono ?_
              rintro e w5 ⟨v5, rfl, hw5, hu5, hf5⟩
              rw [putF_long bs _ rfl (by show 65536 < (str (List.replicate n 0)).size; rw [HLS.out]; have := K3.out; omega)] at hw5
              have hN5 := hwA.step hNA hu5
              go_wp2_with fail
              go_roundw
              case rel => exact ⟨k + 1, by omega, by go_num, v5, bs, by omega, hN5, .inr ⟨hw5, ⟨_, rfl⟩, rfl⟩⟩
              case measure => simp [intOf]; omega
            · go_wp2_with (at_make; refine wpList_mk (n := n) (kl := .i64) (kc := .i64) bTy rfl _ _ rfl rfl rfl HM1.out HM2.out ?_; intro w4 hb4 hn4 hs4; have hq := Blk5F (hBF.new hn4); obtain ⟨q0, q1, q2, q3, q4, q5, qz⟩ := hq; have hcv := run_str w4 (made_sl hb4); rw [World.size_alloc] at hcv)
              have hwA := hw.setNew (hnF.trans hn4) (p := ⟨w3.heap.size, 2, none⟩) hn3.size (.string (str (List.replicate n 0)))
              have hNA := (hNF.trans hn4).setCell (p := ⟨w3.heap.size, 2, none⟩) hN3.size (.string (str (List.replicate n 0)))
              refine (put_any w.heap.size g v bs 32 ⟨1, fv, str (List.replicate n 0), yes, n⟩ _ hwA (by omega) ⟨G1.out, by show (str (List.replicate n 0)).size ≤ maxLen; rw [HLS.out]; exact HM2.out, by show (-9223372036854775808 : Int) ≤ 1; decide, by show (1 : Int) ≤ 9223372036854775807; decide, g5, g6⟩).mono ?_
              rintro e w5 ⟨v5, rfl, hw5, hu5, hf5⟩
              rw [putF_bad bs _] at hw5
              have hN5 := hwA.step hNA hu5
              go_wp2_with fail
              go_roundw
              case rel => exact ⟨k + 1, by omega, by go_num, v5, bs, by omega, hN5, .inr ⟨hw5, ⟨_, rfl⟩, rfl⟩⟩
              case measure => simp [intOf]; omega
          · rcases k1 with k1 | ⟨k1, k2⟩ | ⟨k1, k2, k3⟩
            · have hkb := HEND.out kind
              generalize kind % 4 = K at *
              have hwF0 := hn3.alloc (Obj.cells #[.int .i64 K, .int .u64 (fv : Int), .string cs, .bool yes, .int .i64 most] 55)
              have hNF := hN3.alloc (Obj.cells #[.int .i64 K, .int .u64 (fv : Int), .string cs, .bool yes, .int .i64 most] 55)
              have hBF := Blk.mk_new w3 55 #[.int .i64 K, .int .u64 (fv : Int), .string cs, .bool yes, .int .i64 most]
              have hKG : ({kind := K, v := fv, s := cs, yes := yes, most := most} : Fld).good := ⟨G1.out, by show cs.size ≤ maxLen; unfold maxLen; have := HS'.out; omega, hkb.1, hkb.2, g5, g6⟩
              have HKG := Lib.hid hKG
              clear hKG
              rcases hst with ⟨hw, rfl, rfl⟩ | ⟨hw, ⟨sw, rfl⟩, rfl⟩
              · have hwA := hw.new hwF0
                go_wp2_with fail
                refine (put_any w.heap.size g v bs 0 ⟨K, fv, cs, yes, most⟩ _ hwA (by omega) HKG.out).mono ?_
                rintro e w5 ⟨v5, rfl, hw5, hu5, hf5⟩
                rw [putF_enc bs _ (Nat.le_trans HS'.out (by decide))] at hw5
                have hN5 := hwA.step hNF hu5
                have hq := hBF.upd hu5 (fun h => hw.fresh hn3.size h)
                obtain ⟨q0, q1, q2, q3, q4, q5, qz⟩ := Blk5F hq
                have hL5 := len_step hbl (f := ⟨K, fv, cs, yes, most⟩) G1.out HS'.out
                generalize hEE : encF ⟨K, fv, cs, yes, most⟩ = ee at hw5 hL5
                have hz1 : (str bs).size + (str ee).size ≤ 9223372036854775807 := by rw [str_size, str_size]; rw [List.length_append] at hL5; omega
                have HEE := Lib.hid hEE
                have HL5 := Lib.hid hL5
                clear hEE hL5
                go_wp2_with fail
                refine (refPut_any ⟨K, fv, cs, yes, most⟩ w5 G1.out (Nat.le_trans HS'.out (by decide))).mono ?_
                rw [HEE.out]
                rintro e w6 ⟨rfl, hn6⟩
                go_wp2_with fail
                go_roundw
                case rel => exact ⟨k + 1, by omega, by go_num, v5, bs ++ ee, HL5.out, hN5.trans hn6, .inl ⟨hw5.new hn6, congrArg Value.string (str_append bs ee), rfl⟩⟩
                case measure => simp [intOf]; omega
              · have hwA := hw.new hwF0
                go_wp2_with fail
                refine (put_any w.heap.size g v bs 32 ⟨K, fv, cs, yes, most⟩ _ hwA (by omega) HKG.out).mono ?_
                rintro e w5 ⟨v5, rfl, hw5, hu5, hf5⟩
                rw [putF_bad bs _] at hw5
                have hN5 := hwA.step hNF hu5
                go_wp2_with fail
                go_roundw
                case rel => exact ⟨k + 1, by omega, by go_num, v5, bs, by omega, hN5, .inr ⟨hw5, ⟨_, rfl⟩, rfl⟩⟩
                case measure => simp [intOf]; omega
            · rw [k1]
              clear k1
              have hwF0 := hn3.alloc (Obj.cells #[.int .i64 1, .int .u64 (fv : Int), .string cs, .bool yes, .int .i64 most] 55)
              have hNF := hN3.alloc (Obj.cells #[.int .i64 1, .int .u64 (fv : Int), .string cs, .bool yes, .int .i64 most] 55)
              have hBF := Blk.mk_new w3 55 #[.int .i64 1, .int .u64 (fv : Int), .string cs, .bool yes, .int .i64 most]
              have hKG : ({kind := 1, v := fv, s := cs, yes := yes, most := most} : Fld).good := ⟨G1.out, by show cs.size ≤ maxLen; unfold maxLen; have := HS'.out; omega, by show (-9223372036854775808 : Int) ≤ 1; decide, by show (1 : Int) ≤ 9223372036854775807; decide, g5, g6⟩
              have HKG := Lib.hid hKG
              clear hKG
              rcases hst with ⟨hw, rfl, rfl⟩ | ⟨hw, ⟨sw, rfl⟩, rfl⟩
              · have hwA := hw.new hwF0
                go_wp2_with fail
                refine (put_any w.heap.size g v bs 0 ⟨1, fv, cs, yes, most⟩ _ hwA (by omega) HKG.out).mono ?_
                rintro e w5 ⟨v5, rfl, hw5, hu5, hf5⟩
                rw [putF_enc bs _ (Nat.le_trans HS'.out (by decide))] at hw5
                have hN5 := hwA.step hNF hu5
                have hq := hBF.upd hu5 (fun h => hw.fresh hn3.size h)
                obtain ⟨q0, q1, q2, q3, q4, q5, qz⟩ := Blk5F hq
                have hL5 := len_step hbl (f := ⟨1, fv, cs, yes, most⟩) G1.out HS'.out
                generalize hEE : encF ⟨1, fv, cs, yes, most⟩ = ee at hw5 hL5
                have hz1 : (str bs).size + (str ee).size ≤ 9223372036854775807 := by rw [str_size, str_size]; rw [List.length_append] at hL5; omega
                have HEE := Lib.hid hEE
                have HL5 := Lib.hid hL5
                clear hEE hL5
                go_wp2_with fail
                refine (refPut_any ⟨1, fv, cs, yes, most⟩ w5 G1.out (Nat.le_trans HS'.out (by decide))).mono ?_
                rw [HEE.out]
                rintro e w6 ⟨rfl, hn6⟩
                go_wp2_with fail
                go_roundw
                case rel => exact ⟨k + 1, by omega, by go_num, v5, bs ++ ee, HL5.out, hN5.trans hn6, .inl ⟨hw5.new hn6, congrArg Value.string (str_append bs ee), rfl⟩⟩
                case measure => simp [intOf]; omega
              · have hwA := hw.new hwF0
                go_wp2_with fail
                refine (put_any w.heap.size g v bs 32 ⟨1, fv, cs, yes, most⟩ _ hwA (by omega) HKG.out).mono ?_
                rintro e w5 ⟨v5, rfl, hw5, hu5, hf5⟩
                rw [putF_bad bs _] at hw5
                have hN5 := hwA.step hNF hu5
                go_wp2_with fail
                go_roundw
                case rel => exact ⟨k + 1, by omega, by go_num, v5, bs, by omega, hN5, .inr ⟨hw5, ⟨_, rfl⟩, rfl⟩⟩
                case measure => simp [intOf]; omega
            · rw [k1]
              clear k1
              have hwF0 := hn3.alloc (Obj.cells #[.int .i64 1, .int .u64 (fv : Int), .string cs, .bool yes, .int .i64 most] 55)
              have hNF := hN3.alloc (Obj.cells #[.int .i64 1, .int .u64 (fv : Int), .string cs, .bool yes, .int .i64 most] 55)
              have hBF := Blk.mk_new w3 55 #[.int .i64 1, .int .u64 (fv : Int), .string cs, .bool yes, .int .i64 most]
              have hKG : ({kind := 1, v := fv, s := cs, yes := yes, most := most} : Fld).good := ⟨G1.out, by show cs.size ≤ maxLen; unfold maxLen; have := HS'.out; omega, by show (-9223372036854775808 : Int) ≤ 1; decide, by show (1 : Int) ≤ 9223372036854775807; decide, g5, g6⟩
              have HKG := Lib.hid hKG
              clear hKG
              rcases hst with ⟨hw, rfl, rfl⟩ | ⟨hw, ⟨sw, rfl⟩, rfl⟩
              · have hwA := hw.new hwF0
                go_wp2_with fail
                refine (put_any w.heap.size g v bs 0 ⟨1, fv, cs, yes, most⟩ _ hwA (by omega) HKG.out).mono ?_
                rintro e w5 ⟨v5, rfl, hw5, hu5, hf5⟩
                rw [putF_enc bs _ (Nat.le_trans HS'.out (by decide))] at hw5
                have hN5 := hwA.step hNF hu5
                have hq := hBF.upd hu5 (fun h => hw.fresh hn3.size h)
                obtain ⟨q0, q1, q2, q3, q4, q5, qz⟩ := Blk5F hq
                have hL5 := len_step hbl (f := ⟨1, fv, cs, yes, most⟩) G1.out HS'.out
                generalize hEE : encF ⟨1, fv, cs, yes, most⟩ = ee at hw5 hL5
                have hz1 : (str bs).size + (str ee).size ≤ 9223372036854775807 := by rw [str_size, str_size]; rw [List.length_append] at hL5; omega
                have HEE := Lib.hid hEE
                have HL5 := Lib.hid hL5
                clear hEE hL5
                go_wp2_with fail
                refine (refPut_any ⟨1, fv, cs, yes, most⟩ w5 G1.out (Nat.le_trans HS'.out (by decide))).mono ?_
                rw [HEE.out]
                rintro e w6 ⟨rfl, hn6⟩
                go_wp2_with fail
                go_roundw
                case rel => exact ⟨k + 1, by omega, by go_num, v5, bs ++ ee, HL5.out, hN5.trans hn6, .inl ⟨hw5.new hn6, congrArg Value.string (str_append bs ee), rfl⟩⟩
                case measure => simp [intOf]; omega
              · have hwA := hw.new hwF0
                go_wp2_with fail
                refine (put_any w.heap.size g v bs 32 ⟨1, fv, cs, yes, most⟩ _ hwA (by omega) HKG.out).mono ?_
                rintro e w5 ⟨v5, rfl, hw5, hu5, hf5⟩
                rw [putF_bad bs _] at hw5
                have hN5 := hwA.step hNF hu5
                go_wp2_with fail
                go_roundw
                case rel => exact ⟨k + 1, by omega, by go_num, v5, bs, by omega, hN5, .inr ⟨hw5, ⟨_, rfl⟩, rfl⟩⟩
                case measure => simp [intOf]; omega
        · have hsz' : ¬ (200 : Int) < (fs.size : Int) := by omega
          have hS' : fs.size ≤ 200 := by omega
          have HS' := Lib.hid hS'
          clear hS'
          have hend : ∀ (K : Int), -9223372036854775808 ≤ K % 4 ∧ K % 4 ≤ 9223372036854775807 := fun K => by omega
          have HEND := Lib.hid hend
          clear hend
          rcases hK with ⟨k1, ⟨n, rfl⟩, k3, k4⟩ | k1
          · have k3' : (70000 : Int) < (n : Int) := by omega
            have k4' : (n : Int) < (80000 : Int) := by omega
            have K3 := Lib.hid k3
            have hm1 : 1 * n ≤ 281474976710656 := by omega
            have hm2 : n ≤ maxLen := by unfold maxLen; omega
            have HM1 := Lib.hid hm1
            have HM2 := Lib.hid hm2
            clear hm1 hm2
            rw [k1]
            have hBF := Blk.mk_new w3 55 #[.int .i64 1, .int .u64 (fv : Int), .string fs, .bool yes, .int .i64 (n : Int)]
            have hNF := hN3.alloc (Obj.cells #[.int .i64 1, .int .u64 (fv : Int), .string fs, .bool yes, .int .i64 (n : Int)] 55)
            have hnF := hn3.alloc (Obj.cells #[.int .i64 1, .int .u64 (fv : Int), .string fs, .bool yes, .int .i64 (n : Int)] 55)
            have hLs : (str (List.replicate n 0)).size = n := by rw [str_size, List.length_replicate]
            have HLS := Lib.hid hLs
            clear hLs
            rcases hst with ⟨hw, rfl, rfl⟩ | ⟨hw, ⟨sw, rfl⟩, rfl⟩
            · go_wp2_with (at_make; refine wpList_mk (n := n) (kl := .i64) (kc := .i64) bTy rfl _ _ rfl rfl rfl HM1.out HM2.out ?_; intro w4 hb4 hn4 hs4; have hq := Blk5F (hBF.new hn4); obtain ⟨q0, q1, q2, q3, q4, q5, qz⟩ := hq; have hcv := run_str w4 (made_sl hb4); rw [World.size_alloc] at hcv)
              have hwA := hw.setNew (hnF.trans hn4) (p := ⟨w3.heap.size, 2, none⟩) hn3.size (.string (str (List.replicate n 0)))
              have hNA := (hNF.trans hn4).setCell (p := ⟨w3.heap.size, 2, none⟩) hN3.size (.string (str (List.replicate n 0)))
              refine (put_any w.heap.size g v bs 0 ⟨1, fv, str (List.replicate n 0), yes, n⟩ _ hwA (by omega) ⟨G1.out, by show (str (List.replicate n 0)).size ≤ maxLen; rw [HLS.out]; exact HM2.out, by show (-9223372036854775808 : Int) ≤ 1; decide, by show (1 : Int) ≤ 9223372036854775807; decide, g5, g6⟩).mono ?_
              rintro e w5 ⟨v5, rfl, hw5, hu5, hf5⟩
              rw [putF_long bs _ rfl (by show 65536 < (str (List.replicate n 0)).size; rw [HLS.out]; have := K3.out; omega)] at hw5
              have hN5 := hwA.step hNA hu5
              go_wp2_with fail
              go_roundw
              case rel => exact ⟨k + 1, by omega, by go_num, v5, bs, by omega, hN5, .inr ⟨hw5, ⟨_, rfl⟩, rfl⟩⟩
              case measure => simp [intOf]; omega
            · go_wp2_with (at_make; refine wpList_mk (n := n) (kl := .i64) (kc := .i64) bTy rfl _ _ rfl rfl rfl HM1.out HM2.out ?_; intro w4 hb4 hn4 hs4; have hq := Blk5F (hBF.new hn4); obtain ⟨q0, q1, q2, q3, q4, q5, qz⟩ := hq; have hcv := run_str w4 (made_sl hb4); rw [World.size_alloc] at hcv)
              have hwA := hw.setNew (hnF.trans hn4) (p := ⟨w3.heap.size, 2, none⟩) hn3.size (.string (str (List.replicate n 0)))
              have hNA := (hNF.trans hn4).setCell (p := ⟨w3.heap.size, 2, none⟩) hN3.size (.string (str (List.replicate n 0)))
              refine (put_any w.heap.size g v bs 32 ⟨1, fv, str (List.replicate n 0), yes, n⟩ _ hwA (by omega) ⟨G1.out, by show (str (List.replicate n 0)).size ≤ maxLen; rw [HLS.out]; exact HM2.out, by show (-9223372036854775808 : Int) ≤ 1; decide, by show (1 : Int) ≤ 9223372036854775807; decide, g5, g6⟩).mono ?_
              rintro e w5 ⟨v5, rfl, hw5, hu5, hf5⟩
              rw [putF_bad bs _] at hw5
              have hN5 := hwA.step hNA hu5
              go_wp2_with fail
              go_roundw
              case rel => exact ⟨k + 1, by omega, by go_num, v5, bs, by omega, hN5, .inr ⟨hw5, ⟨_, rfl⟩, rfl⟩⟩
              case measure => simp [intOf]; omega
          · rcases k1 with k1 | ⟨k1, k2⟩ | ⟨k1, k2, k3⟩
            · have hkb := HEND.out kind
              generalize kind % 4 = K at *
              have hwF0 := hn3.alloc (Obj.cells #[.int .i64 K, .int .u64 (fv : Int), .string fs, .bool yes, .int .i64 most] 55)
              have hNF := hN3.alloc (Obj.cells #[.int .i64 K, .int .u64 (fv : Int), .string fs, .bool yes, .int .i64 most] 55)
              have hBF := Blk.mk_new w3 55 #[.int .i64 K, .int .u64 (fv : Int), .string fs, .bool yes, .int .i64 most]
              have hKG : ({kind := K, v := fv, s := fs, yes := yes, most := most} : Fld).good := ⟨G1.out, by show fs.size ≤ maxLen; unfold maxLen; have := HS'.out; omega, hkb.1, hkb.2, g5, g6⟩
              have HKG := Lib.hid hKG
              clear hKG
              rcases hst with ⟨hw, rfl, rfl⟩ | ⟨hw, ⟨sw, rfl⟩, rfl⟩
              · have hwA := hw.new hwF0
                go_wp2_with fail
                refine (put_any w.heap.size g v bs 0 ⟨K, fv, fs, yes, most⟩ _ hwA (by omega) HKG.out).mono ?_
                rintro e w5 ⟨v5, rfl, hw5, hu5, hf5⟩
                rw [putF_enc bs _ (Nat.le_trans HS'.out (by decide))] at hw5
                have hN5 := hwA.step hNF hu5
                have hq := hBF.upd hu5 (fun h => hw.fresh hn3.size h)
                obtain ⟨q0, q1, q2, q3, q4, q5, qz⟩ := Blk5F hq
                have hL5 := len_step hbl (f := ⟨K, fv, fs, yes, most⟩) G1.out HS'.out
                generalize hEE : encF ⟨K, fv, fs, yes, most⟩ = ee at hw5 hL5
                have hz1 : (str bs).size + (str ee).size ≤ 9223372036854775807 := by rw [str_size, str_size]; rw [List.length_append] at hL5; omega
                have HEE := Lib.hid hEE
                have HL5 := Lib.hid hL5
                clear hEE hL5
                go_wp2_with fail
                refine (refPut_any ⟨K, fv, fs, yes, most⟩ w5 G1.out (Nat.le_trans HS'.out (by decide))).mono ?_
                rw [HEE.out]
                rintro e w6 ⟨rfl, hn6⟩
                go_wp2_with fail
                go_roundw
                case rel => exact ⟨k + 1, by omega, by go_num, v5, bs ++ ee, HL5.out, hN5.trans hn6, .inl ⟨hw5.new hn6, congrArg Value.string (str_append bs ee), rfl⟩⟩
                case measure => simp [intOf]; omega
              · have hwA := hw.new hwF0
                go_wp2_with fail
                refine (put_any w.heap.size g v bs 32 ⟨K, fv, fs, yes, most⟩ _ hwA (by omega) HKG.out).mono ?_
                rintro e w5 ⟨v5, rfl, hw5, hu5, hf5⟩
                rw [putF_bad bs _] at hw5
                have hN5 := hwA.step hNF hu5
                go_wp2_with fail
                go_roundw
                case rel => exact ⟨k + 1, by omega, by go_num, v5, bs, by omega, hN5, .inr ⟨hw5, ⟨_, rfl⟩, rfl⟩⟩
                case measure => simp [intOf]; omega
            · rw [k1]
              clear k1
              have hwF0 := hn3.alloc (Obj.cells #[.int .i64 1, .int .u64 (fv : Int), .string fs, .bool yes, .int .i64 most] 55)
              have hNF := hN3.alloc (Obj.cells #[.int .i64 1, .int .u64 (fv : Int), .string fs, .bool yes, .int .i64 most] 55)
              have hBF := Blk.mk_new w3 55 #[.int .i64 1, .int .u64 (fv : Int), .string fs, .bool yes, .int .i64 most]
              have hKG : ({kind := 1, v := fv, s := fs, yes := yes, most := most} : Fld).good := ⟨G1.out, by show fs.size ≤ maxLen; unfold maxLen; have := HS'.out; omega, by show (-9223372036854775808 : Int) ≤ 1; decide, by show (1 : Int) ≤ 9223372036854775807; decide, g5, g6⟩
              have HKG := Lib.hid hKG
              clear hKG
              rcases hst with ⟨hw, rfl, rfl⟩ | ⟨hw, ⟨sw, rfl⟩, rfl⟩
              · have hwA := hw.new hwF0
                go_wp2_with fail
                refine (put_any w.heap.size g v bs 0 ⟨1, fv, fs, yes, most⟩ _ hwA (by omega) HKG.out).mono ?_
                rintro e w5 ⟨v5, rfl, hw5, hu5, hf5⟩
                rw [putF_enc bs _ (Nat.le_trans HS'.out (by decide))] at hw5
                have hN5 := hwA.step hNF hu5
                have hq := hBF.upd hu5 (fun h => hw.fresh hn3.size h)
                obtain ⟨q0, q1, q2, q3, q4, q5, qz⟩ := Blk5F hq
                have hL5 := len_step hbl (f := ⟨1, fv, fs, yes, most⟩) G1.out HS'.out
                generalize hEE : encF ⟨1, fv, fs, yes, most⟩ = ee at hw5 hL5
                have hz1 : (str bs).size + (str ee).size ≤ 9223372036854775807 := by rw [str_size, str_size]; rw [List.length_append] at hL5; omega
                have HEE := Lib.hid hEE
                have HL5 := Lib.hid hL5
                clear hEE hL5
                go_wp2_with fail
                refine (refPut_any ⟨1, fv, fs, yes, most⟩ w5 G1.out (Nat.le_trans HS'.out (by decide))).mono ?_
                rw [HEE.out]
                rintro e w6 ⟨rfl, hn6⟩
                go_wp2_with fail
                go_roundw
                case rel => exact ⟨k + 1, by omega, by go_num, v5, bs ++ ee, HL5.out, hN5.trans hn6, .inl ⟨hw5.new hn6, congrArg Value.string (str_append bs ee), rfl⟩⟩
                case measure => simp [intOf]; omega
              · have hwA := hw.new hwF0
                go_wp2_with fail
                refine (put_any w.heap.size g v bs 32 ⟨1, fv, fs, yes, most⟩ _ hwA (by omega) HKG.out).mono ?_
                rintro e w5 ⟨v5, rfl, hw5, hu5, hf5⟩
                rw [putF_bad bs _] at hw5
                have hN5 := hwA.step hNF hu5
                go_wp2_with fail
                go_roundw
                case rel => exact ⟨k + 1, by omega, by go_num, v5, bs, by omega, hN5, .inr ⟨hw5, ⟨_, rfl⟩, rfl⟩⟩
                case measure => simp [intOf]; omega
            · rw [k1]
              clear k1
              have hwF0 := hn3.alloc (Obj.cells #[.int .i64 1, .int .u64 (fv : Int), .string fs, .bool yes, .int .i64 most] 55)
              have hNF := hN3.alloc (Obj.cells #[.int .i64 1, .int .u64 (fv : Int), .string fs, .bool yes, .int .i64 most] 55)
              have hBF := Blk.mk_new w3 55 #[.int .i64 1, .int .u64 (fv : Int), .string fs, .bool yes, .int .i64 most]
              have hKG : ({kind := 1, v := fv, s := fs, yes := yes, most := most} : Fld).good := ⟨G1.out, by show fs.size ≤ maxLen; unfold maxLen; have := HS'.out; omega, by show (-9223372036854775808 : Int) ≤ 1; decide, by show (1 : Int) ≤ 9223372036854775807; decide, g5, g6⟩
              have HKG := Lib.hid hKG
              clear hKG
              rcases hst with ⟨hw, rfl, rfl⟩ | ⟨hw, ⟨sw, rfl⟩, rfl⟩
              · have hwA := hw.new hwF0
                go_wp2_with fail
                refine (put_any w.heap.size g v bs 0 ⟨1, fv, fs, yes, most⟩ _ hwA (by omega) HKG.out).mono ?_
                rintro e w5 ⟨v5, rfl, hw5, hu5, hf5⟩
                rw [putF_enc bs _ (Nat.le_trans HS'.out (by decide))] at hw5
                have hN5 := hwA.step hNF hu5
                have hq := hBF.upd hu5 (fun h => hw.fresh hn3.size h)
                obtain ⟨q0, q1, q2, q3, q4, q5, qz⟩ := Blk5F hq
                have hL5 := len_step hbl (f := ⟨1, fv, fs, yes, most⟩) G1.out HS'.out
                generalize hEE : encF ⟨1, fv, fs, yes, most⟩ = ee at hw5 hL5
                have hz1 : (str bs).size + (str ee).size ≤ 9223372036854775807 := by rw [str_size, str_size]; rw [List.length_append] at hL5; omega
                have HEE := Lib.hid hEE
                have HL5 := Lib.hid hL5
                clear hEE hL5
                go_wp2_with fail
                refine (refPut_any ⟨1, fv, fs, yes, most⟩ w5 G1.out (Nat.le_trans HS'.out (by decide))).mono ?_
                rw [HEE.out]
                rintro e w6 ⟨rfl, hn6⟩
                go_wp2_with fail
                go_roundw
                case rel => exact ⟨k + 1, by omega, by go_num, v5, bs ++ ee, HL5.out, hN5.trans hn6, .inl ⟨hw5.new hn6, congrArg Value.string (str_append bs ee), rfl⟩⟩
                case measure => simp [intOf]; omega
              · have hwA := hw.new hwF0
                go_wp2_with fail
                refine (put_any w.heap.size g v bs 32 ⟨1, fv, fs, yes, most⟩ _ hwA (by omega) HKG.out).mono ?_
                rintro e w5 ⟨v5, rfl, hw5, hu5, hf5⟩
                rw [putF_bad bs _] at hw5
                have hN5 := hwA.step hNF hu5
                go_wp2_with fail
                go_roundw
                case rel => exact ⟨k + 1, by omega, by go_num, v5, bs, by omega, hN5, .inr ⟨hw5, ⟨_, rfl⟩, rfl⟩⟩
                case measure => simp [intOf]; omega
      · have hlt' : ¬ (k : Int) < (l.length : Int) := by omega
        have hbl' : bs.length ≤ 1000000000 := by omega
        rcases hst with ⟨hw, rfl, rfl⟩ | ⟨hw, ⟨s, rfl⟩, rfl⟩
        · go_wp2_with fail
          refine (wbytes_any w.heap.size g v bs 0 wr hw hbl').mono ?_
          rintro e w3 ⟨u3, rfl, ho3, hn3⟩
          rw [if_pos rfl] at ho3
          have hcv := run_str w3 (Owns.slIn bEncOk ho3)
          go_wp2_with fail
          go_ret
          exact ⟨rfl, hn.trans hn3⟩
        · go_wp2_with fail
          refine (wbytes_any w.heap.size g v bs 32 wr hw hbl').mono ?_
          rintro e w3 ⟨u3, rfl, ho3, hn3⟩
          rw [if_neg (by decide)] at ho3
          subst ho3
          go_wp2_with fail
          go_ret
          exact ⟨rfl, hn.trans hn3⟩
  · have t2' : (50 : Int) < (l.length : Int) := by omega
    go_wp2_with fail
    refine (awake03 _).mono ?_
    rintro e w3 ⟨rfl, hn3⟩
    go_wp2_with fail
    go_ret
    exact ⟨rfl, hN2.trans hn3⟩
end Go.Proofs.Ytnjifcgomkdhdaa
