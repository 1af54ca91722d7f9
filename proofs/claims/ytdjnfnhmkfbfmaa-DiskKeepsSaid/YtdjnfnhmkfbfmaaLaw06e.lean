/- The walk of the law DiskLeaves (chapter 6): for every input it answers true. Printed by genLaw06.py. -/
import Derived.Test.YtdjnfnhmkfbfmaaLaw06c
import Derived.Test.YtdjnfnhmkfbfmaaLaw06d
namespace Go.Proofs.Ytdjnfnhmkfbfmaa
open Go.RowKit Go.Lap
set_option linter.unusedVariables false

def AcGood (w : World) (a : Ac) : Prop := okI a.kind ∧ okI a.at_ ∧ a.b.size ≤ maxLen ∧ SvOk w a.u maxLen
theorem AcGood.new {w w' : World} {a : Ac} (h : AcGood w a) (hn : New w w') : AcGood w' a := ⟨h.1, h.2.1, h.2.2.1, h.2.2.2.new hn⟩
theorem okI_small {k : Nat} (h : k ≤ 1000) : okI (k : Int) := okI_nat (by omega)

set_option maxRecDepth 100000 in
set_option maxHeartbeats 8000000 in
theorem diskLeaves_walk (n : Int) (acts : List Ac) (v : Value) (w : World) (hn : okI n) (hl : acts.length ≤ maxLen) (hs : SlIn w 4 acE v acts) (hg : ∀ x ∈ acts, AcGood w x) :
    Calls Try.prog 11 #[.int .i64 n, v] w fun e w' => e = .returned (.bool true) ∧ New w w' := by
  unfold maxLen at hl
  obtain ⟨A, cp, hv, hcp, hor⟩ := id hs
  subst hv
  have hval : 1 ≤ n ∧ n ≤ 65536 ∨ (n < 1 ∨ 65536 < n) := by omega
  rcases hval with ⟨h1n, h2n⟩ | hbad
  case inr =>
    have HB := Lib.hid hbad
    clear hbad
    go_enter Try.func11, Try.ntmps11
    go_wp2_with fail
    refine (dnew_no n _ HB.out).mono ?_
    rintro e w1 ⟨rfl, rfl⟩
    go_wp2_with fail
    refine (awake06 _).mono ?_
    rintro e w2 ⟨rfl, hn2⟩
    go_wp2_with fail
    refine (awake06 _).mono ?_
    rintro e w3 ⟨rfl, hn3⟩
    go_wp2_with fail
    go_ret
    exact ⟨rfl, hn2.trans hn3⟩
  case inl =>
    have HG := Lib.hid hg
    have HS := Lib.hid hs
    have H1 := Lib.hid h1n
    have H2 := Lib.hid h2n
    clear hg hs h1n h2n
    go_enter Try.func11, Try.ntmps11
    go_wp2_with fail
    refine (new_s n _ H1.out H2.out).mono ?_
    rintro e w1 ⟨d, rfl, h1, hn1⟩
    go_wp2_with fail
    refine (awake06 _).mono ?_
    rintro e w2 ⟨rfl, hn2⟩
    have b2 : DB w w2 d (newD n) := ⟨h1.new hn2, hn1.trans hn2⟩
    clear h1 hn1 hn2
    go_wp2_with fail
    go_loopw [7] (fun i wr => ∃ k : Nat, k ≤ acts.length ∧ k ≤ 40 ∧ i = .int .i64 k ∧ ∃ D, DB w wr d D ∧ D.Inv ∧ D.L.length ≤ k) (fun i _ => acts.length - (intOf i).toNat)
    case atStart => exact ⟨0, by omega, by omega, rfl, _, b2, inv_new n, Nat.le_refl _⟩
    case round =>
      obtain ⟨k, hk, hk40, rfl, D, hb, hinv, hL⟩ := hrel
      have HI := Lib.hid hinv
      have HB := Lib.hid hb
      clear hinv hb
      by_cases hlt : k < acts.length
      · have hlt' : (k : Int) < (acts.length : Int) := by omega
        by_cases hlt4 : k < 40
        · have hlt4' : (k : Int) < 40 := by omega
          rcases hor with hor | ⟨b, off, rfl, hbl, hc⟩
          · rw [hor] at hlt; simp at hlt
          obtain ⟨x, hx⟩ : ∃ x, acts[k]? = some x := ⟨_, List.getElem?_eq_getElem hlt⟩
          have hcells := HB.out.2.cells.1
          have e0 : wr.cell? ⟨b, off + k * 4, none⟩ = some (.int .i64 x.kind) := (hcells _ _ hbl).trans (by have := hc _ x hx 0 _ rfl; simpa using this)
          have e1 : wr.cell? ⟨b, off + k * 4 + 1, none⟩ = some (.int .i64 x.at_) := (hcells _ _ hbl).trans (by have := hc _ x hx 1 _ rfl; simpa using this)
          have e2 : wr.cell? ⟨b, off + k * 4 + 2, none⟩ = some (.string x.b) := (hcells _ _ hbl).trans (by have := hc _ x hx 2 _ rfl; simpa using this)
          have e3 : wr.cell? ⟨b, off + k * 4 + 3, none⟩ = some x.u := (hcells _ _ hbl).trans (by have := hc _ x hx 3 _ rfl; simpa using this)
          have hgx := HG.out x (List.mem_of_getElem? hx)
          have HGX := Lib.hid (hgx.new HB.out.2)
          have HC0 := Lib.hid hc
          clear hc hx hcells hgx
          go_wp2_with fail
          refine (few_any x _ HGX.out.2.1 HGX.out.2.2.1 HGX.out.2.2.2).mono ?_
          rintro e w4 ⟨⟨k', t', b', u'⟩, rfl, hk', ha', hfine, hn4⟩
          obtain rfl : k' = x.kind := hk'
          obtain rfl : t' = x.at_ := ha'
          have HF := Lib.hid hfine
          have HN := Lib.hid hn4
          clear hfine hn4
          go_wp2_with fail
          refine (do_s ⟨x.kind, x.at_, b', u'⟩ _ (HB.out.new HN.out).1 HF.out (by omega)).mono ?_
          rintro e w5 ⟨r, D', rfl, hr, hacts⟩
          have hB5 := (HB.out.new HN.out).step hr
          have HA := Lib.hid hacts
          clear hr hacts
          go_wp2_with fail
          go_roundw
          case rel =>
            refine ⟨k + 1, by omega, by omega, by go_num, D', hB5, HA.out.inv HI.out, ?_⟩
            have := HA.out.len
            omega
          case measure => simp [intOf]; omega
        · have hlt4' : ¬ (k : Int) < 40 := by omega
          clear hor
          go_wp2_with fail
          refine (copy_s _ HB.out.1 (by omega)).mono ?_
          rintro e w3 ⟨c, rfl, hc3, hn3⟩
          have hd3 : DSt w3 (fun k => w.heap.size ≤ k ∧ k < wr.heap.size) d D := HB.out.1.ltG.new hn3
          have hc3 : DSt w3 (fun k => wr.heap.size ≤ k ∧ k < w3.heap.size) c D := hc3.ltG
          have hN3 : New w w3 := HB.out.2.trans hn3
          have HD3 := Lib.hid hd3
          have HC3 := Lib.hid hc3
          have ho0 : Owns (w3.alloc (.cells #[] 71)) w3.heap.size 71 2 svE (.slice (some ⟨w3.heap.size, 0, none⟩) 0 0) ([] : List (Int × Int)) := World.ownsRow_made (base := w3.heap.size) (e := 71) (size := 2) w3 #[] 0 (Nat.le_refl _) (by simp) (by simp)
          clear hd3 hc3
          go_wp2_with fail
          obtain ⟨wo, rfl⟩ : ∃ wo, wo = wr := ⟨_, rfl⟩
          go_loopw [9, 10] (fun u9 u10 wr => ∃ m : Nat, m ≤ D.L.length ∧ u10 = .int .i64 m ∧ Owns wr w3.heap.size 71 2 svE u9 (allS m) ∧ New w3 wr) (fun _ u10 _ => D.L.length - (intOf u10).toNat)
          case atStart => exact ⟨0, by omega, rfl, ho0, (New.refl _).alloc _⟩
          case round =>
            obtain ⟨m, hm, rfl, ho, hnr⟩ := hrel
            obtain ⟨A9, c9, rfl, hl9, hor9⟩ := Owns.slIn svEOk ho
            have HNR := Lib.hid hnr
            by_cases hml : m < D.L.length
            · have hml' : (m : Int) < (D.L.length : Int) := by omega
              have hyb := Blk.mk_new wr 71 #[.int .i64 (m : Int), .int .i64 600]
              have hoy := ho.alloc (.cells #[.int .i64 (m : Int), .int .i64 600] 71)
              have hny := hnr.alloc (.cells #[.int .i64 (m : Int), .int .i64 600] 71)
              have HM1 := Lib.hid (show (allS m).length + [((m : Int), (600 : Int))].length ≤ maxLen by rw [allS_len]; unfold maxLen; simp only [List.length_singleton]; omega)
              have HM2 := Lib.hid (show ((allS m).length + [((m : Int), (600 : Int))].length) * 16 ≤ 140737488355328 by rw [allS_len]; simp only [List.length_singleton]; omega)
              have HM3 := Lib.hid (show w3.heap.size ≤ (wr.alloc (.cells #[.int .i64 (m : Int), .int .i64 600] 71)).heap.size from hny.size)
              clear ho hnr
              go_wp2_with fail
              refine (pend_s _ (HD3.out.new HNR.out)).mono ?_
              rintro e w6 ⟨rfl, rfl⟩
              go_wp2_with (at_builtin; refine wpList_app svTy svEOk rfl _ _ rfl rfl rfl hoy (SlIn.one (x := ((m : Int), (600 : Int))) hyb svEOk rfl) HM1.out HM2.out HM3.out ?_; intro v9 w9 ho9 hg9 hb9; have hN9 := hny.grown hg9 (fun k0 hk0 => hoy.blockGe k0 hk0))
              go_roundw
              case rel => exact ⟨m + 1, by omega, by go_num, by rw [allS_snoc]; exact ho9, hN9⟩
              case measure => simp [intOf]; omega
            · have hml' : ¬ (m : Int) < (D.L.length : Int) := by omega
              obtain rfl : m = D.L.length := by omega
              have hsl := Owns.slIn svEOk ho
              have hd4 := HD3.out.new hnr
              have hc4 := HC3.out.new hnr
              have hz3 := hn3.size
              have hz4 := hnr.size
              have HSL := Lib.hid hsl
              have HZ3 := Lib.hid hz3
              have HZ4 := Lib.hid hz4
              clear ho hnr hsl hz3 hz4
              go_wp2_with fail
              refine (pend_s _ hd4).mono ?_
              rintro e w6 ⟨rfl, rfl⟩
              go_wp2_with fail
              refine (crash_s _ hd4 HSL.out (by rw [allS_len]; omega) (fun x hx => ?_) (by omega)).mono ?_
              · obtain ⟨i, hi, rfl⟩ := List.mem_map.1 hx
                exact ⟨okI_nat (by have := List.mem_range.1 hi; omega), show okI 600 by decide⟩
              rintro e w7 ⟨rfl, hr⟩
              have hz1 := HB.out.2.size
              have hz3 := HZ3.out
              have hz4 := HZ4.out
              have hd7 := hr.1
              have hc7 := hc4.other hr.2 (fun k hk h => by omega)
              have hN7 : New w w7 := (hN3.trans HNR.out).upd hr.2.upd (fun k hk => hk.1)
              have hz7 := hr.2.upd.size
              generalize hDD : crashD D (allS D.L.length) = DD at hd7
              have hVd : DD.V = D.V := by rw [← hDD]; exact crash_all HI.out
              have hLd : DD.L = [] := by rw [← hDD]; rfl
              have HVd := Lib.hid hVd
              have HLd := Lib.hid hLd
              clear hDD hVd hLd hr hd4 hc4
              have HD7 := Lib.hid hd7
              have HN7 := Lib.hid hN7
              clear hd7 hN7
              go_wp2_with fail
              refine (sync_s _ hc7).mono ?_
              rintro e w8 ⟨rfl, hr⟩
              have hd8 := HD7.out.other hr.2 (fun k hk h => by rcases hk with hk | hk <;> omega)
              have hc8 := hr.1
              have hN8 : New w w8 := HN7.out.upd hr.2.upd (fun k hk => by omega)
              have hz8 := hr.2.upd.size
              have HD8 := Lib.hid hd8
              have HN8 := Lib.hid hN8
              clear hd8 hN8 hr hc7
              have hnil : SlIn w8 2 svE (.slice none 0 0) ([] : List (Int × Int)) := ⟨none, 0, rfl, Nat.le_refl _, .inl rfl⟩
              go_wp2_with fail
              refine (crash_s _ hc8 hnil (by decide) (by simp) (by simp [syncD])).mono ?_
              rintro e w9 ⟨rfl, hr⟩
              have hd9 := HD8.out.other hr.2 (fun k hk h => by rcases hk with hk | hk <;> rcases h with h | h <;> omega)
              have hc9 : DSt w9 _ c (syncD D) := hr.1
              have hN9 : New w w9 := HN8.out.upd hr.2.upd (fun k hk => by rcases hk with hk | hk <;> omega)
              generalize Grw _ _ w7 = FD at hd9
              generalize Grw _ w8 w9 = FC at hc9
              have HD9 := Lib.hid hd9
              have HN9 := Lib.hid hN9
              have HC9 := Lib.hid hc9
              clear hd9 hN9 hr hc8 hnil hc9 hz1 hz3 hz4 hz7 hz8 HD8 HN8 HD7 HN7 HZ3 HZ4 HSL
              go_wp2_with fail
              go_loopw [11, 12, 13, 14, 15] (fun u11 _ _ _ _ wr => ∃ i : Nat, i ≤ 21 ∧ u11 = .int .i64 i ∧ New w9 wr) (fun u11 _ _ _ _ _ => 21 - (intOf u11).toNat)
              case atStart => exact ⟨0, by omega, rfl, New.refl _⟩
              case round =>
                obtain ⟨i, hi, rfl, hnq⟩ := hrel
                have HNQ := Lib.hid hnq
                clear hnq
                by_cases hil : i < 21
                · have hil' : (i : Int) < 21 := by omega
                  cases hf : D.V.f (i : Int) with
                  | none =>
                    have HFd := Lib.hid (show DD.V.f (i : Int) = none by rw [HVd.out]; exact hf)
                    have HFc := Lib.hid (show (syncD D).V.f (i : Int) = none from hf)
                    clear hf
                    go_wp2_with fail
                    refine (readN_s _ (HD9.out.new HNQ.out) i (okI_small (by omega)) HFd.out).mono ?_
                    rintro e wa ⟨rfl, hna⟩
                    have HNA := Lib.hid (HNQ.out.trans hna)
                    clear hna
                    go_wp2_with fail
                    refine (readN_s _ (HC9.out.new HNA.out) i (okI_small (by omega)) HFc.out).mono ?_
                    rintro e wb ⟨rfl, hnb⟩
                    have HNB := Lib.hid (HNA.out.trans hnb)
                    clear hnb
                    have hc1 := run_str wb (v := .slice none 0 0) (bs := []) ⟨none, 0, rfl, Nat.le_refl _, .inl rfl⟩
                    go_wp2_with fail
                    go_roundw
                    case rel => exact ⟨i + 1, by omega, by go_num, HNB.out⟩
                    case measure => simp [intOf]; omega
                  | some bs =>
                    have HFd := Lib.hid (show DD.V.f (i : Int) = some bs by rw [HVd.out]; exact hf)
                    have HFc := Lib.hid (show (syncD D).V.f (i : Int) = some bs from hf)
                    clear hf
                    go_wp2_with fail
                    refine (readS_s _ (HD9.out.new HNQ.out) i (okI_small (by omega)) HFd.out).mono ?_
                    rintro e wa ⟨va, rfl, hsa, hna⟩
                    have HNA := Lib.hid (HNQ.out.trans hna)
                    clear hna
                    go_wp2_with fail
                    refine (readS_s _ (HC9.out.new HNA.out) i (okI_small (by omega)) HFc.out).mono ?_
                    rintro e wb ⟨vb, rfl, hsb, hnb⟩
                    have HNB := Lib.hid (HNA.out.trans hnb)
                    have hc1 := run_str wb (hsa.new hnb)
                    have hc2 := run_str wb hsb
                    clear hnb hsa hsb
                    go_wp2_with fail
                    go_roundw
                    case rel => exact ⟨i + 1, by omega, by go_num, HNB.out⟩
                    case measure => simp [intOf]; omega
                · have hil' : ¬ (i : Int) < 21 := by omega
                  have hVn : (DD.V.n : Int) = (D.V.n : Int) := by rw [HVd.out]
                  have hLn : (DD.L.length : Int) = 0 := by rw [HLd.out]; rfl
                  go_wp2_with fail
                  refine (used_s _ (HD9.out.new HNQ.out)).mono ?_
                  rintro e wa ⟨rfl, rfl⟩
                  go_wp2_with fail
                  refine (used_s _ (HC9.out.new HNQ.out)).mono ?_
                  rintro e wa ⟨rfl, rfl⟩
                  have hVn2 : ((syncD D).V.n : Int) = (D.V.n : Int) := rfl
                  have hLn2 : ((syncD D).L.length : Int) = 0 := rfl
                  go_wp2_with fail
                  refine (pend_s _ (HD9.out.new HNQ.out)).mono ?_
                  rintro e wa ⟨rfl, rfl⟩
                  go_wp2_with fail
                  refine (pend_s _ (HC9.out.new HNQ.out)).mono ?_
                  rintro e wa ⟨rfl, rfl⟩
                  go_wp2_with fail
                  go_ret
                  exact ⟨rfl, HN9.out.trans HNQ.out⟩
      · have hlt' : ¬ (k : Int) < (acts.length : Int) := by omega
        clear hor
        go_wp2_with fail
        refine (copy_s _ HB.out.1 (by omega)).mono ?_
        rintro e w3 ⟨c, rfl, hc3, hn3⟩
        have hd3 : DSt w3 (fun k => w.heap.size ≤ k ∧ k < wr.heap.size) d D := HB.out.1.ltG.new hn3
        have hc3 : DSt w3 (fun k => wr.heap.size ≤ k ∧ k < w3.heap.size) c D := hc3.ltG
        have hN3 : New w w3 := HB.out.2.trans hn3
        have HD3 := Lib.hid hd3
        have HC3 := Lib.hid hc3
        have ho0 : Owns (w3.alloc (.cells #[] 71)) w3.heap.size 71 2 svE (.slice (some ⟨w3.heap.size, 0, none⟩) 0 0) ([] : List (Int × Int)) := World.ownsRow_made (base := w3.heap.size) (e := 71) (size := 2) w3 #[] 0 (Nat.le_refl _) (by simp) (by simp)
        clear hd3 hc3
        go_wp2_with fail
        obtain ⟨wo, rfl⟩ : ∃ wo, wo = wr := ⟨_, rfl⟩
        go_loopw [9, 10] (fun u9 u10 wr => ∃ m : Nat, m ≤ D.L.length ∧ u10 = .int .i64 m ∧ Owns wr w3.heap.size 71 2 svE u9 (allS m) ∧ New w3 wr) (fun _ u10 _ => D.L.length - (intOf u10).toNat)
        case atStart => exact ⟨0, by omega, rfl, ho0, (New.refl _).alloc _⟩
        case round =>
          obtain ⟨m, hm, rfl, ho, hnr⟩ := hrel
          obtain ⟨A9, c9, rfl, hl9, hor9⟩ := Owns.slIn svEOk ho
          have HNR := Lib.hid hnr
          by_cases hml : m < D.L.length
          · have hml' : (m : Int) < (D.L.length : Int) := by omega
            have hyb := Blk.mk_new wr 71 #[.int .i64 (m : Int), .int .i64 600]
            have hoy := ho.alloc (.cells #[.int .i64 (m : Int), .int .i64 600] 71)
            have hny := hnr.alloc (.cells #[.int .i64 (m : Int), .int .i64 600] 71)
            have HM1 := Lib.hid (show (allS m).length + [((m : Int), (600 : Int))].length ≤ maxLen by rw [allS_len]; unfold maxLen; simp only [List.length_singleton]; omega)
            have HM2 := Lib.hid (show ((allS m).length + [((m : Int), (600 : Int))].length) * 16 ≤ 140737488355328 by rw [allS_len]; simp only [List.length_singleton]; omega)
            have HM3 := Lib.hid (show w3.heap.size ≤ (wr.alloc (.cells #[.int .i64 (m : Int), .int .i64 600] 71)).heap.size from hny.size)
            clear ho hnr
            go_wp2_with fail
            refine (pend_s _ (HD3.out.new HNR.out)).mono ?_
            rintro e w6 ⟨rfl, rfl⟩
            go_wp2_with (at_builtin; refine wpList_app svTy svEOk rfl _ _ rfl rfl rfl hoy (SlIn.one (x := ((m : Int), (600 : Int))) hyb svEOk rfl) HM1.out HM2.out HM3.out ?_; intro v9 w9 ho9 hg9 hb9; have hN9 := hny.grown hg9 (fun k0 hk0 => hoy.blockGe k0 hk0))
            go_roundw
            case rel => exact ⟨m + 1, by omega, by go_num, by rw [allS_snoc]; exact ho9, hN9⟩
            case measure => simp [intOf]; omega
          · have hml' : ¬ (m : Int) < (D.L.length : Int) := by omega
            obtain rfl : m = D.L.length := by omega
            have hsl := Owns.slIn svEOk ho
            have hd4 := HD3.out.new hnr
            have hc4 := HC3.out.new hnr
            have hz3 := hn3.size
            have hz4 := hnr.size
            have HSL := Lib.hid hsl
            have HZ3 := Lib.hid hz3
            have HZ4 := Lib.hid hz4
            clear ho hnr hsl hz3 hz4
            go_wp2_with fail
            refine (pend_s _ hd4).mono ?_
            rintro e w6 ⟨rfl, rfl⟩
            go_wp2_with fail
            refine (crash_s _ hd4 HSL.out (by rw [allS_len]; omega) (fun x hx => ?_) (by omega)).mono ?_
            · obtain ⟨i, hi, rfl⟩ := List.mem_map.1 hx
              exact ⟨okI_nat (by have := List.mem_range.1 hi; omega), show okI 600 by decide⟩
            rintro e w7 ⟨rfl, hr⟩
            have hz1 := HB.out.2.size
            have hz3 := HZ3.out
            have hz4 := HZ4.out
            have hd7 := hr.1
            have hc7 := hc4.other hr.2 (fun k hk h => by omega)
            have hN7 : New w w7 := (hN3.trans HNR.out).upd hr.2.upd (fun k hk => hk.1)
            have hz7 := hr.2.upd.size
            generalize hDD : crashD D (allS D.L.length) = DD at hd7
            have hVd : DD.V = D.V := by rw [← hDD]; exact crash_all HI.out
            have hLd : DD.L = [] := by rw [← hDD]; rfl
            have HVd := Lib.hid hVd
            have HLd := Lib.hid hLd
            clear hDD hVd hLd hr hd4 hc4
            have HD7 := Lib.hid hd7
            have HN7 := Lib.hid hN7
            clear hd7 hN7
            go_wp2_with fail
            refine (sync_s _ hc7).mono ?_
            rintro e w8 ⟨rfl, hr⟩
            have hd8 := HD7.out.other hr.2 (fun k hk h => by rcases hk with hk | hk <;> omega)
            have hc8 := hr.1
            have hN8 : New w w8 := HN7.out.upd hr.2.upd (fun k hk => by omega)
            have hz8 := hr.2.upd.size
            have HD8 := Lib.hid hd8
            have HN8 := Lib.hid hN8
            clear hd8 hN8 hr hc7
            have hnil : SlIn w8 2 svE (.slice none 0 0) ([] : List (Int × Int)) := ⟨none, 0, rfl, Nat.le_refl _, .inl rfl⟩
            go_wp2_with fail
            refine (crash_s _ hc8 hnil (by decide) (by simp) (by simp [syncD])).mono ?_
            rintro e w9 ⟨rfl, hr⟩
            have hd9 := HD8.out.other hr.2 (fun k hk h => by rcases hk with hk | hk <;> rcases h with h | h <;> omega)
            have hc9 : DSt w9 _ c (syncD D) := hr.1
            have hN9 : New w w9 := HN8.out.upd hr.2.upd (fun k hk => by rcases hk with hk | hk <;> omega)
            generalize Grw _ _ w7 = FD at hd9
            generalize Grw _ w8 w9 = FC at hc9
            have HD9 := Lib.hid hd9
            have HN9 := Lib.hid hN9
            have HC9 := Lib.hid hc9
            clear hd9 hN9 hr hc8 hnil hc9 hz1 hz3 hz4 hz7 hz8 HD8 HN8 HD7 HN7 HZ3 HZ4 HSL
            go_wp2_with fail
            go_loopw [11, 12, 13, 14, 15] (fun u11 _ _ _ _ wr => ∃ i : Nat, i ≤ 21 ∧ u11 = .int .i64 i ∧ New w9 wr) (fun u11 _ _ _ _ _ => 21 - (intOf u11).toNat)
            case atStart => exact ⟨0, by omega, rfl, New.refl _⟩
            case round =>
              obtain ⟨i, hi, rfl, hnq⟩ := hrel
              have HNQ := Lib.hid hnq
              clear hnq
              by_cases hil : i < 21
              · have hil' : (i : Int) < 21 := by omega
                cases hf : D.V.f (i : Int) with
                | none =>
                  have HFd := Lib.hid (show DD.V.f (i : Int) = none by rw [HVd.out]; exact hf)
                  have HFc := Lib.hid (show (syncD D).V.f (i : Int) = none from hf)
                  clear hf
                  go_wp2_with fail
                  refine (readN_s _ (HD9.out.new HNQ.out) i (okI_small (by omega)) HFd.out).mono ?_
                  rintro e wa ⟨rfl, hna⟩
                  have HNA := Lib.hid (HNQ.out.trans hna)
                  clear hna
                  go_wp2_with fail
                  refine (readN_s _ (HC9.out.new HNA.out) i (okI_small (by omega)) HFc.out).mono ?_
                  rintro e wb ⟨rfl, hnb⟩
                  have HNB := Lib.hid (HNA.out.trans hnb)
                  clear hnb
                  have hc1 := run_str wb (v := .slice none 0 0) (bs := []) ⟨none, 0, rfl, Nat.le_refl _, .inl rfl⟩
                  go_wp2_with fail
                  go_roundw
                  case rel => exact ⟨i + 1, by omega, by go_num, HNB.out⟩
                  case measure => simp [intOf]; omega
                | some bs =>
                  have HFd := Lib.hid (show DD.V.f (i : Int) = some bs by rw [HVd.out]; exact hf)
                  have HFc := Lib.hid (show (syncD D).V.f (i : Int) = some bs from hf)
                  clear hf
                  go_wp2_with fail
                  refine (readS_s _ (HD9.out.new HNQ.out) i (okI_small (by omega)) HFd.out).mono ?_
                  rintro e wa ⟨va, rfl, hsa, hna⟩
                  have HNA := Lib.hid (HNQ.out.trans hna)
                  clear hna
                  go_wp2_with fail
                  refine (readS_s _ (HC9.out.new HNA.out) i (okI_small (by omega)) HFc.out).mono ?_
                  rintro e wb ⟨vb, rfl, hsb, hnb⟩
                  have HNB := Lib.hid (HNA.out.trans hnb)
                  have hc1 := run_str wb (hsa.new hnb)
                  have hc2 := run_str wb hsb
                  clear hnb hsa hsb
                  go_wp2_with fail
                  go_roundw
                  case rel => exact ⟨i + 1, by omega, by go_num, HNB.out⟩
                  case measure => simp [intOf]; omega
              · have hil' : ¬ (i : Int) < 21 := by omega
                have hVn : (DD.V.n : Int) = (D.V.n : Int) := by rw [HVd.out]
                have hLn : (DD.L.length : Int) = 0 := by rw [HLd.out]; rfl
                go_wp2_with fail
                refine (used_s _ (HD9.out.new HNQ.out)).mono ?_
                rintro e wa ⟨rfl, rfl⟩
                go_wp2_with fail
                refine (used_s _ (HC9.out.new HNQ.out)).mono ?_
                rintro e wa ⟨rfl, rfl⟩
                have hVn2 : ((syncD D).V.n : Int) = (D.V.n : Int) := rfl
                have hLn2 : ((syncD D).L.length : Int) = 0 := rfl
                go_wp2_with fail
                refine (pend_s _ (HD9.out.new HNQ.out)).mono ?_
                rintro e wa ⟨rfl, rfl⟩
                go_wp2_with fail
                refine (pend_s _ (HC9.out.new HNQ.out)).mono ?_
                rintro e wa ⟨rfl, rfl⟩
                go_wp2_with fail
                go_ret
                exact ⟨rfl, HN9.out.trans HNQ.out⟩
end Go.Proofs.Ytdjnfnhmkfbfmaa
