/- The walk of the law DiskKeeps (chapter 6): for every input it answers true. Printed by genLaw06f.py. -/
import Derived.Test.YtdjnfnhmkfbfmaaLaw06e
namespace Go.Proofs.Ytdjnfnhmkfbfmaa
open Go.RowKit Go.Lap
set_option linter.unusedVariables false

section
variable {w w' : World} {F G : Nat → Prop} {d : Nat} {D D' : Dk}
theorem DSt.facts (h : DSt w F d D) : 1 ≤ D.size ∧ D.size ≤ 65536 ∧ D.V.fine D.size ∧ (∀ p ∈ D.L, 0 ≤ p.at_) := let ⟨_, _, _, h1, _⟩ := h; ⟨h1.sz.1, h1.sz.2, h1.vf, fun p hp => (h1.pf p hp).1⟩
theorem DSt.free (h : DSt w F d D) : ∀ k, w.heap.size ≤ k → DSt w (fun j => F j ∧ j ≠ k) d D := fun k hk => h.ltG.mono fun j hj => ⟨hj.1, by omega⟩
end
/-- A row of so many cells. -/
def rowC (f : Nat → Value) : Array Value := ((List.range 21).map f).toArray
theorem rowC_get {f : Nat → Value} {i : Nat} (h : i < 21) : (rowC f)[i]? = some (f i) := by simp [rowC, h]
theorem rowC_set (f : Nat → Value) (i : Nat) (v : Value) : (rowC f).setIfInBounds i v = rowC fun j => if j = i then v else f j := by
  apply Array.ext
  · simp [rowC]
  · intro j h1 h2
    simp only [rowC, List.setIfInBounds_toArray, List.getElem_toArray]
    rw [List.getElem_set]
    by_cases e : i = j
    · simp [e]
    · rw [if_neg e]
      simp only [List.getElem_map, List.getElem_range]
      rw [if_neg (fun h : j = i => e h.symm)]
def wasF (D : Dk) (i : Nat) (j : Nat) : Value := .string (if j < i then str ((D.V.f (j : Int)).getD []) else ⟨#[]⟩)
def useF (D : Dk) (i : Nat) (j : Nat) : Value := .bool (decide (j < i) && (D.V.f (j : Int)).isSome)
theorem wasF_step (D : Dk) (i : Nat) : (rowC (wasF D i)).setIfInBounds i (.string (str ((D.V.f (i : Int)).getD []))) = rowC (wasF D (i + 1)) := by
  rw [rowC_set]
  congr 1
  funext j
  unfold wasF
  by_cases h : j = i
  · subst h; simp
  · rw [if_neg h]
    by_cases h2 : j < i
    · rw [if_pos h2, if_pos (by omega)]
    · rw [if_neg h2, if_neg (by omega)]
theorem useF_step (D : Dk) (i : Nat) : (rowC (useF D i)).setIfInBounds i (.bool (D.V.f (i : Int)).isSome) = rowC (useF D (i + 1)) := by
  rw [rowC_set]
  congr 1
  funext j
  unfold useF
  by_cases h : j = i
  · subst h; simp
  · rw [if_neg h]
    by_cases h2 : j < i
    · simp [h2, show j < i + 1 by omega]
    · simp [h2, show ¬ j < i + 1 by omega]
/-- What is kept of the disk while it is written to. -/
structure Kept (D1 D : Dk) (T : Nat → Bool) (k : Nat) : Prop where
  gr : D.G = D1.V
  len : D.L.length ≤ k
  tou : ∀ p ∈ D.L, p.at_ < 21 → T p.at_.toNat = true
theorem Kept.start (D : Dk) : Kept (syncD D) (syncD D) (fun _ => false) 0 := ⟨rfl, Nat.le_refl _, fun p hp => by simp [syncD] at hp⟩
theorem Kept.mono {D1 D : Dk} {T : Nat → Bool} {k k' : Nat} (h : Kept D1 D T k) (hk : k ≤ k') : Kept D1 D T k' := ⟨h.gr, Nat.le_trans h.len hk, h.tou⟩
theorem Kept.push {D1 D : Dk} {T T' : Nat → Bool} {k : Nat} (h : Kept D1 D T k) {p : Pd} (h1 : ∀ j, T j = true → T' j = true) (h2 : p.at_ < 21 → T' p.at_.toNat = true) : Kept D1 (pushD D p) T' (k + 1) := by
  refine ⟨h.gr, by simp [pushD]; exact h.len, fun q hq hlt => ?_⟩
  rcases List.mem_append.1 (show q ∈ D.L ++ [p] from hq) with hq | hq
  · exact h1 _ (h.tou q hq hlt)
  · simp at hq; subst hq; exact h2 hlt
theorem Kept.crash {D1 D : Dk} {T : Nat → Bool} {k : Nat} (h : Kept D1 D T k) (hp : ∀ p ∈ D.L, 0 ≤ p.at_) (l : List (Int × Int)) {i : Nat} (hi : i < 21) (hT : T i = false) : (crashD D l).V.f (i : Int) = D1.V.f (i : Int) := by
  rw [crash_keep l, h.gr]
  intro p hm e
  have := h.tou p hm (by omega)
  rw [e] at this
  simp [hT] at this

set_option maxRecDepth 100000 in
set_option maxHeartbeats 16000000 in
theorem diskKeeps_walk (n : Int) (ahead l : List Ac) (v1 v2 v3 : Value) (w : World) (hn : okI n) (hl1 : ahead.length ≤ maxLen) (hs1 : SlIn w 4 acE v1 ahead) (hg1 : ∀ x ∈ ahead, AcGood w x)
    (hl2 : l.length ≤ maxLen) (hs2 : SlIn w 4 acE v2 l) (hg2 : ∀ x ∈ l, AcGood w x) (h3 : SvOk w v3 maxLen) :
    Calls Try.prog 10 #[.int .i64 n, .agg #[v1, v2], v3] w fun e w' => e = .returned (.bool true) ∧ New w w' := by
  obtain ⟨cr, hs3, hl3, hg3⟩ := h3
  unfold maxLen at hl1 hl2 hl3
  obtain ⟨A1, cp1, hv1, hcp1, hor1⟩ := id hs1
  subst hv1
  obtain ⟨A2, cp2, hv2, hcp2, hor2⟩ := id hs2
  subst hv2
  obtain ⟨A3, cp3, hv3, hcp3, hor3⟩ := id hs3
  subst hv3
  have HG1 := Lib.hid hg1
  have HG2 := Lib.hid hg2
  have HG3 := Lib.hid hg3
  have HS3 := Lib.hid hs3
  clear hg1 hg2 hg3 hs3 hs1 hs2 hor3
  go_enter Try.func10, Try.ntmps10
  go_wp2_with fail
  go_quiet (fail)
  have hnw : New w ((w.alloc (Obj.cells #[Value.slice A1 ahead.length cp1, Value.slice A2 l.length cp2] 52)).drewN nq) := ((New.refl w).alloc _).drewN _
  generalize (w.alloc (Obj.cells #[Value.slice A1 ahead.length cp1, Value.slice A2 l.length cp2] 52)).drewN nq = w0 at hnw
  have hval : 1 ≤ n ∧ n ≤ 65536 ∨ (n < 1 ∨ 65536 < n) := by omega
  have HVAL := Lib.hid hval
  clear hval
  rcases HVAL.out with hin | hbad
  case inr =>
    have HB := Lib.hid hbad
    clear hbad
    go_wp2_with fail
    refine (dnew_no n _ HB.out).mono ?_
    rintro e w1 ⟨rfl, rfl⟩
    go_wp2_with fail
    refine (awake06 _).mono ?_
    rintro e w2 ⟨rfl, hn2⟩
    go_wp2_with fail
    refine (awake06 _).mono ?_
    rintro e w3 ⟨rfl, hn3⟩
    go_wp2_with fail
    go_ret
    exact ⟨rfl, hnw.trans (hn2.trans hn3)⟩
  case inl =>
    have HIN := Lib.hid hin
    clear hin
    go_wp2_with fail
    refine (new_s n _ HIN.out.1 HIN.out.2).mono ?_
    rintro e w1 ⟨d, rfl, h1, hn1⟩
    go_wp2_with fail
    refine (awake06 _).mono ?_
    rintro e w2 ⟨rfl, hn2⟩
    have b2 : DB w w2 d (newD n) := ⟨(h1.new hn2).mono fun k hk => Nat.le_trans hnw.size hk, hnw.trans (hn1.trans hn2)⟩
    clear h1 hn1 hn2
    by_cases h60 : 60 < cr.length
    · have h60' : (60 : Int) < (cr.length : Int) := by omega
      go_wp2_with fail
      refine (awake06 _).mono ?_
      rintro e w3 ⟨rfl, hn3⟩
      go_wp2_with fail
      go_ret
      exact ⟨rfl, b2.2.trans hn3⟩
    have h60' : ¬ (60 : Int) < (cr.length : Int) := by omega
    go_wp2_with fail
    go_loopw [11] (fun i wr => ∃ k : Nat, k ≤ ahead.length ∧ k ≤ 30 ∧ i = .int .i64 k ∧ ∃ D, DB w wr d D ∧ D.L.length ≤ k) (fun i _ => ahead.length - (intOf i).toNat)
    case atStart => exact ⟨0, by omega, by omega, rfl, _, b2, Nat.le_refl _⟩
    case round =>
      obtain ⟨k, hk, hk40, rfl, D, hb, hL⟩ := hrel
      have HB := Lib.hid hb
      clear hb
      by_cases hlt : k < ahead.length
      · have hlt' : (k : Int) < (ahead.length : Int) := by omega
        by_cases hlt4 : k < 30
        · have hlt4' : (k : Int) < 30 := by omega
          rcases hor1 with hor1 | ⟨b, off, rfl, hbl, hc⟩
          · rw [hor1] at hlt; simp at hlt
          obtain ⟨x, hx⟩ : ∃ x, ahead[k]? = some x := ⟨_, List.getElem?_eq_getElem hlt⟩
          have hcells := HB.out.2.cells.1
          have e0 : wr.cell? ⟨b, off + k * 4, none⟩ = some (.int .i64 x.kind) := (hcells _ _ hbl).trans (by have := hc _ x hx 0 _ rfl; simpa using this)
          have e1 : wr.cell? ⟨b, off + k * 4 + 1, none⟩ = some (.int .i64 x.at_) := (hcells _ _ hbl).trans (by have := hc _ x hx 1 _ rfl; simpa using this)
          have e2 : wr.cell? ⟨b, off + k * 4 + 2, none⟩ = some (.string x.b) := (hcells _ _ hbl).trans (by have := hc _ x hx 2 _ rfl; simpa using this)
          have e3 : wr.cell? ⟨b, off + k * 4 + 3, none⟩ = some x.u := (hcells _ _ hbl).trans (by have := hc _ x hx 3 _ rfl; simpa using this)
          have hgx := HG1.out x (List.mem_of_getElem? hx)
          have HGX := Lib.hid (hgx.new HB.out.2)
          have HC0 := Lib.hid hc
          clear hc hx hcells hgx
          go_wp2_with fail
          refine (few_any x _ HGX.out.2.1 HGX.out.2.2.1 HGX.out.2.2.2).mono ?_
          rintro e w4 ⟨⟨k', t', b', u'⟩, rfl, hk', ha', hfine, hn4⟩
          obtain rfl : k' = x.kind := hk'
          obtain rfl : t' = x.at_ := ha'
          have HF := Lib.hid hfine
          have HN := Lib.hid hn4
          clear hfine hn4
          go_wp2_with fail
          refine (do_s ⟨x.kind, x.at_, b', u'⟩ _ (HB.out.new HN.out).1 HF.out (by omega)).mono ?_
          rintro e w5 ⟨r, D', rfl, hr, hacts⟩
          have hB5 := (HB.out.new HN.out).step hr
          have HA := Lib.hid hacts
          clear hr hacts
          go_wp2_with fail
          go_roundw
          case rel =>
            refine ⟨k + 1, by omega, by omega, by go_num, D', hB5, ?_⟩
            have := HA.out.len
            omega
          case measure => simp [intOf]; omega
        · have hlt4' : ¬ (k : Int) < 30 := by omega
          clear hor1 HG1
          go_wp2_with fail
          refine (sync_s _ HB.out.1).mono ?_
          rintro e w3 ⟨rfl, hr⟩
          have hb3 : DB w w3 d (syncD D) := HB.out.step hr
          have hd3 := hb3.1.ltG
          have hN3 := hb3.2
          have KS := Kept.start D
          generalize hDD : syncD D = D1 at hd3 hb3 KS
          clear hr hb3 hDD
          have hB12 := (Blk.mk_new w3 61 #[.string ⟨#[]⟩, .string ⟨#[]⟩, .string ⟨#[]⟩, .string ⟨#[]⟩, .string ⟨#[]⟩, .string ⟨#[]⟩, .string ⟨#[]⟩, .string ⟨#[]⟩, .string ⟨#[]⟩, .string ⟨#[]⟩, .string ⟨#[]⟩, .string ⟨#[]⟩, .string ⟨#[]⟩, .string ⟨#[]⟩, .string ⟨#[]⟩, .string ⟨#[]⟩, .string ⟨#[]⟩, .string ⟨#[]⟩, .string ⟨#[]⟩, .string ⟨#[]⟩, .string ⟨#[]⟩]).alloc (.cells #[.bool false, .bool false, .bool false, .bool false, .bool false, .bool false, .bool false, .bool false, .bool false, .bool false, .bool false, .bool false, .bool false, .bool false, .bool false, .bool false, .bool false, .bool false, .bool false, .bool false, .bool false] 62)
          have hB13 := Blk.mk_new (w3.alloc (.cells #[.string ⟨#[]⟩, .string ⟨#[]⟩, .string ⟨#[]⟩, .string ⟨#[]⟩, .string ⟨#[]⟩, .string ⟨#[]⟩, .string ⟨#[]⟩, .string ⟨#[]⟩, .string ⟨#[]⟩, .string ⟨#[]⟩, .string ⟨#[]⟩, .string ⟨#[]⟩, .string ⟨#[]⟩, .string ⟨#[]⟩, .string ⟨#[]⟩, .string ⟨#[]⟩, .string ⟨#[]⟩, .string ⟨#[]⟩, .string ⟨#[]⟩, .string ⟨#[]⟩, .string ⟨#[]⟩] 61)) 62 #[.bool false, .bool false, .bool false, .bool false, .bool false, .bool false, .bool false, .bool false, .bool false, .bool false, .bool false, .bool false, .bool false, .bool false, .bool false, .bool false, .bool false, .bool false, .bool false, .bool false, .bool false]
          rw [World.size_alloc] at hB13
          have hn4 := ((New.refl w3).alloc (.cells #[.string ⟨#[]⟩, .string ⟨#[]⟩, .string ⟨#[]⟩, .string ⟨#[]⟩, .string ⟨#[]⟩, .string ⟨#[]⟩, .string ⟨#[]⟩, .string ⟨#[]⟩, .string ⟨#[]⟩, .string ⟨#[]⟩, .string ⟨#[]⟩, .string ⟨#[]⟩, .string ⟨#[]⟩, .string ⟨#[]⟩, .string ⟨#[]⟩, .string ⟨#[]⟩, .string ⟨#[]⟩, .string ⟨#[]⟩, .string ⟨#[]⟩, .string ⟨#[]⟩, .string ⟨#[]⟩] 61)).alloc (.cells #[.bool false, .bool false, .bool false, .bool false, .bool false, .bool false, .bool false, .bool false, .bool false, .bool false, .bool false, .bool false, .bool false, .bool false, .bool false, .bool false, .bool false, .bool false, .bool false, .bool false, .bool false] 62)
          go_wp2_with fail
          generalize (World.alloc (World.alloc w3 _) _) = w4 at hB12 hB13 hn4 ⊢
          replace hB12 : Blk w4 w3.heap.size 61 (rowC (wasF D1 0)) := hB12
          replace hB13 : Blk w4 (w3.heap.size + 1) 62 (rowC (useF D1 0)) := hB13
          have hT4 : Turns w4 (fun k => k = w3.heap.size ∨ k = w3.heap.size + 1) := by
            rintro k (rfl | rfl) t cs hb
            · have e : t = 61 := Decidable.byContradiction fun hne => hb.ne_ hB12 hne rfl
              subst e; decide
            · have e : t = 62 := Decidable.byContradiction fun hne => hb.ne_ hB13 hne rfl
              subst e; decide
          have HD4 := Lib.hid (hd3.new hn4)
          have HT4 := Lib.hid hT4
          have HN4 := Lib.hid (hN3.trans hn4)
          have HSZ := Lib.hid (And.intro hN3.size hn4.size)
          clear hd3 hn4 hT4 hN3
          obtain ⟨wo, rfl⟩ : ∃ wo, wo = wr := ⟨_, rfl⟩
          go_loopw [14, 15, 16] (fun u14 _ _ wr => ∃ i : Nat, i ≤ 21 ∧ u14 = .int .i64 i ∧ Blk wr w3.heap.size 61 (rowC (wasF D1 i)) ∧ Blk wr (w3.heap.size + 1) 62 (rowC (useF D1 i)) ∧ Upd (fun k => k = w3.heap.size ∨ k = w3.heap.size + 1) w4 wr) (fun u14 _ _ _ => 21 - (intOf u14).toNat)
          case atStart => exact ⟨0, by omega, rfl, hB12, hB13, Upd.refl _ _⟩
          case round =>
            clear hB12 hB13
            obtain ⟨i, hi, rfl, hB12, hB13, hu⟩ := hrel
            have HD := Lib.hid (HD4.out.other ⟨_, hu, fun k hk => hk, HT4.out⟩ (fun k hk h => by omega))
            have HU := Lib.hid hu
            clear hu
            by_cases hil : i < 21
            · have hil' : (i : Int) < 21 := by omega
              have hi0 : (0 : Int) ≤ (i : Int) := by omega
              cases hf : D1.V.f (i : Int) with
              | none =>
                have HW := Lib.hid (wasF_step D1 i)
                have HV := Lib.hid (useF_step D1 i)
                have HFD := Lib.hid hf
                clear hf
                have HB12 := Lib.hid hB12
                have HB13 := Lib.hid hB13
                clear hB12 hB13
                go_wp2_with fail
                refine (readN_s _ HD.out i (okI_small (by omega)) HFD.out).mono ?_
                rintro e wa ⟨rfl, hna⟩
                have hB12 := HB12.out.new hna
                have hB13 := HB13.out.new hna
                have HNA := Lib.hid (HU.out.transNew hna)
                clear hna
                have e12 := (hB12.cell i).trans (rowC_get hil)
                have e13 := (hB13.cell i).trans (rowC_get hil)
                have f12 := hB12.frozen i
                have f13 := hB13.frozen i
                have l12 := hB12.lt
                have l13 := hB13.lt
                have hcv := run_str wa (v := .slice none 0 0) (bs := []) ⟨none, 0, rfl, Nat.le_refl _, .inl rfl⟩
                have G12 := Lib.hid hB12
                have G13 := Lib.hid hB13
                clear hB12 hB13
                go_wp2_with fail
                go_roundw
                case rel =>
                  have h12 := ((G12.out.set_ i (.string (str []))).far (p := ⟨w3.heap.size + 1, i, none⟩) (by show w3.heap.size ≠ w3.heap.size + 1; omega) (.bool false))
                  have h13 := (G13.out.far (p := ⟨w3.heap.size, i, none⟩) (by show w3.heap.size + 1 ≠ w3.heap.size; omega) (.string (str []))).set_ i (.bool false)
                  have hw := HW.out
                  have hv := HV.out
                  rw [HFD.out] at hw hv
                  have hw : (rowC (wasF D1 i)).setIfInBounds i (.string (str [])) = _ := hw
                  have hv : (rowC (useF D1 i)).setIfInBounds i (.bool false) = _ := hv
                  rw [hw] at h12
                  rw [hv] at h13
                  exact ⟨i + 1, by omega, by go_num, h12, h13, (HNA.out.setCell (p := ⟨w3.heap.size, i, none⟩) (fun _ => .inl rfl) _).setCell (p := ⟨w3.heap.size + 1, i, none⟩) (fun _ => .inr rfl) _⟩
                case measure => simp [intOf]; omega
              | some bs =>
                have HW := Lib.hid (wasF_step D1 i)
                have HV := Lib.hid (useF_step D1 i)
                have HFD := Lib.hid hf
                clear hf
                have HB12 := Lib.hid hB12
                have HB13 := Lib.hid hB13
                clear hB12 hB13
                go_wp2_with fail
                refine (readS_s _ HD.out i (okI_small (by omega)) HFD.out).mono ?_
                rintro e wa ⟨v, rfl, hsa, hna⟩
                have hB12 := HB12.out.new hna
                have hB13 := HB13.out.new hna
                have HNA := Lib.hid (HU.out.transNew hna)
                clear hna
                have e12 := (hB12.cell i).trans (rowC_get hil)
                have e13 := (hB13.cell i).trans (rowC_get hil)
                have f12 := hB12.frozen i
                have f13 := hB13.frozen i
                have l12 := hB12.lt
                have l13 := hB13.lt
                have hcv := run_str wa hsa
                clear hsa
                have G12 := Lib.hid hB12
                have G13 := Lib.hid hB13
                clear hB12 hB13
                go_wp2_with fail
                go_roundw
                case rel =>
                  have h12 := ((G12.out.set_ i (.string (str bs))).far (p := ⟨w3.heap.size + 1, i, none⟩) (by show w3.heap.size ≠ w3.heap.size + 1; omega) (.bool true))
                  have h13 := (G13.out.far (p := ⟨w3.heap.size, i, none⟩) (by show w3.heap.size + 1 ≠ w3.heap.size; omega) (.string (str bs))).set_ i (.bool true)
                  have hw := HW.out
                  have hv := HV.out
                  rw [HFD.out] at hw hv
                  have hw : (rowC (wasF D1 i)).setIfInBounds i (.string (str bs)) = _ := hw
                  have hv : (rowC (useF D1 i)).setIfInBounds i (.bool true) = _ := hv
                  rw [hw] at h12
                  rw [hv] at h13
                  exact ⟨i + 1, by omega, by go_num, h12, h13, (HNA.out.setCell (p := ⟨w3.heap.size, i, none⟩) (fun _ => .inl rfl) _).setCell (p := ⟨w3.heap.size + 1, i, none⟩) (fun _ => .inr rfl) _⟩
                case measure => simp [intOf]; omega
            · have hil' : ¬ (i : Int) < 21 := by omega
              obtain rfl : i = 21 := by omega
              have hn5 := (New.refl wr).alloc (.cells #[.bool false, .bool false, .bool false, .bool false, .bool false, .bool false, .bool false, .bool false, .bool false, .bool false, .bool false, .bool false, .bool false, .bool false, .bool false, .bool false, .bool false, .bool false, .bool false, .bool false, .bool false] 62)
              have hB17 := Blk.mk_new wr 62 #[.bool false, .bool false, .bool false, .bool false, .bool false, .bool false, .bool false, .bool false, .bool false, .bool false, .bool false, .bool false, .bool false, .bool false, .bool false, .bool false, .bool false, .bool false, .bool false, .bool false, .bool false]
              have HQ := Lib.hid (And.intro hB13.lt HSZ.out.1)
              replace hB12 := hB12.new hn5
              replace hB13 := hB13.new hn5
              have hz12 := HU.out.size
              have hd5 := HD.out.ltG.new hn5
              have hN5 := (HN4.out.upd HU.out (fun k hk => by have := HSZ.out.1; omega)).trans hn5
              go_wp2_with fail
              generalize (World.alloc wr _) = w5 at hB12 hB13 hB17 hn5 hd5 hN5 ⊢
              replace hB17 : Blk w5 wr.heap.size 62 (rowC fun j => .bool ((fun _ => false) j)) := hB17
              have HS5 := Lib.hid (And.intro hz12 hn5.size)
              have hd5 : DSt w5 (fun k => w.heap.size ≤ k ∧ k ≠ w3.heap.size ∧ k ≠ w3.heap.size + 1 ∧ k ≠ wr.heap.size) d D1 := hd5.mono fun k hk => by have := HSZ.out; omega
              obtain ⟨wq, hwq⟩ : ∃ q, q = wr := ⟨_, rfl⟩
              have HWQ := Lib.hid hwq
              subst hwq
              clear hn5 hz12
              go_loopw [18, 19] (fun u18 _ wr => ∃ k : Nat, k ≤ l.length ∧ k ≤ 30 ∧ u18 = .int .i64 k ∧ ∃ (D : Dk) (T : Nat → Bool), DSt wr (fun k => w.heap.size ≤ k ∧ k ≠ w3.heap.size ∧ k ≠ w3.heap.size + 1 ∧ k ≠ wq.heap.size) d D ∧ New w wr ∧ Blk wr w3.heap.size 61 (rowC (wasF D1 21)) ∧ Blk wr (w3.heap.size + 1) 62 (rowC (useF D1 21)) ∧ Blk wr wq.heap.size 62 (rowC fun j => .bool (T j)) ∧ Kept D1 D T k) (fun u18 _ _ => l.length - (intOf u18).toNat)
              case atStart => exact ⟨0, by omega, by omega, rfl, D1, _, hd5, hN5, hB12, hB13, hB17, KS⟩
              case round =>
                clear hB12 hB13 hB17 hd5 hN5 HD4 HT4 HN4 HD HU HS5 KS HWQ
                obtain ⟨k2, hk2, hk30, rfl, D2, T, hd, hnw2, hB12, hB13, hB17, hK⟩ := hrel
                have HD := Lib.hid hd
                have HNW := Lib.hid hnw2
                have HB12 := Lib.hid hB12
                have HB13 := Lib.hid hB13
                have HB17 := Lib.hid hB17
                have HK := Lib.hid hK
                clear hd hnw2 hB12 hB13 hB17 hK
                by_cases hlt2 : k2 < l.length
                · have hlt2' : (k2 : Int) < (l.length : Int) := by omega
                  by_cases hlt3 : k2 < 30
                  · have hlt3' : (k2 : Int) < 30 := by omega
                    rcases hor2 with hor2 | ⟨b, off, rfl, hbl, hc⟩
                    · rw [hor2] at hlt2; simp at hlt2
                    obtain ⟨x, hx⟩ : ∃ x, l[k2]? = some x := ⟨_, List.getElem?_eq_getElem hlt2⟩
                    have hcells := HNW.out.cells.1
                    have e0 : wr.cell? ⟨b, off + k2 * 4, none⟩ = some (.int .i64 x.kind) := (hcells _ _ hbl).trans (by have := hc _ x hx 0 _ rfl; simpa using this)
                    have e1 : wr.cell? ⟨b, off + k2 * 4 + 1, none⟩ = some (.int .i64 x.at_) := (hcells _ _ hbl).trans (by have := hc _ x hx 1 _ rfl; simpa using this)
                    have e2 : wr.cell? ⟨b, off + k2 * 4 + 2, none⟩ = some (.string x.b) := (hcells _ _ hbl).trans (by have := hc _ x hx 2 _ rfl; simpa using this)
                    have e3 : wr.cell? ⟨b, off + k2 * 4 + 3, none⟩ = some x.u := (hcells _ _ hbl).trans (by have := hc _ x hx 3 _ rfl; simpa using this)
                    have hgx := HG2.out x (List.mem_of_getElem? hx)
                    have HGX := Lib.hid (hgx.new HNW.out)
                    have HC0 := Lib.hid hc
                    obtain ⟨K, at_, bb, uu⟩ := x
                    clear hc hx hcells hgx
                    go_wp2_with fail
                    refine (few_any ⟨K, at_, bb, uu⟩ _ HGX.out.2.1 HGX.out.2.2.1 HGX.out.2.2.2).mono ?_
                    rintro e w6 ⟨⟨k', t', b', u'⟩, rfl, hk', ha', hfine, hn6⟩
                    obtain rfl : k' = K := hk'
                    obtain rfl : t' = at_ := ha'
                    obtain ⟨su, hsu, _⟩ := id hfine.2.2
                    obtain ⟨Au, nu, cu, hvu⟩ := sl_shape hsu
                    simp only at hvu
                    subst hvu
                    clear hsu
                    clear e0 e1 e2 e3
                    have hB19 := Blk.mk_new w6 59 #[.int .i64 k', .int .i64 t', .string b', (.slice Au nu cu)]
                    have hn7 := hn6.alloc (.cells #[.int .i64 k', .int .i64 t', .string b', (.slice Au nu cu)] 59)
                    have hd7 := (HD.out.new hn6).ltG.new ((New.refl w6).alloc (.cells #[.int .i64 k', .int .i64 t', .string b', (.slice Au nu cu)] 59))
                    have hf7 : Ac.fine ⟨k', t', b', (.slice Au nu cu)⟩ (w6.alloc (.cells #[.int .i64 k', .int .i64 t', .string b', (.slice Au nu cu)] 59)) := ⟨hfine.1, hfine.2.1, hfine.2.2.new ((New.refl w6).alloc _)⟩
                    obtain ⟨p0, p1, p2, p3, p4, pz⟩ := Blk4A hB19
                    have hBz := Blk.mk_new w6 59 #[.int .i64 0, .int .i64 0, .string ⟨#[]⟩, .slice none 0 0]
                    obtain ⟨z0, z1, z2, z3, z4, zz⟩ := Blk4A hBz
                    clear hBz
                    have HN7 := Lib.hid hn7
                    have HD7 := Lib.hid hd7
                    have HF7 := Lib.hid hf7
                    have HB19 := Lib.hid hB19
                    have HN6 := Lib.hid hn6
                    clear hn7 hd7 hf7 hfine hn6 hB19
                    have hkind : k' = 0 ∨ k' = 1 ∨ (k' ≠ 0 ∧ k' ≠ 1) := by omega
                    rcases hkind with rfl | rfl | ⟨hk0, hk1⟩
                    · go_wp2_with fail
                      refine (do_s ⟨0, t', b', (.slice Au nu cu)⟩ _ HD7.out HF7.out (by have := HK.out.len; omega)).mono ?_
                      rintro e w8 ⟨r, D3, rfl, hr, hacts⟩
                      have hn8 := HNW.out.trans HN7.out
                      have hz7 := HN7.out.size
                      have hz6 := HN6.out.size
                      have hN8 := Lib.hid (hn8.upd hr.2.upd (fun k hk => hk.1.1))
                      have hl12 := HB12.out.lt
                      have hl13 := HB13.out.lt
                      have hl17 := HB17.out.lt
                      rw [World.size_alloc] at hz7
                      have h12 := Lib.hid ((HB12.out.new HN7.out).upd hr.2.upd (fun hk => hk.1.2.1 rfl))
                      have h13 := Lib.hid ((HB13.out.new HN7.out).upd hr.2.upd (fun hk => hk.1.2.2.1 rfl))
                      have h17 := Lib.hid ((HB17.out.new HN7.out).upd hr.2.upd (fun hk => hk.1.2.2.2 rfl))
                      have h19 := HB19.out.upd hr.2.upd (fun hk => Nat.lt_irrefl _ hk.2)
                      have HD8 := Lib.hid (hr.1.mono (G := fun k => w.heap.size ≤ k ∧ k ≠ w3.heap.size ∧ k ≠ w3.heap.size + 1 ∧ k ≠ wq.heap.size) (fun k hk => by
                        rcases hk with hk | hk
                        · exact hk.1
                        · have := hn8.size; rw [World.size_alloc] at *; omega))
                      have HW := Lib.hid (hacts.wr (by first | exact .inl rfl | exact .inr rfl) HD7.out.facts.2.2.1)
                      clear hn8 hz7 hz6 hl12 hl13 hl17 hr hacts
                      obtain ⟨q0, q1, q2, q3, q4, qz⟩ := Blk4A h19
                      clear p0 p1 p2 p3 p4 pz h19
                      rcases HW.out with ⟨hr0, hD⟩ | ⟨hr0, hat0, p, hpa, hD⟩
                      · have hr0' : ¬ r = 0 := hr0
                        go_wp2_with fail
                        go_roundw
                        case rel => exact ⟨k2 + 1, by omega, by omega, by go_num, D3, T, HD8.out, hN8.out, h12.out, h13.out, h17.out, by rw [hD]; exact HK.out.mono (by omega)⟩
                        case measure => simp [intOf]; omega
                      · subst hr0
                        replace hat0 : 0 ≤ t' := hat0
                        replace hpa : p.at_ = t' := hpa
                        have HPA := Lib.hid hpa
                        have HDD := Lib.hid hD
                        clear hpa hD
                        by_cases h21 : t' < 21
                        · obtain ⟨a, rfl⟩ : ∃ a : Nat, t' = (a : Int) := ⟨t'.toNat, by omega⟩
                          have ha21 : a < 21 := by omega
                          have e17 := (h17.out.cell a).trans (rowC_get ha21)
                          have f17 := h17.out.frozen a
                          have l17 := h17.out.lt
                          go_wp2_with fail
                          go_roundw
                          case rel =>
                            have g17 := h17.out.set_ a (.bool true)
                            rw [rowC_set, show (fun j => if j = a then Value.bool true else Value.bool (T j)) = fun j => .bool (if j = a then true else T j) from funext fun j => by split <;> rfl] at g17
                            have hu : Upd (· = wq.heap.size) w8 (w8.setCell ⟨wq.heap.size, a, none⟩ (.bool true)) := (Upd.refl (· = wq.heap.size) w8).setCell (p := ⟨wq.heap.size, a, none⟩) (fun _ => rfl) _
                            have hT : Turns w8 (· = wq.heap.size) := by
                              rintro k rfl t cs hb
                              have e : t = 62 := Decidable.byContradiction fun hne => hb.ne_ h17.out hne rfl
                              subst e; decide
                            exact ⟨k2 + 1, by omega, by omega, by go_num, D3, _, HD8.out.other ⟨_, hu, fun k hk => hk, hT⟩ (fun k hk h => hk.2.2.2 h), hN8.out.upd hu (fun k hk => by have := HQ.out; omega), h12.out.upd hu (fun hk => by have := HQ.out; omega), h13.out.upd hu (fun hk => by have := HQ.out; omega), g17, by rw [HDD.out]; exact HK.out.push (fun j hj => by simp [hj]) (fun _ => by rw [HPA.out]; simp)⟩
                          case measure => simp [intOf]; omega
                        · have h21' : ¬ t' < 21 := h21
                          go_wp2_with fail
                          go_roundw
                          case rel => exact ⟨k2 + 1, by omega, by omega, by go_num, D3, T, HD8.out, hN8.out, h12.out, h13.out, h17.out, by rw [HDD.out]; exact HK.out.push (fun j hj => hj) (fun h => by have := HPA.out; omega)⟩
                          case measure => simp [intOf]; omega
                    · go_wp2_with fail
                      refine (do_s ⟨1, t', b', (.slice Au nu cu)⟩ _ HD7.out HF7.out (by have := HK.out.len; omega)).mono ?_
                      rintro e w8 ⟨r, D3, rfl, hr, hacts⟩
                      have hn8 := HNW.out.trans HN7.out
                      have hz7 := HN7.out.size
                      have hz6 := HN6.out.size
                      have hN8 := Lib.hid (hn8.upd hr.2.upd (fun k hk => hk.1.1))
                      have hl12 := HB12.out.lt
                      have hl13 := HB13.out.lt
                      have hl17 := HB17.out.lt
                      rw [World.size_alloc] at hz7
                      have h12 := Lib.hid ((HB12.out.new HN7.out).upd hr.2.upd (fun hk => hk.1.2.1 rfl))
                      have h13 := Lib.hid ((HB13.out.new HN7.out).upd hr.2.upd (fun hk => hk.1.2.2.1 rfl))
                      have h17 := Lib.hid ((HB17.out.new HN7.out).upd hr.2.upd (fun hk => hk.1.2.2.2 rfl))
                      have h19 := HB19.out.upd hr.2.upd (fun hk => Nat.lt_irrefl _ hk.2)
                      have HD8 := Lib.hid (hr.1.mono (G := fun k => w.heap.size ≤ k ∧ k ≠ w3.heap.size ∧ k ≠ w3.heap.size + 1 ∧ k ≠ wq.heap.size) (fun k hk => by
                        rcases hk with hk | hk
                        · exact hk.1
                        · have := hn8.size; rw [World.size_alloc] at *; omega))
                      have HW := Lib.hid (hacts.wr (by first | exact .inl rfl | exact .inr rfl) HD7.out.facts.2.2.1)
                      clear hn8 hz7 hz6 hl12 hl13 hl17 hr hacts
                      obtain ⟨q0, q1, q2, q3, q4, qz⟩ := Blk4A h19
                      clear p0 p1 p2 p3 p4 pz h19
                      rcases HW.out with ⟨hr0, hD⟩ | ⟨hr0, hat0, p, hpa, hD⟩
                      · have hr0' : ¬ r = 0 := hr0
                        go_wp2_with fail
                        go_roundw
                        case rel => exact ⟨k2 + 1, by omega, by omega, by go_num, D3, T, HD8.out, hN8.out, h12.out, h13.out, h17.out, by rw [hD]; exact HK.out.mono (by omega)⟩
                        case measure => simp [intOf]; omega
                      · subst hr0
                        replace hat0 : 0 ≤ t' := hat0
                        replace hpa : p.at_ = t' := hpa
                        have HPA := Lib.hid hpa
                        have HDD := Lib.hid hD
                        clear hpa hD
                        by_cases h21 : t' < 21
                        · obtain ⟨a, rfl⟩ : ∃ a : Nat, t' = (a : Int) := ⟨t'.toNat, by omega⟩
                          have ha21 : a < 21 := by omega
                          have e17 := (h17.out.cell a).trans (rowC_get ha21)
                          have f17 := h17.out.frozen a
                          have l17 := h17.out.lt
                          go_wp2_with fail
                          go_roundw
                          case rel =>
                            have g17 := h17.out.set_ a (.bool true)
                            rw [rowC_set, show (fun j => if j = a then Value.bool true else Value.bool (T j)) = fun j => .bool (if j = a then true else T j) from funext fun j => by split <;> rfl] at g17
                            have hu : Upd (· = wq.heap.size) w8 (w8.setCell ⟨wq.heap.size, a, none⟩ (.bool true)) := (Upd.refl (· = wq.heap.size) w8).setCell (p := ⟨wq.heap.size, a, none⟩) (fun _ => rfl) _
                            have hT : Turns w8 (· = wq.heap.size) := by
                              rintro k rfl t cs hb
                              have e : t = 62 := Decidable.byContradiction fun hne => hb.ne_ h17.out hne rfl
                              subst e; decide
                            exact ⟨k2 + 1, by omega, by omega, by go_num, D3, _, HD8.out.other ⟨_, hu, fun k hk => hk, hT⟩ (fun k hk h => hk.2.2.2 h), hN8.out.upd hu (fun k hk => by have := HQ.out; omega), h12.out.upd hu (fun hk => by have := HQ.out; omega), h13.out.upd hu (fun hk => by have := HQ.out; omega), g17, by rw [HDD.out]; exact HK.out.push (fun j hj => by simp [hj]) (fun _ => by rw [HPA.out]; simp)⟩
                          case measure => simp [intOf]; omega
                        · have h21' : ¬ t' < 21 := h21
                          go_wp2_with fail
                          go_roundw
                          case rel => exact ⟨k2 + 1, by omega, by omega, by go_num, D3, T, HD8.out, hN8.out, h12.out, h13.out, h17.out, by rw [HDD.out]; exact HK.out.push (fun j hj => hj) (fun h => by have := HPA.out; omega)⟩
                          case measure => simp [intOf]; omega
                    · have hk0' : (k' != 0) = true := by simpa using hk0
                      have hk1' : (k' != 1) = true := by simpa using hk1
                      go_wp2_with fail
                      go_roundw
                      case rel => exact ⟨k2 + 1, by omega, by omega, by go_num, D2, T, HD.out.new HN7.out, HNW.out.trans HN7.out, HB12.out.new HN7.out, HB13.out.new HN7.out, HB17.out.new HN7.out, HK.out.mono (by omega)⟩
                      case measure => simp [intOf]; omega
                  · have hlt3' : ¬ (k2 : Int) < 30 := by omega
                    clear hor2 HG2
                    have ho0 : Owns (wr.alloc (.cells #[] 71)) wr.heap.size 71 2 svE (.slice (some ⟨wr.heap.size, 0, none⟩) 0 0) ([] : List (Int × Int)) := World.ownsRow_made (base := wr.heap.size) (e := 71) (size := 2) wr #[] 0 (Nat.le_refl _) (by simp) (by simp)
                    have hs2 := HS3.out.new (HNW.out.alloc (.cells #[] 71))
                    have HM1 := Lib.hid (show ([] : List (Int × Int)).length + cr.length ≤ maxLen by unfold maxLen; simp; omega)
                    have HM2 := Lib.hid (show (([] : List (Int × Int)).length + cr.length) * 16 ≤ 140737488355328 by simp; omega)
                    have hz2 : wr.heap.size ≤ (wr.alloc (.cells #[] 71)).heap.size := by rw [World.size_alloc]; omega
                    go_wp2_with (at_builtin; refine wpList_app svTy svEOk rfl _ _ rfl rfl rfl ho0 hs2 HM1.out HM2.out hz2 ?_; intro v9 w9 ho9 hg9 hb9; have HN9 : New wr w9 := ((New.refl wr).alloc _).grown hg9 (fun k hk => ho0.blockGe k hk); rw [List.nil_append] at ho9; obtain ⟨A9, cp9, hv9, -, -⟩ := Owns.slIn svEOk ho9; subst hv9)
                    refine (crash_s _ (HD.out.new HN9) (Owns.slIn svEOk ho9) (by omega) HG3.out (by have := HK.out.len; omega)).mono ?_
                    rintro e w10 ⟨rfl, hr⟩
                    have HK4 := Lib.hid (fun (i : Nat) (hi : i < 21) (hT : T i = false) => HK.out.crash HD.out.facts.2.2.2 cr hi hT)
                    have hL4 : ((crashD D2 cr).L.length : Int) = 0 := rfl
                    generalize crashD D2 cr = D4 at hr HK4 hL4
                    have HL4 := Lib.hid hL4
                    have HD4 := Lib.hid hr.1
                    have HN10 := Lib.hid ((HNW.out.trans HN9).upd hr.2.upd (fun k hk => hk.1))
                    have hB12 := Lib.hid ((HB12.out.new HN9).upd hr.2.upd (fun hk => hk.2.1 rfl))
                    have hB13 := Lib.hid ((HB13.out.new HN9).upd hr.2.upd (fun hk => hk.2.2.1 rfl))
                    have hB17 := Lib.hid ((HB17.out.new HN9).upd hr.2.upd (fun hk => hk.2.2.2 rfl))
                    clear hr hL4 HN9 ho9 hg9 hb9 ho0 hs2 hz2 HM1 HM2
                    go_wp2_with fail
                    go_loopw [20, 21, 22] (fun u20 _ _ wr => ∃ i : Nat, i ≤ 21 ∧ u20 = .int .i64 i ∧ New w10 wr) (fun u20 _ _ _ => 21 - (intOf u20).toNat)
                    case atStart => exact ⟨0, by omega, rfl, New.refl _⟩
                    case round =>
                      obtain ⟨i, hi, rfl, hnq⟩ := hrel
                      have HNQ := Lib.hid hnq
                      clear hnq
                      by_cases hil : i < 21
                      · have hil' : (i : Int) < 21 := by omega
                        have hi0 : (0 : Int) ≤ (i : Int) := by omega
                        cases hf : D4.V.f (i : Int) with
                        | none =>
                          have HF := Lib.hid hf
                          clear hf
                          go_wp2_with fail
                          refine (readN_s _ (HD4.out.new HNQ.out) i (okI_small (by omega)) HF.out).mono ?_
                          rintro e wa ⟨rfl, hna⟩
                          have HNA := Lib.hid (HNQ.out.trans hna)
                          have hcv := fun n => run_str (wa.drewN n) (v := .slice none 0 0) (bs := []) ⟨none, 0, rfl, Nat.le_refl _, .inl rfl⟩
                          have e12 := ((hB12.out.new HNA.out).cell i).trans (rowC_get hil)
                          have e13 := ((hB13.out.new HNA.out).cell i).trans (rowC_get hil)
                          have e17 := ((hB17.out.new HNA.out).cell i).trans (rowC_get hil)
                          have l12 := (hB12.out.new HNA.out).lt
                          have l13 := (hB13.out.new HNA.out).lt
                          have l17 := (hB17.out.new HNA.out).lt
                          clear hna
                          cases hT : T i with
                          | true =>
                            rw [hT] at e17
                            clear hcv e12 e13
                            go_wp2_with fail
                            go_quiet (fail)
                            go_wp2_with fail
                            go_roundw
                            case rel => exact ⟨i + 1, by omega, by go_num, HNA.out.drewN _⟩
                            case measure => simp [intOf]; omega
                          | false =>
                            have hk := HK4.out i hil hT
                            rw [HF.out] at hk
                            rw [hT] at e17
                            unfold wasF at e12
                            unfold useF at e13
                            rw [← hk] at e12 e13
                            rw [if_pos hil] at e12
                            rw [show decide (i < 21) = true by simpa using hil] at e13
                            simp only [Option.getD, Option.isSome, Bool.and_false] at e12 e13
                            have hT' := Lib.hid hT
                            clear hk hT
                            go_wp2_with fail
                            go_quiet (fail)
                            go_wp2_with fail
                            go_roundw
                            case rel => exact ⟨i + 1, by omega, by go_num, HNA.out.drewN _⟩
                            case measure => simp [intOf]; omega
                        | some bs =>
                          have HF := Lib.hid hf
                          clear hf
                          go_wp2_with fail
                          refine (readS_s _ (HD4.out.new HNQ.out) i (okI_small (by omega)) HF.out).mono ?_
                          rintro e wa ⟨v, rfl, hsa, hna⟩
                          have HNA := Lib.hid (HNQ.out.trans hna)
                          have hcv := fun n => run_str (wa.drewN n) (hsa.new ((New.refl wa).drewN n))
                          have e12 := ((hB12.out.new HNA.out).cell i).trans (rowC_get hil)
                          have e13 := ((hB13.out.new HNA.out).cell i).trans (rowC_get hil)
                          have e17 := ((hB17.out.new HNA.out).cell i).trans (rowC_get hil)
                          have l12 := (hB12.out.new HNA.out).lt
                          have l13 := (hB13.out.new HNA.out).lt
                          have l17 := (hB17.out.new HNA.out).lt
                          clear hna hsa
                          cases hT : T i with
                          | true =>
                            rw [hT] at e17
                            clear hcv e12 e13
                            go_wp2_with fail
                            go_quiet (fail)
                            go_wp2_with fail
                            go_roundw
                            case rel => exact ⟨i + 1, by omega, by go_num, HNA.out.drewN _⟩
                            case measure => simp [intOf]; omega
                          | false =>
                            have hk := HK4.out i hil hT
                            rw [HF.out] at hk
                            rw [hT] at e17
                            unfold wasF at e12
                            unfold useF at e13
                            rw [← hk] at e12 e13
                            rw [if_pos hil] at e12
                            rw [show decide (i < 21) = true by simpa using hil] at e13
                            simp only [Option.getD, Option.isSome, Bool.and_true] at e12 e13
                            have hT' := Lib.hid hT
                            clear hk hT
                            go_wp2_with fail
                            go_quiet (fail)
                            go_wp2_with fail
                            go_roundw
                            case rel => exact ⟨i + 1, by omega, by go_num, HNA.out.drewN _⟩
                            case measure => simp [intOf]; omega
                      · have hil' : ¬ (i : Int) < 21 := by omega
                        have hL5 := HL4.out
                        go_wp2_with fail
                        refine (pend_s _ (HD4.out.new HNQ.out)).mono ?_
                        rintro e wa ⟨rfl, rfl⟩
                        go_wp2_with fail
                        go_ret
                        exact ⟨rfl, HN10.out.trans HNQ.out⟩
                · have hlt2' : ¬ (k2 : Int) < (l.length : Int) := by omega
                  clear hor2 HG2
                  have ho0 : Owns (wr.alloc (.cells #[] 71)) wr.heap.size 71 2 svE (.slice (some ⟨wr.heap.size, 0, none⟩) 0 0) ([] : List (Int × Int)) := World.ownsRow_made (base := wr.heap.size) (e := 71) (size := 2) wr #[] 0 (Nat.le_refl _) (by simp) (by simp)
                  have hs2 := HS3.out.new (HNW.out.alloc (.cells #[] 71))
                  have HM1 := Lib.hid (show ([] : List (Int × Int)).length + cr.length ≤ maxLen by unfold maxLen; simp; omega)
                  have HM2 := Lib.hid (show (([] : List (Int × Int)).length + cr.length) * 16 ≤ 140737488355328 by simp; omega)
                  have hz2 : wr.heap.size ≤ (wr.alloc (.cells #[] 71)).heap.size := by rw [World.size_alloc]; omega
                  go_wp2_with (at_builtin; refine wpList_app svTy svEOk rfl _ _ rfl rfl rfl ho0 hs2 HM1.out HM2.out hz2 ?_; intro v9 w9 ho9 hg9 hb9; have HN9 : New wr w9 := ((New.refl wr).alloc _).grown hg9 (fun k hk => ho0.blockGe k hk); rw [List.nil_append] at ho9; obtain ⟨A9, cp9, hv9, -, -⟩ := Owns.slIn svEOk ho9; subst hv9)
                  refine (crash_s _ (HD.out.new HN9) (Owns.slIn svEOk ho9) (by omega) HG3.out (by have := HK.out.len; omega)).mono ?_
                  rintro e w10 ⟨rfl, hr⟩
                  have HK4 := Lib.hid (fun (i : Nat) (hi : i < 21) (hT : T i = false) => HK.out.crash HD.out.facts.2.2.2 cr hi hT)
                  have hL4 : ((crashD D2 cr).L.length : Int) = 0 := rfl
                  generalize crashD D2 cr = D4 at hr HK4 hL4
                  have HL4 := Lib.hid hL4
                  have HD4 := Lib.hid hr.1
                  have HN10 := Lib.hid ((HNW.out.trans HN9).upd hr.2.upd (fun k hk => hk.1))
                  have hB12 := Lib.hid ((HB12.out.new HN9).upd hr.2.upd (fun hk => hk.2.1 rfl))
                  have hB13 := Lib.hid ((HB13.out.new HN9).upd hr.2.upd (fun hk => hk.2.2.1 rfl))
                  have hB17 := Lib.hid ((HB17.out.new HN9).upd hr.2.upd (fun hk => hk.2.2.2 rfl))
                  clear hr hL4 HN9 ho9 hg9 hb9 ho0 hs2 hz2 HM1 HM2
                  go_wp2_with fail
                  go_loopw [20, 21, 22] (fun u20 _ _ wr => ∃ i : Nat, i ≤ 21 ∧ u20 = .int .i64 i ∧ New w10 wr) (fun u20 _ _ _ => 21 - (intOf u20).toNat)
                  case atStart => exact ⟨0, by omega, rfl, New.refl _⟩
                  case round =>
                    obtain ⟨i, hi, rfl, hnq⟩ := hrel
                    have HNQ := Lib.hid hnq
                    clear hnq
                    by_cases hil : i < 21
                    · have hil' : (i : Int) < 21 := by omega
                      have hi0 : (0 : Int) ≤ (i : Int) := by omega
                      cases hf : D4.V.f (i : Int) with
                      | none =>
                        have HF := Lib.hid hf
                        clear hf
                        go_wp2_with fail
                        refine (readN_s _ (HD4.out.new HNQ.out) i (okI_small (by omega)) HF.out).mono ?_
                        rintro e wa ⟨rfl, hna⟩
                        have HNA := Lib.hid (HNQ.out.trans hna)
                        have hcv := fun n => run_str (wa.drewN n) (v := .slice none 0 0) (bs := []) ⟨none, 0, rfl, Nat.le_refl _, .inl rfl⟩
                        have e12 := ((hB12.out.new HNA.out).cell i).trans (rowC_get hil)
                        have e13 := ((hB13.out.new HNA.out).cell i).trans (rowC_get hil)
                        have e17 := ((hB17.out.new HNA.out).cell i).trans (rowC_get hil)
                        have l12 := (hB12.out.new HNA.out).lt
                        have l13 := (hB13.out.new HNA.out).lt
                        have l17 := (hB17.out.new HNA.out).lt
                        clear hna
                        cases hT : T i with
                        | true =>
                          rw [hT] at e17
                          clear hcv e12 e13
                          go_wp2_with fail
                          go_quiet (fail)
                          go_wp2_with fail
                          go_roundw
                          case rel => exact ⟨i + 1, by omega, by go_num, HNA.out.drewN _⟩
                          case measure => simp [intOf]; omega
                        | false =>
                          have hk := HK4.out i hil hT
                          rw [HF.out] at hk
                          rw [hT] at e17
                          unfold wasF at e12
                          unfold useF at e13
                          rw [← hk] at e12 e13
                          rw [if_pos hil] at e12
                          rw [show decide (i < 21) = true by simpa using hil] at e13
                          simp only [Option.getD, Option.isSome, Bool.and_false] at e12 e13
                          have hT' := Lib.hid hT
                          clear hk hT
                          go_wp2_with fail
                          go_quiet (fail)
                          go_wp2_with fail
                          go_roundw
                          case rel => exact ⟨i + 1, by omega, by go_num, HNA.out.drewN _⟩
                          case measure => simp [intOf]; omega
                      | some bs =>
                        have HF := Lib.hid hf
                        clear hf
                        go_wp2_with fail
                        refine (readS_s _ (HD4.out.new HNQ.out) i (okI_small (by omega)) HF.out).mono ?_
                        rintro e wa ⟨v, rfl, hsa, hna⟩
                        have HNA := Lib.hid (HNQ.out.trans hna)
                        have hcv := fun n => run_str (wa.drewN n) (hsa.new ((New.refl wa).drewN n))
                        have e12 := ((hB12.out.new HNA.out).cell i).trans (rowC_get hil)
                        have e13 := ((hB13.out.new HNA.out).cell i).trans (rowC_get hil)
                        have e17 := ((hB17.out.new HNA.out).cell i).trans (rowC_get hil)
                        have l12 := (hB12.out.new HNA.out).lt
                        have l13 := (hB13.out.new HNA.out).lt
                        have l17 := (hB17.out.new HNA.out).lt
                        clear hna hsa
                        cases hT : T i with
                        | true =>
                          rw [hT] at e17
                          clear hcv e12 e13
                          go_wp2_with fail
                          go_quiet (fail)
                          go_wp2_with fail
                          go_roundw
                          case rel => exact ⟨i + 1, by omega, by go_num, HNA.out.drewN _⟩
                          case measure => simp [intOf]; omega
                        | false =>
                          have hk := HK4.out i hil hT
                          rw [HF.out] at hk
                          rw [hT] at e17
                          unfold wasF at e12
                          unfold useF at e13
                          rw [← hk] at e12 e13
                          rw [if_pos hil] at e12
                          rw [show decide (i < 21) = true by simpa using hil] at e13
                          simp only [Option.getD, Option.isSome, Bool.and_true] at e12 e13
                          have hT' := Lib.hid hT
                          clear hk hT
                          go_wp2_with fail
                          go_quiet (fail)
                          go_wp2_with fail
                          go_roundw
                          case rel => exact ⟨i + 1, by omega, by go_num, HNA.out.drewN _⟩
                          case measure => simp [intOf]; omega
                    · have hil' : ¬ (i : Int) < 21 := by omega
                      have hL5 := HL4.out
                      go_wp2_with fail
                      refine (pend_s _ (HD4.out.new HNQ.out)).mono ?_
                      rintro e wa ⟨rfl, rfl⟩
                      go_wp2_with fail
                      go_ret
                      exact ⟨rfl, HN10.out.trans HNQ.out⟩
      · have hlt' : ¬ (k : Int) < (ahead.length : Int) := by omega
        clear hor1 HG1
        go_wp2_with fail
        refine (sync_s _ HB.out.1).mono ?_
        rintro e w3 ⟨rfl, hr⟩
        have hb3 : DB w w3 d (syncD D) := HB.out.step hr
        have hd3 := hb3.1.ltG
        have hN3 := hb3.2
        have KS := Kept.start D
        generalize hDD : syncD D = D1 at hd3 hb3 KS
        clear hr hb3 hDD
        have hB12 := (Blk.mk_new w3 61 #[.string ⟨#[]⟩, .string ⟨#[]⟩, .string ⟨#[]⟩, .string ⟨#[]⟩, .string ⟨#[]⟩, .string ⟨#[]⟩, .string ⟨#[]⟩, .string ⟨#[]⟩, .string ⟨#[]⟩, .string ⟨#[]⟩, .string ⟨#[]⟩, .string ⟨#[]⟩, .string ⟨#[]⟩, .string ⟨#[]⟩, .string ⟨#[]⟩, .string ⟨#[]⟩, .string ⟨#[]⟩, .string ⟨#[]⟩, .string ⟨#[]⟩, .string ⟨#[]⟩, .string ⟨#[]⟩]).alloc (.cells #[.bool false, .bool false, .bool false, .bool false, .bool false, .bool false, .bool false, .bool false, .bool false, .bool false, .bool false, .bool false, .bool false, .bool false, .bool false, .bool false, .bool false, .bool false, .bool false, .bool false, .bool false] 62)
        have hB13 := Blk.mk_new (w3.alloc (.cells #[.string ⟨#[]⟩, .string ⟨#[]⟩, .string ⟨#[]⟩, .string ⟨#[]⟩, .string ⟨#[]⟩, .string ⟨#[]⟩, .string ⟨#[]⟩, .string ⟨#[]⟩, .string ⟨#[]⟩, .string ⟨#[]⟩, .string ⟨#[]⟩, .string ⟨#[]⟩, .string ⟨#[]⟩, .string ⟨#[]⟩, .string ⟨#[]⟩, .string ⟨#[]⟩, .string ⟨#[]⟩, .string ⟨#[]⟩, .string ⟨#[]⟩, .string ⟨#[]⟩, .string ⟨#[]⟩] 61)) 62 #[.bool false, .bool false, .bool false, .bool false, .bool false, .bool false, .bool false, .bool false, .bool false, .bool false, .bool false, .bool false, .bool false, .bool false, .bool false, .bool false, .bool false, .bool false, .bool false, .bool false, .bool false]
        rw [World.size_alloc] at hB13
        have hn4 := ((New.refl w3).alloc (.cells #[.string ⟨#[]⟩, .string ⟨#[]⟩, .string ⟨#[]⟩, .string ⟨#[]⟩, .string ⟨#[]⟩, .string ⟨#[]⟩, .string ⟨#[]⟩, .string ⟨#[]⟩, .string ⟨#[]⟩, .string ⟨#[]⟩, .string ⟨#[]⟩, .string ⟨#[]⟩, .string ⟨#[]⟩, .string ⟨#[]⟩, .string ⟨#[]⟩, .string ⟨#[]⟩, .string ⟨#[]⟩, .string ⟨#[]⟩, .string ⟨#[]⟩, .string ⟨#[]⟩, .string ⟨#[]⟩] 61)).alloc (.cells #[.bool false, .bool false, .bool false, .bool false, .bool false, .bool false, .bool false, .bool false, .bool false, .bool false, .bool false, .bool false, .bool false, .bool false, .bool false, .bool false, .bool false, .bool false, .bool false, .bool false, .bool false] 62)
        go_wp2_with fail
        generalize (World.alloc (World.alloc w3 _) _) = w4 at hB12 hB13 hn4 ⊢
        replace hB12 : Blk w4 w3.heap.size 61 (rowC (wasF D1 0)) := hB12
        replace hB13 : Blk w4 (w3.heap.size + 1) 62 (rowC (useF D1 0)) := hB13
        have hT4 : Turns w4 (fun k => k = w3.heap.size ∨ k = w3.heap.size + 1) := by
          rintro k (rfl | rfl) t cs hb
          · have e : t = 61 := Decidable.byContradiction fun hne => hb.ne_ hB12 hne rfl
            subst e; decide
          · have e : t = 62 := Decidable.byContradiction fun hne => hb.ne_ hB13 hne rfl
            subst e; decide
        have HD4 := Lib.hid (hd3.new hn4)
        have HT4 := Lib.hid hT4
        have HN4 := Lib.hid (hN3.trans hn4)
        have HSZ := Lib.hid (And.intro hN3.size hn4.size)
        clear hd3 hn4 hT4 hN3
        obtain ⟨wo, rfl⟩ : ∃ wo, wo = wr := ⟨_, rfl⟩
        go_loopw [14, 15, 16] (fun u14 _ _ wr => ∃ i : Nat, i ≤ 21 ∧ u14 = .int .i64 i ∧ Blk wr w3.heap.size 61 (rowC (wasF D1 i)) ∧ Blk wr (w3.heap.size + 1) 62 (rowC (useF D1 i)) ∧ Upd (fun k => k = w3.heap.size ∨ k = w3.heap.size + 1) w4 wr) (fun u14 _ _ _ => 21 - (intOf u14).toNat)
        case atStart => exact ⟨0, by omega, rfl, hB12, hB13, Upd.refl _ _⟩
        case round =>
          clear hB12 hB13
          obtain ⟨i, hi, rfl, hB12, hB13, hu⟩ := hrel
          have HD := Lib.hid (HD4.out.other ⟨_, hu, fun k hk => hk, HT4.out⟩ (fun k hk h => by omega))
          have HU := Lib.hid hu
          clear hu
          by_cases hil : i < 21
          · have hil' : (i : Int) < 21 := by omega
            have hi0 : (0 : Int) ≤ (i : Int) := by omega
            cases hf : D1.V.f (i : Int) with
            | none =>
              have HW := Lib.hid (wasF_step D1 i)
              have HV := Lib.hid (useF_step D1 i)
              have HFD := Lib.hid hf
              clear hf
              have HB12 := Lib.hid hB12
              have HB13 := Lib.hid hB13
              clear hB12 hB13
              go_wp2_with fail
              refine (readN_s _ HD.out i (okI_small (by omega)) HFD.out).mono ?_
              rintro e wa ⟨rfl, hna⟩
              have hB12 := HB12.out.new hna
              have hB13 := HB13.out.new hna
              have HNA := Lib.hid (HU.out.transNew hna)
              clear hna
              have e12 := (hB12.cell i).trans (rowC_get hil)
              have e13 := (hB13.cell i).trans (rowC_get hil)
              have f12 := hB12.frozen i
              have f13 := hB13.frozen i
              have l12 := hB12.lt
              have l13 := hB13.lt
              have hcv := run_str wa (v := .slice none 0 0) (bs := []) ⟨none, 0, rfl, Nat.le_refl _, .inl rfl⟩
              have G12 := Lib.hid hB12
              have G13 := Lib.hid hB13
              clear hB12 hB13
              go_wp2_with fail
              go_roundw
              case rel =>
                have h12 := ((G12.out.set_ i (.string (str []))).far (p := ⟨w3.heap.size + 1, i, none⟩) (by show w3.heap.size ≠ w3.heap.size + 1; omega) (.bool false))
                have h13 := (G13.out.far (p := ⟨w3.heap.size, i, none⟩) (by show w3.heap.size + 1 ≠ w3.heap.size; omega) (.string (str []))).set_ i (.bool false)
                have hw := HW.out
                have hv := HV.out
                rw [HFD.out] at hw hv
                have hw : (rowC (wasF D1 i)).setIfInBounds i (.string (str [])) = _ := hw
                have hv : (rowC (useF D1 i)).setIfInBounds i (.bool false) = _ := hv
                rw [hw] at h12
                rw [hv] at h13
                exact ⟨i + 1, by omega, by go_num, h12, h13, (HNA.out.setCell (p := ⟨w3.heap.size, i, none⟩) (fun _ => .inl rfl) _).setCell (p := ⟨w3.heap.size + 1, i, none⟩) (fun _ => .inr rfl) _⟩
              case measure => simp [intOf]; omega
            | some bs =>
              have HW := Lib.hid (wasF_step D1 i)
              have HV := Lib.hid (useF_step D1 i)
              have HFD := Lib.hid hf
              clear hf
              have HB12 := Lib.hid hB12
              have HB13 := Lib.hid hB13
              clear hB12 hB13
              go_wp2_with fail
              refine (readS_s _ HD.out i (okI_small (by omega)) HFD.out).mono ?_
              rintro e wa ⟨v, rfl, hsa, hna⟩
              have hB12 := HB12.out.new hna
              have hB13 := HB13.out.new hna
              have HNA := Lib.hid (HU.out.transNew hna)
              clear hna
              have e12 := (hB12.cell i).trans (rowC_get hil)
              have e13 := (hB13.cell i).trans (rowC_get hil)
              have f12 := hB12.frozen i
              have f13 := hB13.frozen i
              have l12 := hB12.lt
              have l13 := hB13.lt
              have hcv := run_str wa hsa
              clear hsa
              have G12 := Lib.hid hB12
              have G13 := Lib.hid hB13
              clear hB12 hB13
              go_wp2_with fail
              go_roundw
              case rel =>
                have h12 := ((G12.out.set_ i (.string (str bs))).far (p := ⟨w3.heap.size + 1, i, none⟩) (by show w3.heap.size ≠ w3.heap.size + 1; omega) (.bool true))
                have h13 := (G13.out.far (p := ⟨w3.heap.size, i, none⟩) (by show w3.heap.size + 1 ≠ w3.heap.size; omega) (.string (str bs))).set_ i (.bool true)
                have hw := HW.out
                have hv := HV.out
                rw [HFD.out] at hw hv
                have hw : (rowC (wasF D1 i)).setIfInBounds i (.string (str bs)) = _ := hw
                have hv : (rowC (useF D1 i)).setIfInBounds i (.bool true) = _ := hv
                rw [hw] at h12
                rw [hv] at h13
                exact ⟨i + 1, by omega, by go_num, h12, h13, (HNA.out.setCell (p := ⟨w3.heap.size, i, none⟩) (fun _ => .inl rfl) _).setCell (p := ⟨w3.heap.size + 1, i, none⟩) (fun _ => .inr rfl) _⟩
              case measure => simp [intOf]; omega
          · have hil' : ¬ (i : Int) < 21 := by omega
            obtain rfl : i = 21 := by omega
            have hn5 := (New.refl wr).alloc (.cells #[.bool false, .bool false, .bool false, .bool false, .bool false, .bool false, .bool false, .bool false, .bool false, .bool false, .bool false, .bool false, .bool false, .bool false, .bool false, .bool false, .bool false, .bool false, .bool false, .bool false, .bool false] 62)
            have hB17 := Blk.mk_new wr 62 #[.bool false, .bool false, .bool false, .bool false, .bool false, .bool false, .bool false, .bool false, .bool false, .bool false, .bool false, .bool false, .bool false, .bool false, .bool false, .bool false, .bool false, .bool false, .bool false, .bool false, .bool false]
            have HQ := Lib.hid (And.intro hB13.lt HSZ.out.1)
            replace hB12 := hB12.new hn5
            replace hB13 := hB13.new hn5
            have hz12 := HU.out.size
            have hd5 := HD.out.ltG.new hn5
            have hN5 := (HN4.out.upd HU.out (fun k hk => by have := HSZ.out.1; omega)).trans hn5
            go_wp2_with fail
            generalize (World.alloc wr _) = w5 at hB12 hB13 hB17 hn5 hd5 hN5 ⊢
            replace hB17 : Blk w5 wr.heap.size 62 (rowC fun j => .bool ((fun _ => false) j)) := hB17
            have HS5 := Lib.hid (And.intro hz12 hn5.size)
            have hd5 : DSt w5 (fun k => w.heap.size ≤ k ∧ k ≠ w3.heap.size ∧ k ≠ w3.heap.size + 1 ∧ k ≠ wr.heap.size) d D1 := hd5.mono fun k hk => by have := HSZ.out; omega
            obtain ⟨wq, hwq⟩ : ∃ q, q = wr := ⟨_, rfl⟩
            have HWQ := Lib.hid hwq
            subst hwq
            clear hn5 hz12
            go_loopw [18, 19] (fun u18 _ wr => ∃ k : Nat, k ≤ l.length ∧ k ≤ 30 ∧ u18 = .int .i64 k ∧ ∃ (D : Dk) (T : Nat → Bool), DSt wr (fun k => w.heap.size ≤ k ∧ k ≠ w3.heap.size ∧ k ≠ w3.heap.size + 1 ∧ k ≠ wq.heap.size) d D ∧ New w wr ∧ Blk wr w3.heap.size 61 (rowC (wasF D1 21)) ∧ Blk wr (w3.heap.size + 1) 62 (rowC (useF D1 21)) ∧ Blk wr wq.heap.size 62 (rowC fun j => .bool (T j)) ∧ Kept D1 D T k) (fun u18 _ _ => l.length - (intOf u18).toNat)
            case atStart => exact ⟨0, by omega, by omega, rfl, D1, _, hd5, hN5, hB12, hB13, hB17, KS⟩
            case round =>
              clear hB12 hB13 hB17 hd5 hN5 HD4 HT4 HN4 HD HU HS5 KS HWQ
              obtain ⟨k2, hk2, hk30, rfl, D2, T, hd, hnw2, hB12, hB13, hB17, hK⟩ := hrel
              have HD := Lib.hid hd
              have HNW := Lib.hid hnw2
              have HB12 := Lib.hid hB12
              have HB13 := Lib.hid hB13
              have HB17 := Lib.hid hB17
              have HK := Lib.hid hK
              clear hd hnw2 hB12 hB13 hB17 hK
              by_cases hlt2 : k2 < l.length
              · have hlt2' : (k2 : Int) < (l.length : Int) := by omega
                by_cases hlt3 : k2 < 30
                · have hlt3' : (k2 : Int) < 30 := by omega
                  rcases hor2 with hor2 | ⟨b, off, rfl, hbl, hc⟩
                  · rw [hor2] at hlt2; simp at hlt2
                  obtain ⟨x, hx⟩ : ∃ x, l[k2]? = some x := ⟨_, List.getElem?_eq_getElem hlt2⟩
                  have hcells := HNW.out.cells.1
                  have e0 : wr.cell? ⟨b, off + k2 * 4, none⟩ = some (.int .i64 x.kind) := (hcells _ _ hbl).trans (by have := hc _ x hx 0 _ rfl; simpa using this)
                  have e1 : wr.cell? ⟨b, off + k2 * 4 + 1, none⟩ = some (.int .i64 x.at_) := (hcells _ _ hbl).trans (by have := hc _ x hx 1 _ rfl; simpa using this)
                  have e2 : wr.cell? ⟨b, off + k2 * 4 + 2, none⟩ = some (.string x.b) := (hcells _ _ hbl).trans (by have := hc _ x hx 2 _ rfl; simpa using this)
                  have e3 : wr.cell? ⟨b, off + k2 * 4 + 3, none⟩ = some x.u := (hcells _ _ hbl).trans (by have := hc _ x hx 3 _ rfl; simpa using this)
                  have hgx := HG2.out x (List.mem_of_getElem? hx)
                  have HGX := Lib.hid (hgx.new HNW.out)
                  have HC0 := Lib.hid hc
                  obtain ⟨K, at_, bb, uu⟩ := x
                  clear hc hx hcells hgx
                  go_wp2_with fail
                  refine (few_any ⟨K, at_, bb, uu⟩ _ HGX.out.2.1 HGX.out.2.2.1 HGX.out.2.2.2).mono ?_
                  rintro e w6 ⟨⟨k', t', b', u'⟩, rfl, hk', ha', hfine, hn6⟩
                  obtain rfl : k' = K := hk'
                  obtain rfl : t' = at_ := ha'
                  obtain ⟨su, hsu, _⟩ := id hfine.2.2
                  obtain ⟨Au, nu, cu, hvu⟩ := sl_shape hsu
                  simp only at hvu
                  subst hvu
                  clear hsu
                  clear e0 e1 e2 e3
                  have hB19 := Blk.mk_new w6 59 #[.int .i64 k', .int .i64 t', .string b', (.slice Au nu cu)]
                  have hn7 := hn6.alloc (.cells #[.int .i64 k', .int .i64 t', .string b', (.slice Au nu cu)] 59)
                  have hd7 := (HD.out.new hn6).ltG.new ((New.refl w6).alloc (.cells #[.int .i64 k', .int .i64 t', .string b', (.slice Au nu cu)] 59))
                  have hf7 : Ac.fine ⟨k', t', b', (.slice Au nu cu)⟩ (w6.alloc (.cells #[.int .i64 k', .int .i64 t', .string b', (.slice Au nu cu)] 59)) := ⟨hfine.1, hfine.2.1, hfine.2.2.new ((New.refl w6).alloc _)⟩
                  obtain ⟨p0, p1, p2, p3, p4, pz⟩ := Blk4A hB19
                  have hBz := Blk.mk_new w6 59 #[.int .i64 0, .int .i64 0, .string ⟨#[]⟩, .slice none 0 0]
                  obtain ⟨z0, z1, z2, z3, z4, zz⟩ := Blk4A hBz
                  clear hBz
                  have HN7 := Lib.hid hn7
                  have HD7 := Lib.hid hd7
                  have HF7 := Lib.hid hf7
                  have HB19 := Lib.hid hB19
                  have HN6 := Lib.hid hn6
                  clear hn7 hd7 hf7 hfine hn6 hB19
                  have hkind : k' = 0 ∨ k' = 1 ∨ (k' ≠ 0 ∧ k' ≠ 1) := by omega
                  rcases hkind with rfl | rfl | ⟨hk0, hk1⟩
                  · go_wp2_with fail
                    refine (do_s ⟨0, t', b', (.slice Au nu cu)⟩ _ HD7.out HF7.out (by have := HK.out.len; omega)).mono ?_
                    rintro e w8 ⟨r, D3, rfl, hr, hacts⟩
                    have hn8 := HNW.out.trans HN7.out
                    have hz7 := HN7.out.size
                    have hz6 := HN6.out.size
                    have hN8 := Lib.hid (hn8.upd hr.2.upd (fun k hk => hk.1.1))
                    have hl12 := HB12.out.lt
                    have hl13 := HB13.out.lt
                    have hl17 := HB17.out.lt
                    rw [World.size_alloc] at hz7
                    have h12 := Lib.hid ((HB12.out.new HN7.out).upd hr.2.upd (fun hk => hk.1.2.1 rfl))
                    have h13 := Lib.hid ((HB13.out.new HN7.out).upd hr.2.upd (fun hk => hk.1.2.2.1 rfl))
                    have h17 := Lib.hid ((HB17.out.new HN7.out).upd hr.2.upd (fun hk => hk.1.2.2.2 rfl))
                    have h19 := HB19.out.upd hr.2.upd (fun hk => Nat.lt_irrefl _ hk.2)
                    have HD8 := Lib.hid (hr.1.mono (G := fun k => w.heap.size ≤ k ∧ k ≠ w3.heap.size ∧ k ≠ w3.heap.size + 1 ∧ k ≠ wq.heap.size) (fun k hk => by
                      rcases hk with hk | hk
                      · exact hk.1
                      · have := hn8.size; rw [World.size_alloc] at *; omega))
                    have HW := Lib.hid (hacts.wr (by first | exact .inl rfl | exact .inr rfl) HD7.out.facts.2.2.1)
                    clear hn8 hz7 hz6 hl12 hl13 hl17 hr hacts
                    obtain ⟨q0, q1, q2, q3, q4, qz⟩ := Blk4A h19
                    clear p0 p1 p2 p3 p4 pz h19
                    rcases HW.out with ⟨hr0, hD⟩ | ⟨hr0, hat0, p, hpa, hD⟩
                    · have hr0' : ¬ r = 0 := hr0
                      go_wp2_with fail
                      go_roundw
                      case rel => exact ⟨k2 + 1, by omega, by omega, by go_num, D3, T, HD8.out, hN8.out, h12.out, h13.out, h17.out, by rw [hD]; exact HK.out.mono (by omega)⟩
                      case measure => simp [intOf]; omega
                    · subst hr0
                      replace hat0 : 0 ≤ t' := hat0
                      replace hpa : p.at_ = t' := hpa
                      have HPA := Lib.hid hpa
                      have HDD := Lib.hid hD
                      clear hpa hD
                      by_cases h21 : t' < 21
                      · obtain ⟨a, rfl⟩ : ∃ a : Nat, t' = (a : Int) := ⟨t'.toNat, by omega⟩
                        have ha21 : a < 21 := by omega
                        have e17 := (h17.out.cell a).trans (rowC_get ha21)
                        have f17 := h17.out.frozen a
                        have l17 := h17.out.lt
                        go_wp2_with fail
                        go_roundw
                        case rel =>
                          have g17 := h17.out.set_ a (.bool true)
                          rw [rowC_set, show (fun j => if j = a then Value.bool true else Value.bool (T j)) = fun j => .bool (if j = a then true else T j) from funext fun j => by split <;> rfl] at g17
                          have hu : Upd (· = wq.heap.size) w8 (w8.setCell ⟨wq.heap.size, a, none⟩ (.bool true)) := (Upd.refl (· = wq.heap.size) w8).setCell (p := ⟨wq.heap.size, a, none⟩) (fun _ => rfl) _
                          have hT : Turns w8 (· = wq.heap.size) := by
                            rintro k rfl t cs hb
                            have e : t = 62 := Decidable.byContradiction fun hne => hb.ne_ h17.out hne rfl
                            subst e; decide
                          exact ⟨k2 + 1, by omega, by omega, by go_num, D3, _, HD8.out.other ⟨_, hu, fun k hk => hk, hT⟩ (fun k hk h => hk.2.2.2 h), hN8.out.upd hu (fun k hk => by have := HQ.out; omega), h12.out.upd hu (fun hk => by have := HQ.out; omega), h13.out.upd hu (fun hk => by have := HQ.out; omega), g17, by rw [HDD.out]; exact HK.out.push (fun j hj => by simp [hj]) (fun _ => by rw [HPA.out]; simp)⟩
                        case measure => simp [intOf]; omega
                      · have h21' : ¬ t' < 21 := h21
                        go_wp2_with fail
                        go_roundw
                        case rel => exact ⟨k2 + 1, by omega, by omega, by go_num, D3, T, HD8.out, hN8.out, h12.out, h13.out, h17.out, by rw [HDD.out]; exact HK.out.push (fun j hj => hj) (fun h => by have := HPA.out; omega)⟩
                        case measure => simp [intOf]; omega
                  · go_wp2_with fail
                    refine (do_s ⟨1, t', b', (.slice Au nu cu)⟩ _ HD7.out HF7.out (by have := HK.out.len; omega)).mono ?_
                    rintro e w8 ⟨r, D3, rfl, hr, hacts⟩
                    have hn8 := HNW.out.trans HN7.out
                    have hz7 := HN7.out.size
                    have hz6 := HN6.out.size
                    have hN8 := Lib.hid (hn8.upd hr.2.upd (fun k hk => hk.1.1))
                    have hl12 := HB12.out.lt
                    have hl13 := HB13.out.lt
                    have hl17 := HB17.out.lt
                    rw [World.size_alloc] at hz7
                    have h12 := Lib.hid ((HB12.out.new HN7.out).upd hr.2.upd (fun hk => hk.1.2.1 rfl))
                    have h13 := Lib.hid ((HB13.out.new HN7.out).upd hr.2.upd (fun hk => hk.1.2.2.1 rfl))
                    have h17 := Lib.hid ((HB17.out.new HN7.out).upd hr.2.upd (fun hk => hk.1.2.2.2 rfl))
                    have h19 := HB19.out.upd hr.2.upd (fun hk => Nat.lt_irrefl _ hk.2)
                    have HD8 := Lib.hid (hr.1.mono (G := fun k => w.heap.size ≤ k ∧ k ≠ w3.heap.size ∧ k ≠ w3.heap.size + 1 ∧ k ≠ wq.heap.size) (fun k hk => by
                      rcases hk with hk | hk
                      · exact hk.1
                      · have := hn8.size; rw [World.size_alloc] at *; omega))
                    have HW := Lib.hid (hacts.wr (by first | exact .inl rfl | exact .inr rfl) HD7.out.facts.2.2.1)
                    clear hn8 hz7 hz6 hl12 hl13 hl17 hr hacts
                    obtain ⟨q0, q1, q2, q3, q4, qz⟩ := Blk4A h19
                    clear p0 p1 p2 p3 p4 pz h19
                    rcases HW.out with ⟨hr0, hD⟩ | ⟨hr0, hat0, p, hpa, hD⟩
                    · have hr0' : ¬ r = 0 := hr0
                      go_wp2_with fail
                      go_roundw
                      case rel => exact ⟨k2 + 1, by omega, by omega, by go_num, D3, T, HD8.out, hN8.out, h12.out, h13.out, h17.out, by rw [hD]; exact HK.out.mono (by omega)⟩
                      case measure => simp [intOf]; omega
                    · subst hr0
                      replace hat0 : 0 ≤ t' := hat0
                      replace hpa : p.at_ = t' := hpa
                      have HPA := Lib.hid hpa
                      have HDD := Lib.hid hD
                      clear hpa hD
                      by_cases h21 : t' < 21
                      · obtain ⟨a, rfl⟩ : ∃ a : Nat, t' = (a : Int) := ⟨t'.toNat, by omega⟩
                        have ha21 : a < 21 := by omega
                        have e17 := (h17.out.cell a).trans (rowC_get ha21)
                        have f17 := h17.out.frozen a
                        have l17 := h17.out.lt
                        go_wp2_with fail
                        go_roundw
                        case rel =>
                          have g17 := h17.out.set_ a (.bool true)
                          rw [rowC_set, show (fun j => if j = a then Value.bool true else Value.bool (T j)) = fun j => .bool (if j = a then true else T j) from funext fun j => by split <;> rfl] at g17
                          have hu : Upd (· = wq.heap.size) w8 (w8.setCell ⟨wq.heap.size, a, none⟩ (.bool true)) := (Upd.refl (· = wq.heap.size) w8).setCell (p := ⟨wq.heap.size, a, none⟩) (fun _ => rfl) _
                          have hT : Turns w8 (· = wq.heap.size) := by
                            rintro k rfl t cs hb
                            have e : t = 62 := Decidable.byContradiction fun hne => hb.ne_ h17.out hne rfl
                            subst e; decide
                          exact ⟨k2 + 1, by omega, by omega, by go_num, D3, _, HD8.out.other ⟨_, hu, fun k hk => hk, hT⟩ (fun k hk h => hk.2.2.2 h), hN8.out.upd hu (fun k hk => by have := HQ.out; omega), h12.out.upd hu (fun hk => by have := HQ.out; omega), h13.out.upd hu (fun hk => by have := HQ.out; omega), g17, by rw [HDD.out]; exact HK.out.push (fun j hj => by simp [hj]) (fun _ => by rw [HPA.out]; simp)⟩
                        case measure => simp [intOf]; omega
                      · have h21' : ¬ t' < 21 := h21
                        go_wp2_with fail
                        go_roundw
                        case rel => exact ⟨k2 + 1, by omega, by omega, by go_num, D3, T, HD8.out, hN8.out, h12.out, h13.out, h17.out, by rw [HDD.out]; exact HK.out.push (fun j hj => hj) (fun h => by have := HPA.out; omega)⟩
                        case measure => simp [intOf]; omega
                  · have hk0' : (k' != 0) = true := by simpa using hk0
                    have hk1' : (k' != 1) = true := by simpa using hk1
                    go_wp2_with fail
                    go_roundw
                    case rel => exact ⟨k2 + 1, by omega, by omega, by go_num, D2, T, HD.out.new HN7.out, HNW.out.trans HN7.out, HB12.out.new HN7.out, HB13.out.new HN7.out, HB17.out.new HN7.out, HK.out.mono (by omega)⟩
                    case measure => simp [intOf]; omega
                · have hlt3' : ¬ (k2 : Int) < 30 := by omega
                  clear hor2 HG2
                  have ho0 : Owns (wr.alloc (.cells #[] 71)) wr.heap.size 71 2 svE (.slice (some ⟨wr.heap.size, 0, none⟩) 0 0) ([] : List (Int × Int)) := World.ownsRow_made (base := wr.heap.size) (e := 71) (size := 2) wr #[] 0 (Nat.le_refl _) (by simp) (by simp)
                  have hs2 := HS3.out.new (HNW.out.alloc (.cells #[] 71))
                  have HM1 := Lib.hid (show ([] : List (Int × Int)).length + cr.length ≤ maxLen by unfold maxLen; simp; omega)
                  have HM2 := Lib.hid (show (([] : List (Int × Int)).length + cr.length) * 16 ≤ 140737488355328 by simp; omega)
                  have hz2 : wr.heap.size ≤ (wr.alloc (.cells #[] 71)).heap.size := by rw [World.size_alloc]; omega
                  go_wp2_with (at_builtin; refine wpList_app svTy svEOk rfl _ _ rfl rfl rfl ho0 hs2 HM1.out HM2.out hz2 ?_; intro v9 w9 ho9 hg9 hb9; have HN9 : New wr w9 := ((New.refl wr).alloc _).grown hg9 (fun k hk => ho0.blockGe k hk); rw [List.nil_append] at ho9; obtain ⟨A9, cp9, hv9, -, -⟩ := Owns.slIn svEOk ho9; subst hv9)
                  refine (crash_s _ (HD.out.new HN9) (Owns.slIn svEOk ho9) (by omega) HG3.out (by have := HK.out.len; omega)).mono ?_
                  rintro e w10 ⟨rfl, hr⟩
                  have HK4 := Lib.hid (fun (i : Nat) (hi : i < 21) (hT : T i = false) => HK.out.crash HD.out.facts.2.2.2 cr hi hT)
                  have hL4 : ((crashD D2 cr).L.length : Int) = 0 := rfl
                  generalize crashD D2 cr = D4 at hr HK4 hL4
                  have HL4 := Lib.hid hL4
                  have HD4 := Lib.hid hr.1
                  have HN10 := Lib.hid ((HNW.out.trans HN9).upd hr.2.upd (fun k hk => hk.1))
                  have hB12 := Lib.hid ((HB12.out.new HN9).upd hr.2.upd (fun hk => hk.2.1 rfl))
                  have hB13 := Lib.hid ((HB13.out.new HN9).upd hr.2.upd (fun hk => hk.2.2.1 rfl))
                  have hB17 := Lib.hid ((HB17.out.new HN9).upd hr.2.upd (fun hk => hk.2.2.2 rfl))
                  clear hr hL4 HN9 ho9 hg9 hb9 ho0 hs2 hz2 HM1 HM2
                  go_wp2_with fail
                  go_loopw [20, 21, 22] (fun u20 _ _ wr => ∃ i : Nat, i ≤ 21 ∧ u20 = .int .i64 i ∧ New w10 wr) (fun u20 _ _ _ => 21 - (intOf u20).toNat)
                  case atStart => exact ⟨0, by omega, rfl, New.refl _⟩
                  case round =>
                    obtain ⟨i, hi, rfl, hnq⟩ := hrel
                    have HNQ := Lib.hid hnq
                    clear hnq
                    by_cases hil : i < 21
                    · have hil' : (i : Int) < 21 := by omega
                      have hi0 : (0 : Int) ≤ (i : Int) := by omega
                      cases hf : D4.V.f (i : Int) with
                      | none =>
                        have HF := Lib.hid hf
                        clear hf
                        go_wp2_with fail
                        refine (readN_s _ (HD4.out.new HNQ.out) i (okI_small (by omega)) HF.out).mono ?_
                        rintro e wa ⟨rfl, hna⟩
                        have HNA := Lib.hid (HNQ.out.trans hna)
                        have hcv := fun n => run_str (wa.drewN n) (v := .slice none 0 0) (bs := []) ⟨none, 0, rfl, Nat.le_refl _, .inl rfl⟩
                        have e12 := ((hB12.out.new HNA.out).cell i).trans (rowC_get hil)
                        have e13 := ((hB13.out.new HNA.out).cell i).trans (rowC_get hil)
                        have e17 := ((hB17.out.new HNA.out).cell i).trans (rowC_get hil)
                        have l12 := (hB12.out.new HNA.out).lt
                        have l13 := (hB13.out.new HNA.out).lt
                        have l17 := (hB17.out.new HNA.out).lt
                        clear hna
                        cases hT : T i with
                        | true =>
                          rw [hT] at e17
                          clear hcv e12 e13
                          go_wp2_with fail
                          go_quiet (fail)
                          go_wp2_with fail
                          go_roundw
                          case rel => exact ⟨i + 1, by omega, by go_num, HNA.out.drewN _⟩
                          case measure => simp [intOf]; omega
                        | false =>
                          have hk := HK4.out i hil hT
                          rw [HF.out] at hk
                          rw [hT] at e17
                          unfold wasF at e12
                          unfold useF at e13
                          rw [← hk] at e12 e13
                          rw [if_pos hil] at e12
                          rw [show decide (i < 21) = true by simpa using hil] at e13
                          simp only [Option.getD, Option.isSome, Bool.and_false] at e12 e13
                          have hT' := Lib.hid hT
                          clear hk hT
                          go_wp2_with fail
                          go_quiet (fail)
                          go_wp2_with fail
                          go_roundw
                          case rel => exact ⟨i + 1, by omega, by go_num, HNA.out.drewN _⟩
                          case measure => simp [intOf]; omega
                      | some bs =>
                        have HF := Lib.hid hf
                        clear hf
                        go_wp2_with fail
                        refine (readS_s _ (HD4.out.new HNQ.out) i (okI_small (by omega)) HF.out).mono ?_
                        rintro e wa ⟨v, rfl, hsa, hna⟩
                        have HNA := Lib.hid (HNQ.out.trans hna)
                        have hcv := fun n => run_str (wa.drewN n) (hsa.new ((New.refl wa).drewN n))
                        have e12 := ((hB12.out.new HNA.out).cell i).trans (rowC_get hil)
                        have e13 := ((hB13.out.new HNA.out).cell i).trans (rowC_get hil)
                        have e17 := ((hB17.out.new HNA.out).cell i).trans (rowC_get hil)
                        have l12 := (hB12.out.new HNA.out).lt
                        have l13 := (hB13.out.new HNA.out).lt
                        have l17 := (hB17.out.new HNA.out).lt
                        clear hna hsa
                        cases hT : T i with
                        | true =>
                          rw [hT] at e17
                          clear hcv e12 e13
                          go_wp2_with fail
                          go_quiet (fail)
                          go_wp2_with fail
                          go_roundw
                          case rel => exact ⟨i + 1, by omega, by go_num, HNA.out.drewN _⟩
                          case measure => simp [intOf]; omega
                        | false =>
                          have hk := HK4.out i hil hT
                          rw [HF.out] at hk
                          rw [hT] at e17
                          unfold wasF at e12
                          unfold useF at e13
                          rw [← hk] at e12 e13
                          rw [if_pos hil] at e12
                          rw [show decide (i < 21) = true by simpa using hil] at e13
                          simp only [Option.getD, Option.isSome, Bool.and_true] at e12 e13
                          have hT' := Lib.hid hT
                          clear hk hT
                          go_wp2_with fail
                          go_quiet (fail)
                          go_wp2_with fail
                          go_roundw
                          case rel => exact ⟨i + 1, by omega, by go_num, HNA.out.drewN _⟩
                          case measure => simp [intOf]; omega
                    · have hil' : ¬ (i : Int) < 21 := by omega
                      have hL5 := HL4.out
                      go_wp2_with fail
                      refine (pend_s _ (HD4.out.new HNQ.out)).mono ?_
                      rintro e wa ⟨rfl, rfl⟩
                      go_wp2_with fail
                      go_ret
                      exact ⟨rfl, HN10.out.trans HNQ.out⟩
              · have hlt2' : ¬ (k2 : Int) < (l.length : Int) := by omega
                clear hor2 HG2
                have ho0 : Owns (wr.alloc (.cells #[] 71)) wr.heap.size 71 2 svE (.slice (some ⟨wr.heap.size, 0, none⟩) 0 0) ([] : List (Int × Int)) := World.ownsRow_made (base := wr.heap.size) (e := 71) (size := 2) wr #[] 0 (Nat.le_refl _) (by simp) (by simp)
                have hs2 := HS3.out.new (HNW.out.alloc (.cells #[] 71))
                have HM1 := Lib.hid (show ([] : List (Int × Int)).length + cr.length ≤ maxLen by unfold maxLen; simp; omega)
                have HM2 := Lib.hid (show (([] : List (Int × Int)).length + cr.length) * 16 ≤ 140737488355328 by simp; omega)
                have hz2 : wr.heap.size ≤ (wr.alloc (.cells #[] 71)).heap.size := by rw [World.size_alloc]; omega
                go_wp2_with (at_builtin; refine wpList_app svTy svEOk rfl _ _ rfl rfl rfl ho0 hs2 HM1.out HM2.out hz2 ?_; intro v9 w9 ho9 hg9 hb9; have HN9 : New wr w9 := ((New.refl wr).alloc _).grown hg9 (fun k hk => ho0.blockGe k hk); rw [List.nil_append] at ho9; obtain ⟨A9, cp9, hv9, -, -⟩ := Owns.slIn svEOk ho9; subst hv9)
                refine (crash_s _ (HD.out.new HN9) (Owns.slIn svEOk ho9) (by omega) HG3.out (by have := HK.out.len; omega)).mono ?_
                rintro e w10 ⟨rfl, hr⟩
                have HK4 := Lib.hid (fun (i : Nat) (hi : i < 21) (hT : T i = false) => HK.out.crash HD.out.facts.2.2.2 cr hi hT)
                have hL4 : ((crashD D2 cr).L.length : Int) = 0 := rfl
                generalize crashD D2 cr = D4 at hr HK4 hL4
                have HL4 := Lib.hid hL4
                have HD4 := Lib.hid hr.1
                have HN10 := Lib.hid ((HNW.out.trans HN9).upd hr.2.upd (fun k hk => hk.1))
                have hB12 := Lib.hid ((HB12.out.new HN9).upd hr.2.upd (fun hk => hk.2.1 rfl))
                have hB13 := Lib.hid ((HB13.out.new HN9).upd hr.2.upd (fun hk => hk.2.2.1 rfl))
                have hB17 := Lib.hid ((HB17.out.new HN9).upd hr.2.upd (fun hk => hk.2.2.2 rfl))
                clear hr hL4 HN9 ho9 hg9 hb9 ho0 hs2 hz2 HM1 HM2
                go_wp2_with fail
                go_loopw [20, 21, 22] (fun u20 _ _ wr => ∃ i : Nat, i ≤ 21 ∧ u20 = .int .i64 i ∧ New w10 wr) (fun u20 _ _ _ => 21 - (intOf u20).toNat)
                case atStart => exact ⟨0, by omega, rfl, New.refl _⟩
                case round =>
                  obtain ⟨i, hi, rfl, hnq⟩ := hrel
                  have HNQ := Lib.hid hnq
                  clear hnq
                  by_cases hil : i < 21
                  · have hil' : (i : Int) < 21 := by omega
                    have hi0 : (0 : Int) ≤ (i : Int) := by omega
                    cases hf : D4.V.f (i : Int) with
                    | none =>
                      have HF := Lib.hid hf
                      clear hf
                      go_wp2_with fail
                      refine (readN_s _ (HD4.out.new HNQ.out) i (okI_small (by omega)) HF.out).mono ?_
                      rintro e wa ⟨rfl, hna⟩
                      have HNA := Lib.hid (HNQ.out.trans hna)
                      have hcv := fun n => run_str (wa.drewN n) (v := .slice none 0 0) (bs := []) ⟨none, 0, rfl, Nat.le_refl _, .inl rfl⟩
                      have e12 := ((hB12.out.new HNA.out).cell i).trans (rowC_get hil)
                      have e13 := ((hB13.out.new HNA.out).cell i).trans (rowC_get hil)
                      have e17 := ((hB17.out.new HNA.out).cell i).trans (rowC_get hil)
                      have l12 := (hB12.out.new HNA.out).lt
                      have l13 := (hB13.out.new HNA.out).lt
                      have l17 := (hB17.out.new HNA.out).lt
                      clear hna
                      cases hT : T i with
                      | true =>
                        rw [hT] at e17
                        clear hcv e12 e13
                        go_wp2_with fail
                        go_quiet (fail)
                        go_wp2_with fail
                        go_roundw
                        case rel => exact ⟨i + 1, by omega, by go_num, HNA.out.drewN _⟩
                        case measure => simp [intOf]; omega
                      | false =>
                        have hk := HK4.out i hil hT
                        rw [HF.out] at hk
                        rw [hT] at e17
                        unfold wasF at e12
                        unfold useF at e13
                        rw [← hk] at e12 e13
                        rw [if_pos hil] at e12
                        rw [show decide (i < 21) = true by simpa using hil] at e13
                        simp only [Option.getD, Option.isSome, Bool.and_false] at e12 e13
                        have hT' := Lib.hid hT
                        clear hk hT
                        go_wp2_with fail
                        go_quiet (fail)
                        go_wp2_with fail
                        go_roundw
                        case rel => exact ⟨i + 1, by omega, by go_num, HNA.out.drewN _⟩
                        case measure => simp [intOf]; omega
                    | some bs =>
                      have HF := Lib.hid hf
                      clear hf
                      go_wp2_with fail
                      refine (readS_s _ (HD4.out.new HNQ.out) i (okI_small (by omega)) HF.out).mono ?_
                      rintro e wa ⟨v, rfl, hsa, hna⟩
                      have HNA := Lib.hid (HNQ.out.trans hna)
                      have hcv := fun n => run_str (wa.drewN n) (hsa.new ((New.refl wa).drewN n))
                      have e12 := ((hB12.out.new HNA.out).cell i).trans (rowC_get hil)
                      have e13 := ((hB13.out.new HNA.out).cell i).trans (rowC_get hil)
                      have e17 := ((hB17.out.new HNA.out).cell i).trans (rowC_get hil)
                      have l12 := (hB12.out.new HNA.out).lt
                      have l13 := (hB13.out.new HNA.out).lt
                      have l17 := (hB17.out.new HNA.out).lt
                      clear hna hsa
                      cases hT : T i with
                      | true =>
                        rw [hT] at e17
                        clear hcv e12 e13
                        go_wp2_with fail
                        go_quiet (fail)
                        go_wp2_with fail
                        go_roundw
                        case rel => exact ⟨i + 1, by omega, by go_num, HNA.out.drewN _⟩
                        case measure => simp [intOf]; omega
                      | false =>
                        have hk := HK4.out i hil hT
                        rw [HF.out] at hk
                        rw [hT] at e17
                        unfold wasF at e12
                        unfold useF at e13
                        rw [← hk] at e12 e13
                        rw [if_pos hil] at e12
                        rw [show decide (i < 21) = true by simpa using hil] at e13
                        simp only [Option.getD, Option.isSome, Bool.and_true] at e12 e13
                        have hT' := Lib.hid hT
                        clear hk hT
                        go_wp2_with fail
                        go_quiet (fail)
                        go_wp2_with fail
                        go_roundw
                        case rel => exact ⟨i + 1, by omega, by go_num, HNA.out.drewN _⟩
                        case measure => simp [intOf]; omega
                  · have hil' : ¬ (i : Int) < 21 := by omega
                    have hL5 := HL4.out
                    go_wp2_with fail
                    refine (pend_s _ (HD4.out.new HNQ.out)).mono ?_
                    rintro e wa ⟨rfl, rfl⟩
                    go_wp2_with fail
                    go_ret
                    exact ⟨rfl, HN10.out.trans HNQ.out⟩
end Go.Proofs.Ytdjnfnhmkfbfmaa
