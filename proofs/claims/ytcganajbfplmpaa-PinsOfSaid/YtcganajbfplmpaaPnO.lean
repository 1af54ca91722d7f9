/- Chapter 18 (pins): Of. -/
import Derived.Test.YtcganajbfplmpaaPnB
namespace Go.Proofs.Ytcganajbfplmpaa
open Go.RowKit Go.Lap
set_option linter.unusedVariables false

/-- The names of bytes, as the code reads them: so many rounds, and the whole. -/
def ofRounds : Nat → List Pnm → ByteArray → List UInt8 → Int → Option (List Pnm × List UInt8 × Int)
  | 0, E, _, bs, err => some (E, bs, err)
  | n + 1, E, last, bs, err =>
    if lsS last (str (textR bs err).1) = true ∧ pinErr E (str (textR bs err).1) = 0 then
      ofRounds n (insP E (str (textR bs err).1) (numR (textR bs err).2.1 (textR bs err).2.2).1) (str (textR bs err).1) (numR (textR bs err).2.1 (textR bs err).2.2).2.1 (numR (textR bs err).2.1 (textR bs err).2.2).2.2
    else none
def ofEnd : Option (List Pnm × List UInt8 × Int) → Option (List Pnm)
  | none => none
  | some (E, bs, err) => if endR bs err = 0 then some E else none
def ofP (bs : List UInt8) : Option (List Pnm) := ofEnd (ofRounds (countR bs 0 16).1 [] ⟨#[]⟩ (countR bs 0 16).2.1 (countR bs 0 16).2.2)
/-- The reader's bytes lie off some blocks. -/
def OffF (v : Value) (bs : List UInt8) (F : Nat → Prop) : Prop := bs = [] ∨ ∀ k, v.ownBlock = some k → ¬ F k
theorem RdAt.updF {w w' : World} {S : Nat → Prop} {g : Nat} {v : Value} {bs : List UInt8} {err : Int} (h : RdAt w g v bs err) (hu : Upd S w w') (hg : ¬ S g) (ho : OffF v bs S) : RdAt w' g v bs err := by
  rcases ho with rfl | ho
  · obtain ⟨h1, ⟨A, c, rfl, hc, _⟩, h3⟩ := h
    exact ⟨h1.upd hu hg, ⟨A, c, rfl, hc, .inl rfl⟩, h3⟩
  · exact h.upd hu hg ho
theorem OffF.step {w : World} {v v' : Value} {bs bs' : List UInt8} {F : Nat → Prop} (h : OffF v bs F) (hf : Fr w v v') (hF : ∀ k, F k → k < w.heap.size) (hb : bs = [] → bs' = []) : OffF v' bs' F := by
  rcases h with h | h
  · exact .inl (hb h)
  · refine .inr fun k hk hFk => ?_
    rcases hf k hk with h1 | h1
    · exact h k h1 hFk
    · have := hF k hFk; omega
theorem OffF.start {w : World} {g : Nat} {v : Value} {bs : List UInt8} {err : Int} {F : Nat → Prop} (h : RdAt w g v bs err) (hF : ∀ k, F k → w.heap.size ≤ k) : OffF v bs F := by
  obtain ⟨_, ⟨A, c, rfl, hc, hor⟩, _⟩ := h
  rcases hor with hor | ⟨b, off, rfl, hb, _⟩
  · exact .inl hor
  · refine .inr fun k hk hFk => ?_
    have := hF k hFk
    simp [Value.ownBlock] at hk
    omega
theorem textR_len1 (bs : List UInt8) (err : Int) : (textR bs err).1.length ≤ bs.length := by
  unfold textR
  have := takeV_lenP bs
  split
  · split
    · simp
    · simp only [List.length_take]; omega
  · simp
theorem countR_lenP (bs : List UInt8) (err most : Int) : (countR bs err most).2.1.length ≤ bs.length := by simpa [takeF] using takeF_lenP 3 most bs err
theorem numR_okU (bs : List UInt8) (err : Int) : okU (numR bs err).1 := by
  refine okU_of ?_
  unfold numR
  have := takeV_lt bs
  split
  · split
    · exact this
    · simp
  · simp
def POfPost (w : World) (r : Option (List Pnm)) (e : Ending) (w' : World) : Prop := New w w' ∧
  match r with
  | none => e = .returned (.tuple #[.pointer none, .int .i64 183])
  | some E => ∃ p nm lm, e = .returned (.tuple #[.pointer (some ⟨p, 0, none⟩), .int .i64 0]) ∧ PSt w' p nm lm E [] ∧ ∀ k, PnF p nm lm k → w.heap.size ≤ k
set_option maxRecDepth 100000 in
set_option maxHeartbeats 4000000 in
theorem pof_any (bs : List UInt8) (v : Value) (w : World) (hb : bs.length ≤ 100000000) (hs : SlIn w 1 bEnc v bs) :
    Calls Try.prog 34 #[v] w (POfPost w (ofP bs)) := by
  obtain ⟨sA, sn, sc, rfl⟩ := hs.shape
  have HOF := Lib.hid (show ofP bs = ofEnd (ofRounds (countR bs 0 16).1 [] ⟨#[]⟩ (countR bs 0 16).2.1 (countR bs 0 16).2.2) from rfl)
  generalize ofP bs = res at HOF ⊢
  go_enter Try.func34, Try.ntmps34
  go_wp2_with fail
  refine (read_any bs _ w (by omega) hs).mono ?_
  rintro e w1 ⟨g, u1, rfl, hg1, _, hr1, hn1⟩
  go_wp2_with fail
  refine (newS _).mono ?_
  rintro e w2 ⟨p, nm, lm, rfl, hP2, hF2, hn2⟩
  have hr2 := hr1.new hn2
  have hO2 : OffF u1 bs (PnF p nm lm) := OffF.start hr1 hF2
  have hgp : ¬ PnF p nm lm g := fun h => by have := hF2 g h; have := hr1.1.lt; omega
  have hN2 := hn1.trans hn2
  have HFW := Lib.hid (show ∀ k, PnF p nm lm k → w.heap.size ≤ k from fun k hk => Nat.le_trans hn1.size (hF2 k hk))
  have HGP := Lib.hid hgp
  clear hn1 hn2 hr1 hs hF2 hgp
  go_wp2_with fail
  refine (count_any g u1 bs 0 16 w2 hr2 (by omega) (by decide) (by decide)).mono ?_
  rintro e w3 ⟨u3, rfl, hr3, hu3, hf3⟩
  have hN3 := RdAt.step hN2 hg1 hu3
  have hP3 := hP2.upd hu3 (fun k hk e => HGP.out (e ▸ hk))
  have hO3 := hO2.step hf3 hP2.lt (bs' := (countR bs 0 16).2.1) (fun h => by rw [h]; exact countR_nil 0 16)
  have hl3 := countR_lenP bs 0 16
  have hc16 := countR_le bs 0 16
  generalize hE : countR bs 0 16 = r at *
  obtain ⟨n, b3, e3⟩ := r
  simp only at hr3 hl3 hc16 hO3 HOF ⊢
  have hn16 : n ≤ 16 := by omega
  clear hE hr2 hu3 hf3 hN2 hP2 hO2 hc16
  go_wp2_with fail
  go_loopw [6, 7, 8, 14] (fun lst _ _ i wr => ∃ k : Nat, k ≤ n ∧ i = .int .i64 k ∧ ∃ (last : ByteArray) (E : List Pnm) (u : Value) (bs' : List UInt8) (err : Int), lst = .string last ∧ res = ofEnd (ofRounds (n - k) E last bs' err) ∧ PSt wr p nm lm E [] ∧ RdAt wr g u bs' err ∧ OffF u bs' (PnF p nm lm) ∧ bs'.length ≤ 100000000 ∧ New w wr) (fun _ _ _ i _ => n - (intOf i).toNat)
  case atStart => exact ⟨0, by omega, rfl, _, [], u3, b3, e3, rfl, HOF.out, hP3, hr3, hO3, by omega, hN3⟩
  case round =>
    clear hr3 hP3 hO3 hN3 HOF
    obtain ⟨k, hk, rfl, last, E, u, bs', err, rfl, hres, hP, hr, hO, hbl, hnw⟩ := hrel
    have HRS := Lib.hid hres
    clear hres
    by_cases hlt : k < n
    · have hlt' : (k : Int) < (n : Int) := by omega
      have hst : n - k = (n - (k + 1)) + 1 := by omega
      rw [hst] at HRS
      have hl1 := textR_len1 bs' err
      have hl2 := textR_lenE bs' err
      go_wp2_with fail
      refine (rtext_any g u bs' err wr hr (by omega)).mono ?_
      rintro e w5 ⟨u5, rfl, hr5, hu5, hf5⟩
      have hN5 := RdAt.step hnw hg1 hu5
      have hP5 := hP.upd hu5 (fun k hk e => HGP.out (e ▸ hk))
      have hO5 := hO.step hf5 hP.lt (bs' := (textR bs' err).2.1) (fun h => by rw [h]; exact textR_nil err)
      have HS := Lib.hid (show ofRounds (n - (k + 1) + 1) E last bs' err = if lsS last (str (textR bs' err).1) = true ∧ pinErr E (str (textR bs' err).1) = 0 then
        ofRounds (n - (k + 1)) (insP E (str (textR bs' err).1) (numR (textR bs' err).2.1 (textR bs' err).2.2).1) (str (textR bs' err).1) (numR (textR bs' err).2.1 (textR bs' err).2.2).2.1 (numR (textR bs' err).2.1 (textR bs' err).2.2).2.2
        else none from rfl)
      have hss : okS (str (textR bs' err).1) := by unfold okS maxLen; rw [str_size]; omega
      generalize textR bs' err = t at *
      obtain ⟨tb, b5, e5⟩ := t
      simp only at hr5 hO5 HS hss hl2 ⊢
      generalize str tb = s at *
      have hl3 := numR_lenE b5 e5
      have hok := numR_okU b5 e5
      clear hr hu5 hf5 hnw hP hO hl1
      go_wp2_with fail
      refine (rnum_any g u5 b5 e5 w5 hr5 (by omega)).mono ?_
      rintro e w6 ⟨u6, rfl, hr6, hu6, hf6⟩
      have hN6 := RdAt.step hN5 hg1 hu6
      have hP6 := hP5.upd hu6 (fun k hk e => HGP.out (e ▸ hk))
      have hO6 := hO5.step hf6 hP5.lt (bs' := (numR b5 e5).2.1) (fun h => by rw [h]; exact numR_nil e5)
      generalize numR b5 e5 = t at *
      obtain ⟨at_, b6, e6⟩ := t
      simp only at hr6 hO6 HS hok hl3 ⊢
      clear hr5 hu6 hf6 hN5 hP5 hO5
      cases hls : Op.bytesLess last.toList s.toList with
      | false =>
        have HNO := Lib.hid (HRS.out.trans (by rw [HS.out, if_neg (fun h => by have h1 : Op.bytesLess last.toList s.toList = true := h.1; rw [hls] at h1; cases h1)]; rfl : _ = (none : Option (List Pnm))))
        have hle := le_or s last
        rw [hls] at hle
        simp only [Bool.not_false, Bool.or_eq_true] at hle
        clear hls
        rcases hle with hle | hle
        all_goals
          go_wp2_with fail
          go_ret2
          refine ⟨hN6, ?_⟩
          rw [HNO.out]
          rfl
      | true =>
        have hle := le_or s last
        rw [hls] at hle
        simp only [Bool.not_true, Bool.or_eq_false_iff] at hle
        obtain ⟨hle1, hle2⟩ := hle
        have HLS := Lib.hid hls
        clear hls
        go_wp2_with fail
        refine (pinS w6 hP6 s hss at_ hok).mono ?_
        rintro e w7 ⟨rfl, hP7, hu7⟩
        have hN7 := hN6.upd hu7 HFW.out
        have hr7 := hr6.updF hu7 HGP.out hO6
        by_cases hpe : pinErr E s = 0
        · have hpE : pinE E s at_ = insP E s at_ := if_pos hpe
          rw [hpE] at hP7
          have HNX := Lib.hid (HRS.out.trans (by rw [HS.out, if_pos ⟨HLS.out, hpe⟩] : _ = ofEnd (ofRounds (n - (k + 1)) (insP E s at_) s b6 e6)))
          rw [hpe]
          clear hpe hpE
          go_wp2_with fail
          go_roundw
          case rel => exact ⟨k + 1, by omega, by first | rfl | go_num, s, _, u6, b6, e6, rfl, HNX.out, hP7, hr7, hO6, by omega, hN7⟩
          case measure => simp [intOf]; omega
        · have HNO := Lib.hid (HRS.out.trans (by rw [HS.out, if_neg (fun h => hpe h.2)]; rfl : _ = (none : Option (List Pnm))))
          have hne : (pinErr E s != 0) = true := by simpa using hpe
          generalize pinErr E s = er at hne ⊢
          clear hpe
          go_wp2_with fail
          go_ret2
          refine ⟨hN7, ?_⟩
          rw [HNO.out]
          rfl
    · have hlt' : ¬ (k : Int) < (n : Int) := by omega
      obtain rfl : k = n := by omega
      rw [Nat.sub_self] at HRS
      have hend : res = if endR bs' err = 0 then some E else none := HRS.out
      have HEND := Lib.hid hend
      clear hend
      go_wp2_with fail
      refine (end_any g u bs' err wr hr (by omega)).mono ?_
      rintro e w5 ⟨rfl, rfl⟩
      by_cases he : endR bs' err = 0
      · have HEE := Lib.hid (HEND.out.trans (if_pos he))
        rw [he]
        clear he
        go_wp2_with fail
        go_ret2
        refine ⟨hnw, ?_⟩
        rw [HEE.out]
        exact ⟨p, nm, lm, rfl, hP, HFW.out⟩
      · have HEE := Lib.hid (HEND.out.trans (if_neg he))
        have hne : (endR bs' err != 0) = true := by simpa using he
        generalize endR bs' err = er at hne ⊢
        clear he
        go_wp2_with fail
        go_ret2
        refine ⟨hnw, ?_⟩
        rw [HEE.out]
        rfl
end Go.Proofs.Ytcganajbfplmpaa
