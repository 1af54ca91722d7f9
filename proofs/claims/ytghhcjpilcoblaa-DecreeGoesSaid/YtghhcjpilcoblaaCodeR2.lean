/- Contracts of code.Reader, more: Text, Count, Flag, End, Rest (chapter 3). -/
import Derived.Test.YtghhcjpilcoblaaCodeR
namespace Go.Proofs.Ytghhcjpilcoblaa
open Go.RowKit Go.Lap
set_option linter.unusedVariables false

theorem ownBlock_slice (A : Option Addr) (n c n' c' : Nat) : (Value.slice A n c).ownBlock = (Value.slice A n' c').ownBlock := by cases A <;> rfl

theorem ownBlock_drop (A : Option Addr) (k n c n' c' : Nat) : (Value.slice (Option.map (fun x => x.add k) A) n c).ownBlock = (Value.slice A n' c').ownBlock := by
  cases A with
  | none => rfl
  | some a => simp only [Option.map, Value.ownBlock, Addr.add]; split <;> rfl

/-- A text: what is taken, the rest, what goes wrong. -/
def textR (bs : List UInt8) (err : Int) : List UInt8 × List UInt8 × Int :=
  if err = 0 ∧ (takeV bs).1 = 0 ∧ ((takeV bs).2.1 : Int) ≤ 65536 then
    if (takeV bs).2.2.length < (takeV bs).2.1 then ([], bs, 30) else ((takeV bs).2.2.take (takeV bs).2.1, (takeV bs).2.2.drop (takeV bs).2.1, 0)
  else ([], bs, belowErr bs err)

def countR (bs : List UInt8) (err most : Int) : Nat × List UInt8 × Int :=
  if err = 0 ∧ (takeV bs).1 = 0 ∧ ((takeV bs).2.1 : Int) ≤ most then ((takeV bs).2.1, (takeV bs).2.2, 0) else (0, bs, belowErr bs err)

set_option maxRecDepth 100000 in
set_option maxHeartbeats 1000000 in
theorem count_any (g : Nat) (v : Value) (bs : List UInt8) (err most : Int) (w : World) (h : RdAt w g v bs err) (hb : bs.length ≤ 1000000000) (hm0 : -9223372036854775808 ≤ most) (hm1 : most ≤ 9223372036854775807) :
    Calls Try.prog 77 #[.pointer (some ⟨g, 0, none⟩), .int .i64 most] w (RdPost w g v (.int .i64 (countR bs err most).1) (countR bs err most).2.1 (countR bs err most).2.2) := by
  go_enter Try.func77, Try.ntmps77
  go_wp2_with fail
  refine (below_any g v bs err most w h hb hm0 hm1).mono ?_
  intro e w1 ht
  rcases ht with ⟨hok, u, rfl, ho, hn1⟩ | ⟨hno, rfl, h1, hu1⟩
  · have hR : countR bs err most = ((takeV bs).2.1, (takeV bs).2.2, 0) := by unfold countR; exact if_pos hok
    obtain ⟨A1, n1, c1, hv1⟩ := (Owns.slIn bEncOk ho).shape
    subst hv1
    have h1 := h.new hn1
    obtain ⟨hg, c0, c1', hz⟩ := h1.facts
    have HR := Lib.hid hR
    have HE := Lib.hid hok.1
    clear hR hok
    go_wp2_with fail
    go_ret
    refine ⟨.slice A1 n1 c1, by rw [HR.out]; rfl, ?_, (Upd.new hn1).setIn _ _, Fr.new ho⟩
    rw [HR.out]
    have hb1 := h1.1
    rw [HE.out] at hb1
    exact ⟨hb1.set_ 0 _, (Owns.slIn bEncOk ho).setFar (owns_ne h ho) _, owns_ne h ho⟩
  · have hR : countR bs err most = (0, bs, belowErr bs err) := by unfold countR; exact if_neg hno
    have HR := Lib.hid hR
    clear hR hno
    go_wp2_with fail
    go_ret
    exact ⟨v, by rw [HR.out]; rfl, by rw [HR.out]; exact h1, hu1, Fr.refl _ _⟩

set_option maxRecDepth 100000 in
set_option maxHeartbeats 1000000 in
theorem rtext_any (g : Nat) (v : Value) (bs : List UInt8) (err : Int) (w : World) (h : RdAt w g v bs err) (hb : bs.length ≤ 1000000000) :
    Calls Try.prog 35 #[.pointer (some ⟨g, 0, none⟩)] w (RdPost w g v (.string (str (textR bs err).1)) (textR bs err).2.1 (textR bs err).2.2) := by
  go_enter Try.func35, Try.ntmps35
  go_wp2_with fail
  refine (below_any g v bs err 65536 w h hb (by decide) (by decide)).mono ?_
  intro e w1 ht
  rcases ht with ⟨hok, u, rfl, ho, hn1⟩ | ⟨hno, rfl, h1, hu1⟩
  · have hT := hok.2.2
    have HE := Lib.hid hok.1
    have hR0 : textR bs err = if (takeV bs).2.2.length < (takeV bs).2.1 then ([], bs, 30) else ((takeV bs).2.2.take (takeV bs).2.1, (takeV bs).2.2.drop (takeV bs).2.1, 0) := by unfold textR; exact if_pos hok
    have HR0 := Lib.hid hR0
    clear hR0 hok
    generalize takeV bs = t at *
    obtain ⟨t1, tn, rest⟩ := t
    simp only at hT ho
    obtain ⟨A1, c1, hv1⟩ := (Owns.slIn bEncOk ho).form
    subst hv1
    have h1 := h.new hn1
    have hsl := Owns.slIn bEncOk ho
    by_cases hlt : rest.length < tn
    · have hlt' : (rest.length : Int) < (tn : Int) := by omega
      have hR : textR bs err = ([], bs, 30) := by rw [HR0.out]; exact if_pos hlt
      have HR := Lib.hid hR
      clear hR HR0
      go_wp2_with fail
      refine (fail_any g v bs err 30 w1 h1).mono ?_
      rintro e w2 ⟨rfl, h2, hu2⟩
      go_wp2_with fail
      go_ret
      exact ⟨v, by rw [HR.out]; rfl, by rw [HR.out]; rw [if_pos HE.out] at h2; exact h2, (Upd.new hn1).trans hu2 (fun _ _ h => h), Fr.refl _ _⟩
    · have hlt' : ¬ (rest.length : Int) < (tn : Int) := by omega
      have hR : textR bs err = (rest.take tn, rest.drop tn, 0) := by rw [HR0.out]; exact if_neg hlt
      have HR := Lib.hid hR
      clear hR HR0
      obtain ⟨hg, c0, c1', hz⟩ := h1.facts
      have hob := owns_ne h ho
      have k1 : (tn : Int) ≤ (c1 : Int) := by have := hsl.cap_le.1; omega
      have k2 : (tn : Int) ≤ (rest.length : Int) := by omega
      have k3 : (0 : Int) ≤ (tn : Int) := by omega
      have k4 : tn ≤ c1 := by omega
      have hb1 := h1.1
      rw [HE.out] at hb1
      by_cases hct : c1 = tn
      · subst hct
        have hdr := hsl.drop_end (by omega)
        have htk := hsl.take (k := c1) (c' := c1) (by omega) (Nat.le_refl _)
        have hcv := run_str (w1.setCell ⟨g, 0, none⟩ (.slice A1 (rest.length - c1) 0)) (htk.setFar (by rw [ownBlock_slice A1 c1 c1 rest.length c1]; exact hob) (.slice A1 (rest.length - c1) 0))
        have hbo : (Value.slice A1 (rest.length - c1) 0).ownBlock ≠ some g := by rw [ownBlock_slice A1 _ _ rest.length c1]; exact hob
        have HDR := Lib.hid hdr
        clear hdr htk
        go_wp2_with fail
        go_ret
        refine ⟨_, by rw [HR.out]; rfl, by rw [HR.out]; exact ⟨hb1.set_ 0 _, HDR.out.setFar hbo _, hbo⟩, (Upd.new hn1).setIn _ _, fun k hk => ?_⟩
        rw [ownBlock_slice A1 _ _ rest.length c1] at hk
        exact .inr (ho.blockGe k hk)
      · have hdr := hsl.drop_far (k := tn) (by omega) hct
        have htk := hsl.take (k := tn) (c' := c1) (by omega) k4
        rw [Nat.mul_one] at hdr
        have hbo : (Value.slice (Option.map (fun x => x.add tn) A1) (rest.length - tn) (c1 - tn)).ownBlock ≠ some g := by rw [ownBlock_drop A1 _ _ _ rest.length c1]; exact hob
        have hcv := run_str (w1.setCell ⟨g, 0, none⟩ (.slice (Option.map (fun x => x.add tn) A1) (rest.length - tn) (c1 - tn))) (htk.setFar (by rw [ownBlock_slice A1 tn c1 rest.length c1]; exact hob) (.slice (Option.map (fun x => x.add tn) A1) (rest.length - tn) (c1 - tn)))
        have HDR := Lib.hid hdr
        clear hdr htk
        go_wp2_with fail
        go_ret
        refine ⟨_, by rw [HR.out]; rfl, by rw [HR.out]; exact ⟨hb1.set_ 0 _, HDR.out.setFar hbo _, hbo⟩, (Upd.new hn1).setIn _ _, fun k hk => ?_⟩
        rw [ownBlock_drop A1 _ _ _ rest.length c1] at hk
        exact .inr (ho.blockGe k hk)
  · have hR : textR bs err = ([], bs, belowErr bs err) := by unfold textR; exact if_neg hno
    have HR := Lib.hid hR
    clear hR hno
    go_wp2_with fail
    go_ret
    exact ⟨v, by rw [HR.out]; rfl, by rw [HR.out]; exact h1, hu1, Fr.refl _ _⟩

def endR (bs : List UInt8) (err : Int) : Int := if err = 0 then if bs = [] then 0 else 31 else err

set_option maxHeartbeats 1000000 in
theorem end_any (g : Nat) (v : Value) (bs : List UInt8) (err : Int) (w : World) (h : RdAt w g v bs err) (hb : bs.length ≤ 1000000000) :
    Calls Try.prog 36 #[.pointer (some ⟨g, 0, none⟩)] w fun e w' => e = .returned (.int .i64 (endR bs err)) ∧ w = w' := by
  obtain ⟨hg, c0, c1, hz⟩ := h.facts
  obtain ⟨A1, c1', hv1⟩ := h.2.1.form
  subst hv1
  by_cases he : err = 0
  · subst he
    by_cases hbs : bs.length = 0
    · have hR : endR bs 0 = 0 := by have := List.eq_nil_of_length_eq_zero hbs; simp [endR, this]
      have HR := Lib.hid hR
      have h1 : ¬ (0 : Int) < (bs.length : Int) := by omega
      have h1n : ¬ 0 < bs.length := by omega
      clear hR hbs
      go_enter Try.func36, Try.ntmps36
      go_wp2_with fail
      go_ret
      exact ⟨by rw [HR.out]; rfl, rfl⟩
    · have hR : endR bs 0 = 31 := by have : bs ≠ [] := fun h => hbs (by rw [h]; rfl); simp [endR, this]
      have HR := Lib.hid hR
      have h1 : (0 : Int) < (bs.length : Int) := by omega
      clear hR hbs
      go_enter Try.func36, Try.ntmps36
      go_wp2_with fail
      go_ret
      exact ⟨by rw [HR.out]; rfl, rfl⟩
  · have hR : endR bs err = err := by simp [endR, he]
    have HR := Lib.hid hR
    have hne : ((err : Int) == 0) = false := by simpa using he
    clear hR he
    go_enter Try.func36, Try.ntmps36
    go_wp2_with fail
    go_ret
    exact ⟨by rw [HR.out]; rfl, rfl⟩

def flagR (bs : List UInt8) (err : Int) : Bool × List UInt8 × Int :=
  if err = 0 then match bs with | [] => (false, [], 30) | x :: xs => if 1 < x.toNat then (false, x :: xs, 33) else (decide (x.toNat = 1), xs, 0) else (false, bs, err)

set_option maxHeartbeats 400000 in
theorem flag1_any (gb g : Nat) (v : Value) (bs : List UInt8) (err k : Int) (w : World) (h : RdAt w g v bs err) (hc : w.cell? ⟨gb, 0, none⟩ = some (.pointer (some ⟨g, 0, none⟩))) (he : err = 0) :
    Calls Try.prog 56 #[.int .i64 k, .pointer (some ⟨gb, 0, none⟩)] w (FailPost w g v bs k) := by
  go_enter Try.func56, Try.ntmps56
  go_wp2_with fail
  refine (fail_any g v bs err k w h).mono ?_
  rintro e w2 ⟨rfl, h2, hu2⟩
  rw [if_pos he] at h2
  go_wp2_with fail
  go_ret
  exact ⟨rfl, h2, hu2⟩

set_option maxRecDepth 100000 in
set_option maxHeartbeats 2000000 in
theorem rflag_any (g : Nat) (v : Value) (bs : List UInt8) (err : Int) (w : World) (h : RdAt w g v bs err) (hb : bs.length ≤ 1000000000) :
    Calls Try.prog 34 #[.pointer (some ⟨g, 0, none⟩)] w (RdPost w g v (.bool (flagR bs err).1) (flagR bs err).2.1 (flagR bs err).2.2) := by
  obtain ⟨hg, c0, c1, hz⟩ := h.facts
  obtain ⟨A1, c1', hv1⟩ := h.2.1.form
  subst hv1
  have hg1 : g < w.heap.size + 1 := by omega
  by_cases he : err = 0
  · subst he
    cases bs with
    | nil =>
      go_enter Try.func34, Try.ntmps34
      go_wp2_with fail
      refine (flag1_any w.heap.size g _ [] 0 30 _ (h.new ((New.refl w).alloc _)) (by simp [go_sem]) rfl).mono ?_
      rintro e w2 ⟨rfl, h2, hu2⟩
      go_wp2_with fail
      go_ret
      exact ⟨_, rfl, h2, ((Upd.refl _ w).alloc _).trans hu2 (fun _ _ h => h), Fr.refl _ _⟩
    | cons x xs =>
      obtain ⟨A0, c0', hv, hlc, hh⟩ := h.2.1
      injection hv with hA hn hcc
      subst hA hcc
      rcases hh with hh | ⟨b, off, hA, hbl, hc⟩
      · cases hh
      subst hA
      have e0 : w.cell? ⟨b, off, none⟩ = some (.int .u8 (x.toNat : Int)) := by simpa [bEnc] using hc 0 x rfl 0 _ rfl
      have hb1 : b < w.heap.size + 1 := by omega
      have hsl := h.2.1
      have hbg : b ≠ g := fun e => h.2.2 (by rw [e]; rfl)
      by_cases hx : 1 < x.toNat
      · have hx' : (1 : Int) < (x.toNat : Int) := by omega
        have hR : flagR (x :: xs) 0 = (false, x :: xs, 33) := by simp [flagR, hx]
        have HR := Lib.hid hR
        clear hR hc
        go_enter Try.func34, Try.ntmps34
        go_wp2_with fail
        refine (flag1_any w.heap.size g _ (x :: xs) 0 33 _ (h.new ((New.refl w).alloc _)) (by simp [go_sem]) rfl).mono ?_
        rintro e w2 ⟨rfl, h2, hu2⟩
        go_wp2_with fail
        go_ret
        exact ⟨_, by rw [HR.out]; rfl, by rw [HR.out]; exact h2, ((Upd.refl _ w).alloc _).trans hu2 (fun _ _ h => h), Fr.refl _ _⟩
      · have hx' : ¬ (1 : Int) < (x.toNat : Int) := by omega
        have hR : flagR (x :: xs) 0 = (decide (x.toNat = 1), xs, 0) := by simp [flagR, hx]
        have HR := Lib.hid hR
        have HRD := Lib.hid h
        have HSL := Lib.hid hsl
        have hxb : ((x.toNat : Int) == 1) = decide (x.toNat = 1) := by rw [Bool.eq_iff_iff]; simp; omega
        have HXB := Lib.hid hxb
        clear hR hc hxb hsl
        go_enter Try.func34, Try.ntmps34
        go_wp2_with fail
        go_region
        all_goals go_wp2_with fail
        all_goals go_ret
        · have hc1 : c1' = 1 := by assumption
          have hd := HSL.out.drop (k := 1) (by simp)
          rw [if_pos hc1] at hd
          simp only [List.length_cons, Nat.add_sub_cancel, List.drop_succ_cons, List.drop_zero, hc1, Nat.sub_self] at hd
          have hbo : (Value.slice (some ⟨b, off, none⟩) xs.length 0).ownBlock ≠ some g := HRD.out.2.2
          refine ⟨.slice (some ⟨b, off, none⟩) xs.length 0, ?_, ?_, (((Upd.refl _ w).setIn _ _).alloc _).drew, fun k hk => .inl hk⟩
          · rw [HR.out]; exact ret_bool HXB.out
          · rw [HR.out]
            exact ⟨(HRD.out.1.set_ 0 _).alloc _, (hd.setFar hbo _).alloc _, hbo⟩
        · have hc1 : ¬ c1' = 1 := by assumption
          have hd := HSL.out.drop_at (k := 1) (by simp) hc1
          simp only [List.length_cons, Nat.add_sub_cancel, List.drop_succ_cons, List.drop_zero, Nat.mul_one] at hd
          have hbo : (Value.slice (some ⟨b, off + 1, none⟩) xs.length (c1' - 1)).ownBlock ≠ some g := HRD.out.2.2
          refine ⟨.slice (some ⟨b, off + 1, none⟩) xs.length (c1' - 1), ?_, ?_, (((Upd.refl _ w).setIn _ _).alloc _).drew, fun k hk => .inl hk⟩
          · rw [HR.out]; exact ret_bool HXB.out
          · rw [HR.out]
            exact ⟨(HRD.out.1.set_ 0 _).alloc _, (hd.setFar hbo _).alloc _, hbo⟩
  · have hne : ((err : Int) != 0) = true := by simpa using he
    have hR : flagR bs err = (false, bs, err) := by simp [flagR, he]
    have HR := Lib.hid hR
    clear hR
    go_enter Try.func34, Try.ntmps34
    go_wp2_with fail
    go_ret
    exact ⟨_, by rw [HR.out]; rfl, by rw [HR.out]; exact h.new ((New.refl w).alloc _), (Upd.refl _ w).alloc _, Fr.refl _ _⟩
end Go.Proofs.Ytghhcjpilcoblaa
