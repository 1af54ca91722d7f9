/- Chapter 21 (bag): Copy; slices.IndexFunc and slices.DeleteFunc at packets; Lose. -/
import Derived.Test.YtghhcjpilcoblaaBg2
namespace Go.Proofs.Ytghhcjpilcoblaa
open Go.RowKit Go.Lap
set_option linter.unusedVariables false
section
variable {w w' : World} {S : Nat → Prop} {bb : Nat} {v : Value} {l : List Pk} {base : Nat}
set_option maxHeartbeats 1000000 in
theorem bcopy_no (h : BgAt w bb v l) (i : Int) (hi : ¬ (0 ≤ i ∧ i < l.length)) :
    Calls Try.prog 68 #[.pointer (some ⟨bb, 0, none⟩), .int .i64 i] w fun e w' => e = .returned (.int .i64 212) ∧ w' = w := by
  have HB := Lib.hid (bhas h i)
  rw [decide_eq_false hi] at HB
  clear h hi
  go_enter Try.func68, Try.ntmps68
  go_wp2_with (go_at_call 75; refine HB.out.mono ?_; rintro e w1 ⟨rfl, rfl⟩)
  go_ret
  exact ⟨rfl, rfl⟩
set_option maxHeartbeats 1000000 in
theorem bcopy_full (h : BgAt w bb v l) (i : Int) (hi : 0 ≤ i ∧ i < l.length) (hf : l.length = 256) :
    Calls Try.prog 68 #[.pointer (some ⟨bb, 0, none⟩), .int .i64 i] w fun e w' => e = .returned (.int .i64 211) ∧ New w w' := by
  have HB := Lib.hid (bhas h i)
  have HL := Lib.hid (bleft h)
  rw [decide_eq_true hi] at HB
  rw [hf] at HL
  clear h hi hf
  go_enter Try.func68, Try.ntmps68
  go_wp2_with (first | (go_at_call 75; refine HB.out.mono ?_; rintro e w1 ⟨rfl, rfl⟩) | (go_at_call 81; refine HL.out.mono ?_; rintro e w2 ⟨rfl, n2, rfl⟩))
  go_ret
  exact ⟨rfl, (New.refl _).drewN _⟩
set_option maxHeartbeats 1000000 in
theorem bcopy (h : BgAt w bb v l) {k : Nat} {x : Pk} (hx : l[k]? = some x) (hf : l.length < 256) :
    Calls Try.prog 68 #[.pointer (some ⟨bb, 0, none⟩), .int .i64 (k : Int)] w (BgPost w bb v (.int .i64 0) (l ++ [x])) := by
  have hk : k < l.length := (List.getElem?_eq_some_iff.1 hx).1
  have hne : l ≠ [] := fun e => by rw [e] at hk; simp at hk
  obtain ⟨g, off, cap, rfl, _, hrow⟩ := h.row.at_ hne
  have c0 := hrow.cell pkOk hx (j := 0) rfl
  have c1 := hrow.cell pkOk hx (j := 1) rfl
  have c2 := hrow.cell pkOk hx (j := 2) rfl
  rw [Nat.add_zero] at c0
  have hk1 : (k : Int) < (l.length : Int) := by omega
  have hk0 : (0 : Int) ≤ (k : Int) := by omega
  have HB := Lib.hid (bhas h (k : Int))
  rw [decide_eq_true ⟨hk0, hk1⟩] at HB
  obtain ⟨q, hq⟩ : ∃ q, 256 - l.length = q + 1 := ⟨255 - l.length, by omega⟩
  have HL := Lib.hid (bleft h)
  rw [hq] at HL
  have hq0 : (((q + 1 : Nat) : Int) == 0) = false := by rw [beq_eq_false_iff_ne]; omega
  have HQ := Lib.hid hq
  have HH := Lib.hid h
  obtain ⟨hb0, d0, d1, dz⟩ := h.facts
  clear h hq hrow hx
  go_enter Try.func68, Try.ntmps68
  go_wp2_with (first | (go_at_call 75; refine HB.out.mono ?_; rintro e w1 ⟨rfl, hw1⟩; subst w1) | (go_at_call 81; refine HL.out.mono ?_; rintro e w2 ⟨rfl, n2, rfl⟩))
  have hn2 := ((New.refl w).drewN n2).alloc (.cells #[.int .i64 x.fr, .int .i64 x.to, .string x.b] 125)
  refine (bput (HH.out.new hn2) (m := [x]) (SlIn.one (Blk.mk_new _ _ _) pkOk rfl) (by simp)).mono ?_
  rintro e w3 ⟨v', rfl, h1, h2, h3⟩
  go_wp2_with fail
  go_ret
  refine ⟨v', rfl, ?_, Upd.trans (S := BgF bb (.slice (some ⟨g, off, none⟩) l.length cap)) (Upd.new hn2) h2 (fun _ _ h => h), fun j hj => ?_⟩
  · rw [HQ.out, List.take_of_length_le (by simp)] at h1
    exact h1
  · rcases h3 j hj with h | h
    · exact .inl h
    · have := hn2.size
      exact .inr (by omega)

/-- Is a packet one that is to be lost? -/
def lostB (fr to : Int) (x : Pk) : Bool := (decide (fr < 0) || x.fr == fr) && (decide (to < 0) || x.to == to)
/-- The variables that the closure has taken. -/
structure BxAt (w : World) (p q : Nat) (fr to : Int) : Prop where
  p : Blk w p 3 #[.int .i64 fr]
  q : Blk w q 3 #[.int .i64 to]
theorem BxAt.new {p q : Nat} {fr to : Int} (h : BxAt w p q fr to) (hn : New w w') : BxAt w' p q fr to := ⟨h.p.new hn, h.q.new hn⟩
theorem BxAt.upd {p q : Nat} {fr to : Int} (h : BxAt w p q fr to) (hu : Upd S w w') (hp : ¬ S p) (hq : ¬ S q) : BxAt w' p q fr to := ⟨h.p.upd hu hp, h.q.upd hu hq⟩
set_option maxHeartbeats 2000000 in
theorem lose1 {p q : Nat} {fr to : Int} (h : BxAt w p q fr to) (x : Pk) :
    Calls Try.prog 71 #[.agg #[.int .i64 x.fr, .int .i64 x.to, .string x.b], .pointer (some ⟨p, 0, none⟩), .pointer (some ⟨q, 0, none⟩)] w fun e w' => e = .returned (.bool (lostB fr to x)) ∧ New w w' := by
  have p0 := h.p.cell 0
  have q0 := h.q.cell 0
  have pl := h.p.lt
  have ql := h.q.lt
  simp at p0 q0
  clear h
  unfold lostB
  by_cases h1 : fr < 0 <;> by_cases h2 : x.fr = fr <;> by_cases h3 : to < 0 <;> by_cases h4 : x.to = to
  all_goals
    have e2 : (x.fr == fr) = decide (x.fr = fr) := rfl
    have e4 : (x.to == to) = decide (x.to = to) := rfl
    first | rw [decide_eq_true h2] at e2 | rw [decide_eq_false h2] at e2
    first | rw [decide_eq_true h4] at e4 | rw [decide_eq_false h4] at e4
    have H2 := Lib.hid h2
    have H4 := Lib.hid h4
    clear h2 h4
    go_enter Try.func71, Try.ntmps71
    go_wp2
    go_ret
    refine ⟨ret_bool ?_, (New.refl _).alloc _⟩
    have K2 := H2.out
    have K4 := H4.out
    simp [e2, e4]
    try omega
def idxL (fr to : Int) (l : List Pk) : Int := if l.findIdx (lostB fr to) < l.length then (l.findIdx (lostB fr to) : Int) else -1
theorem idx_none {fr to : Int} {l : List Pk} (h : ∀ x ∈ l, lostB fr to x = false) : idxL fr to l = -1 := by
  unfold idxL
  rw [if_neg]
  intro hl
  have := List.findIdx_getElem (p := lostB fr to) (w := hl)
  rw [h _ (List.getElem_mem _)] at this
  cases this
theorem idx_some {fr to : Int} {l : List Pk} {k : Nat} {x : Pk} (h : ∀ x ∈ l.take k, lostB fr to x = false) (hx : l[k]? = some x) (hl : lostB fr to x = true) : idxL fr to l = (k : Int) := by
  obtain ⟨hk, rfl⟩ := List.getElem?_eq_some_iff.1 hx
  have : l.findIdx (lostB fr to) = k := (List.findIdx_eq hk).2 ⟨hl, fun j hj => h _ (by rw [List.mem_take_iff_getElem]; exact ⟨j, by omega, rfl⟩)⟩
  unfold idxL
  rw [this, if_pos hk]
theorem take_no1 {fr to : Int} {l : List Pk} {k : Nat} {x : Pk} (h : ∀ x ∈ l.take k, lostB fr to x = false) (hx : l[k]? = some x) (hl : lostB fr to x = false) : ∀ x ∈ l.take (k + 1), lostB fr to x = false := by
  obtain ⟨hk, rfl⟩ := List.getElem?_eq_some_iff.1 hx
  intro y hy
  rw [List.take_succ_eq_append_getElem hk, List.mem_append, List.mem_singleton] at hy
  rcases hy with hy | rfl
  · exact h y hy
  · exact hl
theorem pk_at {w : World} {b off : Nat} {l : List Pk} (hc : ∀ k x, l[k]? = some x → ∀ j u, (pkE x)[j]? = some u → w.cell? ⟨b, off + k * 3 + j, none⟩ = some u) {k : Nat} {x : Pk} (hx : l[k]? = some x) :
    w.cell? ⟨b, off + k * 3, none⟩ = some (.int .i64 x.fr) ∧ w.cell? ⟨b, off + k * 3 + 1, none⟩ = some (.int .i64 x.to) ∧ w.cell? ⟨b, off + k * 3 + 2, none⟩ = some (.string x.b) :=
  ⟨by simpa using hc k x hx 0 _ rfl, hc k x hx 1 _ rfl, hc k x hx 2 _ rfl⟩
def NoneLost (fr to : Int) (l : List Pk) (k : Nat) (w wr : World) : Prop := (∀ x ∈ l.take k, lostB fr to x = false) ∧ New w wr
set_option maxRecDepth 100000 in
set_option maxHeartbeats 4000000 in
theorem pindex {p q : Nat} {fr to : Int} (h : BxAt w p q fr to) (hs : SlIn w 3 pkE v l) (hl : l.length ≤ 1000) :
    Calls Try.prog 82 #[v, .func (.func 71) #[] #[.pointer (some ⟨p, 0, none⟩), .pointer (some ⟨q, 0, none⟩)]] w fun e w' => e = .returned (.int .i64 (idxL fr to l)) ∧ New w w' := by
  obtain ⟨A, c, rfl⟩ := hs.form
  have HS := Lib.hid hs
  have HX := Lib.hid h
  clear h hs
  go_enter Try.func82, Try.ntmps82
  go_wp2_with fail
  go_loopw [5, 8] (fun _ i wr => ∃ k : Nat, k ≤ l.length ∧ i = .int .i64 k ∧ NoneLost fr to l k w wr) (fun _ i _ => l.length - (intOf i).toNat)
  case atStart => exact ⟨0, Nat.zero_le _, rfl, by simp, New.refl _⟩
  case round =>
    obtain ⟨k, hk, rfl, hno, hn⟩ := hrel
    have HNO := Lib.hid hno
    have HN := Lib.hid hn
    clear hno
    by_cases hlt : k < l.length
    · have hlt' : (k : Int) < (l.length : Int) := by omega
      have hk0 : (0 : Int) ≤ (k : Int) := by omega
      obtain ⟨x, hx⟩ : ∃ x, l[k]? = some x := ⟨_, List.getElem?_eq_getElem hlt⟩
      obtain ⟨A', c', hv, hlc, hor⟩ := HS.out.new HN.out
      cases hv
      rcases hor with hor | ⟨b, off, rfl, hb, hc⟩
      · rw [hor] at hlt; simp at hlt
      obtain ⟨c0, c1, c2⟩ := pk_at hc hx
      have HX1 := Lib.hid hx
      clear hx hc hn
      go_wp2_with fail
      refine (lose1 (HX.out.new HN.out) x).mono ?_
      rintro e w1 ⟨rfl, hn1⟩
      have HN2 := Lib.hid (HN.out.trans hn1)
      clear hn1
      cases hb : lostB fr to x with
      | true =>
        have HR := Lib.hid (idx_some HNO.out HX1.out hb)
        clear hb
        go_wp2_with fail
        go_ret
        exact ⟨by rw [HR.out]; rfl, HN2.out⟩
      | false =>
        have HR := Lib.hid (take_no1 HNO.out HX1.out hb)
        clear hb
        go_wp2_with fail
        go_roundw
        case rel => exact ⟨k + 1, by omega, by go_num, HR.out, HN2.out⟩
        case measure => simp [intOf]; omega
    · have hlt' : ¬ (k : Int) < (l.length : Int) := by omega
      have HR := Lib.hid (idx_none (fr := fr) (to := to) (l := l) (fun x hx => HNO.out x (by rw [List.take_of_length_le (by omega)]; exact hx)))
      clear hn
      go_wp2_with fail
      go_ret
      exact ⟨by rw [HR.out]; rfl, HN.out⟩
end
end Go.Proofs.Ytghhcjpilcoblaa
