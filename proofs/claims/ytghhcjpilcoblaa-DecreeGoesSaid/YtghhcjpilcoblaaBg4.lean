/- Chapter 21 (bag): slices.DeleteFunc at packets; Lose. -/
import Derived.Test.YtghhcjpilcoblaaBg3
namespace Go.Proofs.Ytghhcjpilcoblaa
open Go.RowKit Go.Lap
set_option linter.unusedVariables false
section
variable {w w' : World} {S : Nat → Prop} {bb : Nat} {v : Value} {l : List Pk} {base : Nat}
theorem RowAt.set3 {g off cap : Nat} (h : RowAt w 125 3 pkE g off cap l) {k : Nat} (hk : k < l.length) (x : Pk) :
    RowAt (((w.setCell ⟨g, off + k * 3, none⟩ (.int .i64 x.fr)).setCell ⟨g, off + k * 3 + 1, none⟩ (.int .i64 x.to)).setCell ⟨g, off + k * 3 + 2, none⟩ (.string x.b)) 125 3 pkE g off cap (l.set k x) := by
  have hy : l[k]? = some l[k] := List.getElem?_eq_getElem hk
  have h1 := h.setF pkOk (j := 0) (x' := ⟨x.fr, l[k].to, l[k].b⟩) (u := .int .i64 x.fr) hy (by decide) rfl
  have h2 := h1.setF pkOk (i := k) (x := ⟨x.fr, l[k].to, l[k].b⟩) (j := 1) (x' := ⟨x.fr, x.to, l[k].b⟩) (u := .int .i64 x.to) (by simp [hk]) (by decide) rfl
  have h3 := h2.setF pkOk (i := k) (x := ⟨x.fr, x.to, l[k].b⟩) (j := 2) (x' := x) (u := .string x.b) (by simp [hk]) (by decide) rfl
  simp only [Nat.add_zero, List.set_set] at h3
  exact h3
/-- What lies in the row while packets are taken out: k have stayed of the first m. -/
structure DfRel (w wr : World) (g off cap : Nat) (fr to : Int) (l M : List Pk) (k m : Nat) : Prop where
  row : RowAt wr 125 3 pkE g off cap M
  upd : Upd (· = g) w wr
  len : M.length = l.length
  km : k < m
  ml : m ≤ l.length
  done : M.take k = (l.take m).filter (fun x => !lostB fr to x)
  rest : M.drop m = l.drop m
theorem DfRel.at_ {wr : World} {g off cap : Nat} {fr to : Int} {M : List Pk} {k m : Nat} (h : DfRel w wr g off cap fr to l M k m) : M[m]? = l[m]? := by
  have := congrArg (fun L : List Pk => L[0]?) h.rest
  simpa using this
theorem DfRel.skip {wr w2 : World} {g off cap : Nat} {fr to : Int} {M : List Pk} {k m : Nat} {x : Pk} (h : DfRel w wr g off cap fr to l M k m) (hx : l[m]? = some x) (hl : lostB fr to x = true) (hn : New wr w2) : DfRel w w2 g off cap fr to l M k (m + 1) := by
  obtain ⟨hm, rfl⟩ := List.getElem?_eq_some_iff.1 hx
  refine ⟨h.row.new hn, h.upd.transNew hn, h.len, by have := h.km; omega, hm, ?_, ?_⟩
  · rw [h.done, List.take_succ_eq_append_getElem hm, List.filter_append]
    simp [hl]
  · rw [← List.drop_drop, ← List.drop_drop, h.rest]
theorem DfRel.stay {wr w2 w3 : World} {g off cap : Nat} {fr to : Int} {M : List Pk} {k m : Nat} {x : Pk} (h : DfRel w wr g off cap fr to l M k m) (hx : l[m]? = some x) (hl : lostB fr to x = false) (hu : Upd (· = g) w w3) (hr : RowAt w3 125 3 pkE g off cap (M.set k x)) :
    DfRel w w3 g off cap fr to l (M.set k x) (k + 1) (m + 1) := by
  obtain ⟨hm, rfl⟩ := List.getElem?_eq_some_iff.1 hx
  have hkm := h.km
  have hlen := h.len
  refine ⟨hr, hu, by rw [List.length_set, hlen], by omega, hm, ?_, ?_⟩
  · rw [List.take_succ_eq_append_getElem (by rw [List.length_set]; omega), List.take_set_of_le (Nat.le_refl _), h.done, List.take_succ_eq_append_getElem hm, List.filter_append]
    simp [hl]
  · rw [List.drop_set_of_lt (by omega), ← List.drop_drop, ← List.drop_drop, h.rest]
theorem filter_first {p : Pk → Bool} {k : Nat} (h : ∀ x ∈ l.take k, p x = true) : l.take k = (l.take k).filter p := (List.filter_eq_self.2 h).symm
/-- What DeleteFunc leaves. -/
def DfPost (w : World) (v : Value) (l' : List Pk) (e : Ending) (w' : World) : Prop :=
  ∃ v', e = .returned v' ∧ Row w' 0 125 3 pkE v' l' ∧ Upd (fun k => v.ownBlock = some k) w w' ∧ (∀ k, v'.ownBlock = some k → v.ownBlock = some k)
theorem idx_cases (fr to : Int) (l : List Pk) : (idxL fr to l = -1 ∧ ∀ x ∈ l, lostB fr to x = false) ∨ ∃ (k : Nat) (x : Pk), idxL fr to l = (k : Int) ∧ l[k]? = some x ∧ lostB fr to x = true ∧ ∀ x ∈ l.take k, lostB fr to x = false := by
  by_cases h : l.findIdx (lostB fr to) < l.length
  · right
    obtain ⟨h1, h2⟩ := (List.findIdx_eq h).1 rfl
    refine ⟨_, _, by unfold idxL; rw [if_pos h], List.getElem?_eq_getElem h, h1, fun x hx => ?_⟩
    obtain ⟨j, hj, rfl⟩ := List.mem_take_iff_getElem.1 hx
    exact h2 j (by omega)
  · left
    have hn : ∀ x ∈ l, lostB fr to x = false := fun x hx => by
      have := List.findIdx_lt_length (p := lostB fr to) (xs := l)
      cases hb : lostB fr to x with
      | false => rfl
      | true => exact absurd (this.2 ⟨x, hx, hb⟩) h
    exact ⟨idx_none hn, hn⟩
set_option maxRecDepth 100000 in
set_option maxHeartbeats 4000000 in
theorem pdelf {p q : Nat} {fr to : Int} (h : BxAt w p q fr to) (hs : Row w 0 125 3 pkE v l) (hl : l.length ≤ 1000) :
    Calls Try.prog 69 #[v, .func (.func 71) #[] #[.pointer (some ⟨p, 0, none⟩), .pointer (some ⟨q, 0, none⟩)]] w (DfPost w v (l.filter fun x => !lostB fr to x)) := by
  have HI := Lib.hid (pindex h (hs.slIn pkOk) hl)
  rcases idx_cases fr to l with ⟨hi, hno⟩ | ⟨k, x, hi, hx, hb, hno⟩
  · rw [hi] at HI
    have HF := Lib.hid (show l.filter (fun x => !lostB fr to x) = l from List.filter_eq_self.2 fun x hx => by rw [hno x hx]; rfl)
    have HS := Lib.hid hs
    clear hi hno hs h
    go_enter Try.func69, Try.ntmps69
    go_wp2_with (go_at_call 82; refine HI.out.mono ?_; rintro e w1 ⟨rfl, hn1⟩)
    go_ret
    exact ⟨v, rfl, by rw [HF.out]; exact HS.out.new hn1, Upd.new hn1, fun _ h => h⟩
  · rw [hi] at HI
    have hkl : k < l.length := (List.getElem?_eq_some_iff.1 hx).1
    have hne : l ≠ [] := fun e => by rw [e] at hkl; simp at hkl
    obtain ⟨g, off, cap, rfl, _, hrow⟩ := hs.at_ hne
    have HROW := Lib.hid hrow
    have hpg : p ≠ g := fun e => by subst e; obtain ⟨cur, hc, _⟩ := hrow; exact Blk.ne_ h.p hc (by decide) rfl
    have hqg : q ≠ g := fun e => by subst e; obtain ⟨cur, hc, _⟩ := hrow; exact Blk.ne_ h.q hc (by decide) rfl
    have hlc := hrow.len.1
    have hcm := hrow.len.2
    have HX := Lib.hid h
    have HPG := Lib.hid (show p ≠ g ∧ q ≠ g from ⟨hpg, hqg⟩)
    have HST : Hid (∀ w1, New w w1 → DfRel w w1 g off cap fr to l l k (k + 1)) := Lib.hid fun w1 hn => ⟨hrow.new hn, Upd.new hn, rfl, by omega, hkl, by
      obtain ⟨hm, rfl⟩ := List.getElem?_eq_some_iff.1 hx
      rw [List.take_succ_eq_append_getElem hm, List.filter_append]
      have : l.take k = (l.take k).filter (fun x => !lostB fr to x) := filter_first fun y hy => by rw [hno y hy]; rfl
      rw [← this]
      simp [hb], rfl⟩
    have hkm : ((k : Int) == -1) = false := by rw [beq_eq_false_iff_ne]; omega
    have hk1 : IntKind.i64.wrap ((k : Int) + 1) = ((k + 1 : Nat) : Int) := by rw [IntWalk.i64_in _ (by omega)]; omega
    unfold maxLen at hcm
    clear hi hno hs h hrow hx hb hpg hqg hne
    go_enter Try.func69, Try.ntmps69
    go_wp2_with (go_at_call 82; refine HI.out.mono ?_; rintro e w1 ⟨rfl, hn1⟩)
    have HN1 := Lib.hid (HST.out _ hn1)
    clear hn1 HST
    go_loopw [5, 6, 7] (fun i j _ wr => ∃ (k m : Nat) (M : List Pk), i = .int .i64 (k : Int) ∧ j = .int .i64 (m : Int) ∧ DfRel w wr g off cap fr to l M k m) (fun _ j _ _ => l.length - (intOf j).toNat)
    case atStart => exact ⟨k, k + 1, l, rfl, rfl, HN1.out⟩
    case round =>
      obtain ⟨k2, m, M, rfl, rfl, hd⟩ := hrel
      have hkm2 := hd.km
      have hml := hd.ml
      have hlen := hd.len
      have HD := Lib.hid hd
      clear hd
      by_cases hlt : m < l.length
      · have hlt' : (m : Int) < (l.length : Int) := by omega
        have hm0 : (0 : Int) ≤ (m : Int) := by omega
        have hk0 : (0 : Int) ≤ (k2 : Int) := by omega
        have hkl2 : (k2 : Int) < (l.length : Int) := by omega
        obtain ⟨y, hy⟩ : ∃ y, l[m]? = some y := ⟨_, List.getElem?_eq_getElem hlt⟩
        have hMy : M[m]? = some y := HD.out.at_.trans hy
        have c0 := HD.out.row.cell pkOk hMy (j := 0) rfl
        have c1 := HD.out.row.cell pkOk hMy (j := 1) rfl
        have c2 := HD.out.row.cell pkOk hMy (j := 2) rfl
        rw [Nat.add_zero] at c0
        have gl := HD.out.row.lt
        have HY := Lib.hid hy
        clear hy hMy hlen
        go_wp2_with fail
        have hn := (New.refl wr).alloc (.cells #[.int .i64 y.fr, .int .i64 y.to, .string y.b] 125)
        refine (lose1 ((HX.out.upd HD.out.upd HPG.out.1 HPG.out.2).new hn) y).mono ?_
        rintro e w2 ⟨rfl, hn2⟩
        have HN2 := Lib.hid (hn.trans hn2)
        have hyb := (Blk.mk_new wr 125 #[.int .i64 y.fr, .int .i64 y.to, .string y.b]).new hn2
        have y0 := hyb.cell 0
        have y1 := hyb.cell 1
        have y2 := hyb.cell 2
        simp at y0 y1 y2
        have yl := hyb.lt
        have hr2 := HD.out.row.new HN2.out
        have rz := hr2.frozen
        have rl := hr2.lt
        have hkc : ∀ j, j < 3 → ∃ u, w2.cell? ⟨g, off + k2 * 3 + j, none⟩ = some u := fun j hj => by
          have hk2l : k2 < M.length := by rw [HD.out.len]; omega
          exact ⟨_, hr2.cell pkOk (List.getElem?_eq_getElem hk2l) (List.getElem?_eq_getElem (by rw [(pkOk _).1]; exact hj))⟩
        obtain ⟨u0, d0⟩ := hkc 0 (by decide)
        obtain ⟨u1, d1⟩ := hkc 1 (by decide)
        obtain ⟨u2, d2⟩ := hkc 2 (by decide)
        rw [Nat.add_zero] at d0
        have HR2 := Lib.hid hr2
        clear hn hn2 hyb hr2 hkc
        cases hb : lostB fr to y with
        | true =>
          have HE := Lib.hid (HD.out.skip HY.out hb HN2.out)
          clear hb
          go_wp2_with fail
          go_roundw
          case rel => exact ⟨k2, m + 1, M, rfl, by go_num, HE.out⟩
          case measure => simp [intOf]; omega
        | false =>
          have hk2l : k2 < M.length := by rw [HD.out.len]; omega
          have HE := Lib.hid (HD.out.stay (w2 := w2) HY.out hb (((HD.out.upd.transNew HN2.out).setCell (p := ⟨g, off + k2 * 3, none⟩) (fun _ => rfl) (.int .i64 y.fr)).setCell (p := ⟨g, off + k2 * 3 + 1, none⟩) (fun _ => rfl) (.int .i64 y.to) |>.setCell (p := ⟨g, off + k2 * 3 + 2, none⟩) (fun _ => rfl) (.string y.b)) (RowAt.set3 HR2.out hk2l y))
          clear hb hk2l
          go_wp2_with fail
          go_roundw
          case rel => exact ⟨k2 + 1, m + 1, _, by go_num, by go_num, HE.out⟩
          case measure => simp [intOf]; omega
      · have hlt' : ¬ (m : Int) < (l.length : Int) := by omega
        have hk0 : (0 : Int) ≤ (k2 : Int) := by omega
        have hk2c : k2 ≤ cap := by omega
        have hk2l : k2 ≤ l.length := by omega
        have hcn : ¬ cap = k2 := by omega
        have hml2 : m = l.length := by omega
        have hT := HD.out.row.take pkOk (k := k2) (by omega)
        have hTl : (M.take k2).length = k2 := by rw [List.length_take]; omega
        have HF := Lib.hid (show M.take k2 = l.filter (fun x => !lostB fr to x) by rw [HD.out.done, hml2, List.take_length])
        have HT := Lib.hid hT
        have HTL := Lib.hid hTl
        have HCL := Lib.hid (show k2 + (l.length - k2) ≤ cap by omega)
        have fz := HD.out.row.frozen
        clear hT hTl hml2 hlen
        go_wp2_with (refine wpList_clearR (g := g) (off := off) (k := k2) Try.underlying119 zPk rfl (by simp [Value.cells, Value.oneCell']) pkOk rfl (.tmp 38) rfl rfl HT.out (Nat.le_of_eq HTL.out) HCL.out ?_; intro w3 hr3 hu3 hz3)
        go_ret
        refine ⟨_, rfl, ?_, ((HD.out.upd).trans hu3 (fun _ _ h => h)).mono (fun i _ h => by rw [h]; rfl), fun i h => h⟩
        rw [← HF.out]
        have := hr3.row (Nat.zero_le g)
        rw [HTL.out] at this
        exact this
theorem Row.own_none {e : TypeId} (h : Row w base e 3 pkE v l) (hl : v.ownBlock = none) : l = [] := by
  rcases h with ⟨_, rfl⟩ | ⟨g, off, cap, cur, rfl, _⟩
  · rfl
  · cases hl
set_option maxRecDepth 100000 in
set_option maxHeartbeats 4000000 in
theorem blose (h : BgAt w bb v l) (fr to : Int) :
    Calls Try.prog 54 #[.pointer (some ⟨bb, 0, none⟩), .int .i64 fr, .int .i64 to] w (BgPost w bb v (.int .i64 ((l.length - (l.filter fun x => !lostB fr to x).length : Nat) : Int)) (l.filter fun x => !lostB fr to x)) := by
  obtain ⟨A, n0, c, rfl⟩ := h.row.shp
  have hl := h.len
  have hfl := List.length_filter_le (fun x => !lostB fr to x) l
  obtain ⟨L', hL'⟩ : ∃ L', l.filter (fun x => !lostB fr to x) = L' := ⟨_, rfl⟩
  rw [hL'] at hfl ⊢
  have hsub : IntKind.i64.wrap ((l.length : Int) - (L'.length : Int)) = ((l.length - L'.length : Nat) : Int) := by rw [IntWalk.i64_in _ (by omega)]; omega
  have HSUB := Lib.hid hsub
  have HL' := Lib.hid hL'
  obtain ⟨hb0, d0, d1, dz⟩ := h.facts
  obtain ⟨A9, c9, hv9⟩ := h.row.shape
  cases hv9
  have hN0 := ((New.refl w).alloc (.cells #[.int .i64 fr] 3)).alloc (.cells #[.int .i64 to] 3)
  have hP := (Blk.mk_new w 3 #[.int .i64 fr]).alloc (.cells #[.int .i64 to] 3)
  have hQ := Blk.mk_new (w.alloc (.cells #[.int .i64 fr] 3)) 3 #[.int .i64 to]
  rw [World.size_alloc] at hQ
  have HX : Hid (BxAt ((w.alloc (.cells #[.int .i64 fr] 3)).alloc (.cells #[.int .i64 to] 3)) w.heap.size (w.heap.size + 1) fr to) := Lib.hid ⟨hP, hQ⟩
  have HN0 := Lib.hid hN0
  have HH := Lib.hid h
  clear hP hQ hN0 h hL' hsub
  go_enter Try.func54, Try.ntmps54
  go_wp2_with fail
  refine (pclone (Row.slIn pkOk (HH.out.new HN0.out).row) (by omega)).mono ?_
  rintro e w1 ⟨v1, rfl, hr1, hn1⟩
  have hx1 := HX.out.new hn1
  have HN1 := Lib.hid (HN0.out.trans hn1)
  have hge : ∀ k, v1.ownBlock = some k → w.heap.size + 2 ≤ k := fun k hk => by have := (hr1.lt k hk).1; simp at this; omega
  have HG := Lib.hid hge
  have HR1 := Lib.hid hr1
  have HX1 := Lib.hid hx1
  clear hn1 hx1 hge hr1
  go_wp2_with fail
  refine (pdelf HX1.out (HR1.out.lower (Nat.zero_le _)) (by omega)).mono ?_
  rintro e w2 ⟨v2, rfl, hr2, hu2, ho2⟩
  rw [HL'.out] at hr2
  have hb2 := (HH.out.blk.new HN1.out).upd hu2 (fun hk => by have := HG.out _ hk; omega)
  have f0 := hb2.cell 1
  have fz := hb2.frozen
  have fs := hb2.lt
  simp at f0
  obtain ⟨A2, c2, rfl⟩ := hr2.shape
  have HO2 := Lib.hid ho2
  have HB2 := Lib.hid hb2
  have HR2 := Lib.hid hr2
  have HU2 := Lib.hid ((Upd.new (S := BgF bb (.slice A l.length c)) HN1.out).trans hu2 (fun i hi h => by have := HG.out i h; omega))
  clear ho2 hb2 hr2 hu2
  have hw := HSUB.out
  go_wp2_with fail
  go_ret
  have hs := (Upd.refl (· = bb) w2).setIn (g := bb) 1 (.slice A2 L'.length c2)
  exact ⟨_, rfl, ⟨HB2.out.set_ 1 _, HR2.out.upd hs (fun k hk e => by have := HG.out k (HO2.out k hk); omega), by omega⟩, HU2.out.setCell (fun _ => .inl rfl) _, fun k hk => .inr (by have := HG.out k (HO2.out k hk); omega)⟩
end
end Go.Proofs.Ytghhcjpilcoblaa
