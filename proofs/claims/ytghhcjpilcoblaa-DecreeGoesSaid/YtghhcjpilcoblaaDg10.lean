/- Chapter 22 (decree): a reply; a packet that is not there. -/
import Derived.Test.YtghhcjpilcoblaaDg9
import Derived.Test.YtghhcjpilcoblaaDcM2
namespace Go.Proofs.Ytghhcjpilcoblaa
open Go.RowKit Go.Lap
set_option linter.unusedVariables false
section
variable {w w' w'' wa w2 : World} {S : Nat → Prop} {gp n B k : Nat} {L : GpL} {g : Gm}
/-- The variables that the closure has taken. -/
structure RpAt (w : World) (c d gp fr ds : Nat) (s : ByteArray) : Prop where
  c : Blk w c 53 #[.pointer (some ⟨gp, 0, none⟩)]
  d : Blk w d 125 #[.int .i64 (fr : Int), .int .i64 (ds : Int), .string s]
set_option maxRecDepth 100000 in
set_option maxHeartbeats 4000000 in
theorem greply (h : GpAt w gp n B L g) {c d fr ds : Nat} {s : ByteArray} (hr : RpAt w c d gp fr ds s) (m : Msg) (hm : m.good) :
    Calls Try.prog 63 #[m.val, .pointer (some ⟨c, 0, none⟩), .pointer (some ⟨d, 0, none⟩)] w (fun e w' => e = .returned (.tuple #[]) ∧ SdPost w gp n B L g (sendB g.bg ⟨ds, fr, m⟩) w') := by
  obtain ⟨mk, ms, mr, mn, mv, mh, mhr, mhn, mhv⟩ := m
  have hN := (New.refl w).alloc (.cells #[.int .i64 (mk : Int), .int .u64 (ms : Int), .int .u64 (mr : Int), .int .u64 (mn : Int), .string mv, .bool mh, .int .u64 (mhr : Int), .int .u64 (mhn : Int), .string mhv] 107)
  have hM := Blk.mk_new w 107 #[.int .i64 (mk : Int), .int .u64 (ms : Int), .int .u64 (mr : Int), .int .u64 (mn : Int), .string mv, .bool mh, .int .u64 (mhr : Int), .int .u64 (mhn : Int), .string mhv]
  have HS := Lib.hid (gsend (h.new hN) ds fr ⟨mk, ms, mr, mn, mv, mh, mhr, mhn, mhv⟩ hm)
  have HN := Lib.hid hN
  obtain ⟨p0, a0, a1, a2, a3, a4, a5, a6, a7, a8, az⟩ := Blk9F hM
  have c0 := (hr.c.new hN).cell 0
  have cl := (hr.c.new hN).lt
  have d0 := (hr.d.new hN).cell 0
  have d1 := (hr.d.new hN).cell 1
  have dl := (hr.d.new hN).lt
  simp at c0 d0 d1
  have q0 := hr.c.cell 0
  have q1 := hr.d.cell 0
  have q2 := hr.d.cell 1
  have ql := hr.c.lt
  have qm := hr.d.lt
  simp at q0 q1 q2
  clear h hN hM hm hr
  go_enter Try.func63, Try.ntmps63
  go_wp2_with fail
  refine HS.out.mono ?_
  rintro e w2 ⟨rfl, v2, h1, h2, h3⟩
  have H1 := Lib.hid h1
  have H2 := Lib.hid h2
  have H3 := Lib.hid h3
  clear h1 h2 h3 p0 a0 a1 a2 a3 a4 a5 a6 a7 a8 az c0 cl d0 d1 dl q0 q1 q2 ql qm
  go_wp2_with fail
  go_end0
  exact ⟨rfl, v2, H1.out, Upd.trans (S := BgF L.bb L.lv) (Upd.new HN.out) H2.out (fun _ _ h => h), fun k hk => (H3.out k hk).elim .inl (fun h => .inr (Nat.le_trans HN.out.size h))⟩
theorem mine_is {x : Nod} {p : Prs} (hp : x.nw = some p) (m : Msg) : x.mine m = mineP p m := by unfold Nod.mine; rw [hp]
theorem gpromised (h : GpAt w gp n B L g) {i : Nat} (hi : i < n) (hok : NodOk B (g.nd i)) (hn7 : n ≤ 7) (hB : B ≤ 100000000) (fr : Nat) (hfr : fr ≤ 7) (m : Msg) (hm : MsgOk B m) :
    Calls Try.prog 65 #[.pointer (some ⟨gp, 0, none⟩), .pointer (some ⟨L.nb i, 0, none⟩), .int .i64 (fr : Int), m.val] w (PmPost w gp n B L g i ((g.nd i).promised n fr m) (allOf n)) := by
  cases hmn : (g.nd i).mine m with
  | false => rw [promised_no hmn]; exact gpm_no h hi fr m hmn
  | true =>
    obtain ⟨p, hp⟩ : ∃ p, (g.nd i).nw = some p := by
      cases hp : (g.nd i).nw with
      | none => unfold Nod.mine at hmn; rw [hp] at hmn; cases hmn
      | some p => exact ⟨p, rfl⟩
    obtain ⟨hpk, hne⟩ := hok.nw p hp
    have hmp : mineP p m = true := by rw [← mine_is hp]; exact hmn
    cases hc : p.ch with
    | true => rw [promised_old hp (.inl hc)]; exact gpm_chosen h hi fr m hp hmn hc
    | false =>
      by_cases hf : (fr : Int) ∈ p.fr
      · rw [promised_old hp (.inr hf)]; exact gpm_twice h hi fr m hp hmn hc hf (by omega)
      · by_cases hq : quor n ≤ p.fr.length + 1
        · rw [promised_many hp hmp hc hf hq]
          have hv : (Pro.best ((g.nd i).pe.headD E0) (p.pm ++ [m.pro])).v.size ≤ 64 := best_small (head_small hok) (fun q hqm => by
            rcases List.mem_append.1 hqm with hqm | hqm
            · exact hpk.pm q hqm
            · simp at hqm; rw [hqm]; exact hm.hv)
          exact gpm_many h hi fr m hp hmn hc hf (by omega) hn7 hpk hB hq hne rfl (by omega)
        · rw [promised_few hp hmp hc hf hq]; exact gpm_few h hi fr m hp hmn hc hf (by omega) hn7 hpk hB hq
theorem PmPost.mono {C i : Nat} {r : Nod × Option Msg} {l : List Nat} {e : Ending} (h : PmPost w gp n B L g i r l e w') (hB : B ≤ C) : PmPost w gp n C L g i r l e w' := ⟨h.1, h.2.mono hB⟩
theorem gtaken (h : GpAt w gp n B L g) {i : Nat} (hi : i < n) (hok : NodOk B (g.nd i)) (hn7 : n ≤ 7) (hB : B ≤ 100000000) (fr : Nat) (hfr : fr ≤ 7) (m : Msg) :
    Calls Try.prog 66 #[.pointer (some ⟨gp, 0, none⟩), .pointer (some ⟨L.nb i, 0, none⟩), .int .i64 (fr : Int), m.val] w (PmPost w gp n (B + 1) L g i ((g.nd i).taken n fr m) (othersOf n i)) := by
  cases hmn : (g.nd i).mine m with
  | false => rw [taken_no hmn]; exact (gtk_no h hi fr m hmn).mono fun _ _ h => h.mono (Nat.le_succ B)
  | true =>
    obtain ⟨p, hp⟩ : ∃ p, (g.nd i).nw = some p := by
      cases hp : (g.nd i).nw with
      | none => unfold Nod.mine at hmn; rw [hp] at hmn; cases hmn
      | some p => exact ⟨p, rfl⟩
    obtain ⟨hpk, hne⟩ := hok.nw p hp
    have hmp : mineP p m = true := by rw [← mine_is hp]; exact hmn
    cases hc : p.ch with
    | false => rw [taken_not hp hc]; exact (gtk_not h hi fr m hp hmn hc).mono fun _ _ h => h.mono (Nat.le_succ B)
    | true =>
      by_cases hq : quor n ≤ (addL p.by_ (fr : Int)).length
      · rw [taken_many hp hmp hc hq]; exact gtk_many h hi fr m hp hmn hc (by omega) hn7 hpk hB hq (by have := hok.pl; omega)
      · rw [taken_few hp hmp hc hq]; exact (gtk_few h hi fr m hp hmn hc (by omega) hn7 hpk hB hq).mono fun _ _ h => h.mono (Nat.le_succ B)
theorem sdGro {v' : Value} {b' : List Pkt} (h1 : GpAt w' gp n B { L with lv := v' } { g with bg := b' }) (h2 : Upd (BgF L.bb L.lv) w w') (h3 : ∀ k, v'.ownBlock = some k → L.lv.ownBlock = some k ∨ w.heap.size ≤ k) : Gro (GpF gp n L) (GpF gp n { L with lv := v' }) w w' ∧ Upd (GpF gp n L) w w' := by
  refine ⟨fun k hk => ?_, h2.mono fun k _ hk => .inl (.inr (.inr hk))⟩
  rcases hk with hk | ⟨j, hj, hk⟩
  · rcases hk with e | e | e | e
    · exact .inl (.inl (.inl e))
    · exact .inl (.inl (.inr (.inl e)))
    · exact .inl (.inl (.inr (.inr (.inl e))))
    · rcases h3 k e with e2 | e2
      · exact .inl (.inl (.inr (.inr (.inr e2))))
      · exact .inr ⟨e2, h1.o_lt k (.inr (.inr (.inr e)))⟩
  · exact .inl (.inr ⟨j, hj, hk⟩)
theorem gdl_no (h : GpAt w gp n B L g) (i : Int) (hi : ¬ (0 ≤ i ∧ i < g.bg.length)) : Calls Try.prog 51 #[.pointer (some ⟨gp, 0, none⟩), .int .i64 i] w fun e w' => e = .returned (.int .i64 223) ∧ New w w' := by
  have hN := (New.refl w).alloc (.cells #[.pointer (some ⟨gp, 0, none⟩)] 53)
  have h1 := h.new hN
  obtain ⟨g0, c0, c1, cz⟩ := h1.facts
  have HT := Lib.hid (btake_no h1.bag i (by rw [List.length_map]; exact hi))
  have HN := Lib.hid hN
  clear h h1 hN hi
  go_enter Try.func51, Try.ntmps51
  go_wp2_with fail
  refine HT.out.mono ?_
  rintro e w2 ⟨rfl, hn2⟩
  have HN2 := Lib.hid (HN.out.trans hn2)
  clear hn2
  go_wp2_with fail
  go_ret
  exact ⟨rfl, HN2.out.alloc _⟩
end
end Go.Proofs.Ytghhcjpilcoblaa
