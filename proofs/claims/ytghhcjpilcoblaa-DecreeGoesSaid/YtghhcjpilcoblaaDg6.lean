/- Chapter 22 (decree): New. -/
import Derived.Test.YtghhcjpilcoblaaDg5
namespace Go.Proofs.Ytghhcjpilcoblaa
open Go.RowKit Go.Lap
set_option linter.unusedVariables false
section
variable {w w' w'' wa w2 : World} {S : Nat → Prop} {gp n B k : Nat} {L : GpL} {g : Gm}
/-- One more node. -/
theorem GpAt.add (h : GpAt w gp k B L g) (hn : New w wa) {F : Nat → Prop} {nb : Nat} {nl : NdL} {x : Nod} (hx : NdAt wa F nb (k : Int) B nl x) (hF : ∀ j, F j → w.heap.size ≤ j ∧ j < wa.heap.size) {v2 : Value}
    (hr : Row w2 0 95 1 ptrE v2 ((List.range k).map L.nb ++ [nb])) (hg : wa.grownBy w2 L.nv.ownBlock) (hb : v2.ownBlock = L.nv.ownBlock ∨ v2.ownBlock = some wa.heap.size) :
    GpAt (w2.setCell ⟨gp, 0, none⟩ v2) gp (k + 1) B { L with nv := v2, nb := set L.nb k nb, Fn := set L.Fn k F, nl := set L.nl k nl } { g with nd := set g.nd k x } := by
  have h1 := h.new hn
  have hu : Upd (fun j => L.nv.ownBlock = some j) wa w2 := (Upd.refl _ _).grown hg (fun j _ e => e)
  have hU : Upd (fun j => L.nv.ownBlock = some j ∨ j = gp) wa (w2.setCell ⟨gp, 0, none⟩ v2) := (hu.mono fun _ _ h => .inl h).setCell (fun _ => .inr rfl) _
  have hbl := h1.blk.upd hu (h1.nds.ne_blk h1.blk (by decide))
  have hgp : gp < w.heap.size := h.blk.lt
  have hown : ∀ j, L.nv.ownBlock = some j → j < w.heap.size := fun j hj => (h.nds.lt j hj).2
  have hs1 := hn.size
  have hs2 := hu.size
  have hv2 : ∀ j, v2.ownBlock = some j → L.nv.ownBlock = some j ∨ j = wa.heap.size := fun j hj => by
    rcases hb with e | e
    · exact .inl (e ▸ hj)
    · rw [e] at hj; injection hj with hj; exact .inr hj.symm
  refine ⟨hbl.set_ 0 v2, ?_, ?_, fun i hi => ?_, fun i hi j hj => ?_, fun i r hi hr2 hir j hj hj2 => ?_, fun i hi j hj ho => ?_⟩
  · have he : (List.range (k + 1)).map (set L.nb k nb) = (List.range k).map L.nb ++ [nb] := by
      rw [List.range_succ, List.map_append]
      congr 1
      · refine List.map_congr_left fun j hj => set_ne _ _ ?_
        have := List.mem_range.1 hj
        omega
      · show [set L.nb k nb k] = [nb]
        rw [set_same]
    show Row _ 0 _ 1 ptrE v2 ((List.range (k + 1)).map (set L.nb k nb))
    rw [he]
    exact hr.upd ((Upd.refl (· = gp) w2).setIn 0 v2) (fun j hj e => hr.ne_blk hbl (by decide) (e ▸ hj))
  · refine h1.bag.upd hU ?_
    rintro j (e | e) (e2 | e2)
    · exact h1.nds.ne_blk h1.bag.blk (by decide) (e ▸ e2)
    · exact Blk.ne_ h1.bag.blk h1.blk (by decide) (e.symm.trans e2)
    · exact Row.ne_row h1.nds h1.bag.row (by decide) e2 e
    · exact h1.bag.row.ne_blk h1.blk (by decide) (e2 ▸ e)
  · by_cases hik : i = k
    · subst hik
      dsimp only
      rw [set_same, set_same, set_same, set_same]
      refine hx.upd hU ?_
      rintro j hj (e | e)
      · have := hown j e; have := (hF j hj).1; omega
      · have := (hF j hj).1; omega
    · dsimp only
      rw [set_ne _ _ hik, set_ne _ _ hik, set_ne _ _ hik, set_ne _ _ hik]
      refine (h1.nd i (by omega)).upd hU ?_
      rintro j hj (e | e)
      · exact h.out i (by omega) j hj (.inr (.inl e))
      · exact h.out i (by omega) j hj (.inl e)
  · have hsz : (w2.setCell ⟨gp, 0, none⟩ v2).heap.size = w2.heap.size := by simp [World.setCell]
    rw [hsz]
    by_cases hik : i = k
    · subst hik
      dsimp only at hj
      rw [set_same] at hj
      have := (hF j hj).2
      omega
    · dsimp only at hj
      rw [set_ne _ _ hik] at hj
      have := h.lt i (by omega) j hj
      omega
  · dsimp only at hj hj2
    by_cases hik : i = k <;> by_cases hrk : r = k
    · exact hir (hik.trans hrk.symm)
    · rw [hik, set_same] at hj
      rw [set_ne _ _ hrk] at hj2
      have := h.lt r (by omega) j hj2
      have := (hF j hj).1
      omega
    · rw [hrk, set_same] at hj2
      rw [set_ne _ _ hik] at hj
      have := h.lt i (by omega) j hj
      have := (hF j hj2).1
      omega
    · rw [set_ne _ _ hik] at hj
      rw [set_ne _ _ hrk] at hj2
      exact h.dj i r (by omega) (by omega) hir j hj hj2
  · have ho' : j < w.heap.size ∧ GpO gp L j ∨ j = wa.heap.size := by
      rcases ho with e | e | e
      · exact .inl ⟨e ▸ hgp, .inl e⟩
      · rcases hv2 j e with e | e
        · exact .inl ⟨hown j e, .inr (.inl e)⟩
        · exact .inr e
      · exact .inl ⟨h.bag.lt j e, .inr (.inr e)⟩
    dsimp only at hj
    by_cases hik : i = k
    · rw [hik, set_same] at hj
      have := hF j hj
      rcases ho' with ⟨e, _⟩ | e <;> omega
    · rw [set_ne _ _ hik] at hj
      have := h.lt i (by omega) j hj
      rcases ho' with ⟨_, e⟩ | e
      · exact h.out i (by omega) j hj e
      · omega
theorem NdAt.made (w : World) (k : Int) : ∃ L, NdAt (((w.alloc (.map #[] 0)).alloc (.map #[] 0)).alloc (.cells #[.int .i64 k, .map (some w.heap.size), .map (some (w.heap.size + 1)), .int .u64 0, .slice none 0 0, .pointer none] 100))
    (fun j => j = w.heap.size ∨ j = w.heap.size + 1 ∨ j = w.heap.size + 1 + 1) (w.heap.size + 1 + 1) k 1 L Nod.zero := by
  have h1 := MpAt.made Try.prog 29 litU okU w
  have h2 := MpAt.made Try.prog 29 litU okU (w.alloc (.map #[] 0))
  rw [World.size_alloc] at h2
  have hb := Blk.mk_new ((w.alloc (.map #[] 0)).alloc (.map #[] 0)) 100 #[.int .i64 k, .map (some w.heap.size), .map (some (w.heap.size + 1)), .int .u64 0, .slice none 0 0, .pointer none]
  rw [World.size_alloc, World.size_alloc] at hb
  have hn1 := ((New.refl (w.alloc (.map #[] 0))).alloc (.map #[] 0)).alloc (.cells #[.int .i64 k, .map (some w.heap.size), .map (some (w.heap.size + 1)), .int .u64 0, .slice none 0 0, .pointer none] 100)
  have hn2 := (New.refl ((w.alloc (.map #[] 0)).alloc (.map #[] 0))).alloc (.cells #[.int .i64 k, .map (some w.heap.size), .map (some (w.heap.size + 1)), .int .u64 0, .slice none 0 0, .pointer none] 100)
  refine ⟨⟨w.heap.size, w.heap.size + 1, fun _ => 0, .slice none 0 0, .pointer none⟩, hb, ⟨⟨0, by omega, (h1.new hn1).congr fun _ _ => rfl⟩, fun s a ha => (nomatch ha), fun s t hs => absurd rfl hs⟩, ⟨0, by omega, (h2.new hn2).congr fun _ _ => rfl⟩, Row.nil _ _ _ _ _, rfl, ?_, ⟨.inr (.inr rfl), .inl rfl, .inr (.inl rfl)⟩, fun j hj => by cases hj⟩
  show w.heap.size ≠ w.heap.size + 1
  omega
def Gm.zero : Gm := ⟨fun _ => Nod.zero, []⟩
/-- What New answers. -/
def NewPost (w : World) (n : Nat) (e : Ending) (w' : World) : Prop := ∃ gp L, e = .returned (.tuple #[.pointer (some ⟨gp, 0, none⟩), .int .i64 0]) ∧ GpAt w' gp n 1 L Gm.zero ∧ (∀ j, GpF gp n L j → w.heap.size ≤ j) ∧ New w w'
def NewRel (w : World) (gp k : Nat) (wr : World) : Prop := ∃ L, GpAt wr gp k 1 L Gm.zero ∧ (∀ j, GpF gp k L j → w.heap.size ≤ j) ∧ New w wr
theorem set_zero (k : Nat) : set Gm.zero.nd k Nod.zero = Gm.zero.nd := set_self Gm.zero.nd k
theorem gnew_no (n : Int) (hn : ¬ (1 ≤ n ∧ n ≤ 7)) (w : World) : Calls Try.prog 18 #[.int .i64 n] w fun e w' => e = .returned (.tuple #[.pointer none, .int .i64 220]) ∧ w' = w := by
  by_cases h1 : n < 1
  · clear hn
    go_enter Try.func18, Try.ntmps18
    go_wp2_with fail
    go_ret2
    exact ⟨rfl, rfl⟩
  · have h7 : 7 < n := by omega
    clear hn
    go_enter Try.func18, Try.ntmps18
    go_wp2_with fail
    go_ret2
    exact ⟨rfl, rfl⟩
set_option maxRecDepth 100000 in
set_option maxHeartbeats 8000000 in
theorem gnew (n : Nat) (h1 : 1 ≤ n) (h7 : n ≤ 7) (w : World) : Calls Try.prog 18 #[.int .i64 (n : Int)] w (NewPost w n) := by
  have q1 : ¬ (n : Int) < 1 := by omega
  have q7 : ¬ (7 : Int) < (n : Int) := by omega
  have hmk := @run_makeMap Try.prog
  go_enter Try.func18, Try.ntmps18
  go_wp2_with (go_at_call 45; refine (bnew _).mono ?_; rintro e w1 ⟨rfl, hb1, hn1⟩)
  have hblk := Blk.mk_new w1 94 #[.slice none 0 0, .pointer (some ⟨w.heap.size, 0, none⟩)]
  have hNN := hn1.alloc (.cells #[.slice none 0 0, .pointer (some ⟨w.heap.size, 0, none⟩)] 94)
  have hst : NewRel w w1.heap.size 0 (w1.alloc (.cells #[.slice none 0 0, .pointer (some ⟨w.heap.size, 0, none⟩)] 94)) := by
    refine ⟨⟨.slice none 0 0, w.heap.size, .slice none 0 0, fun _ => 0, fun _ _ => False, fun _ => ⟨0, 0, fun _ => 0, .slice none 0 0, .pointer none⟩⟩, ⟨hblk, Row.nil _ _ _ _ _, hb1.new ((New.refl w1).alloc _), fun i hi => by omega, fun i hi => by omega, fun i j hi => by omega, fun i hi => by omega⟩, ?_, hNN⟩
    rintro j (e | ⟨i, hi, _⟩)
    · rcases e with e | e | e | e
      · rw [e]; exact hn1.size
      · cases e
      · rw [e]; exact Nat.le_refl _
      · cases e
    · omega
  have HST := Lib.hid hst
  clear hst hblk hNN
  generalize w1.alloc (.cells #[.slice none 0 0, .pointer (some ⟨w.heap.size, 0, none⟩)] 94) = w3 at *
  generalize w1.heap.size = gp at *
  clear hb1 hn1
  go_loopw [7, 22] (fun _ i wr => ∃ k : Nat, k ≤ n ∧ i = .int .i64 (k : Int) ∧ NewRel w gp k wr) (fun _ i _ => n - (intOf i).toNat)
  case atStart => exact ⟨0, Nat.zero_le _, rfl, HST.out⟩
  case round =>
    obtain ⟨k, hk, rfl, L, hg, hF, hn⟩ := hrel
    have HG := Lib.hid hg
    have HF := Lib.hid hF
    have HN := Lib.hid hn
    clear hg hF hn
    by_cases hlt : k < n
    · have hlt' : (k : Int) < (n : Int) := by omega
      obtain ⟨g0, c0, c1, cz⟩ := HG.out.facts
      obtain ⟨A, c, hnv⟩ := HG.out.nvs
      rw [hnv] at c0
      have HNV := Lib.hid hnv
      obtain ⟨nl, hx⟩ := NdAt.made wr (k : Int)
      have hb4 := (New.refl (((wr.alloc (.map #[] 0)).alloc (.map #[] 0)).alloc (.cells #[.int .i64 (k : Int), .map (some wr.heap.size), .map (some (wr.heap.size + 1)), .int .u64 0, .slice none 0 0, .pointer none] 100))).alloc (.cells #[.pointer (some ⟨wr.heap.size + 1 + 1, 0, none⟩)] 95)
      have HX := Lib.hid (hx.new hb4)
      have hNA := (((New.refl wr).alloc (.map #[] 0)).alloc (.map #[] 0)).alloc (.cells #[.int .i64 (k : Int), .map (some wr.heap.size), .map (some (wr.heap.size + 1)), .int .u64 0, .slice none 0 0, .pointer none] 100) |>.alloc (.cells #[.pointer (some ⟨wr.heap.size + 1 + 1, 0, none⟩)] 95)
      have HNA := Lib.hid hNA
      have hsl := SlIn.one (x := wr.heap.size + 1 + 1) (Blk.mk_new (((wr.alloc (.map #[] 0)).alloc (.map #[] 0)).alloc (.cells #[.int .i64 (k : Int), .map (some wr.heap.size), .map (some (wr.heap.size + 1)), .int .u64 0, .slice none 0 0, .pointer none] 100)) 95 #[.pointer (some ⟨wr.heap.size + 1 + 1, 0, none⟩)]) ptrOk rfl
      simp only [World.size_alloc] at hsl
      have HSL := Lib.hid hsl
      have hlen : ((List.range k).map L.nb).length = k := by simp
      have HM1 := Lib.hid (show ((List.range k).map L.nb).length + [wr.heap.size + 1 + 1].length ≤ maxLen by rw [hlen]; unfold maxLen; simp; omega)
      have HM2 := Lib.hid (show (((List.range k).map L.nb).length + [wr.heap.size + 1 + 1].length) * 8 ≤ 140737488355328 by rw [hlen]; simp; omega)
      have hrow := HG.out.nds
      rw [hnv] at hrow
      have HROW := Lib.hid hrow
      clear hx hb4 hNA hlen hrow hnv hsl
      go_wp2_with (at_builtin; refine wpList_appR (l := (List.range k).map L.nb) (m := [wr.heap.size + 1 + 1]) ptrTy ptrOk rfl (.tmp 29) (.tmp 35) rfl rfl rfl (HROW.out.new HNA.out) HSL.out HM1.out HM2.out (Nat.zero_le _) ?_; intro v2 w2 hr2 hg2 hb2; have hbk := (HG.out.blk.new HNA.out).grown hg2 (fun e => (HROW.out.ne_blk HG.out.blk (by decide)) e.symm); have d0 := Blk.cell hbk 0; have dz := Blk.frozen hbk; have dl := Blk.lt hbk; simp at d0; obtain ⟨A2, n2, c2, rfl⟩ := hr2.shp)
      have HG2 := Lib.hid (HG.out.add HNA.out (F := fun j => j = wr.heap.size ∨ j = wr.heap.size + 1 ∨ j = wr.heap.size + 1 + 1) HX.out (fun j hj => by simp; omega) hr2 (by rw [HNV.out]; exact hg2) (by rw [HNV.out]; exact hb2))
      have HHR := Lib.hid hr2
      have HU2 := Lib.hid ((Upd.refl (fun j => L.nv.ownBlock = some j) _).grown hg2 (fun j _ e => by rw [HNV.out]; exact e))
      have HB2 := Lib.hid hb2
      clear hr2 hg2 hb2 hbk
      go_roundw
      case rel =>
        refine ⟨k + 1, by omega, by go_num, _, by have := HG2.out; rw [show Gm.mk (set Gm.zero.nd k Nod.zero) Gm.zero.bg = Gm.zero from by rw [set_zero]] at this; exact this, ?_, ?_⟩
        · have hge := HN.out.size
          have hF0 := HF.out
          have hlim : ∀ j, Value.ownBlock (.slice A2 n2 c2) = some j → w.heap.size ≤ j := fun j hj => by
            rcases HB2.out with e | e
            · exact hF0 j (.inl (.inr (.inl (by rw [HNV.out]; rw [e] at hj; exact hj))))
            · rw [e] at hj; injection hj with hj; simp at hj; omega
          rintro j (e | ⟨i, hi, e⟩)
          · rcases e with e | e | e
            · exact hF0 j (.inl (.inl e))
            · exact hlim j e
            · exact hF0 j (.inl (.inr (.inr e)))
          · dsimp only at e
            by_cases hik : i = k
            · rw [hik, set_same] at e
              rcases e with e | e | e <;> omega
            · rw [set_ne _ _ hik] at e
              exact hF0 j (.inr ⟨i, by omega, e⟩)
        · refine New.setCell ((HN.out.trans HNA.out).upd HU2.out (fun j hj => HF.out j (.inl (.inr (.inl hj))))) (HF.out gp (.inl (.inl rfl))) _
      case measure => simp [intOf]; omega
    · have hge : ¬ (k : Int) < (n : Int) := by omega
      have hkn : k = n := by omega
      subst hkn
      go_wp2_with fail
      go_ret2
      exact ⟨gp, L, rfl, HG.out, HF.out, HN.out⟩
end
end Go.Proofs.Ytghhcjpilcoblaa
