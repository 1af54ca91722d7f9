/- Chapter 11 (cache), the document's answer: Dirty. Printed by genCaR4.py. -/
import Derived.Test.YtcganajbfplmpaaCaR3
namespace Go.Proofs.Ytcganajbfplmpaa
open Go.RowKit Go.Lap
set_option linter.unusedVariables false

def up (L : List Ent) : Prop := L.Pairwise fun x y => x.id < y.id
theorem up_ins {L : List Ent} (h : up L) {x : Ent} {q : Nat} (h1 : ∀ y ∈ L.take q, y.id < x.id) (h2 : ∀ y ∈ L.drop q, x.id < y.id) : up ((L.take q ++ [x]) ++ L.drop q) := by
  unfold up at *
  have hL := List.take_append_drop q L
  generalize L.take q = A at *
  generalize L.drop q = B at *
  subst hL
  rw [List.pairwise_append] at h
  rw [List.pairwise_append, List.pairwise_append]
  refine ⟨⟨h.1, by simp, fun a ha b hb => by simp at hb; subst hb; exact h1 a ha⟩, h.2.1, fun a ha b hb => ?_⟩
  rcases List.mem_append.1 ha with ha | ha
  · exact h.2.2 a ha b hb
  · simp at ha; subst ha; exact h2 b hb
theorem perm_ins (L : List Ent) (x : Ent) (q : Nat) : ((L.take q ++ [x]) ++ L.drop q).Perm (L ++ [x]) := by
  have h : (L.take q ++ L.drop q ++ [x]).Perm (L ++ [x]) := by rw [List.take_append_drop]
  refine List.Perm.trans ?_ h
  rw [List.append_assoc, List.append_assoc]
  exact List.Perm.append_left _ List.perm_append_comm
/-- All ahead of a place are less where the one ahead of it is. -/
theorem up_take {L : List Ent} (h : up L) {q : Nat} {y : Ent} (hy : L[q]? = some y) {z : Int} (hz : y.id < z) : ∀ a ∈ L.take (q + 1), a.id < z := by
  intro a ha
  obtain ⟨i, hi, hai⟩ := List.mem_iff_getElem.1 ha
  rw [List.length_take] at hi
  obtain ⟨hq, hy'⟩ := List.getElem?_eq_some_iff.1 hy
  rw [List.getElem_take] at hai
  by_cases e : i = q
  · subst e; rw [← hai, hy']; exact hz
  · have := List.pairwise_iff_getElem.1 h i q (by omega) hq (by omega)
    rw [hai, hy'] at this
    omega
theorem ids_take {E : List Ent} (h : idsOk E) {k : Nat} {x : Ent} (hx : E[k]? = some x) {y : Ent} (hy : y ∈ E.take k) : y.id ≠ x.id := by
  obtain ⟨i, hi, hyi⟩ := List.mem_iff_getElem.1 hy
  rw [List.length_take] at hi
  obtain ⟨hk, hx'⟩ := List.getElem?_eq_some_iff.1 hx
  rw [List.getElem_take] at hyi
  unfold idsOk at h
  rw [List.nodup_iff_pairwise_ne, List.pairwise_map] at h
  have := List.pairwise_iff_getElem.1 h i k (by omega) hk (by omega)
  rw [hyi, hx'] at this
  exact this
def RDirtyPost (w : World) (E : List Ent) (e : Ending) (w' : World) : Prop := ∃ u1 u2 L, e = .returned (.tuple #[u1, u2]) ∧ SlIn w' 3 entC u1 (E.map clE) ∧ SlIn w' 3 entC u2 L ∧ L.Perm (E.filter (·.d)) ∧ up L ∧ New w w' ∧ (∀ b off n c, u1 = .slice (some ⟨b, off, none⟩) n c → w.heap.size ≤ b) ∧ (∀ b off n c, u2 = .slice (some ⟨b, off, none⟩) n c → w.heap.size ≤ b)
/-- So many are gone through. -/
structure RD (w0 wr : World) (E : List Ent) (k : Nat) (u4 u5 : Value) (L : List Ent) : Prop where
  new : New w0 wr
  own : Owns wr w0.heap.size 32 3 entC u4 ((E.take k).map clE)
  row : SlIn wr 3 entC u5 L
  dis : L ≠ [] → ∀ b off n c, u5 = .slice (some ⟨b, off, none⟩) n c → u4.ownBlock ≠ some b
  prm : L.Perm ((E.take k).filter (·.d))
  up_ : up L
  fr : ∀ b off n c, u5 = .slice (some ⟨b, off, none⟩) n c → w0.heap.size ≤ b
theorem RD.keep {w0 wr w' : World} {E L : List Ent} {k : Nat} {u4 u5 : Value} (h : RD w0 wr E k u4 u5 L) (hn : New wr w') : RD w0 w' E k u4 u5 L := ⟨h.new.trans hn, h.own.new hn, h.row.new hn, h.dis, h.prm, h.up_, h.fr⟩

theorem slUpd9 {w w' : World} {S : Nat → Prop} {v : Value} {l : List Ent} (h : SlIn w 3 entC v l) (hu : Upd S w w') (hS : l ≠ [] → ∀ b off n c, v = .slice (some ⟨b, off, none⟩) n c → ¬ S b) : SlIn w' 3 entC v l := by
  obtain ⟨A, c, rfl, hc, hor⟩ := h
  by_cases h0 : l = []
  · exact ⟨A, c, rfl, hc, .inl h0⟩
  · exact slUpd8 ⟨A, c, rfl, hc, hor⟩ hu fun b off e => hS h0 b off _ _ (by rw [e])
/-- One more is gone through: it lies with the others, no longer dirty. -/
theorem RD.next {w0 w2 w9 : World} {E L : List Ent} {k : Nat} {u4 u5 v9 : Value} {x : Ent} (hn : New w0 w2) (ho : Owns w2 w0.heap.size 32 3 entC u4 ((E.take k).map clE)) (hr : SlIn w2 3 entC u5 L) (hd : L ≠ [] → ∀ b off n c, u5 = .slice (some ⟨b, off, none⟩) n c → u4.ownBlock ≠ some b)
    (hp : L.Perm ((E.take (k + 1)).filter (·.d))) (hu : up L) (hT : (E.take (k + 1)).map clE = (E.take k).map clE ++ [clE x]) (ho9 : Owns w9 w0.heap.size 32 3 entC v9 ((E.take k).map clE ++ [clE x])) (hg : w2.grownBy w9 u4.ownBlock) (hb : v9.ownBlock = u4.ownBlock ∨ v9.ownBlock = some w2.heap.size) (hf : ∀ b off n c, u5 = .slice (some ⟨b, off, none⟩) n c → w0.heap.size ≤ b) : RD w0 w9 E (k + 1) v9 u5 L := by
  have hU : Upd (fun j => u4.ownBlock = some j) w2 w9 := (Upd.refl _ w2).grown hg (fun j _ hj => hj)
  refine ⟨hn.grown hg (fun j hj => (ho.lt j hj).1), by rw [hT]; exact ho9, slUpd9 hr hU (fun h b off n c e => hd h b off n c e), fun h b off n c e => ?_, hp, hu, hf⟩
  rcases hb with hb | hb
  · rw [hb]; exact hd h b off n c e
  · rw [hb]
    obtain ⟨A, c', hv, _, hor⟩ := hr
    obtain ⟨b', off', hA, hlt, _⟩ := hor.resolve_left h
    rw [hv] at e
    cases e
    cases hA
    intro e2
    injection e2 with e2
    omega
/-- Behind the second append: what holds when the entry is cleared. -/
theorem rd_mid {w0 wo wq wl w9 : World} {E L L' : List Ent} {k : Nat} {u4 u5 vo v9 : Value} {xi : Int} {xb : ByteArray} {P : List Ent} (h : RD w0 wl E k u4 u5 L) (hB : Blk wl wo.heap.size 32 #[.int .i64 xi, .string xb, .bool true]) (ho : Owns wl wq.heap.size 32 3 entC vo P)
    (ho9 : Owns w9 wq.heap.size 32 3 entC v9 L') (hg : wl.grownBy w9 vo.ownBlock) (hz : w0.heap.size ≤ wq.heap.size ∧ wo.heap.size < wq.heap.size) (h4 : ∀ j, u4.ownBlock = some j → w0.heap.size ≤ j ∧ j < wo.heap.size) (hw : w0.heap.size ≤ wo.heap.size) :
    Blk w9 wo.heap.size 32 #[.int .i64 xi, .string xb, .bool true] ∧ Owns (w9.setCell ⟨wo.heap.size, 2, none⟩ (.bool false)) w0.heap.size 32 3 entC u4 ((E.take k).map clE) ∧ New w0 (w9.setCell ⟨wo.heap.size, 2, none⟩ (.bool false)) ∧
    (∀ o, w0.heap.size ≤ ((w9.setCell ⟨wo.heap.size, 2, none⟩ (.bool false)).alloc o).heap.size) ∧ SlIn (w9.setCell ⟨wo.heap.size, 2, none⟩ (.bool false)) 3 entC v9 L' ∧ (∀ b off n c, v9 = .slice (some ⟨b, off, none⟩) n c → u4.ownBlock ≠ some b) ∧ (∀ b off n c, v9 = .slice (some ⟨b, off, none⟩) n c → w0.heap.size ≤ b) := by
  have hU : Upd (fun j => vo.ownBlock = some j) wl w9 := (Upd.refl _ wl).grown hg (fun j _ hj => hj)
  have hu2 : Upd (· = wo.heap.size) w9 (w9.setCell ⟨wo.heap.size, 2, none⟩ (.bool false)) := (Upd.refl _ w9).setIn 2 _
  have hv : ∀ j, vo.ownBlock = some j → wq.heap.size ≤ j := fun j hj => (ho.lt j hj).1
  have hN : New w0 (w9.setCell ⟨wo.heap.size, 2, none⟩ (.bool false)) := (h.new.upd hU (fun j hj => by have := hv j hj; omega)).upd hu2 (fun j hj => by omega)
  refine ⟨hB.upd hU (fun hj => by have := hv _ hj; omega), ownsUpdC (ownsUpdC h.own hU (fun j hj e => by have := hv j e; have := h4 j hj; omega)) hu2 (fun j hj e => by have := h4 j hj; omega), hN, fun o => by have := hN.size; rw [World.size_alloc]; omega,
    slUpd9 (Owns.slIn entOk ho9) hu2 (fun _ b off n c e hb => ?_), fun b off n c e hb => ?_, fun b off n c e => by have := (ho9.lt b (by rw [e]; rfl)).1; omega⟩
  · have := (ho9.lt b (by rw [e]; rfl)).1
    omega
  · have := (ho9.lt b (by rw [e]; rfl)).1
    have := h4 b hb
    omega
set_option maxRecDepth 100000 in
set_option maxHeartbeats 8000000 in
theorem rdirty_any {v : Value} {E : List Ent} (w : World) (hs : SlIn w 3 entC v E) (hl : E.length ≤ 10000) (hi : idsOk E) :
    Calls Try.prog 18 #[v] w (RDirtyPost w E) := by
  obtain ⟨A, cp, hv, hcp, hor⟩ := id hs
  subst hv
  have ho0 : Owns (w.alloc (.cells #[] 32)) w.heap.size 32 3 entC (.slice (some ⟨w.heap.size, 0, none⟩) 0 0) ([] : List Ent) := World.ownsRow_made (base := w.heap.size) (e := 32) (size := 3) w #[] 0 (Nat.le_refl _) (by simp) (by simp)
  have hn0 := ((New.refl w).alloc (.cells #[] 32)).alloc (.cells #[] 32)
  have ho1 := ho0.alloc (.cells #[] 32)
  have hR0 : RD w ((w.alloc (.cells #[] 32)).alloc (.cells #[] 32)) E 0 (.slice (some ⟨w.heap.size, 0, none⟩) 0 0) (.slice (some ⟨w.heap.size + 1, 0, none⟩) 0 0) [] :=
    ⟨hn0, ho1, ⟨_, _, rfl, Nat.le_refl _, .inl rfl⟩, fun h => absurd rfl h, by simp, by simp [up], fun b off n c e => by injection e with e1; injection e1 with e1; injection e1; omega⟩
  have HI := Lib.hid hi
  clear ho0 ho1 hn0 hi
  go_enter Try.func18, Try.ntmps18
  go_wp2_with fail
  go_loopw [4, 5, 6, 7, 8, 9] (fun u4 u5 i _ _ _ wr => ∃ k : Nat, k ≤ E.length ∧ i = .int .i64 k ∧ ∃ L, RD w wr E k u4 u5 L) (fun _ _ i _ _ _ _ => E.length - (intOf i).toNat)
  case atStart => exact ⟨0, by omega, rfl, _, hR0⟩
  case round =>
    clear hR0
    obtain ⟨k, hk, rfl, L, hR⟩ := hrel
    obtain ⟨A4, n4, c4, rfl⟩ := entShape (Owns.slIn entOk hR.own)
    obtain ⟨A5, c5, hv5, hlc, -⟩ := id hR.row
    subst hv5
    have hL1 : L.length ≤ k := by
      have h1 := hR.prm.length_eq
      have h2 := List.length_filter_le (fun x : Ent => x.d) (E.take k)
      rw [List.length_take] at h2
      omega
    by_cases hlt : k < E.length
    · have hlt' : (k : Int) < (E.length : Int) := by omega
      have hk0 : (0 : Int) ≤ (k : Int) := by omega
      rcases hor with hor | ⟨b, off, rfl, hb, hc⟩
      · rw [hor] at hlt; simp at hlt
      obtain ⟨x, hx⟩ : ∃ x, E[k]? = some x := ⟨_, List.getElem?_eq_getElem hlt⟩
      obtain ⟨xi, xb, xd⟩ := x
      obtain ⟨e0, e1, e2⟩ := ent3 (w := wr) (fun k x h j u hu => (hR.new.cells.1 _ _ hb).trans (hc k x h j u hu)) hx
      simp only at e0 e1 e2
      have hBz := Blk.mk_new wr 32 #[.int .i64 0, .string ⟨#[]⟩, .bool false]
      obtain ⟨z0, z1, z2, z3, zz⟩ := Blk3R hBz
      have hB7 := Blk.mk_new wr 32 #[.int .i64 xi, .string xb, .bool xd]
      obtain ⟨p0, p1, p2, p3, pz⟩ := Blk3R hB7
      have hn7 := (New.refl wr).alloc (.cells #[.int .i64 xi, .string xb, .bool xd] 32)
      have HB7 := Lib.hid hB7
      have HR7 := Lib.hid (hR.keep hn7)
      have HX := Lib.hid hx
      have HWR := Lib.hid hR.new.size
      have HTM := Lib.hid (show (E.take (k + 1)).map clE = (E.take k).map clE ++ [clE ⟨xi, xb, xd⟩] by rw [List.take_add_one, hx, List.map_append]; rfl)
      have HOB : Hid (∀ j, (Value.slice A4 n4 c4).ownBlock = some j → w.heap.size ≤ j ∧ j < wr.heap.size) := Lib.hid (fun j hj => hR.own.lt j hj)
      have hn4 : n4 = k := by
        obtain ⟨A', c', hv', -, -⟩ := Owns.slIn entOk hR.own
        cases hv'
        rw [List.length_map, List.length_take]; omega
      subst hn4
      have HLK := Lib.hid hL1
      clear hBz hB7 hn7 hx hR
      cases xd with
      | false =>
        have HTF := Lib.hid (show (E.take (n4 + 1)).filter (·.d) = (E.take n4).filter (·.d) by rw [List.take_add_one, HX.out]; simp)
        have hyb := Blk.mk_new (wr.alloc (.cells #[.int .i64 xi, .string xb, .bool false] 32)) 32 #[.int .i64 xi, .string xb, .bool false]
        have hn8 := (New.refl (wr.alloc (.cells #[.int .i64 xi, .string xb, .bool false] 32))).alloc (.cells #[.int .i64 xi, .string xb, .bool false] 32)
        rw [World.size_alloc] at hyb
        have hR8 := HR7.out.keep hn8
        have hoy := hR8.own
        have hz8 := hR8.new.size
        have hsl := SlIn.one (x := clE ⟨xi, xb, false⟩) hyb entOk rfl
        have HM1 := Lib.hid (show ((E.take n4).map clE).length + [clE ⟨xi, xb, false⟩].length ≤ maxLen by unfold maxLen; rw [List.length_map, List.length_take]; simp only [List.length_singleton]; omega)
        have HM2 := Lib.hid (show (((E.take n4).map clE).length + [clE ⟨xi, xb, false⟩].length) * 32 ≤ 140737488355328 by rw [List.length_map, List.length_take]; simp only [List.length_singleton]; omega)
        have HR8 := Lib.hid hR8
        clear hR8 hyb hn8
        go_wp2_with (at_builtin; refine wpList_app entTy entOk rfl _ _ rfl rfl rfl hoy hsl HM1.out HM2.out hz8 ?_; intro v9 w9 ho9 hg9 hb9)
        go_roundw
        case rel => exact ⟨n4 + 1, by omega, by go_num, L, RD.next HR8.out.new HR8.out.own HR8.out.row HR8.out.dis (by rw [HTF.out]; exact HR8.out.prm) HR8.out.up_ HTM.out ho9 hg9 hb9 HR8.out.fr⟩
        case measure => simp [intOf]; omega
      | true =>
        have HTF := Lib.hid (show (E.take (n4 + 1)).filter (·.d) = (E.take n4).filter (·.d) ++ [⟨xi, xb, true⟩] by rw [List.take_add_one, HX.out]; simp)
        go_wp2_with fail
        clear z0 z1 z2 z3 zz e0 e1 e2
        generalize hwz : (wr.alloc (.cells #[.int .i64 xi, .string xb, .bool true] 32)) = wz at *
        clear hwz
        have HG7 := Lib.hid (HB7.out.lt)
        obtain ⟨wo, rfl⟩ : ∃ wo, wo = wr := ⟨_, rfl⟩
        go_loopw [8] (fun i wr2 => ∃ q : Nat, q ≤ L.length ∧ i = .int .i64 q ∧ (∀ y ∈ L.drop q, xi < y.id) ∧ New wz wr2) (fun i _ => (intOf i).toNat)
        case atStart => exact ⟨L.length, by omega, rfl, by simp, New.refl _⟩
        case round =>
          clear p0 p1 p2 p3 pz
          obtain ⟨q, hq, rfl, hfar, hnz⟩ := hrel
          have HFAR := Lib.hid hfar
          have HNZ := Lib.hid hnz
          obtain ⟨p0, p1, p2, p3, pz⟩ := Blk3R (HB7.out.new hnz)
          have hqk : q ≤ 10000 := by have := HLK.out; omega
          clear hfar hnz
          by_cases hq0 : 0 < q
          · have hq0' : (0 : Int) < (q : Int) := by omega
            obtain ⟨m, hm⟩ : ∃ m, q = m + 1 := ⟨q - 1, by omega⟩
            have hqm : (q : Int) - 1 = (m : Int) := by omega
            have hm0 : (0 : Int) ≤ (m : Int) := by omega
            have hml : (m : Int) < (L.length : Int) := by omega
            have HM := Lib.hid hm
            obtain ⟨y, hy⟩ : ∃ y, L[m]? = some y := ⟨_, List.getElem?_eq_getElem (by omega)⟩
            obtain ⟨A5', c5', hv5, hc5, hor5⟩ := (HR7.out.keep HNZ.out).row
            cases hv5
            rcases hor5 with hor5 | ⟨b5, off5, rfl, hb5, hcc5⟩
            · rw [hor5] at hy; simp at hy
            obtain ⟨f0, f1, f2⟩ := ent3 hcc5 hy
            have hyx : y.id ≠ xi := ids_take HI.out HX.out (List.mem_filter.1 (HR7.out.prm.mem_iff.1 (List.mem_of_getElem? hy))).1
            have HY := Lib.hid hy
            clear hcc5 hy hm f1 f2
            by_cases hgt : xi < y.id
            · go_wp2_with fail
              go_quiet (fail)
              go_wp2_with fail
              go_roundw
              case rel =>
                refine ⟨m, by have := HM.out; omega, by go_num, fun a ha => ?_, HNZ.out.drewN _⟩
                have hq := HM.out
                obtain ⟨h1, h2⟩ := List.getElem?_eq_some_iff.1 HY.out
                rw [List.drop_eq_getElem_cons h1, h2] at ha
                rcases List.mem_cons.1 ha with rfl | ha
                · exact hgt
                · rw [← hq] at ha; exact HFAR.out a ha
              case measure => have := HM.out; simp [intOf]; omega
            · have HNEAR := Lib.hid (show ∀ a ∈ L.take q, a.id < xi by rw [HM.out]; exact up_take HR7.out.up_ HY.out (by omega))
              have hgt' : ¬ xi < y.id := hgt
              go_wp2_with fail
              go_quiet (fail)
              have hRq := HR7.out.keep (HNZ.out.drewN nq)
              have hBq := HB7.out.new (HNZ.out.drewN nq)
              have hnq := HNZ.out.drewN nq
              clear p0 p1 p2 p3 pz
              generalize (World.drewN _ nq) = wq at *
              have HRQ := Lib.hid hRq
              have HBQ := Lib.hid hBq
              have HNQ := Lib.hid hnq
              obtain ⟨p0, p1, p2, p3, pz⟩ := Blk3R hBq
              have hT := hRq.row.take (k := q) (c' := c5) hq (by omega)
              have HT := Lib.hid hT
              have HSZ : Hid (w.heap.size ≤ wq.heap.size ∧ wo.heap.size < wq.heap.size) := Lib.hid ⟨hRq.new.size, hBq.lt⟩
              have htl : (L.take q).length = q := by rw [List.length_take]; omega
              have hdl : (L.drop q).length = L.length - q := List.length_drop ..
              have HM1 := Lib.hid (show ([] : List Ent).length + (L.take q).length ≤ maxLen by unfold maxLen; rw [htl]; simp only [List.length_nil]; omega)
              have HM2 := Lib.hid (show (([] : List Ent).length + (L.take q).length) * 32 ≤ 140737488355328 by rw [htl]; simp only [List.length_nil]; omega)
              have HM3 := Lib.hid (show ([] ++ L.take q).length + [(⟨xi, xb, true⟩ : Ent)].length ≤ maxLen by unfold maxLen; rw [List.nil_append, htl]; simp only [List.length_singleton]; omega)
              have HM4 := Lib.hid (show (([] ++ L.take q).length + [(⟨xi, xb, true⟩ : Ent)].length) * 32 ≤ 140737488355328 by rw [List.nil_append, htl]; simp only [List.length_singleton]; omega)
              have HM5 := Lib.hid (show (L.take q ++ [(⟨xi, xb, true⟩ : Ent)]).length + (L.drop q).length ≤ maxLen by unfold maxLen; rw [List.length_append, htl, hdl]; simp only [List.length_singleton]; omega)
              have HM6 := Lib.hid (show ((L.take q ++ [(⟨xi, xb, true⟩ : Ent)]).length + (L.drop q).length) * 32 ≤ 140737488355328 by rw [List.length_append, htl, hdl]; simp only [List.length_singleton]; omega)
              have HM7 := Lib.hid (show ((E.take n4).map clE).length + [clE (⟨xi, xb, true⟩ : Ent)].length ≤ maxLen by unfold maxLen; rw [List.length_map, List.length_take]; simp only [List.length_singleton]; omega)
              have HM8 := Lib.hid (show (((E.take n4).map clE).length + [clE (⟨xi, xb, true⟩ : Ent)].length) * 32 ≤ 140737488355328 by rw [List.length_map, List.length_take]; simp only [List.length_singleton]; omega)
              have hqc : (q : Int) ≤ (c5 : Int) := by omega
              have hqz : (0 : Int) ≤ (q : Int) := by omega
              have hql : (q : Int) ≤ (L.length : Int) := by omega
              have hqn : (q : Int).toNat = q := by omega
              clear hRq hBq hnq hT htl hdl
              go_upto_region 10 with fail
              refine wp_region_held_drew (S := fun w' => Held wq w') (by kernel_rfl) (Held.of (New.refl _).drew) (fun hHeld => ?_)
              refine wpAnyH_take (i := 1) (oi := { dst := some 42, op := Op.move (Operand.tmp 5), type := 28, pos := "ref.go:72", after := #[], guard := none }) (v := ?_) rfl (by kernel_rfl) (by kernel_rfl) (by kernel_rfl) (fun _ _ _ h => h) (Or.inl ⟨by rfl, ?_⟩) (by assumption) ?_
              rotate_left
              · (intro wq hSw; (try dsimp only at hSw); go_simp; first | done | with_reducible rfl)
              try simp only [Act.put, List.setIfInBounds_toArray, List.set_cons_zero, List.set_cons_succ]
              refine wpAnyH_take (i := 2) (oi := { dst := some 43, op := Op.move (Operand.tmp 8), type := 3, pos := "ref.go:72", after := #[], guard := none }) (v := ?_) rfl (by kernel_rfl) (by kernel_rfl) (by kernel_rfl) (fun _ _ _ h => h) (Or.inl ⟨by rfl, ?_⟩) (by assumption) ?_
              rotate_left
              · (intro wq hSw; (try dsimp only at hSw); go_simp; first | done | with_reducible rfl)
              try simp only [Act.put, List.setIfInBounds_toArray, List.set_cons_zero, List.set_cons_succ]
              refine wpAnyH_take (i := 3) (oi := { dst := some 44, op := Op.slice 28 (Operand.tmp 42) none (some (Operand.tmp 43)) none, type := 28, pos := "ref.go:72", after := #[{ on := 1, ground := Ground.data }, { on := 2, ground := Ground.data }], guard := none }) (v := ?_) rfl (by kernel_rfl) (by kernel_rfl) (by kernel_rfl) (fun _ _ _ h => h) (Or.inl ⟨by rfl, ?_⟩) (by assumption) ?_
              rotate_left
              · (intro wq hSw; (try dsimp only at hSw); go_simp; first | done | with_reducible rfl)
              try simp only [Act.put, List.setIfInBounds_toArray, List.set_cons_zero, List.set_cons_succ]
              refine wpAnyH_take (i := 5) (oi := { dst := some 46, op := Op.load 32 (Operand.tmp 7), type := 32, pos := "ref.go:72", after := #[], guard := none }) (v := ?_) rfl (by kernel_rfl) (by kernel_rfl) (by kernel_rfl) (fun _ _ _ h => h) (Or.inl ⟨by rfl, ?_⟩) (by assumption) ?_
              rotate_left
              · (intro wq hSw; (try dsimp only at hSw); go_simp; first | done | with_reducible rfl)
              try simp only [Act.put, List.setIfInBounds_toArray, List.set_cons_zero, List.set_cons_succ]
              refine wpAnyH_ready (rs := [0, 6]) (by kernel_rfl) (by simp) ?_
              refine AllReadyH.cons (o := { dst := some 41, op := Op.buildSlice 28 0 #[], type := 28, pos := "ref.go:72", after := #[], guard := none }) rfl (fun K hK => ?_) (AllReadyH.cons (o := { dst := some 47, op := Op.buildSlice 28 1 #[(0, Operand.tmp 46)], type := 28, pos := "ref.go:72", after := #[{ on := 5, ground := Ground.data }], guard := none }) rfl (fun K hK => ?_) AllReadyH.nil)
              · go_simp
                have hn0 := New.alloc ((New.refl wq).drew) (.cells #[] 32)
                have ho0 : Owns (wq.drew.alloc (.cells #[] 32)) wq.heap.size 32 3 entC (.slice (some ⟨wq.drew.heap.size, 0, none⟩) 0 0) ([] : List Ent) := World.ownsRow_made wq.drew #[] 0 (Below.size ((New.refl wq).drew)) (by unfold maxLen; omega) rfl
                try rw [World.size_alloc] at ho0
                refine hK.out _ _ ?_ (fun hHeld => ?_)
                · exact Held.of hn0
                clear hK K
                try simp only [Act.put, List.setIfInBounds_toArray, List.set_cons_zero, List.set_cons_succ]
                refine wpAnyH_ready (rs := [4, 6]) (by kernel_rfl) (by simp) ?_
                refine AllReadyH.cons (o := { dst := some 45, op := Op.call { callee := Callee.builtin Builtin.append, args := #[Operand.tmp 41, Operand.tmp 44], argTypes := #[28, 28] }, type := 28, pos := "ref.go:72", after := #[{ on := 0, ground := Ground.data }, { on := 3, ground := Ground.data }], guard := none }) rfl (fun K hK => ?_) (AllReadyH.cons (o := { dst := some 47, op := Op.buildSlice 28 1 #[(0, Operand.tmp 46)], type := 28, pos := "ref.go:72", after := #[{ on := 5, ground := Ground.data }], guard := none }) rfl (fun K hK => ?_) AllReadyH.nil)
                · refine step_app entTy entOk rfl (.tmp 41) (.tmp 44) rfl rfl rfl ho0 (HT.out.new (hn0)) HM1.out HM2.out (Below.size (hn0)) ?_
                  intro va1 wa1 ho1 hg1 _
                  have hn1 := New.grown (hn0) hg1 (fun k hk => Owns.blockGe ho0 k hk)
                  refine hK.out _ _ ?_ (fun hHeld => ?_)
                  · exact Held.of hn1
                  clear hK K
                  try simp only [Act.put, List.setIfInBounds_toArray, List.set_cons_zero, List.set_cons_succ]
                  refine wpAnyH_ready (rs := [6]) (by kernel_rfl) (by simp) ?_
                  refine AllReadyH.cons (o := { dst := some 47, op := Op.buildSlice 28 1 #[(0, Operand.tmp 46)], type := 28, pos := "ref.go:72", after := #[{ on := 5, ground := Ground.data }], guard := none }) rfl (fun K hK => ?_) AllReadyH.nil
                  go_simp
                  have hn2 := New.alloc (hn1) (.cells #[.int .i64 xi, .string xb, .bool true] 32)
                  have hx2 := Blk.mk_new wa1 32 #[.int .i64 xi, .string xb, .bool true]
                  try rw [World.size_alloc] at hx2
                  have ho2 := Owns.alloc ho1 (.cells #[.int .i64 xi, .string xb, .bool true] 32)
                  refine hK.out _ _ ?_ (fun hHeld => ?_)
                  · exact Held.of hn2
                  clear hK K
                  try simp only [Act.put, List.setIfInBounds_toArray, List.set_cons_zero, List.set_cons_succ]
                  refine wpAnyH_ready (rs := [7]) (by kernel_rfl) (by simp) ?_
                  refine AllReadyH.cons (o := { dst := some 48, op := Op.call { callee := Callee.builtin Builtin.append, args := #[Operand.tmp 45, Operand.tmp 47], argTypes := #[28, 28] }, type := 28, pos := "ref.go:72", after := #[{ on := 4, ground := Ground.data }, { on := 6, ground := Ground.data }, { on := 4, ground := Ground.chain }], guard := none }) rfl (fun K hK => ?_) AllReadyH.nil
                  refine step_app entTy entOk rfl (.tmp 45) (.tmp 47) rfl rfl rfl ho2 (SlIn.one (x := (⟨xi, xb, true⟩ : Ent)) hx2 entOk rfl) HM3.out HM4.out (Below.size (hn2)) ?_
                  intro va3 wa3 ho3 hg3 _
                  have hn3 := New.grown (hn2) hg3 (fun k hk => Owns.blockGe ho2 k hk)
                  refine hK.out _ _ ?_ (fun hHeld => ?_)
                  · exact Held.of hn3
                  clear hK K
                  try simp only [Act.put, List.setIfInBounds_toArray, List.set_cons_zero, List.set_cons_succ]
                  refine wpAnyH_take (i := 8) (oi := { dst := some 9, op := Op.assign (Operand.tmp 48), type := 28, pos := "ref.go:72", after := #[{ on := 7, ground := Ground.data }, { on := 7, ground := Ground.chain }, { on := 0, ground := Ground.phase }, { on := 1, ground := Ground.phase }, { on := 2, ground := Ground.phase }, { on := 3, ground := Ground.phase }, { on := 4, ground := Ground.phase }, { on := 5, ground := Ground.phase }, { on := 6, ground := Ground.phase }, { on := 7, ground := Ground.phase }], guard := none }) (v := ?_) rfl (by kernel_rfl) (by kernel_rfl) (by kernel_rfl) (fun _ _ _ h => h) (Or.inl ⟨by rfl, ?_⟩) (by assumption) ?_
                  rotate_left
                  · (intro wq hSw; (try dsimp only at hSw); go_simp; first | done | with_reducible rfl)
                  try simp only [Act.put, List.setIfInBounds_toArray, List.set_cons_zero, List.set_cons_succ]
                  refine wpAnyH_done (by kernel_rfl) ?_ _
                  have hnl := hn3
                  have hol := ho3
                  rw [List.nil_append] at hol
                  clear hHeld
                  generalize wa3 = wl at *
                  have HRL := Lib.hid (HRQ.out.keep hnl)
                  have HBL := Lib.hid (HBQ.out.new hnl)
                  have HOL := Lib.hid hol
                  have HZL : Hid (wq.heap.size ≤ wl.heap.size) := Lib.hid (Below.size hnl)
                  clear hnl p0 p1 p2 p3 pz
                  by_cases hvq : c5 = q
                  · have hD : SlIn wl 3 entC (.slice (some ⟨b5, off5, none⟩) 0 0) (L.drop q) := by rw [List.drop_eq_nil_of_le (by omega)]; exact SlIn.empty _ _ _ _ _
                    subst hvq
                    go_wp2_with (first | (at_builtin; refine wpList_app entTy entOk rfl _ _ rfl rfl rfl hol hD HM5.out HM6.out HZL.out ?_; intro v9 w9 ho9 hg9 hb9; have HK9 := Lib.hid (rd_mid HRL.out HBL.out HOL.out ho9 hg9 HSZ.out HOB.out HWR.out); obtain ⟨p0, p1, p2, p3, pz⟩ := Blk3R HK9.out.1; obtain ⟨sA9, sn9, sc9, hsv9⟩ := entShape (Owns.slIn entOk ho9); subst hsv9; have hoy := HK9.out.2.1.alloc (.cells #[.int .i64 xi, .string xb, .bool false] 32); have hyb := Blk.mk_new (w9.setCell ⟨wo.heap.size, 2, none⟩ (.bool false)) 32 #[.int .i64 xi, .string xb, .bool false]; rw [World.size_setCell] at hyb; have hzy := HK9.out.2.2.2.1 (.cells #[.int .i64 xi, .string xb, .bool false] 32); have HO9 := Lib.hid ho9; clear ho9 hg9 hb9) | (at_builtin; refine wpList_app entTy entOk rfl _ _ rfl rfl rfl hoy (SlIn.one (x := clE (⟨xi, xb, true⟩ : Ent)) hyb entOk rfl) HM7.out HM8.out hzy ?_; intro va wa hoa hga hba))
                    go_roundw
                    case rel => exact ⟨n4 + 1, by omega, by go_num, _, RD.next (HK9.out.2.2.1.alloc _) hoy (HK9.out.2.2.2.2.1.new ((New.refl _).alloc _)) (fun _ => HK9.out.2.2.2.2.2.1) (by rw [HTF.out]; exact (perm_ins L (⟨xi, xb, true⟩ : Ent) c5).trans (HR7.out.prm.append_right _)) (up_ins HR7.out.up_ HNEAR.out HFAR.out) HTM.out hoa hga hba HK9.out.2.2.2.2.2.2⟩
                    case measure => simp [intOf]; omega
                  · have hD := HRL.out.row.drop_at (k := q) (by omega) hvq
                    go_wp2_with (first | (at_builtin; refine wpList_app entTy entOk rfl _ _ rfl rfl rfl hol hD HM5.out HM6.out HZL.out ?_; intro v9 w9 ho9 hg9 hb9; have HK9 := Lib.hid (rd_mid HRL.out HBL.out HOL.out ho9 hg9 HSZ.out HOB.out HWR.out); obtain ⟨p0, p1, p2, p3, pz⟩ := Blk3R HK9.out.1; obtain ⟨sA9, sn9, sc9, hsv9⟩ := entShape (Owns.slIn entOk ho9); subst hsv9; have hoy := HK9.out.2.1.alloc (.cells #[.int .i64 xi, .string xb, .bool false] 32); have hyb := Blk.mk_new (w9.setCell ⟨wo.heap.size, 2, none⟩ (.bool false)) 32 #[.int .i64 xi, .string xb, .bool false]; rw [World.size_setCell] at hyb; have hzy := HK9.out.2.2.2.1 (.cells #[.int .i64 xi, .string xb, .bool false] 32); have HO9 := Lib.hid ho9; clear ho9 hg9 hb9) | (at_builtin; refine wpList_app entTy entOk rfl _ _ rfl rfl rfl hoy (SlIn.one (x := clE (⟨xi, xb, true⟩ : Ent)) hyb entOk rfl) HM7.out HM8.out hzy ?_; intro va wa hoa hga hba))
                    go_roundw
                    case rel => exact ⟨n4 + 1, by omega, by go_num, _, RD.next (HK9.out.2.2.1.alloc _) hoy (HK9.out.2.2.2.2.1.new ((New.refl _).alloc _)) (fun _ => HK9.out.2.2.2.2.2.1) (by rw [HTF.out]; exact (perm_ins L (⟨xi, xb, true⟩ : Ent) q).trans (HR7.out.prm.append_right _)) (up_ins HR7.out.up_ HNEAR.out HFAR.out) HTM.out hoa hga hba HK9.out.2.2.2.2.2.2⟩
                    case measure => simp [intOf]; omega
                · go_simp
                  have hn1 := New.alloc (hn0) (.cells #[.int .i64 xi, .string xb, .bool true] 32)
                  have hx1 := Blk.mk_new (wq.drew.alloc (.cells #[] 32)) 32 #[.int .i64 xi, .string xb, .bool true]
                  try rw [World.size_alloc] at hx1
                  have ho1 := Owns.alloc ho0 (.cells #[.int .i64 xi, .string xb, .bool true] 32)
                  refine hK.out _ _ ?_ (fun hHeld => ?_)
                  · exact Held.of hn1
                  clear hK K
                  try simp only [Act.put, List.setIfInBounds_toArray, List.set_cons_zero, List.set_cons_succ]
                  refine wpAnyH_ready (rs := [4]) (by kernel_rfl) (by simp) ?_
                  refine AllReadyH.cons (o := { dst := some 45, op := Op.call { callee := Callee.builtin Builtin.append, args := #[Operand.tmp 41, Operand.tmp 44], argTypes := #[28, 28] }, type := 28, pos := "ref.go:72", after := #[{ on := 0, ground := Ground.data }, { on := 3, ground := Ground.data }], guard := none }) rfl (fun K hK => ?_) AllReadyH.nil
                  refine step_app entTy entOk rfl (.tmp 41) (.tmp 44) rfl rfl rfl ho1 (HT.out.new (hn1)) HM1.out HM2.out (Below.size (hn1)) ?_
                  intro va2 wa2 ho2 hg2 _
                  have hn2 := New.grown (hn1) hg2 (fun k hk => Owns.blockGe ho1 k hk)
                  have hx2 := Blk.grown hx1 hg2 (by intro e; injection e with e; simp at e)
                  refine hK.out _ _ ?_ (fun hHeld => ?_)
                  · exact Held.of hn2
                  clear hK K
                  try simp only [Act.put, List.setIfInBounds_toArray, List.set_cons_zero, List.set_cons_succ]
                  refine wpAnyH_ready (rs := [7]) (by kernel_rfl) (by simp) ?_
                  refine AllReadyH.cons (o := { dst := some 48, op := Op.call { callee := Callee.builtin Builtin.append, args := #[Operand.tmp 45, Operand.tmp 47], argTypes := #[28, 28] }, type := 28, pos := "ref.go:72", after := #[{ on := 4, ground := Ground.data }, { on := 6, ground := Ground.data }, { on := 4, ground := Ground.chain }], guard := none }) rfl (fun K hK => ?_) AllReadyH.nil
                  refine step_app entTy entOk rfl (.tmp 45) (.tmp 47) rfl rfl rfl ho2 (SlIn.one (x := (⟨xi, xb, true⟩ : Ent)) hx2 entOk rfl) HM3.out HM4.out (Below.size (hn2)) ?_
                  intro va3 wa3 ho3 hg3 _
                  have hn3 := New.grown (hn2) hg3 (fun k hk => Owns.blockGe ho2 k hk)
                  refine hK.out _ _ ?_ (fun hHeld => ?_)
                  · exact Held.of hn3
                  clear hK K
                  try simp only [Act.put, List.setIfInBounds_toArray, List.set_cons_zero, List.set_cons_succ]
                  refine wpAnyH_take (i := 8) (oi := { dst := some 9, op := Op.assign (Operand.tmp 48), type := 28, pos := "ref.go:72", after := #[{ on := 7, ground := Ground.data }, { on := 7, ground := Ground.chain }, { on := 0, ground := Ground.phase }, { on := 1, ground := Ground.phase }, { on := 2, ground := Ground.phase }, { on := 3, ground := Ground.phase }, { on := 4, ground := Ground.phase }, { on := 5, ground := Ground.phase }, { on := 6, ground := Ground.phase }, { on := 7, ground := Ground.phase }], guard := none }) (v := ?_) rfl (by kernel_rfl) (by kernel_rfl) (by kernel_rfl) (fun _ _ _ h => h) (Or.inl ⟨by rfl, ?_⟩) (by assumption) ?_
                  rotate_left
                  · (intro wq hSw; (try dsimp only at hSw); go_simp; first | done | with_reducible rfl)
                  try simp only [Act.put, List.setIfInBounds_toArray, List.set_cons_zero, List.set_cons_succ]
                  refine wpAnyH_done (by kernel_rfl) ?_ _
                  have hnl := hn3
                  have hol := ho3
                  rw [List.nil_append] at hol
                  clear hHeld
                  generalize wa3 = wl at *
                  have HRL := Lib.hid (HRQ.out.keep hnl)
                  have HBL := Lib.hid (HBQ.out.new hnl)
                  have HOL := Lib.hid hol
                  have HZL : Hid (wq.heap.size ≤ wl.heap.size) := Lib.hid (Below.size hnl)
                  clear hnl p0 p1 p2 p3 pz
                  by_cases hvq : c5 = q
                  · have hD : SlIn wl 3 entC (.slice (some ⟨b5, off5, none⟩) 0 0) (L.drop q) := by rw [List.drop_eq_nil_of_le (by omega)]; exact SlIn.empty _ _ _ _ _
                    subst hvq
                    go_wp2_with (first | (at_builtin; refine wpList_app entTy entOk rfl _ _ rfl rfl rfl hol hD HM5.out HM6.out HZL.out ?_; intro v9 w9 ho9 hg9 hb9; have HK9 := Lib.hid (rd_mid HRL.out HBL.out HOL.out ho9 hg9 HSZ.out HOB.out HWR.out); obtain ⟨p0, p1, p2, p3, pz⟩ := Blk3R HK9.out.1; obtain ⟨sA9, sn9, sc9, hsv9⟩ := entShape (Owns.slIn entOk ho9); subst hsv9; have hoy := HK9.out.2.1.alloc (.cells #[.int .i64 xi, .string xb, .bool false] 32); have hyb := Blk.mk_new (w9.setCell ⟨wo.heap.size, 2, none⟩ (.bool false)) 32 #[.int .i64 xi, .string xb, .bool false]; rw [World.size_setCell] at hyb; have hzy := HK9.out.2.2.2.1 (.cells #[.int .i64 xi, .string xb, .bool false] 32); have HO9 := Lib.hid ho9; clear ho9 hg9 hb9) | (at_builtin; refine wpList_app entTy entOk rfl _ _ rfl rfl rfl hoy (SlIn.one (x := clE (⟨xi, xb, true⟩ : Ent)) hyb entOk rfl) HM7.out HM8.out hzy ?_; intro va wa hoa hga hba))
                    go_roundw
                    case rel => exact ⟨n4 + 1, by omega, by go_num, _, RD.next (HK9.out.2.2.1.alloc _) hoy (HK9.out.2.2.2.2.1.new ((New.refl _).alloc _)) (fun _ => HK9.out.2.2.2.2.2.1) (by rw [HTF.out]; exact (perm_ins L (⟨xi, xb, true⟩ : Ent) c5).trans (HR7.out.prm.append_right _)) (up_ins HR7.out.up_ HNEAR.out HFAR.out) HTM.out hoa hga hba HK9.out.2.2.2.2.2.2⟩
                    case measure => simp [intOf]; omega
                  · have hD := HRL.out.row.drop_at (k := q) (by omega) hvq
                    go_wp2_with (first | (at_builtin; refine wpList_app entTy entOk rfl _ _ rfl rfl rfl hol hD HM5.out HM6.out HZL.out ?_; intro v9 w9 ho9 hg9 hb9; have HK9 := Lib.hid (rd_mid HRL.out HBL.out HOL.out ho9 hg9 HSZ.out HOB.out HWR.out); obtain ⟨p0, p1, p2, p3, pz⟩ := Blk3R HK9.out.1; obtain ⟨sA9, sn9, sc9, hsv9⟩ := entShape (Owns.slIn entOk ho9); subst hsv9; have hoy := HK9.out.2.1.alloc (.cells #[.int .i64 xi, .string xb, .bool false] 32); have hyb := Blk.mk_new (w9.setCell ⟨wo.heap.size, 2, none⟩ (.bool false)) 32 #[.int .i64 xi, .string xb, .bool false]; rw [World.size_setCell] at hyb; have hzy := HK9.out.2.2.2.1 (.cells #[.int .i64 xi, .string xb, .bool false] 32); have HO9 := Lib.hid ho9; clear ho9 hg9 hb9) | (at_builtin; refine wpList_app entTy entOk rfl _ _ rfl rfl rfl hoy (SlIn.one (x := clE (⟨xi, xb, true⟩ : Ent)) hyb entOk rfl) HM7.out HM8.out hzy ?_; intro va wa hoa hga hba))
                    go_roundw
                    case rel => exact ⟨n4 + 1, by omega, by go_num, _, RD.next (HK9.out.2.2.1.alloc _) hoy (HK9.out.2.2.2.2.1.new ((New.refl _).alloc _)) (fun _ => HK9.out.2.2.2.2.2.1) (by rw [HTF.out]; exact (perm_ins L (⟨xi, xb, true⟩ : Ent) q).trans (HR7.out.prm.append_right _)) (up_ins HR7.out.up_ HNEAR.out HFAR.out) HTM.out hoa hga hba HK9.out.2.2.2.2.2.2⟩
                    case measure => simp [intOf]; omega
              · go_simp
                have hn0 := New.alloc ((New.refl wq).drew) (.cells #[.int .i64 xi, .string xb, .bool true] 32)
                have hx0 := Blk.mk_new wq.drew 32 #[.int .i64 xi, .string xb, .bool true]
                try rw [World.size_alloc] at hx0
                refine hK.out _ _ ?_ (fun hHeld => ?_)
                · exact Held.of hn0
                clear hK K
                try simp only [Act.put, List.setIfInBounds_toArray, List.set_cons_zero, List.set_cons_succ]
                refine wpAnyH_ready (rs := [0]) (by kernel_rfl) (by simp) ?_
                refine AllReadyH.cons (o := { dst := some 41, op := Op.buildSlice 28 0 #[], type := 28, pos := "ref.go:72", after := #[], guard := none }) rfl (fun K hK => ?_) AllReadyH.nil
                go_simp
                have hn1 := New.alloc (hn0) (.cells #[] 32)
                have ho1 : Owns ((wq.drew.alloc (.cells #[.int .i64 xi, .string xb, .bool true] 32)).alloc (.cells #[] 32)) wq.heap.size 32 3 entC (.slice (some ⟨(wq.drew.alloc (.cells #[.int .i64 xi, .string xb, .bool true] 32)).heap.size, 0, none⟩) 0 0) ([] : List Ent) := World.ownsRow_made (wq.drew.alloc (.cells #[.int .i64 xi, .string xb, .bool true] 32)) #[] 0 (Below.size (hn0)) (by unfold maxLen; omega) rfl
                try rw [World.size_alloc] at ho1
                have hx1 := Blk.alloc hx0 (.cells #[] 32)
                refine hK.out _ _ ?_ (fun hHeld => ?_)
                · exact Held.of hn1
                clear hK K
                try simp only [Act.put, List.setIfInBounds_toArray, List.set_cons_zero, List.set_cons_succ]
                refine wpAnyH_ready (rs := [4]) (by kernel_rfl) (by simp) ?_
                refine AllReadyH.cons (o := { dst := some 45, op := Op.call { callee := Callee.builtin Builtin.append, args := #[Operand.tmp 41, Operand.tmp 44], argTypes := #[28, 28] }, type := 28, pos := "ref.go:72", after := #[{ on := 0, ground := Ground.data }, { on := 3, ground := Ground.data }], guard := none }) rfl (fun K hK => ?_) AllReadyH.nil
                refine step_app entTy entOk rfl (.tmp 41) (.tmp 44) rfl rfl rfl ho1 (HT.out.new (hn1)) HM1.out HM2.out (Below.size (hn1)) ?_
                intro va2 wa2 ho2 hg2 _
                have hn2 := New.grown (hn1) hg2 (fun k hk => Owns.blockGe ho1 k hk)
                have hx2 := Blk.grown hx1 hg2 (by intro e; injection e with e; simp at e)
                refine hK.out _ _ ?_ (fun hHeld => ?_)
                · exact Held.of hn2
                clear hK K
                try simp only [Act.put, List.setIfInBounds_toArray, List.set_cons_zero, List.set_cons_succ]
                refine wpAnyH_ready (rs := [7]) (by kernel_rfl) (by simp) ?_
                refine AllReadyH.cons (o := { dst := some 48, op := Op.call { callee := Callee.builtin Builtin.append, args := #[Operand.tmp 45, Operand.tmp 47], argTypes := #[28, 28] }, type := 28, pos := "ref.go:72", after := #[{ on := 4, ground := Ground.data }, { on := 6, ground := Ground.data }, { on := 4, ground := Ground.chain }], guard := none }) rfl (fun K hK => ?_) AllReadyH.nil
                refine step_app entTy entOk rfl (.tmp 45) (.tmp 47) rfl rfl rfl ho2 (SlIn.one (x := (⟨xi, xb, true⟩ : Ent)) hx2 entOk rfl) HM3.out HM4.out (Below.size (hn2)) ?_
                intro va3 wa3 ho3 hg3 _
                have hn3 := New.grown (hn2) hg3 (fun k hk => Owns.blockGe ho2 k hk)
                refine hK.out _ _ ?_ (fun hHeld => ?_)
                · exact Held.of hn3
                clear hK K
                try simp only [Act.put, List.setIfInBounds_toArray, List.set_cons_zero, List.set_cons_succ]
                refine wpAnyH_take (i := 8) (oi := { dst := some 9, op := Op.assign (Operand.tmp 48), type := 28, pos := "ref.go:72", after := #[{ on := 7, ground := Ground.data }, { on := 7, ground := Ground.chain }, { on := 0, ground := Ground.phase }, { on := 1, ground := Ground.phase }, { on := 2, ground := Ground.phase }, { on := 3, ground := Ground.phase }, { on := 4, ground := Ground.phase }, { on := 5, ground := Ground.phase }, { on := 6, ground := Ground.phase }, { on := 7, ground := Ground.phase }], guard := none }) (v := ?_) rfl (by kernel_rfl) (by kernel_rfl) (by kernel_rfl) (fun _ _ _ h => h) (Or.inl ⟨by rfl, ?_⟩) (by assumption) ?_
                rotate_left
                · (intro wq hSw; (try dsimp only at hSw); go_simp; first | done | with_reducible rfl)
                try simp only [Act.put, List.setIfInBounds_toArray, List.set_cons_zero, List.set_cons_succ]
                refine wpAnyH_done (by kernel_rfl) ?_ _
                have hnl := hn3
                have hol := ho3
                rw [List.nil_append] at hol
                clear hHeld
                generalize wa3 = wl at *
                have HRL := Lib.hid (HRQ.out.keep hnl)
                have HBL := Lib.hid (HBQ.out.new hnl)
                have HOL := Lib.hid hol
                have HZL : Hid (wq.heap.size ≤ wl.heap.size) := Lib.hid (Below.size hnl)
                clear hnl p0 p1 p2 p3 pz
                by_cases hvq : c5 = q
                · have hD : SlIn wl 3 entC (.slice (some ⟨b5, off5, none⟩) 0 0) (L.drop q) := by rw [List.drop_eq_nil_of_le (by omega)]; exact SlIn.empty _ _ _ _ _
                  subst hvq
                  go_wp2_with (first | (at_builtin; refine wpList_app entTy entOk rfl _ _ rfl rfl rfl hol hD HM5.out HM6.out HZL.out ?_; intro v9 w9 ho9 hg9 hb9; have HK9 := Lib.hid (rd_mid HRL.out HBL.out HOL.out ho9 hg9 HSZ.out HOB.out HWR.out); obtain ⟨p0, p1, p2, p3, pz⟩ := Blk3R HK9.out.1; obtain ⟨sA9, sn9, sc9, hsv9⟩ := entShape (Owns.slIn entOk ho9); subst hsv9; have hoy := HK9.out.2.1.alloc (.cells #[.int .i64 xi, .string xb, .bool false] 32); have hyb := Blk.mk_new (w9.setCell ⟨wo.heap.size, 2, none⟩ (.bool false)) 32 #[.int .i64 xi, .string xb, .bool false]; rw [World.size_setCell] at hyb; have hzy := HK9.out.2.2.2.1 (.cells #[.int .i64 xi, .string xb, .bool false] 32); have HO9 := Lib.hid ho9; clear ho9 hg9 hb9) | (at_builtin; refine wpList_app entTy entOk rfl _ _ rfl rfl rfl hoy (SlIn.one (x := clE (⟨xi, xb, true⟩ : Ent)) hyb entOk rfl) HM7.out HM8.out hzy ?_; intro va wa hoa hga hba))
                  go_roundw
                  case rel => exact ⟨n4 + 1, by omega, by go_num, _, RD.next (HK9.out.2.2.1.alloc _) hoy (HK9.out.2.2.2.2.1.new ((New.refl _).alloc _)) (fun _ => HK9.out.2.2.2.2.2.1) (by rw [HTF.out]; exact (perm_ins L (⟨xi, xb, true⟩ : Ent) c5).trans (HR7.out.prm.append_right _)) (up_ins HR7.out.up_ HNEAR.out HFAR.out) HTM.out hoa hga hba HK9.out.2.2.2.2.2.2⟩
                  case measure => simp [intOf]; omega
                · have hD := HRL.out.row.drop_at (k := q) (by omega) hvq
                  go_wp2_with (first | (at_builtin; refine wpList_app entTy entOk rfl _ _ rfl rfl rfl hol hD HM5.out HM6.out HZL.out ?_; intro v9 w9 ho9 hg9 hb9; have HK9 := Lib.hid (rd_mid HRL.out HBL.out HOL.out ho9 hg9 HSZ.out HOB.out HWR.out); obtain ⟨p0, p1, p2, p3, pz⟩ := Blk3R HK9.out.1; obtain ⟨sA9, sn9, sc9, hsv9⟩ := entShape (Owns.slIn entOk ho9); subst hsv9; have hoy := HK9.out.2.1.alloc (.cells #[.int .i64 xi, .string xb, .bool false] 32); have hyb := Blk.mk_new (w9.setCell ⟨wo.heap.size, 2, none⟩ (.bool false)) 32 #[.int .i64 xi, .string xb, .bool false]; rw [World.size_setCell] at hyb; have hzy := HK9.out.2.2.2.1 (.cells #[.int .i64 xi, .string xb, .bool false] 32); have HO9 := Lib.hid ho9; clear ho9 hg9 hb9) | (at_builtin; refine wpList_app entTy entOk rfl _ _ rfl rfl rfl hoy (SlIn.one (x := clE (⟨xi, xb, true⟩ : Ent)) hyb entOk rfl) HM7.out HM8.out hzy ?_; intro va wa hoa hga hba))
                  go_roundw
                  case rel => exact ⟨n4 + 1, by omega, by go_num, _, RD.next (HK9.out.2.2.1.alloc _) hoy (HK9.out.2.2.2.2.1.new ((New.refl _).alloc _)) (fun _ => HK9.out.2.2.2.2.2.1) (by rw [HTF.out]; exact (perm_ins L (⟨xi, xb, true⟩ : Ent) q).trans (HR7.out.prm.append_right _)) (up_ins HR7.out.up_ HNEAR.out HFAR.out) HTM.out hoa hga hba HK9.out.2.2.2.2.2.2⟩
                  case measure => simp [intOf]; omega
          · have hq0' : ¬ (0 : Int) < (q : Int) := by omega
            have HNEAR := Lib.hid (show ∀ a ∈ L.take q, a.id < xi by rw [show q = 0 by omega]; simp)
            go_wp2_with fail
            go_quiet (fail)
            have hRq := HR7.out.keep (HNZ.out.drewN nq)
            have hBq := HB7.out.new (HNZ.out.drewN nq)
            have hnq := HNZ.out.drewN nq
            clear p0 p1 p2 p3 pz
            generalize (World.drewN _ nq) = wq at *
            have HRQ := Lib.hid hRq
            have HBQ := Lib.hid hBq
            have HNQ := Lib.hid hnq
            obtain ⟨p0, p1, p2, p3, pz⟩ := Blk3R hBq
            have hT := hRq.row.take (k := q) (c' := c5) hq (by omega)
            have HT := Lib.hid hT
            have HSZ : Hid (w.heap.size ≤ wq.heap.size ∧ wo.heap.size < wq.heap.size) := Lib.hid ⟨hRq.new.size, hBq.lt⟩
            have htl : (L.take q).length = q := by rw [List.length_take]; omega
            have hdl : (L.drop q).length = L.length - q := List.length_drop ..
            have HM1 := Lib.hid (show ([] : List Ent).length + (L.take q).length ≤ maxLen by unfold maxLen; rw [htl]; simp only [List.length_nil]; omega)
            have HM2 := Lib.hid (show (([] : List Ent).length + (L.take q).length) * 32 ≤ 140737488355328 by rw [htl]; simp only [List.length_nil]; omega)
            have HM3 := Lib.hid (show ([] ++ L.take q).length + [(⟨xi, xb, true⟩ : Ent)].length ≤ maxLen by unfold maxLen; rw [List.nil_append, htl]; simp only [List.length_singleton]; omega)
            have HM4 := Lib.hid (show (([] ++ L.take q).length + [(⟨xi, xb, true⟩ : Ent)].length) * 32 ≤ 140737488355328 by rw [List.nil_append, htl]; simp only [List.length_singleton]; omega)
            have HM5 := Lib.hid (show (L.take q ++ [(⟨xi, xb, true⟩ : Ent)]).length + (L.drop q).length ≤ maxLen by unfold maxLen; rw [List.length_append, htl, hdl]; simp only [List.length_singleton]; omega)
            have HM6 := Lib.hid (show ((L.take q ++ [(⟨xi, xb, true⟩ : Ent)]).length + (L.drop q).length) * 32 ≤ 140737488355328 by rw [List.length_append, htl, hdl]; simp only [List.length_singleton]; omega)
            have HM7 := Lib.hid (show ((E.take n4).map clE).length + [clE (⟨xi, xb, true⟩ : Ent)].length ≤ maxLen by unfold maxLen; rw [List.length_map, List.length_take]; simp only [List.length_singleton]; omega)
            have HM8 := Lib.hid (show (((E.take n4).map clE).length + [clE (⟨xi, xb, true⟩ : Ent)].length) * 32 ≤ 140737488355328 by rw [List.length_map, List.length_take]; simp only [List.length_singleton]; omega)
            have hqc : (q : Int) ≤ (c5 : Int) := by omega
            have hqz : (0 : Int) ≤ (q : Int) := by omega
            have hql : (q : Int) ≤ (L.length : Int) := by omega
            have hqn : (q : Int).toNat = q := by omega
            clear hRq hBq hnq hT htl hdl
            go_upto_region 10 with fail
            refine wp_region_held_drew (S := fun w' => Held wq w') (by kernel_rfl) (Held.of (New.refl _).drew) (fun hHeld => ?_)
            refine wpAnyH_take (i := 1) (oi := { dst := some 42, op := Op.move (Operand.tmp 5), type := 28, pos := "ref.go:72", after := #[], guard := none }) (v := ?_) rfl (by kernel_rfl) (by kernel_rfl) (by kernel_rfl) (fun _ _ _ h => h) (Or.inl ⟨by rfl, ?_⟩) (by assumption) ?_
            rotate_left
            · (intro wq hSw; (try dsimp only at hSw); go_simp; first | done | with_reducible rfl)
            try simp only [Act.put, List.setIfInBounds_toArray, List.set_cons_zero, List.set_cons_succ]
            refine wpAnyH_take (i := 2) (oi := { dst := some 43, op := Op.move (Operand.tmp 8), type := 3, pos := "ref.go:72", after := #[], guard := none }) (v := ?_) rfl (by kernel_rfl) (by kernel_rfl) (by kernel_rfl) (fun _ _ _ h => h) (Or.inl ⟨by rfl, ?_⟩) (by assumption) ?_
            rotate_left
            · (intro wq hSw; (try dsimp only at hSw); go_simp; first | done | with_reducible rfl)
            try simp only [Act.put, List.setIfInBounds_toArray, List.set_cons_zero, List.set_cons_succ]
            refine wpAnyH_take (i := 3) (oi := { dst := some 44, op := Op.slice 28 (Operand.tmp 42) none (some (Operand.tmp 43)) none, type := 28, pos := "ref.go:72", after := #[{ on := 1, ground := Ground.data }, { on := 2, ground := Ground.data }], guard := none }) (v := ?_) rfl (by kernel_rfl) (by kernel_rfl) (by kernel_rfl) (fun _ _ _ h => h) (Or.inl ⟨by rfl, ?_⟩) (by assumption) ?_
            rotate_left
            · (intro wq hSw; (try dsimp only at hSw); go_simp; first | done | with_reducible rfl)
            try simp only [Act.put, List.setIfInBounds_toArray, List.set_cons_zero, List.set_cons_succ]
            refine wpAnyH_take (i := 5) (oi := { dst := some 46, op := Op.load 32 (Operand.tmp 7), type := 32, pos := "ref.go:72", after := #[], guard := none }) (v := ?_) rfl (by kernel_rfl) (by kernel_rfl) (by kernel_rfl) (fun _ _ _ h => h) (Or.inl ⟨by rfl, ?_⟩) (by assumption) ?_
            rotate_left
            · (intro wq hSw; (try dsimp only at hSw); go_simp; first | done | with_reducible rfl)
            try simp only [Act.put, List.setIfInBounds_toArray, List.set_cons_zero, List.set_cons_succ]
            refine wpAnyH_ready (rs := [0, 6]) (by kernel_rfl) (by simp) ?_
            refine AllReadyH.cons (o := { dst := some 41, op := Op.buildSlice 28 0 #[], type := 28, pos := "ref.go:72", after := #[], guard := none }) rfl (fun K hK => ?_) (AllReadyH.cons (o := { dst := some 47, op := Op.buildSlice 28 1 #[(0, Operand.tmp 46)], type := 28, pos := "ref.go:72", after := #[{ on := 5, ground := Ground.data }], guard := none }) rfl (fun K hK => ?_) AllReadyH.nil)
            · go_simp
              have hn0 := New.alloc ((New.refl wq).drew) (.cells #[] 32)
              have ho0 : Owns (wq.drew.alloc (.cells #[] 32)) wq.heap.size 32 3 entC (.slice (some ⟨wq.drew.heap.size, 0, none⟩) 0 0) ([] : List Ent) := World.ownsRow_made wq.drew #[] 0 (Below.size ((New.refl wq).drew)) (by unfold maxLen; omega) rfl
              try rw [World.size_alloc] at ho0
              refine hK.out _ _ ?_ (fun hHeld => ?_)
              · exact Held.of hn0
              clear hK K
              try simp only [Act.put, List.setIfInBounds_toArray, List.set_cons_zero, List.set_cons_succ]
              refine wpAnyH_ready (rs := [4, 6]) (by kernel_rfl) (by simp) ?_
              refine AllReadyH.cons (o := { dst := some 45, op := Op.call { callee := Callee.builtin Builtin.append, args := #[Operand.tmp 41, Operand.tmp 44], argTypes := #[28, 28] }, type := 28, pos := "ref.go:72", after := #[{ on := 0, ground := Ground.data }, { on := 3, ground := Ground.data }], guard := none }) rfl (fun K hK => ?_) (AllReadyH.cons (o := { dst := some 47, op := Op.buildSlice 28 1 #[(0, Operand.tmp 46)], type := 28, pos := "ref.go:72", after := #[{ on := 5, ground := Ground.data }], guard := none }) rfl (fun K hK => ?_) AllReadyH.nil)
              · refine step_app entTy entOk rfl (.tmp 41) (.tmp 44) rfl rfl rfl ho0 (HT.out.new (hn0)) HM1.out HM2.out (Below.size (hn0)) ?_
                intro va1 wa1 ho1 hg1 _
                have hn1 := New.grown (hn0) hg1 (fun k hk => Owns.blockGe ho0 k hk)
                refine hK.out _ _ ?_ (fun hHeld => ?_)
                · exact Held.of hn1
                clear hK K
                try simp only [Act.put, List.setIfInBounds_toArray, List.set_cons_zero, List.set_cons_succ]
                refine wpAnyH_ready (rs := [6]) (by kernel_rfl) (by simp) ?_
                refine AllReadyH.cons (o := { dst := some 47, op := Op.buildSlice 28 1 #[(0, Operand.tmp 46)], type := 28, pos := "ref.go:72", after := #[{ on := 5, ground := Ground.data }], guard := none }) rfl (fun K hK => ?_) AllReadyH.nil
                go_simp
                have hn2 := New.alloc (hn1) (.cells #[.int .i64 xi, .string xb, .bool true] 32)
                have hx2 := Blk.mk_new wa1 32 #[.int .i64 xi, .string xb, .bool true]
                try rw [World.size_alloc] at hx2
                have ho2 := Owns.alloc ho1 (.cells #[.int .i64 xi, .string xb, .bool true] 32)
                refine hK.out _ _ ?_ (fun hHeld => ?_)
                · exact Held.of hn2
                clear hK K
                try simp only [Act.put, List.setIfInBounds_toArray, List.set_cons_zero, List.set_cons_succ]
                refine wpAnyH_ready (rs := [7]) (by kernel_rfl) (by simp) ?_
                refine AllReadyH.cons (o := { dst := some 48, op := Op.call { callee := Callee.builtin Builtin.append, args := #[Operand.tmp 45, Operand.tmp 47], argTypes := #[28, 28] }, type := 28, pos := "ref.go:72", after := #[{ on := 4, ground := Ground.data }, { on := 6, ground := Ground.data }, { on := 4, ground := Ground.chain }], guard := none }) rfl (fun K hK => ?_) AllReadyH.nil
                refine step_app entTy entOk rfl (.tmp 45) (.tmp 47) rfl rfl rfl ho2 (SlIn.one (x := (⟨xi, xb, true⟩ : Ent)) hx2 entOk rfl) HM3.out HM4.out (Below.size (hn2)) ?_
                intro va3 wa3 ho3 hg3 _
                have hn3 := New.grown (hn2) hg3 (fun k hk => Owns.blockGe ho2 k hk)
                refine hK.out _ _ ?_ (fun hHeld => ?_)
                · exact Held.of hn3
                clear hK K
                try simp only [Act.put, List.setIfInBounds_toArray, List.set_cons_zero, List.set_cons_succ]
                refine wpAnyH_take (i := 8) (oi := { dst := some 9, op := Op.assign (Operand.tmp 48), type := 28, pos := "ref.go:72", after := #[{ on := 7, ground := Ground.data }, { on := 7, ground := Ground.chain }, { on := 0, ground := Ground.phase }, { on := 1, ground := Ground.phase }, { on := 2, ground := Ground.phase }, { on := 3, ground := Ground.phase }, { on := 4, ground := Ground.phase }, { on := 5, ground := Ground.phase }, { on := 6, ground := Ground.phase }, { on := 7, ground := Ground.phase }], guard := none }) (v := ?_) rfl (by kernel_rfl) (by kernel_rfl) (by kernel_rfl) (fun _ _ _ h => h) (Or.inl ⟨by rfl, ?_⟩) (by assumption) ?_
                rotate_left
                · (intro wq hSw; (try dsimp only at hSw); go_simp; first | done | with_reducible rfl)
                try simp only [Act.put, List.setIfInBounds_toArray, List.set_cons_zero, List.set_cons_succ]
                refine wpAnyH_done (by kernel_rfl) ?_ _
                have hnl := hn3
                have hol := ho3
                rw [List.nil_append] at hol
                clear hHeld
                generalize wa3 = wl at *
                have HRL := Lib.hid (HRQ.out.keep hnl)
                have HBL := Lib.hid (HBQ.out.new hnl)
                have HOL := Lib.hid hol
                have HZL : Hid (wq.heap.size ≤ wl.heap.size) := Lib.hid (Below.size hnl)
                clear hnl p0 p1 p2 p3 pz
                by_cases hvq : c5 = q
                · have hD : SlIn wl 3 entC (.slice A5 0 0) (L.drop q) := by rw [List.drop_eq_nil_of_le (by omega)]; exact SlIn.empty _ _ _ _ _
                  subst hvq
                  go_wp2_with (first | (at_builtin; refine wpList_app entTy entOk rfl _ _ rfl rfl rfl hol hD HM5.out HM6.out HZL.out ?_; intro v9 w9 ho9 hg9 hb9; have HK9 := Lib.hid (rd_mid HRL.out HBL.out HOL.out ho9 hg9 HSZ.out HOB.out HWR.out); obtain ⟨p0, p1, p2, p3, pz⟩ := Blk3R HK9.out.1; obtain ⟨sA9, sn9, sc9, hsv9⟩ := entShape (Owns.slIn entOk ho9); subst hsv9; have hoy := HK9.out.2.1.alloc (.cells #[.int .i64 xi, .string xb, .bool false] 32); have hyb := Blk.mk_new (w9.setCell ⟨wo.heap.size, 2, none⟩ (.bool false)) 32 #[.int .i64 xi, .string xb, .bool false]; rw [World.size_setCell] at hyb; have hzy := HK9.out.2.2.2.1 (.cells #[.int .i64 xi, .string xb, .bool false] 32); have HO9 := Lib.hid ho9; clear ho9 hg9 hb9) | (at_builtin; refine wpList_app entTy entOk rfl _ _ rfl rfl rfl hoy (SlIn.one (x := clE (⟨xi, xb, true⟩ : Ent)) hyb entOk rfl) HM7.out HM8.out hzy ?_; intro va wa hoa hga hba))
                  go_roundw
                  case rel => exact ⟨n4 + 1, by omega, by go_num, _, RD.next (HK9.out.2.2.1.alloc _) hoy (HK9.out.2.2.2.2.1.new ((New.refl _).alloc _)) (fun _ => HK9.out.2.2.2.2.2.1) (by rw [HTF.out]; exact (perm_ins L (⟨xi, xb, true⟩ : Ent) c5).trans (HR7.out.prm.append_right _)) (up_ins HR7.out.up_ HNEAR.out HFAR.out) HTM.out hoa hga hba HK9.out.2.2.2.2.2.2⟩
                  case measure => simp [intOf]; omega
                · have hD := HRL.out.row.drop_far (k := q) (by omega) hvq
                  go_wp2_with (first | (at_builtin; refine wpList_app entTy entOk rfl _ _ rfl rfl rfl hol hD HM5.out HM6.out HZL.out ?_; intro v9 w9 ho9 hg9 hb9; have HK9 := Lib.hid (rd_mid HRL.out HBL.out HOL.out ho9 hg9 HSZ.out HOB.out HWR.out); obtain ⟨p0, p1, p2, p3, pz⟩ := Blk3R HK9.out.1; obtain ⟨sA9, sn9, sc9, hsv9⟩ := entShape (Owns.slIn entOk ho9); subst hsv9; have hoy := HK9.out.2.1.alloc (.cells #[.int .i64 xi, .string xb, .bool false] 32); have hyb := Blk.mk_new (w9.setCell ⟨wo.heap.size, 2, none⟩ (.bool false)) 32 #[.int .i64 xi, .string xb, .bool false]; rw [World.size_setCell] at hyb; have hzy := HK9.out.2.2.2.1 (.cells #[.int .i64 xi, .string xb, .bool false] 32); have HO9 := Lib.hid ho9; clear ho9 hg9 hb9) | (at_builtin; refine wpList_app entTy entOk rfl _ _ rfl rfl rfl hoy (SlIn.one (x := clE (⟨xi, xb, true⟩ : Ent)) hyb entOk rfl) HM7.out HM8.out hzy ?_; intro va wa hoa hga hba))
                  go_roundw
                  case rel => exact ⟨n4 + 1, by omega, by go_num, _, RD.next (HK9.out.2.2.1.alloc _) hoy (HK9.out.2.2.2.2.1.new ((New.refl _).alloc _)) (fun _ => HK9.out.2.2.2.2.2.1) (by rw [HTF.out]; exact (perm_ins L (⟨xi, xb, true⟩ : Ent) q).trans (HR7.out.prm.append_right _)) (up_ins HR7.out.up_ HNEAR.out HFAR.out) HTM.out hoa hga hba HK9.out.2.2.2.2.2.2⟩
                  case measure => simp [intOf]; omega
              · go_simp
                have hn1 := New.alloc (hn0) (.cells #[.int .i64 xi, .string xb, .bool true] 32)
                have hx1 := Blk.mk_new (wq.drew.alloc (.cells #[] 32)) 32 #[.int .i64 xi, .string xb, .bool true]
                try rw [World.size_alloc] at hx1
                have ho1 := Owns.alloc ho0 (.cells #[.int .i64 xi, .string xb, .bool true] 32)
                refine hK.out _ _ ?_ (fun hHeld => ?_)
                · exact Held.of hn1
                clear hK K
                try simp only [Act.put, List.setIfInBounds_toArray, List.set_cons_zero, List.set_cons_succ]
                refine wpAnyH_ready (rs := [4]) (by kernel_rfl) (by simp) ?_
                refine AllReadyH.cons (o := { dst := some 45, op := Op.call { callee := Callee.builtin Builtin.append, args := #[Operand.tmp 41, Operand.tmp 44], argTypes := #[28, 28] }, type := 28, pos := "ref.go:72", after := #[{ on := 0, ground := Ground.data }, { on := 3, ground := Ground.data }], guard := none }) rfl (fun K hK => ?_) AllReadyH.nil
                refine step_app entTy entOk rfl (.tmp 41) (.tmp 44) rfl rfl rfl ho1 (HT.out.new (hn1)) HM1.out HM2.out (Below.size (hn1)) ?_
                intro va2 wa2 ho2 hg2 _
                have hn2 := New.grown (hn1) hg2 (fun k hk => Owns.blockGe ho1 k hk)
                have hx2 := Blk.grown hx1 hg2 (by intro e; injection e with e; simp at e)
                refine hK.out _ _ ?_ (fun hHeld => ?_)
                · exact Held.of hn2
                clear hK K
                try simp only [Act.put, List.setIfInBounds_toArray, List.set_cons_zero, List.set_cons_succ]
                refine wpAnyH_ready (rs := [7]) (by kernel_rfl) (by simp) ?_
                refine AllReadyH.cons (o := { dst := some 48, op := Op.call { callee := Callee.builtin Builtin.append, args := #[Operand.tmp 45, Operand.tmp 47], argTypes := #[28, 28] }, type := 28, pos := "ref.go:72", after := #[{ on := 4, ground := Ground.data }, { on := 6, ground := Ground.data }, { on := 4, ground := Ground.chain }], guard := none }) rfl (fun K hK => ?_) AllReadyH.nil
                refine step_app entTy entOk rfl (.tmp 45) (.tmp 47) rfl rfl rfl ho2 (SlIn.one (x := (⟨xi, xb, true⟩ : Ent)) hx2 entOk rfl) HM3.out HM4.out (Below.size (hn2)) ?_
                intro va3 wa3 ho3 hg3 _
                have hn3 := New.grown (hn2) hg3 (fun k hk => Owns.blockGe ho2 k hk)
                refine hK.out _ _ ?_ (fun hHeld => ?_)
                · exact Held.of hn3
                clear hK K
                try simp only [Act.put, List.setIfInBounds_toArray, List.set_cons_zero, List.set_cons_succ]
                refine wpAnyH_take (i := 8) (oi := { dst := some 9, op := Op.assign (Operand.tmp 48), type := 28, pos := "ref.go:72", after := #[{ on := 7, ground := Ground.data }, { on := 7, ground := Ground.chain }, { on := 0, ground := Ground.phase }, { on := 1, ground := Ground.phase }, { on := 2, ground := Ground.phase }, { on := 3, ground := Ground.phase }, { on := 4, ground := Ground.phase }, { on := 5, ground := Ground.phase }, { on := 6, ground := Ground.phase }, { on := 7, ground := Ground.phase }], guard := none }) (v := ?_) rfl (by kernel_rfl) (by kernel_rfl) (by kernel_rfl) (fun _ _ _ h => h) (Or.inl ⟨by rfl, ?_⟩) (by assumption) ?_
                rotate_left
                · (intro wq hSw; (try dsimp only at hSw); go_simp; first | done | with_reducible rfl)
                try simp only [Act.put, List.setIfInBounds_toArray, List.set_cons_zero, List.set_cons_succ]
                refine wpAnyH_done (by kernel_rfl) ?_ _
                have hnl := hn3
                have hol := ho3
                rw [List.nil_append] at hol
                clear hHeld
                generalize wa3 = wl at *
                have HRL := Lib.hid (HRQ.out.keep hnl)
                have HBL := Lib.hid (HBQ.out.new hnl)
                have HOL := Lib.hid hol
                have HZL : Hid (wq.heap.size ≤ wl.heap.size) := Lib.hid (Below.size hnl)
                clear hnl p0 p1 p2 p3 pz
                by_cases hvq : c5 = q
                · have hD : SlIn wl 3 entC (.slice A5 0 0) (L.drop q) := by rw [List.drop_eq_nil_of_le (by omega)]; exact SlIn.empty _ _ _ _ _
                  subst hvq
                  go_wp2_with (first | (at_builtin; refine wpList_app entTy entOk rfl _ _ rfl rfl rfl hol hD HM5.out HM6.out HZL.out ?_; intro v9 w9 ho9 hg9 hb9; have HK9 := Lib.hid (rd_mid HRL.out HBL.out HOL.out ho9 hg9 HSZ.out HOB.out HWR.out); obtain ⟨p0, p1, p2, p3, pz⟩ := Blk3R HK9.out.1; obtain ⟨sA9, sn9, sc9, hsv9⟩ := entShape (Owns.slIn entOk ho9); subst hsv9; have hoy := HK9.out.2.1.alloc (.cells #[.int .i64 xi, .string xb, .bool false] 32); have hyb := Blk.mk_new (w9.setCell ⟨wo.heap.size, 2, none⟩ (.bool false)) 32 #[.int .i64 xi, .string xb, .bool false]; rw [World.size_setCell] at hyb; have hzy := HK9.out.2.2.2.1 (.cells #[.int .i64 xi, .string xb, .bool false] 32); have HO9 := Lib.hid ho9; clear ho9 hg9 hb9) | (at_builtin; refine wpList_app entTy entOk rfl _ _ rfl rfl rfl hoy (SlIn.one (x := clE (⟨xi, xb, true⟩ : Ent)) hyb entOk rfl) HM7.out HM8.out hzy ?_; intro va wa hoa hga hba))
                  go_roundw
                  case rel => exact ⟨n4 + 1, by omega, by go_num, _, RD.next (HK9.out.2.2.1.alloc _) hoy (HK9.out.2.2.2.2.1.new ((New.refl _).alloc _)) (fun _ => HK9.out.2.2.2.2.2.1) (by rw [HTF.out]; exact (perm_ins L (⟨xi, xb, true⟩ : Ent) c5).trans (HR7.out.prm.append_right _)) (up_ins HR7.out.up_ HNEAR.out HFAR.out) HTM.out hoa hga hba HK9.out.2.2.2.2.2.2⟩
                  case measure => simp [intOf]; omega
                · have hD := HRL.out.row.drop_far (k := q) (by omega) hvq
                  go_wp2_with (first | (at_builtin; refine wpList_app entTy entOk rfl _ _ rfl rfl rfl hol hD HM5.out HM6.out HZL.out ?_; intro v9 w9 ho9 hg9 hb9; have HK9 := Lib.hid (rd_mid HRL.out HBL.out HOL.out ho9 hg9 HSZ.out HOB.out HWR.out); obtain ⟨p0, p1, p2, p3, pz⟩ := Blk3R HK9.out.1; obtain ⟨sA9, sn9, sc9, hsv9⟩ := entShape (Owns.slIn entOk ho9); subst hsv9; have hoy := HK9.out.2.1.alloc (.cells #[.int .i64 xi, .string xb, .bool false] 32); have hyb := Blk.mk_new (w9.setCell ⟨wo.heap.size, 2, none⟩ (.bool false)) 32 #[.int .i64 xi, .string xb, .bool false]; rw [World.size_setCell] at hyb; have hzy := HK9.out.2.2.2.1 (.cells #[.int .i64 xi, .string xb, .bool false] 32); have HO9 := Lib.hid ho9; clear ho9 hg9 hb9) | (at_builtin; refine wpList_app entTy entOk rfl _ _ rfl rfl rfl hoy (SlIn.one (x := clE (⟨xi, xb, true⟩ : Ent)) hyb entOk rfl) HM7.out HM8.out hzy ?_; intro va wa hoa hga hba))
                  go_roundw
                  case rel => exact ⟨n4 + 1, by omega, by go_num, _, RD.next (HK9.out.2.2.1.alloc _) hoy (HK9.out.2.2.2.2.1.new ((New.refl _).alloc _)) (fun _ => HK9.out.2.2.2.2.2.1) (by rw [HTF.out]; exact (perm_ins L (⟨xi, xb, true⟩ : Ent) q).trans (HR7.out.prm.append_right _)) (up_ins HR7.out.up_ HNEAR.out HFAR.out) HTM.out hoa hga hba HK9.out.2.2.2.2.2.2⟩
                  case measure => simp [intOf]; omega
            · go_simp
              have hn0 := New.alloc ((New.refl wq).drew) (.cells #[.int .i64 xi, .string xb, .bool true] 32)
              have hx0 := Blk.mk_new wq.drew 32 #[.int .i64 xi, .string xb, .bool true]
              try rw [World.size_alloc] at hx0
              refine hK.out _ _ ?_ (fun hHeld => ?_)
              · exact Held.of hn0
              clear hK K
              try simp only [Act.put, List.setIfInBounds_toArray, List.set_cons_zero, List.set_cons_succ]
              refine wpAnyH_ready (rs := [0]) (by kernel_rfl) (by simp) ?_
              refine AllReadyH.cons (o := { dst := some 41, op := Op.buildSlice 28 0 #[], type := 28, pos := "ref.go:72", after := #[], guard := none }) rfl (fun K hK => ?_) AllReadyH.nil
              go_simp
              have hn1 := New.alloc (hn0) (.cells #[] 32)
              have ho1 : Owns ((wq.drew.alloc (.cells #[.int .i64 xi, .string xb, .bool true] 32)).alloc (.cells #[] 32)) wq.heap.size 32 3 entC (.slice (some ⟨(wq.drew.alloc (.cells #[.int .i64 xi, .string xb, .bool true] 32)).heap.size, 0, none⟩) 0 0) ([] : List Ent) := World.ownsRow_made (wq.drew.alloc (.cells #[.int .i64 xi, .string xb, .bool true] 32)) #[] 0 (Below.size (hn0)) (by unfold maxLen; omega) rfl
              try rw [World.size_alloc] at ho1
              have hx1 := Blk.alloc hx0 (.cells #[] 32)
              refine hK.out _ _ ?_ (fun hHeld => ?_)
              · exact Held.of hn1
              clear hK K
              try simp only [Act.put, List.setIfInBounds_toArray, List.set_cons_zero, List.set_cons_succ]
              refine wpAnyH_ready (rs := [4]) (by kernel_rfl) (by simp) ?_
              refine AllReadyH.cons (o := { dst := some 45, op := Op.call { callee := Callee.builtin Builtin.append, args := #[Operand.tmp 41, Operand.tmp 44], argTypes := #[28, 28] }, type := 28, pos := "ref.go:72", after := #[{ on := 0, ground := Ground.data }, { on := 3, ground := Ground.data }], guard := none }) rfl (fun K hK => ?_) AllReadyH.nil
              refine step_app entTy entOk rfl (.tmp 41) (.tmp 44) rfl rfl rfl ho1 (HT.out.new (hn1)) HM1.out HM2.out (Below.size (hn1)) ?_
              intro va2 wa2 ho2 hg2 _
              have hn2 := New.grown (hn1) hg2 (fun k hk => Owns.blockGe ho1 k hk)
              have hx2 := Blk.grown hx1 hg2 (by intro e; injection e with e; simp at e)
              refine hK.out _ _ ?_ (fun hHeld => ?_)
              · exact Held.of hn2
              clear hK K
              try simp only [Act.put, List.setIfInBounds_toArray, List.set_cons_zero, List.set_cons_succ]
              refine wpAnyH_ready (rs := [7]) (by kernel_rfl) (by simp) ?_
              refine AllReadyH.cons (o := { dst := some 48, op := Op.call { callee := Callee.builtin Builtin.append, args := #[Operand.tmp 45, Operand.tmp 47], argTypes := #[28, 28] }, type := 28, pos := "ref.go:72", after := #[{ on := 4, ground := Ground.data }, { on := 6, ground := Ground.data }, { on := 4, ground := Ground.chain }], guard := none }) rfl (fun K hK => ?_) AllReadyH.nil
              refine step_app entTy entOk rfl (.tmp 45) (.tmp 47) rfl rfl rfl ho2 (SlIn.one (x := (⟨xi, xb, true⟩ : Ent)) hx2 entOk rfl) HM3.out HM4.out (Below.size (hn2)) ?_
              intro va3 wa3 ho3 hg3 _
              have hn3 := New.grown (hn2) hg3 (fun k hk => Owns.blockGe ho2 k hk)
              refine hK.out _ _ ?_ (fun hHeld => ?_)
              · exact Held.of hn3
              clear hK K
              try simp only [Act.put, List.setIfInBounds_toArray, List.set_cons_zero, List.set_cons_succ]
              refine wpAnyH_take (i := 8) (oi := { dst := some 9, op := Op.assign (Operand.tmp 48), type := 28, pos := "ref.go:72", after := #[{ on := 7, ground := Ground.data }, { on := 7, ground := Ground.chain }, { on := 0, ground := Ground.phase }, { on := 1, ground := Ground.phase }, { on := 2, ground := Ground.phase }, { on := 3, ground := Ground.phase }, { on := 4, ground := Ground.phase }, { on := 5, ground := Ground.phase }, { on := 6, ground := Ground.phase }, { on := 7, ground := Ground.phase }], guard := none }) (v := ?_) rfl (by kernel_rfl) (by kernel_rfl) (by kernel_rfl) (fun _ _ _ h => h) (Or.inl ⟨by rfl, ?_⟩) (by assumption) ?_
              rotate_left
              · (intro wq hSw; (try dsimp only at hSw); go_simp; first | done | with_reducible rfl)
              try simp only [Act.put, List.setIfInBounds_toArray, List.set_cons_zero, List.set_cons_succ]
              refine wpAnyH_done (by kernel_rfl) ?_ _
              have hnl := hn3
              have hol := ho3
              rw [List.nil_append] at hol
              clear hHeld
              generalize wa3 = wl at *
              have HRL := Lib.hid (HRQ.out.keep hnl)
              have HBL := Lib.hid (HBQ.out.new hnl)
              have HOL := Lib.hid hol
              have HZL : Hid (wq.heap.size ≤ wl.heap.size) := Lib.hid (Below.size hnl)
              clear hnl p0 p1 p2 p3 pz
              by_cases hvq : c5 = q
              · have hD : SlIn wl 3 entC (.slice A5 0 0) (L.drop q) := by rw [List.drop_eq_nil_of_le (by omega)]; exact SlIn.empty _ _ _ _ _
                subst hvq
                go_wp2_with (first | (at_builtin; refine wpList_app entTy entOk rfl _ _ rfl rfl rfl hol hD HM5.out HM6.out HZL.out ?_; intro v9 w9 ho9 hg9 hb9; have HK9 := Lib.hid (rd_mid HRL.out HBL.out HOL.out ho9 hg9 HSZ.out HOB.out HWR.out); obtain ⟨p0, p1, p2, p3, pz⟩ := Blk3R HK9.out.1; obtain ⟨sA9, sn9, sc9, hsv9⟩ := entShape (Owns.slIn entOk ho9); subst hsv9; have hoy := HK9.out.2.1.alloc (.cells #[.int .i64 xi, .string xb, .bool false] 32); have hyb := Blk.mk_new (w9.setCell ⟨wo.heap.size, 2, none⟩ (.bool false)) 32 #[.int .i64 xi, .string xb, .bool false]; rw [World.size_setCell] at hyb; have hzy := HK9.out.2.2.2.1 (.cells #[.int .i64 xi, .string xb, .bool false] 32); have HO9 := Lib.hid ho9; clear ho9 hg9 hb9) | (at_builtin; refine wpList_app entTy entOk rfl _ _ rfl rfl rfl hoy (SlIn.one (x := clE (⟨xi, xb, true⟩ : Ent)) hyb entOk rfl) HM7.out HM8.out hzy ?_; intro va wa hoa hga hba))
                go_roundw
                case rel => exact ⟨n4 + 1, by omega, by go_num, _, RD.next (HK9.out.2.2.1.alloc _) hoy (HK9.out.2.2.2.2.1.new ((New.refl _).alloc _)) (fun _ => HK9.out.2.2.2.2.2.1) (by rw [HTF.out]; exact (perm_ins L (⟨xi, xb, true⟩ : Ent) c5).trans (HR7.out.prm.append_right _)) (up_ins HR7.out.up_ HNEAR.out HFAR.out) HTM.out hoa hga hba HK9.out.2.2.2.2.2.2⟩
                case measure => simp [intOf]; omega
              · have hD := HRL.out.row.drop_far (k := q) (by omega) hvq
                go_wp2_with (first | (at_builtin; refine wpList_app entTy entOk rfl _ _ rfl rfl rfl hol hD HM5.out HM6.out HZL.out ?_; intro v9 w9 ho9 hg9 hb9; have HK9 := Lib.hid (rd_mid HRL.out HBL.out HOL.out ho9 hg9 HSZ.out HOB.out HWR.out); obtain ⟨p0, p1, p2, p3, pz⟩ := Blk3R HK9.out.1; obtain ⟨sA9, sn9, sc9, hsv9⟩ := entShape (Owns.slIn entOk ho9); subst hsv9; have hoy := HK9.out.2.1.alloc (.cells #[.int .i64 xi, .string xb, .bool false] 32); have hyb := Blk.mk_new (w9.setCell ⟨wo.heap.size, 2, none⟩ (.bool false)) 32 #[.int .i64 xi, .string xb, .bool false]; rw [World.size_setCell] at hyb; have hzy := HK9.out.2.2.2.1 (.cells #[.int .i64 xi, .string xb, .bool false] 32); have HO9 := Lib.hid ho9; clear ho9 hg9 hb9) | (at_builtin; refine wpList_app entTy entOk rfl _ _ rfl rfl rfl hoy (SlIn.one (x := clE (⟨xi, xb, true⟩ : Ent)) hyb entOk rfl) HM7.out HM8.out hzy ?_; intro va wa hoa hga hba))
                go_roundw
                case rel => exact ⟨n4 + 1, by omega, by go_num, _, RD.next (HK9.out.2.2.1.alloc _) hoy (HK9.out.2.2.2.2.1.new ((New.refl _).alloc _)) (fun _ => HK9.out.2.2.2.2.2.1) (by rw [HTF.out]; exact (perm_ins L (⟨xi, xb, true⟩ : Ent) q).trans (HR7.out.prm.append_right _)) (up_ins HR7.out.up_ HNEAR.out HFAR.out) HTM.out hoa hga hba HK9.out.2.2.2.2.2.2⟩
                case measure => simp [intOf]; omega
    · have hlt' : ¬ (k : Int) < (E.length : Int) := by omega
      obtain rfl : k = E.length := by omega
      have h1 := hR.own
      have h2 := hR.prm
      rw [List.take_length] at h1 h2
      go_wp2_with fail
      go_ret2
      exact ⟨.slice A4 n4 c4, .slice A5 L.length c5, L, rfl, Owns.slIn entOk h1, hR.row, h2, hR.up_, hR.new, fun b off n c e => (h1.lt b (by rw [e]; rfl)).1, hR.fr⟩
end Go.Proofs.Ytcganajbfplmpaa
