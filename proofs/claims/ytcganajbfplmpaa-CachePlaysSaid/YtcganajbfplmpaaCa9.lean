/- Chapter 11 (cache): Dirty, walked. -/
import Derived.Test.YtcganajbfplmpaaCa8
import Derived.LaidEqlPtr
namespace Go.Proofs.Ytcganajbfplmpaa
open Go.RowKit Go.Lap Go.Sort Go.Shelf
set_option linter.unusedVariables false

theorem owns_ent {w : World} {base : Nat} {v : Value} {l : List Nd} (h : Owns w base 32 3 eEnc v l) : Owns w base 32 3 entC v (l.map Nd.ent) := by
  have h2 : (l.map Nd.ent).flatMap entC = l.flatMap eEnc := by rw [List.flatMap_map]; rfl
  show World.ownsRow _ _ _ _ _ (l.map Nd.ent).length ((l.map Nd.ent).flatMap entC)
  rw [h2, List.length_map]
  exact h
theorem ownsUpdC {α : Type} {w w' : World} {S : Nat → Prop} {v : Value} {base e size : Nat} {enc : α → List Value} {l : List α} (h : Owns w base e size enc v l) (hu : Upd S w w') (hS : ∀ k, v.ownBlock = some k → ¬ S k) : Owns w' base e size enc v l := by
  refine ⟨h.1, ?_⟩
  rcases h.2 with h2 | ⟨g, cap, cur, rfl, hg, hh, r⟩
  · exact .inl h2
  · exact .inr ⟨g, cap, cur, rfl, hg, Blk.upd (t := e) (cs := cur) hh hu (hS g rfl), r⟩
theorem CaAt.ltS {w : World} {c mb : Nat} {room : Int} {l : List Nd} (h : CaAt w c room mb l) (j : Nat) (hj : CaS c mb l j) : j < w.heap.size := by
  rcases hj with rfl | rfl | hj
  · exact h.map.lt
  · exact h.ring.ca.lt
  · obtain ⟨y, hy, rfl⟩ := List.mem_map.1 hj
    obtain ⟨i, hi⟩ := List.getElem?_of_mem hy
    exact (h.ring.nd i y hi).lt
theorem CaAt.updS {S : Nat → Prop} {w w' : World} {c mb : Nat} {room : Int} {l : List Nd} (h : CaAt w c room mb l) (hu : Upd S w w') (hS : ∀ j, CaS c mb l j → ¬ S j) : CaAt w' c room mb l :=
  h.upd hu (hS _ (.inr (.inl rfl))) (hS _ (.inl rfl)) (fun x hx => hS _ (.inr (.inr (List.mem_map.2 ⟨x, hx, rfl⟩))))
/-- What Dirty tells: the dirty entries, by rising numbers. -/
def DirtyPost (w : World) (c mb : Nat) (room : Int) (l : List Nd) (e : Ending) (w' : World) : Prop :=
  ∃ (u : Value) (D : List Ent), e = .returned u ∧ SlIn w' 3 entC u D ∧ D.Perm ((l.filter (·.d)).map Nd.ent) ∧ (D.Pairwise fun x y => x.id < y.id) ∧ (∀ k, u.ownBlock = some k → w.heap.size ≤ k) ∧ CaAt w' c room mb (l.map cl1) ∧ Upd (CaS c mb l) w w'

set_option maxRecDepth 100000 in
set_option maxHeartbeats 8000000 in
theorem dirty_any {c mb : Nat} {room : Int} {l : List Nd} (w : World) (h : CaAt w c room mb l) (hl : l.length ≤ 100000) : Calls Try.prog 20 #[.pointer (some ⟨c, 0, none⟩)] w (DirtyPost w c mb room l) := by
  obtain ⟨c0, c1, c2, c3, c4, cz⟩ := caF h.ring.ca
  go_enter Try.func20, Try.ntmps20
  go_wp2_with fail
  go_loopw [3, 4] (fun s p wr => ∃ k : Nat, k ≤ l.length ∧ p = .pointer (some (adr c l (k + 1))) ∧ CaAt wr c room mb (clr l k) ∧ Owns wr w.heap.size 32 3 eEnc s ((l.take k).filter (·.d)) ∧ Upd (CaS c mb l) w wr) (fun _ p _ => l.length - posOf l p)
  case atStart => exact ⟨0, by omega, rfl, h, Owns.nil _ _ _ _ _, Upd.refl _ _⟩
  case round =>
    obtain ⟨k, hk, rfl, h', ho, hu⟩ := hrel
    obtain ⟨sA, sc, rfl, -, -⟩ := Owns.slIn eEncOk ho
    have HU := Lib.hid hu
    clear hu
    by_cases hlt : k < l.length
    · obtain ⟨x, hx⟩ : ∃ x, l[k]? = some x := ⟨_, List.getElem?_eq_getElem hlt⟩
      have hpos := posOf_adr h.ring (k := k) hk
      have hpos1 := posOf_adr h.ring (k := k + 1) (by omega)
      rw [adr_at hx] at hpos ⊢
      obtain ⟨nj, hnj, hnz⟩ := nodeInfo
      have hcx := clr_at hx
      have hneq := run_neq_other wr Try.underlying87 hnj hnz (a := ⟨x.g, 0, none⟩) (b := ⟨c, 2, none⟩) (by intro e; injection e; omega) (h'.ring.nd k x hcx) h'.ring.ca
      have hnd := h'.ring.nd k x hcx
      rw [adr_clr k hk, adr_clr k hk] at hnd
      obtain ⟨x0, x1, x2, x3, x4, x5, xz⟩ := ndF hnd
      have HPOS := Lib.hid (And.intro hpos hpos1)
      clear hpos hpos1 c0 c1 c2 c3 c4 cz
      obtain ⟨c0, c1, c2, c3, c4, cz⟩ := caF h'.ring.ca
      cases hd : x.d with
      | false =>
        rw [hd] at x3
        have hst : clr l (k + 1) = clr l k := by
          rw [clr_step hx]
          have : cl1 x = x := by unfold cl1; rw [← hd]
          rw [this]
          obtain ⟨hi, he⟩ := List.getElem?_eq_some_iff.1 hcx
          rw [← he, List.set_getElem_self]
        have hft : (l.take (k + 1)).filter (·.d) = (l.take k).filter (·.d) := by
          rw [List.take_add_one, hx]; simp [hd]
        have HH := Lib.hid (show CaAt wr c room mb (clr l (k + 1)) by rw [hst]; exact h')
        have HO := Lib.hid (show Owns wr w.heap.size 32 3 eEnc (.slice sA ((l.take k).filter (·.d)).length sc) ((l.take (k + 1)).filter (·.d)) by rw [hft]; exact ho)
        clear hst hft hd
        go_wp2_with fail
        go_roundw
        case rel => exact ⟨k + 1, by omega, rfl, HH.out, HO.out, HU.out⟩
        case measure => have h1 := HPOS.out.1; have h2 := HPOS.out.2; simp only [h1, h2]; omega
      | true =>
        rw [hd] at x3
        have hlen : ((l.take k).filter (·.d)).length ≤ k := by
          have h1 := List.length_filter_le (fun y : Nd => y.d) (l.take k)
          rw [List.length_take] at h1
          omega
        have HT := Lib.hid (show (l.take k).filter (·.d) ++ [x] = (l.take (k + 1)).filter (·.d) by rw [List.take_add_one, hx]; simp [hd])
        generalize hD : (l.take k).filter (·.d) = D at ho hlen HT ⊢
        have hyb := Blk.mk_new wr 32 #[.int .i64 x.id, .string x.b, .bool true]
        have hoy := ho.alloc (.cells #[.int .i64 x.id, .string x.b, .bool true] 32)
        have hny := (New.refl wr).alloc (.cells #[.int .i64 x.id, .string x.b, .bool true] 32)
        have hsl : SlIn (wr.alloc (.cells #[.int .i64 x.id, .string x.b, .bool true] 32)) 3 eEnc (.slice (some ⟨wr.heap.size, 0, none⟩) 1 1) [x] := SlIn.one (x := x) hyb eEncOk (by simp [eEnc, hd])
        have HM1 := Lib.hid (show D.length + [x].length ≤ maxLen by unfold maxLen; simp only [List.length_singleton]; omega)
        have HM2 := Lib.hid (show (D.length + [x].length) * 32 ≤ 140737488355328 by simp only [List.length_singleton]; omega)
        have HM3 := Lib.hid (show w.heap.size ≤ (wr.alloc (.cells #[.int .i64 x.id, .string x.b, .bool true] 32)).heap.size from Nat.le_trans HU.out.size hny.size)
        have HX := Lib.hid hx
        have HXW := Lib.hid (h.ring.nd k x hx).lt
        have HD := Lib.hid hd
        have HCX := Lib.hid hcx
        have hbo : ∀ j, (Value.slice sA D.length sc).ownBlock = some j → w.heap.size ≤ j := fun j hj => (ho.lt j hj).1
        clear hx hcx hd hD
        go_wp2_with (at_builtin; refine wpList_app eTy eEncOk rfl _ _ rfl rfl rfl hoy hsl HM1.out HM2.out HM3.out ?_; intro v9 w9 ho9 hg9 hb9; obtain ⟨A9, c9, hv9, -, -⟩ := Owns.slIn eEncOk ho9; subst hv9; have hU9 : Upd (fun j => (Value.slice sA D.length sc).ownBlock = some j) wr w9 := (Upd.new hny).grown hg9 (fun j _ hj => hj); have hnd9 := hnd.upd hU9 (fun e => by have := hbo _ e; have := HXW.out; omega); obtain ⟨y0, y1, y2, y3, y4, y5, yz⟩ := ndF hnd9; rw [HD.out] at y3)
        go_roundw
        case rel =>
          have hk9 : CaAt w9 c room mb (clr l k) := h'.updS hU9 (fun j hj e => by
            have h1 := hbo _ e
            have h2 := h.ltS j ((CaS_clr hk j).1 hj)
            omega)
          have hkc := hk9.clear HCX.out
          rw [← clr_step HX.out] at hkc
          have hus : Upd (· = x.g) w9 (w9.setCell ⟨x.g, 2, none⟩ (.bool false)) := (Upd.refl (· = x.g) w9).setCell (p := ⟨x.g, 2, none⟩) (fun _ => rfl) _
          have hxS : CaS c mb l x.g := .inr (.inr (List.mem_map.2 ⟨x, List.mem_of_getElem? HX.out, rfl⟩))
          have hoz := ownsUpdC ho9 hus (fun j hj e => by
            have h1 := (ho9.lt j hj).1
            have h2 := HXW.out
            omega)
          rw [HT.out] at hoz
          refine ⟨k + 1, by omega, rfl, hkc, ?_, (HU.out.trans hU9 (fun j hj e => by have := hbo _ e; omega)).trans hus (fun j _ e => by rw [e]; exact hxS)⟩
          rw [show ((l.take (k + 1)).filter (·.d)).length = D.length + 1 by rw [← HT.out]; simp] at hoz
          exact hoz
        case measure => have h1 := HPOS.out.1; have h2 := HPOS.out.2; simp only [h1, h2]; omega
    · obtain rfl : k = l.length := by omega
      rw [adr_end (Nat.le_refl _)]
      obtain ⟨nj, hnj, hnz⟩ := nodeInfo
      have hneq := run_neq_same wr ⟨c, 2, none⟩ Try.underlying87 hnj
      rw [List.take_length] at ho ⊢
      rw [clr_all] at h'
      have hoe := owns_ent ho
      have HOE := Lib.hid hoe
      have HA := Lib.hid h'
      have HO := Lib.hid ho
      have hlf : (l.filter (·.d)).length ≤ l.length := List.length_filter_le _ _
      have HND := Lib.hid (show (((l.filter (·.d)).map Nd.ent).map (·.id)).Nodup by
        rw [List.map_map]
        exact h.ids.sublist (List.Sublist.map _ List.filter_sublist))
      clear hoe h' ho
      go_wp2_with fail
      refine (sort_ent wr HOE.out (by rw [List.length_map]; omega) HND.out).mono ?_
      rintro e w9 ⟨rfl, l9, hs9, hp9, hr9, hu9⟩
      go_wp2_with fail
      go_ret
      have hbo : ∀ j, (Value.slice sA (l.filter (·.d)).length sc).ownBlock = some j → w.heap.size ≤ j := fun j hj => (HO.out.lt j hj).1
      exact ⟨_, l9, rfl, hs9, hp9, hr9, hbo, HA.out.updS hu9 (fun j hj e => by
        have h1 := hbo _ e
        have h2 : j < w.heap.size := h.ltS j (by
          have := (CaS_clr (c := c) (mb := mb) (l := l) (k := l.length) (Nat.le_refl _) j).1
          rw [clr_all] at this
          exact this hj)
        omega), HU.out.trans hu9 (fun j hj e => by have := hbo _ e; omega)⟩
end Go.Proofs.Ytcganajbfplmpaa
