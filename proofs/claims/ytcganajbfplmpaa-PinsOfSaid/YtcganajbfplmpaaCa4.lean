/- Chapter 11 (cache): Put. Printed by genCa4.py. -/
import Derived.Test.YtcganajbfplmpaaCaL
import Derived.Maps.OwnOps
import Derived.Deep.QuietTactic
import Derived.BigQuiet
namespace Go.Proofs.Ytcganajbfplmpaa
open Go.RowKit Go.Lap
set_option linter.unusedVariables false

theorem Blk3G {w : World} {g t : Nat} {a b c : Value} (h : Blk w g t #[a, b, c]) : g < w.heap.size ∧ w.cell? ⟨g, 0, none⟩ = some a ∧ w.cell? ⟨g, 1, none⟩ = some b ∧ w.cell? ⟨g, 2, none⟩ = some c ∧ (∀ i, w.frozen? ⟨g, i, none⟩ = false) := ⟨h.lt, h.cell 0, h.cell 1, h.cell 2, h.frozen⟩
theorem keyInt : KeyB Try.prog 3 (fun n : Int => Value.int .i64 n) (fun n => Lit.int .i64 n) (fun n => (Lit.int .i64 n).wf = true) := keyI Try.underlying3
theorem zeroN (w : World) : (zeroValue 87).run Try.prog w = .ok (.pointer none) w := by kernel_rfl
theorem mpLen {P : Program} {kt t e b m : Nat} {κ : Type} {lit : κ → Lit} {ok : κ → Prop} {w : World} {f : κ → Option Value} (h : MpAt P kt lit ok w b m f) (ht : P.underlying t = some (.map kt e)) (ty : TypeId) :
    (Builtin.len_ #[t] ty #[.map (some b)]).run P w = .ok (.int .i64 (m : Int)) w := by
  obtain ⟨D, h1, _, h3, _⟩ := h
  rw [← h3]
  exact h1.len ht ty
theorem mpDel {P : Program} {kt t e b m : Nat} {κ : Type} [DecidableEq κ] {val : κ → Value} {lit : κ → Lit} {ok : κ → Prop} {w : World} {f : κ → Option Value} (B : KeyB P kt val lit ok) (h : MpAt P kt lit ok w b m f) (ht : P.underlying t = some (.map kt e)) (ty : TypeId) (k : κ) (hk : ok k) :
    ∃ w', (Builtin.delete_ #[t, kt] ty #[.map (some b), val k]).run P w = .ok (.tuple #[]) w' ∧ MpAt P kt lit ok w' b (if (f k).isSome then m - 1 else m) (fun j => if j = k then none else f j) ∧ w.grownBy w' (some b) := by
  obtain ⟨D, h1, h2, h3, h4⟩ := id h
  obtain ⟨w', hrun, h1', hg'⟩ := h1.drop B.keyed ht (B.read k hk) ty
  have hsz : Maps.size (D.del (lit k)) = if (f k).isSome then m - 1 else m := by
    have := Maps.size_del (k := lit k) h2
    rw [(h4 k hk).1, h3] at this
    split at this <;> simp_all <;> omega
  refine ⟨w', hrun, ⟨_, by rw [← hsz]; exact ownsMap_tight h1', h2.del _, hsz, fun j hj => ?_⟩, hg'.grown⟩
  by_cases hjk : j = k
  · subst hjk
    dsimp only
    rw [if_pos rfl]
    exact ⟨by rw [Maps.has_del_same]; rfl, fun u hu => by cases hu⟩
  · have hne := B.ne j k hj hk hjk
    dsimp only
    rw [if_neg hjk]
    exact ⟨by rw [Maps.has_del_other hne]; exact (h4 j hj).1, fun u hu z => by rw [Maps.atKey_del_other hne]; exact (h4 j hj).2 u hu z⟩
structure Ent where
  id : Int
  b : ByteArray
  d : Bool
def Nd.ent (x : Nd) : Ent := ⟨x.id, x.b, x.d⟩
/-- The entries behind a Put, ahead of what goes. -/
def frontE (l : List Ent) (id : Int) (b : ByteArray) (d : Bool) : List Ent :=
  match l.find? fun x => decide (x.id = id) with
  | some x => ⟨id, b, d || x.d⟩ :: l.eraseIdx (l.findIdx fun x => decide (x.id = id))
  | none => ⟨id, b, d⟩ :: l
theorem CaAt.upd {S : Nat → Prop} {w w' : World} {c mb : Nat} {room : Int} {l : List Nd} (h : CaAt w c room mb l) (hu : Upd S w w') (hc : ¬ S c) (hm : ¬ S mb) (hl : ∀ x ∈ l, ¬ S x.g) : CaAt w' c room mb l := ⟨h.ring.keep hu hc hl, h.map.upd hu hm, h.mc, h.ml, h.ids⟩
set_option maxRecDepth 100000 in
set_option maxHeartbeats 8000000 in
theorem put_hit {c mb : Nat} {room : Int} {l : List Nd} (w : World) (h : CaAt w c room mb l) {i : Nat} {x : Nd} (hx : l[i]? = some x) (hl : (l.length : Int) ≤ room) (hid : (Lit.int .i64 x.id).wf = true) (b : ByteArray) (d : Bool) :
    Calls Try.prog 13 #[.pointer (some ⟨c, 0, none⟩), .int .i64 x.id, .string b, .bool d] w fun e w' => e = .returned (.tuple #[.agg #[.int .i64 0, .string ⟨#[]⟩, .bool false], .bool false]) ∧ CaAt w' c room mb (⟨x.g, x.id, b, d || x.d⟩ :: l.eraseIdx i) ∧ Upd (CaS c mb l) w w' := by
  have hN := (New.refl w).alloc (.cells #[.int .i64 0, .string ⟨#[]⟩, .bool false] 32)
  have hR := Blk.mk_new w 32 #[.int .i64 0, .string ⟨#[]⟩, .bool false]
  have h1 := h.new hN
  have hm := mapF_at h.ids hx
  go_enter Try.func13, Try.ntmps13
  go_upto_region 1 with fail
  generalize w.alloc _ = w1 at *
  obtain ⟨c0, c1, c2, c3, c4, cz⟩ := caF h1.ring.ca
  go_wp2_with (at_lookup; refine wpList_mp_ok keyInt rfl _ _ 86 87 rfl Try.underlying86 (zeroN _) rfl h1.map x.id hid rfl ?_; rw [hm]; dsimp only [Option.getD, Option.isSome])
  refine (out_any w1 h1.ring hx).mono ?_
  rintro e w2 ⟨rfl, hr2, ⟨pa, pb, hx2⟩, hu2⟩
  have hgc := h1.ring.ne x (List.mem_of_getElem? hx)
  have hgm := h1.ml x (List.mem_of_getElem? hx)
  have hgr : x.g ≠ w.heap.size := by have := (h.ring.nd i x hx).lt; omega
  have hcr : c ≠ w.heap.size := by have := h.ring.ca.lt; omega
  have hR2 := hR.upd hu2 (by rintro (e | e); exact hcr e.symm; obtain ⟨y, hy, hg⟩ := List.mem_map.1 e; obtain ⟨j, hj⟩ := List.getElem?_of_mem hy; have := (h.ring.nd j y hj).lt; omega)
  have hm2 := h1.map.upd hu2 (by rintro (e | e); exact h1.mc e; obtain ⟨y, hy, hg⟩ := List.mem_map.1 e; exact h1.ml y hy hg)
  obtain ⟨x0, x1, x2, x3, x4, x5, xz⟩ := ndF hx2
  clear c0 c1 c2 c3 c4 cz
  have hyl : ∀ y ∈ l.eraseIdx i, y.g ≠ x.g := fun y hy e => by
    obtain ⟨j, hj, hjy⟩ := List.mem_eraseIdx_iff_getElem?.1 hy
    exact hj (h.ring.inj hjy hx e)
  have hr3 : ∀ u : Value, Ring ((w2.setCell ⟨x.g, 1, none⟩ (.string b)).setCell ⟨x.g, 2, none⟩ u) c room mb (l.eraseIdx i) := fun u => hr2.keep (S := (· = x.g)) (((Upd.refl _ w2).setIn 1 _).setIn 2 _) (fun e => hgc e.symm) hyl
  have hx3 : ∀ z : Bool, Blk ((w2.setCell ⟨x.g, 1, none⟩ (.string b)).setCell ⟨x.g, 2, none⟩ (.bool z)) x.g 89 #[.int .i64 x.id, .string b, .bool z, .pointer (some pa), .pointer (some pb)] := fun z => (hx2.set_ 1 (.string b)).set_ 2 (.bool z)
  have hfi : ∀ z : Bool, _ := fun z => first_any _ (hr3 (.bool z)) (x := ⟨x.g, x.id, b, z⟩) (hx3 z) hgc hyl
  have hgy : ∀ y ∈ l.eraseIdx i, y ∈ l := fun y hy => List.mem_of_mem_eraseIdx hy
  have hi := (List.getElem?_eq_some_iff.1 hx).1
  have hll : ∀ z : Bool, ((⟨x.g, x.id, b, z⟩ : Nd) :: l.eraseIdx i).length = l.length := fun z => by rw [List.length_cons, List.length_eraseIdx_of_lt hi]; omega
  have hmid : ∀ (z : Bool) (w4 : World), Ring w4 c room mb (⟨x.g, x.id, b, z⟩ :: l.eraseIdx i) → Upd (RgS c (⟨x.g, x.id, b, z⟩ :: l.eraseIdx i)) ((w2.setCell ⟨x.g, 1, none⟩ (.string b)).setCell ⟨x.g, 2, none⟩ (.bool z)) w4 → CaAt w4 c room mb (⟨x.g, x.id, b, z⟩ :: l.eraseIdx i) ∧ Blk w4 w.heap.size 32 #[.int .i64 0, .string ⟨#[]⟩, .bool false] ∧ Upd (CaS c mb l) w w4 := fun z w4 hr4 hu4 => by
    have hu3 : Upd (· = x.g) w2 ((w2.setCell ⟨x.g, 1, none⟩ (.string b)).setCell ⟨x.g, 2, none⟩ (.bool z)) := ((Upd.refl _ w2).setIn 1 _).setIn 2 _
    have hS : ∀ k, RgS c (⟨x.g, x.id, b, z⟩ :: l.eraseIdx i) k → RgS c l k := fun k hk => hk.imp id fun e => by
      obtain ⟨y, hy, he⟩ := List.mem_map.1 e
      rcases List.mem_cons.1 hy with rfl | hy
      · exact List.mem_map.2 ⟨x, List.mem_of_getElem? hx, he⟩
      · exact List.mem_map.2 ⟨y, hgy y hy, he⟩
    have hSm : ∀ k, RgS c l k → k ≠ mb := fun k hk => by
      rcases hk with rfl | e
      · exact fun e => h1.mc e.symm
      · obtain ⟨y, hy, he⟩ := List.mem_map.1 e
        rw [← he]; exact h1.ml y hy
    have hSr : ∀ k, RgS c l k → k ≠ w.heap.size := fun k hk => by
      rcases hk with rfl | e
      · exact hcr
      · obtain ⟨y, hy, he⟩ := List.mem_map.1 e
        obtain ⟨j, hj⟩ := List.getElem?_of_mem hy
        have := (h.ring.nd j y hj).lt; omega
    refine ⟨⟨hr4, ?_, h1.mc, ?_, ids_front h.ids hx rfl⟩, ?_, ?_⟩
    · rw [hll z]
      exact ((hm2.upd hu3 (fun e => hgm e.symm)).upd hu4 (fun e => hSm _ (hS _ e) rfl)).congr fun k _ => (mapF_front (y := ⟨x.g, x.id, b, z⟩) h.ids hx rfl rfl k).symm
    · intro y hy
      rcases List.mem_cons.1 hy with rfl | hy
      · exact hgm
      · exact h1.ml y (hgy y hy)
    · exact (hR2.upd hu3 (fun e => hgr e.symm)).upd hu4 (fun e => hSr _ (hS _ e) rfl)
    · exact (((Upd.new (S := CaS c mb l) hN).trans hu2 (fun k _ hk => .inr hk)).trans hu3 (fun k _ hk => .inr (.inr (List.mem_map.2 ⟨x, List.mem_of_getElem? hx, hk.symm⟩)))).trans hu4 (fun k _ hk => .inr (hS k hk))
  have h1m : ¬ mb = w.heap.size := by have := h.map.lt; omega
  have hyr : ∀ {z : Bool}, ∀ y ∈ ((⟨x.g, x.id, b, z⟩ : Nd) :: l.eraseIdx i), ¬ y.g = w.heap.size := fun y hy => by
    rcases List.mem_cons.1 hy with rfl | hy
    · exact hgr
    · obtain ⟨j, hj⟩ := List.getElem?_of_mem (hgy y hy)
      have := (h.ring.nd j y hj).lt; omega
  have HMID := Lib.hid hmid
  clear hmid
  have HFI := Lib.hid hfi
  clear hfi hr3 hx3
  cases d with
  | true =>
    go_upto_region 7 with fail
    go_wp2_with fail
    refine (HFI.out true).mono ?_
    rintro e w4 ⟨rfl, hr4, hu4⟩
    have hmid := HMID.out true _ hr4 hu4
    obtain ⟨c0, c1, c2, c3, c4, cz⟩ := caF hr4.ca
    have HM := Lib.hid hmid
    have hlen := fun n => mpLen (hmid.1.map.new ((New.refl w4).drewN n)) Try.underlying86 3
    simp only [hll] at hlen
    obtain ⟨r0, r1, r2, r3, rz⟩ := Blk3G hmid.2.1
    go_upto_region 8 with fail
    clear hmid hr4 hu4
    go_quiet (fail)
    go_wp2_with fail
    refine bodyPost_ret (v := .tuple #[.agg #[.int .i64 0, .string ⟨#[]⟩, .bool false], .bool false]) (by simp [results, Try.results13, go_sem, r1, r2, r3]) rfl ⟨rfl, HM.out.1.upd (S := (· = w.heap.size)) (((((Upd.refl _ w4).drewN _).setIn 0 _).setIn 1 _).setIn 2 _) hcr h1m hyr, HM.out.2.2.trans (T := (· = w.heap.size)) (((((Upd.refl _ w4).drewN _).setIn 0 _).setIn 1 _).setIn 2 _) (fun k hk e => by omega)⟩
  | false =>
    go_upto_region 7 with fail
    go_wp2_with fail
    refine (HFI.out x.d).mono ?_
    rintro e w4 ⟨rfl, hr4, hu4⟩
    have hmid := HMID.out x.d _ hr4 hu4
    obtain ⟨c0, c1, c2, c3, c4, cz⟩ := caF hr4.ca
    have HM := Lib.hid hmid
    have hlen := fun n => mpLen (hmid.1.map.new ((New.refl w4).drewN n)) Try.underlying86 3
    simp only [hll] at hlen
    obtain ⟨r0, r1, r2, r3, rz⟩ := Blk3G hmid.2.1
    go_upto_region 8 with fail
    clear hmid hr4 hu4
    go_quiet (fail)
    go_wp2_with fail
    refine bodyPost_ret (v := .tuple #[.agg #[.int .i64 0, .string ⟨#[]⟩, .bool false], .bool false]) (by simp [results, Try.results13, go_sem, r1, r2, r3]) rfl ⟨rfl, HM.out.1.upd (S := (· = w.heap.size)) (((((Upd.refl _ w4).drewN _).setIn 0 _).setIn 1 _).setIn 2 _) hcr h1m hyr, HM.out.2.2.trans (T := (· = w.heap.size)) (((((Upd.refl _ w4).drewN _).setIn 0 _).setIn 1 _).setIn 2 _) (fun k hk e => by omega)⟩

set_option maxRecDepth 100000 in
set_option maxHeartbeats 8000000 in
theorem put_room {c mb : Nat} {room : Int} {l : List Nd} (w : World) (h : CaAt w c room mb l) (id : Int) (hm : mapF l id = none) (hl : (l.length : Int) + 1 ≤ room) (hmx : l.length ≤ 100000) (hid : (Lit.int .i64 id).wf = true) (b : ByteArray) (d : Bool) :
    Calls Try.prog 13 #[.pointer (some ⟨c, 0, none⟩), .int .i64 id, .string b, .bool d] w fun e w' => e = .returned (.tuple #[.agg #[.int .i64 0, .string ⟨#[]⟩, .bool false], .bool false]) ∧ CaAt w' c room mb (⟨w.heap.size + 1, id, b, d⟩ :: l) ∧ Upd (CaS c mb l) w w' := by
  have hN := (New.refl w).alloc (.cells #[.int .i64 0, .string ⟨#[]⟩, .bool false] 32)
  have hR := Blk.mk_new w 32 #[.int .i64 0, .string ⟨#[]⟩, .bool false]
  have h1 := h.new hN
  have hs1 := World.size_alloc w (.cells #[.int .i64 0, .string ⟨#[]⟩, .bool false] 32)
  go_enter Try.func13, Try.ntmps13
  go_upto_region 1 with fail
  generalize w.alloc _ = w1 at *
  obtain ⟨c0, c1, c2, c3, c4, cz⟩ := caF h1.ring.ca
  have hX := Blk.mk_new w1 89 #[.int .i64 id, .string ⟨#[]⟩, .bool false, .pointer none, .pointer none]
  have hA := (New.refl w1).alloc (.cells #[.int .i64 id, .string ⟨#[]⟩, .bool false, .pointer none, .pointer none] 89)
  have h2 := h1.new hA
  have hR2 := hR.new hA
  rw [hs1] at hX
  obtain ⟨d0, d1, d2, d3, d4, dz⟩ := caF h2.ring.ca
  have hcw := h.ring.ca.lt
  have hmw := h.map.lt
  have hlw : ∀ y ∈ l, y.g < w.heap.size := fun y hy => by
    obtain ⟨j, hj⟩ := List.getElem?_of_mem hy
    exact (h.ring.nd j y hj).lt
  have hmx2 := Lib.hid (show l.length < maxLen by unfold maxLen; omega)
  go_upto_region 6 with (first | (at_lookup; refine wpList_mp_ok keyInt rfl _ _ 86 87 rfl Try.underlying86 (zeroN _) rfl h1.map id hid rfl ?_; rw [hm]; dsimp only [Option.getD, Option.isSome]) | (at_mapUpdate; refine wpList_mp_put keyInt rfl _ _ _ 86 87 rfl Try.underlying86 rfl h2.map hmx2.out id hid rfl _ rfl ?_; rw [hm]; intro w3 hm3 hg3))
  have hu3 : Upd (· = mb) (w1.alloc (.cells #[.int .i64 id, .string ⟨#[]⟩, .bool false, .pointer none, .pointer none] 89)) w3 := (Upd.refl _ _).grown hg3 (fun k _ e => by injection e with e; exact e.symm)
  have hX3 := hX.upd hu3 (by omega)
  have hR3 := hR2.upd hu3 (by omega)
  have hr3 := h2.ring.keep hu3 (fun e => h.mc e.symm) (fun y hy => h.ml y hy)
  have hm3b : MpAt Try.prog 3 (fun n : Int => Lit.int .i64 n) (fun n => (Lit.int .i64 n).wf = true) w3 mb (l.length + 1) (fun j => if j = id then some (.pointer (some ⟨w.heap.size + 1, 0, none⟩)) else mapF l j) := hm3
  obtain ⟨x0, x1, x2, x3, x4, x5, xz⟩ : w.heap.size + 1 < w3.heap.size ∧ w3.cell? ⟨w.heap.size + 1, 0, none⟩ = some (.int .i64 id) ∧ w3.cell? ⟨w.heap.size + 1, 1, none⟩ = some (.string ⟨#[]⟩) ∧ w3.cell? ⟨w.heap.size + 1, 2, none⟩ = some (.bool false) ∧ w3.cell? ⟨w.heap.size + 1, 3, none⟩ = some (.pointer none) ∧ w3.cell? ⟨w.heap.size + 1, 4, none⟩ = some (.pointer none) ∧ (∀ i, w3.frozen? ⟨w.heap.size + 1, i, none⟩ = false) := ⟨hX3.lt, hX3.cell 0, hX3.cell 1, hX3.cell 2, hX3.cell 3, hX3.cell 4, hX3.frozen⟩
  have hN3 : Upd (CaS c mb l) w w3 := (Upd.new (S := CaS c mb l) (hN.trans hA)).trans hu3 (fun k _ hk => .inl hk)
  clear c0 c1 c2 c3 c4 cz d0 d1 d2 d3 d4 dz hX hR hR2 h1 h2 hA hN hm3 hg3 hu3
  have hyl : ∀ y ∈ l, y.g ≠ w.heap.size + 1 := fun y hy => by have := hlw y hy; omega
  have hr4 : ∀ u : Value, Ring ((w3.setCell ⟨w.heap.size + 1, 1, none⟩ (.string b)).setCell ⟨w.heap.size + 1, 2, none⟩ u) c room mb l := fun u => hr3.keep (S := (· = w.heap.size + 1)) (((Upd.refl _ w3).setIn 1 _).setIn 2 _) (by omega) hyl
  have hfi : ∀ z : Bool, _ := fun z => first_any _ (hr4 (.bool z)) (x := ⟨w.heap.size + 1, id, b, z⟩) ((hX3.set_ 1 (.string b)).set_ 2 (.bool z)) (by show w.heap.size + 1 ≠ c; omega) hyl
  have hmid : ∀ (z : Bool) (w4 : World), Ring w4 c room mb (⟨w.heap.size + 1, id, b, z⟩ :: l) → Upd (RgS c (⟨w.heap.size + 1, id, b, z⟩ :: l)) ((w3.setCell ⟨w.heap.size + 1, 1, none⟩ (.string b)).setCell ⟨w.heap.size + 1, 2, none⟩ (.bool z)) w4 → CaAt w4 c room mb (⟨w.heap.size + 1, id, b, z⟩ :: l) ∧ Blk w4 w.heap.size 32 #[.int .i64 0, .string ⟨#[]⟩, .bool false] ∧ Upd (CaS c mb l) w w4 := fun z w4 hr4 hu4 => by
    have hu3 : Upd (· = w.heap.size + 1) w3 ((w3.setCell ⟨w.heap.size + 1, 1, none⟩ (.string b)).setCell ⟨w.heap.size + 1, 2, none⟩ (.bool z)) := ((Upd.refl _ w3).setIn 1 _).setIn 2 _
    have hS : ∀ k, RgS c (⟨w.heap.size + 1, id, b, z⟩ :: l) k → k = w.heap.size + 1 ∨ RgS c l k := fun k hk => by
      rcases hk with e | e
      · exact .inr (.inl e)
      · rw [List.map_cons] at e; rcases List.mem_cons.1 e with e | e
        · exact .inl e
        · exact .inr (.inr e)
    have hSl : ∀ k, RgS c l k → k < w.heap.size ∧ k ≠ mb := fun k hk => by
      rcases hk with rfl | e
      · exact ⟨hcw, fun e => h.mc e.symm⟩
      · obtain ⟨y, hy, he⟩ := List.mem_map.1 e
        rw [← he]; exact ⟨hlw y hy, h.ml y hy⟩
    refine ⟨⟨hr4, ?_, h.mc, ?_, ?_⟩, ?_, ?_⟩
    · exact ((hm3b.upd hu3 (by omega)).upd hu4 (fun e => by rcases hS _ e with e | e; omega; exact (hSl _ e).2 rfl)).congr fun k _ => (mapF_cons ⟨w.heap.size + 1, id, b, z⟩ l k).symm
    · intro y hy
      rcases List.mem_cons.1 hy with rfl | hy
      · show w.heap.size + 1 ≠ mb; omega
      · exact h.ml y hy
    · rw [List.map_cons, List.nodup_cons]
      refine ⟨fun e => ?_, h.ids⟩
      obtain ⟨y, hy, he⟩ := List.mem_map.1 e
      exact mapF_none.1 hm y hy he
    · exact (hR3.upd hu3 (by omega)).upd hu4 (fun e => by rcases hS _ e with e | e; omega; have := (hSl _ e).1; omega)
    · refine (hN3.trans hu3 (T := (· = w.heap.size + 1)) (fun k hk e => by omega)).trans hu4 (fun k hk e => ?_)
      rcases hS k e with e | e
      · omega
      · exact .inr e
  have HFI := Lib.hid hfi
  have HMID := Lib.hid hmid
  clear hfi hmid hr4 hr3 hX3 hR3 hm3b hN3
  cases d with
  | true =>
    go_upto_region 7 with fail
    go_wp2_with fail
    refine (HFI.out true).mono ?_
    rintro e w4 ⟨rfl, hr4, hu4⟩
    have hmid := HMID.out true _ hr4 hu4
    obtain ⟨c0, c1, c2, c3, c4, cz⟩ := caF hr4.ca
    have HM := Lib.hid hmid
    have hlen := fun n => mpLen (hmid.1.map.new ((New.refl w4).drewN n)) Try.underlying86 3
    simp only [List.length_cons] at hlen
    obtain ⟨r0, r1, r2, r3, rz⟩ := Blk3G hmid.2.1
    have hl2 : ((l.length + 1 : Nat) : Int) ≤ room := by omega
    go_upto_region 8 with fail
    clear hmid hr4 hu4
    go_quiet (fail)
    go_wp2_with fail
    refine bodyPost_ret (v := .tuple #[.agg #[.int .i64 0, .string ⟨#[]⟩, .bool false], .bool false]) (by simp [results, Try.results13, go_sem, r1, r2, r3]) rfl ⟨rfl, HM.out.1.upd (S := (· = w.heap.size)) (((((Upd.refl _ w4).drewN _).setIn 0 _).setIn 1 _).setIn 2 _) (by omega) (by omega) ?_, HM.out.2.2.trans (T := (· = w.heap.size)) (((((Upd.refl _ w4).drewN _).setIn 0 _).setIn 1 _).setIn 2 _) (fun k hk e => by omega)⟩
    intro y hy
    rcases List.mem_cons.1 hy with rfl | hy
    · show ¬ w.heap.size + 1 = w.heap.size; omega
    · have := hlw y hy; omega
  | false =>
    go_upto_region 7 with fail
    go_wp2_with fail
    refine (HFI.out false).mono ?_
    rintro e w4 ⟨rfl, hr4, hu4⟩
    have hmid := HMID.out false _ hr4 hu4
    obtain ⟨c0, c1, c2, c3, c4, cz⟩ := caF hr4.ca
    have HM := Lib.hid hmid
    have hlen := fun n => mpLen (hmid.1.map.new ((New.refl w4).drewN n)) Try.underlying86 3
    simp only [List.length_cons] at hlen
    obtain ⟨r0, r1, r2, r3, rz⟩ := Blk3G hmid.2.1
    have hl2 : ((l.length + 1 : Nat) : Int) ≤ room := by omega
    go_upto_region 8 with fail
    clear hmid hr4 hu4
    go_quiet (fail)
    go_wp2_with fail
    refine bodyPost_ret (v := .tuple #[.agg #[.int .i64 0, .string ⟨#[]⟩, .bool false], .bool false]) (by simp [results, Try.results13, go_sem, r1, r2, r3]) rfl ⟨rfl, HM.out.1.upd (S := (· = w.heap.size)) (((((Upd.refl _ w4).drewN _).setIn 0 _).setIn 1 _).setIn 2 _) (by omega) (by omega) ?_, HM.out.2.2.trans (T := (· = w.heap.size)) (((((Upd.refl _ w4).drewN _).setIn 0 _).setIn 1 _).setIn 2 _) (fun k hk e => by omega)⟩
    intro y hy
    rcases List.mem_cons.1 hy with rfl | hy
    · show ¬ w.heap.size + 1 = w.heap.size; omega
    · have := hlw y hy; omega

set_option maxRecDepth 100000 in
set_option maxHeartbeats 8000000 in
theorem put_full {c mb : Nat} {room : Int} {l : List Nd} (w : World) (h : CaAt w c room mb l) (id : Int) (hm : mapF l id = none) (hl : room < (l.length : Int) + 1) (hwf : ∀ y ∈ l, (Lit.int .i64 y.id).wf = true) (hmx : l.length ≤ 100000) (hid : (Lit.int .i64 id).wf = true) (b : ByteArray) (d : Bool) :
    Calls Try.prog 13 #[.pointer (some ⟨c, 0, none⟩), .int .i64 id, .string b, .bool d] w fun e w' => ∃ z : Nd, ((⟨w.heap.size + 1, id, b, d⟩ : Nd) :: l)[l.length]? = some z ∧ e = .returned (.tuple #[.agg #[.int .i64 z.id, .string z.b, .bool z.d], .bool true]) ∧ CaAt w' c room mb (((⟨w.heap.size + 1, id, b, d⟩ : Nd) :: l).eraseIdx l.length) ∧ Upd (CaS c mb l) w w' := by
  have hN := (New.refl w).alloc (.cells #[.int .i64 0, .string ⟨#[]⟩, .bool false] 32)
  have hR := Blk.mk_new w 32 #[.int .i64 0, .string ⟨#[]⟩, .bool false]
  have h1 := h.new hN
  have hs1 := World.size_alloc w (.cells #[.int .i64 0, .string ⟨#[]⟩, .bool false] 32)
  go_enter Try.func13, Try.ntmps13
  go_upto_region 1 with fail
  generalize w.alloc _ = w1 at *
  obtain ⟨c0, c1, c2, c3, c4, cz⟩ := caF h1.ring.ca
  have hX := Blk.mk_new w1 89 #[.int .i64 id, .string ⟨#[]⟩, .bool false, .pointer none, .pointer none]
  have hA := (New.refl w1).alloc (.cells #[.int .i64 id, .string ⟨#[]⟩, .bool false, .pointer none, .pointer none] 89)
  have h2 := h1.new hA
  have hR2 := hR.new hA
  rw [hs1] at hX
  obtain ⟨d0, d1, d2, d3, d4, dz⟩ := caF h2.ring.ca
  have hcw := h.ring.ca.lt
  have hmw := h.map.lt
  have hlw : ∀ y ∈ l, y.g < w.heap.size := fun y hy => by
    obtain ⟨j, hj⟩ := List.getElem?_of_mem hy
    exact (h.ring.nd j y hj).lt
  have hmx2 := Lib.hid (show l.length < maxLen by unfold maxLen; omega)
  go_upto_region 6 with (first | (at_lookup; refine wpList_mp_ok keyInt rfl _ _ 86 87 rfl Try.underlying86 (zeroN _) rfl h1.map id hid rfl ?_; rw [hm]; dsimp only [Option.getD, Option.isSome]) | (at_mapUpdate; refine wpList_mp_put keyInt rfl _ _ _ 86 87 rfl Try.underlying86 rfl h2.map hmx2.out id hid rfl _ rfl ?_; rw [hm]; intro w3 hm3 hg3))
  have hu3 : Upd (· = mb) (w1.alloc (.cells #[.int .i64 id, .string ⟨#[]⟩, .bool false, .pointer none, .pointer none] 89)) w3 := (Upd.refl _ _).grown hg3 (fun k _ e => by injection e with e; exact e.symm)
  have hX3 := hX.upd hu3 (by omega)
  have hR3 := hR2.upd hu3 (by omega)
  have hr3 := h2.ring.keep hu3 (fun e => h.mc e.symm) (fun y hy => h.ml y hy)
  have hm3b : MpAt Try.prog 3 (fun n : Int => Lit.int .i64 n) (fun n => (Lit.int .i64 n).wf = true) w3 mb (l.length + 1) (fun j => if j = id then some (.pointer (some ⟨w.heap.size + 1, 0, none⟩)) else mapF l j) := hm3
  obtain ⟨x0, x1, x2, x3, x4, x5, xz⟩ : w.heap.size + 1 < w3.heap.size ∧ w3.cell? ⟨w.heap.size + 1, 0, none⟩ = some (.int .i64 id) ∧ w3.cell? ⟨w.heap.size + 1, 1, none⟩ = some (.string ⟨#[]⟩) ∧ w3.cell? ⟨w.heap.size + 1, 2, none⟩ = some (.bool false) ∧ w3.cell? ⟨w.heap.size + 1, 3, none⟩ = some (.pointer none) ∧ w3.cell? ⟨w.heap.size + 1, 4, none⟩ = some (.pointer none) ∧ (∀ i, w3.frozen? ⟨w.heap.size + 1, i, none⟩ = false) := ⟨hX3.lt, hX3.cell 0, hX3.cell 1, hX3.cell 2, hX3.cell 3, hX3.cell 4, hX3.frozen⟩
  have hN3 : Upd (CaS c mb l) w w3 := (Upd.new (S := CaS c mb l) (hN.trans hA)).trans hu3 (fun k _ hk => .inl hk)
  clear c0 c1 c2 c3 c4 cz d0 d1 d2 d3 d4 dz hX hR hR2 h1 h2 hA hN hm3 hg3 hu3
  have hyl : ∀ y ∈ l, y.g ≠ w.heap.size + 1 := fun y hy => by have := hlw y hy; omega
  have hr4 : ∀ u : Value, Ring ((w3.setCell ⟨w.heap.size + 1, 1, none⟩ (.string b)).setCell ⟨w.heap.size + 1, 2, none⟩ u) c room mb l := fun u => hr3.keep (S := (· = w.heap.size + 1)) (((Upd.refl _ w3).setIn 1 _).setIn 2 _) (by omega) hyl
  have hfi : ∀ z : Bool, _ := fun z => first_any _ (hr4 (.bool z)) (x := ⟨w.heap.size + 1, id, b, z⟩) ((hX3.set_ 1 (.string b)).set_ 2 (.bool z)) (by show w.heap.size + 1 ≠ c; omega) hyl
  have hmid : ∀ (z : Bool) (w4 : World), Ring w4 c room mb (⟨w.heap.size + 1, id, b, z⟩ :: l) → Upd (RgS c (⟨w.heap.size + 1, id, b, z⟩ :: l)) ((w3.setCell ⟨w.heap.size + 1, 1, none⟩ (.string b)).setCell ⟨w.heap.size + 1, 2, none⟩ (.bool z)) w4 → CaAt w4 c room mb (⟨w.heap.size + 1, id, b, z⟩ :: l) ∧ Blk w4 w.heap.size 32 #[.int .i64 0, .string ⟨#[]⟩, .bool false] ∧ Upd (CaS c mb l) w w4 := fun z w4 hr4 hu4 => by
    have hu3 : Upd (· = w.heap.size + 1) w3 ((w3.setCell ⟨w.heap.size + 1, 1, none⟩ (.string b)).setCell ⟨w.heap.size + 1, 2, none⟩ (.bool z)) := ((Upd.refl _ w3).setIn 1 _).setIn 2 _
    have hS : ∀ k, RgS c (⟨w.heap.size + 1, id, b, z⟩ :: l) k → k = w.heap.size + 1 ∨ RgS c l k := fun k hk => by
      rcases hk with e | e
      · exact .inr (.inl e)
      · rw [List.map_cons] at e; rcases List.mem_cons.1 e with e | e
        · exact .inl e
        · exact .inr (.inr e)
    have hSl : ∀ k, RgS c l k → k < w.heap.size ∧ k ≠ mb := fun k hk => by
      rcases hk with rfl | e
      · exact ⟨hcw, fun e => h.mc e.symm⟩
      · obtain ⟨y, hy, he⟩ := List.mem_map.1 e
        rw [← he]; exact ⟨hlw y hy, h.ml y hy⟩
    refine ⟨⟨hr4, ?_, h.mc, ?_, ?_⟩, ?_, ?_⟩
    · exact ((hm3b.upd hu3 (by omega)).upd hu4 (fun e => by rcases hS _ e with e | e; omega; exact (hSl _ e).2 rfl)).congr fun k _ => (mapF_cons ⟨w.heap.size + 1, id, b, z⟩ l k).symm
    · intro y hy
      rcases List.mem_cons.1 hy with rfl | hy
      · show w.heap.size + 1 ≠ mb; omega
      · exact h.ml y hy
    · rw [List.map_cons, List.nodup_cons]
      refine ⟨fun e => ?_, h.ids⟩
      obtain ⟨y, hy, he⟩ := List.mem_map.1 e
      exact mapF_none.1 hm y hy he
    · exact (hR3.upd hu3 (by omega)).upd hu4 (fun e => by rcases hS _ e with e | e; omega; have := (hSl _ e).1; omega)
    · refine (hN3.trans hu3 (T := (· = w.heap.size + 1)) (fun k hk e => by omega)).trans hu4 (fun k hk e => ?_)
      rcases hS k e with e | e
      · omega
      · exact .inr e
  have HFI := Lib.hid hfi
  have HMID := Lib.hid hmid
  clear hfi hmid hr4 hr3 hX3 hR3 hm3b hN3
  cases d with
  | true =>
    go_upto_region 7 with fail
    go_wp2_with fail
    refine (HFI.out true).mono ?_
    rintro e w4 ⟨rfl, hr4, hu4⟩
    have hmid := HMID.out true _ hr4 hu4
    obtain ⟨c0, c1, c2, c3, c4, cz⟩ := caF hr4.ca
    have HM := Lib.hid hmid
    have hlen := fun n => mpLen (hmid.1.map.new ((New.refl w4).drewN n)) Try.underlying86 3
    simp only [List.length_cons] at hlen
    obtain ⟨r0, r1, r2, r3, rz⟩ := Blk3G hmid.2.1
    have hl2 : ¬ ((l.length + 1 : Nat) : Int) ≤ room := by omega
    obtain ⟨z, hz⟩ : ∃ z, ((⟨w.heap.size + 1, id, b, true⟩ : Nd) :: l)[l.length]? = some z := ⟨_, List.getElem?_eq_getElem (by simp)⟩
    rw [List.length_cons, adr_at hz] at c3
    go_upto_region 8 with fail
    clear hmid hr4 hu4
    go_quiet (fail)
    go_wp2_with fail
    refine (out_any _ (HM.out.1.ring.new ((New.refl w4).drewN _)) hz).mono ?_
    rintro e w5 ⟨rfl, hr5, ⟨pa, pb, hz5⟩, hu5⟩
    have hids := HM.out.1.ids
    have hml := HM.out.1.ml
    have hzm := hml z (List.mem_of_getElem? hz)
    have hzc := HM.out.1.ring.ne z (List.mem_of_getElem? hz)
    have hSl : ∀ k, RgS c ((⟨w.heap.size + 1, id, b, true⟩ : Nd) :: l) k → k ≠ mb ∧ k ≠ w.heap.size := fun k hk => by
      rcases hk with rfl | e
      · exact ⟨fun e => h.mc e.symm, by omega⟩
      · obtain ⟨y, hy, he⟩ := List.mem_map.1 e
        rw [← he]
        refine ⟨hml y hy, ?_⟩
        rcases List.mem_cons.1 hy with rfl | hy
        · show w.heap.size + 1 ≠ w.heap.size; omega
        · have := hlw y hy; omega
    have hzr := (hSl z.g (.inr (List.mem_map.2 ⟨z, List.mem_of_getElem? hz, rfl⟩))).2
    have hzw : (Lit.int .i64 z.id).wf = true := by rcases List.mem_cons.1 (List.mem_of_getElem? hz) with rfl | hy; exact hid; exact hwf z hy
    have hm5 := (HM.out.1.map.new ((New.refl w4).drewN _)).upd hu5 (fun e => (hSl _ e).1 rfl)
    have hR5 := (HM.out.2.1.new ((New.refl w4).drewN _)).upd hu5 (fun e => (hSl _ e).2 rfl)
    have hU5 := (HM.out.2.2.drewN _).trans hu5 (fun k hk e => .inr (by rcases e with e | e; exact .inl e; rw [List.map_cons] at e; rcases List.mem_cons.1 e with e | e; (simp only at e; have := HM.out.2.2.size; omega); exact .inr e))
    obtain ⟨k0, k1, k2, k3, k4, kz⟩ := caF hr5.ca
    obtain ⟨z0, z1, z2, z3, z4, z5, zz⟩ := ndF hz5
    clear r0 r1 r2 r3 rz c0 c1 c2 c3 c4 cz x0 x1 x2 x3 x4 x5 xz HM HMID HFI hlen
    go_upto_region 12 with fail
    refine wp_region_held_drew (S := fun w' => w'.cell? ⟨c, 1, none⟩ = some (.map (some mb)) ∧ w'.cell? ⟨z.g, 0, none⟩ = some (.int .i64 z.id)) (by kernel_rfl) (⟨k2, z1⟩) (fun hHeld => ?_)
    refine wpAnyH_take (i := 0) (oi := { dst := some 73, op := Op.move (Operand.tmp 0), type := 23, pos := "cache.go:61", after := #[], guard := none }) (v := ?_) rfl (by kernel_rfl) (by kernel_rfl) (by kernel_rfl) (fun _ _ _ h => h) (Or.inl ⟨by rfl, ?_⟩) (by assumption) ?_
    rotate_left
    · (intro wq hSw; (try dsimp only at hSw); go_simp; first | done | with_reducible rfl)
    try simp only [Act.put, List.setIfInBounds_toArray, List.set_cons_zero, List.set_cons_succ]
    refine wpAnyH_take (i := 1) (oi := { dst := some 74, op := Op.nilCheck (Operand.tmp 73), type := 0, pos := "cache.go:61", after := #[{ on := 0, ground := Ground.data }], guard := none }) (v := ?_) rfl (by kernel_rfl) (by kernel_rfl) (by kernel_rfl) (fun _ _ _ h => h) (Or.inl ⟨by rfl, ?_⟩) (by assumption) ?_
    rotate_left
    · (intro wq hSw; (try dsimp only at hSw); go_simp; first | done | with_reducible rfl)
    try simp only [Act.put, List.setIfInBounds_toArray, List.set_cons_zero, List.set_cons_succ]
    refine wpAnyH_take (i := 2) (oi := { dst := some 75, op := Op.fieldAddr 91 (Operand.tmp 74) 1, type := 0, pos := "cache.go:61", after := #[{ on := 1, ground := Ground.data }], guard := none }) (v := ?_) rfl (by kernel_rfl) (by kernel_rfl) (by kernel_rfl) (fun _ _ _ h => h) (Or.inl ⟨by rfl, ?_⟩) (by assumption) ?_
    rotate_left
    · (intro wq hSw; (try dsimp only at hSw); go_simp; first | done | with_reducible rfl)
    try simp only [Act.put, List.setIfInBounds_toArray, List.set_cons_zero, List.set_cons_succ]
    refine wpAnyH_take (i := 3) (oi := { dst := some 76, op := Op.load 86 (Operand.tmp 75), type := 86, pos := "cache.go:61", after := #[{ on := 2, ground := Ground.data }], guard := none }) (v := ?_) rfl (by kernel_rfl) (by kernel_rfl) (by kernel_rfl) (fun _ _ _ h => h) (Or.inl ⟨by rfl, ?_⟩) (by assumption) ?_
    rotate_left
    · (intro wq hSw; (try dsimp only at hSw); go_simp; first | done | with_reducible rfl)
    try simp only [Act.put, List.setIfInBounds_toArray, List.set_cons_zero, List.set_cons_succ]
    refine wpAnyH_take (i := 4) (oi := { dst := some 77, op := Op.move (Operand.tmp 12), type := 87, pos := "cache.go:61", after := #[], guard := none }) (v := ?_) rfl (by kernel_rfl) (by kernel_rfl) (by kernel_rfl) (fun _ _ _ h => h) (Or.inl ⟨by rfl, ?_⟩) (by assumption) ?_
    rotate_left
    · (intro wq hSw; (try dsimp only at hSw); go_simp; first | done | with_reducible rfl)
    try simp only [Act.put, List.setIfInBounds_toArray, List.set_cons_zero, List.set_cons_succ]
    refine wpAnyH_take (i := 5) (oi := { dst := some 78, op := Op.nilCheck (Operand.tmp 77), type := 0, pos := "cache.go:61", after := #[{ on := 4, ground := Ground.data }], guard := none }) (v := ?_) rfl (by kernel_rfl) (by kernel_rfl) (by kernel_rfl) (fun _ _ _ h => h) (Or.inl ⟨by rfl, ?_⟩) (by assumption) ?_
    rotate_left
    · (intro wq hSw; (try dsimp only at hSw); go_simp; first | done | with_reducible rfl)
    try simp only [Act.put, List.setIfInBounds_toArray, List.set_cons_zero, List.set_cons_succ]
    refine wpAnyH_take (i := 6) (oi := { dst := some 79, op := Op.fieldAddr 89 (Operand.tmp 78) 0, type := 0, pos := "cache.go:61", after := #[{ on := 5, ground := Ground.data }], guard := none }) (v := ?_) rfl (by kernel_rfl) (by kernel_rfl) (by kernel_rfl) (fun _ _ _ h => h) (Or.inl ⟨by rfl, ?_⟩) (by assumption) ?_
    rotate_left
    · (intro wq hSw; (try dsimp only at hSw); go_simp; first | done | with_reducible rfl)
    try simp only [Act.put, List.setIfInBounds_toArray, List.set_cons_zero, List.set_cons_succ]
    refine wpAnyH_take (i := 7) (oi := { dst := some 80, op := Op.fieldAddr 32 (Operand.tmp 79) 0, type := 0, pos := "cache.go:61", after := #[{ on := 6, ground := Ground.data }], guard := none }) (v := ?_) rfl (by kernel_rfl) (by kernel_rfl) (by kernel_rfl) (fun _ _ _ h => h) (Or.inl ⟨by rfl, ?_⟩) (by assumption) ?_
    rotate_left
    · (intro wq hSw; (try dsimp only at hSw); go_simp; first | done | with_reducible rfl)
    try simp only [Act.put, List.setIfInBounds_toArray, List.set_cons_zero, List.set_cons_succ]
    refine wpAnyH_take (i := 8) (oi := { dst := some 81, op := Op.load 3 (Operand.tmp 80), type := 3, pos := "cache.go:61", after := #[{ on := 7, ground := Ground.data }], guard := none }) (v := ?_) rfl (by kernel_rfl) (by kernel_rfl) (by kernel_rfl) (fun _ _ _ h => h) (Or.inl ⟨by rfl, ?_⟩) (by assumption) ?_
    rotate_left
    · (intro wq hSw; (try dsimp only at hSw); go_simp; first | done | with_reducible rfl)
    try simp only [Act.put, List.setIfInBounds_toArray, List.set_cons_zero, List.set_cons_succ]
    refine wpAnyH_ready (rs := [9]) (by kernel_rfl) (by simp) ?_
    refine AllReadyH.cons (o := { dst := none, op := Op.call { callee := Callee.builtin Builtin.delete, args := #[Operand.tmp 76, Operand.tmp 81], argTypes := #[86, 3] }, type := 0, pos := "cache.go:61", after := #[{ on := 3, ground := Ground.data }, { on := 8, ground := Ground.data }], guard := none }) rfl (fun K hK => ?_) AllReadyH.nil
    obtain ⟨w6, hrun, hm6, hg6⟩ := mpDel keyInt (hm5.new (New.refl w5).drew) Try.underlying86 0 z.id hzw
    go_simp
    have k9 := (caF ((hr5.new (New.refl w5).drew).ca.grown hg6 (by intro e; injection e with e; exact h.mc e.symm))).2.2.1
    have z9 := (ndF ((hz5.drew).grown hg6 (by intro e; injection e with e; exact hzm e))).2.1
    refine hK.out _ _ ?_ (fun hHeld => ?_)
    · exact ⟨k9, z9⟩
    clear hK K
    try simp only [Act.put, List.setIfInBounds_toArray, List.set_cons_zero, List.set_cons_succ]
    refine wpAnyH_done (by kernel_rfl) ?_ _
    clear hHeld
    have hu6 : Upd (· = mb) w5 w6 := ((Upd.refl _ w5).drew).grown hg6 (fun k _ e => by injection e with e; exact e.symm)
    have hr6 := hr5.keep hu6 (fun e => h.mc e.symm) (fun y hy => hml y (List.mem_of_mem_eraseIdx hy))
    have hz6 := hz5.upd hu6 hzm
    have hR6 := hR5.upd hu6 (by omega)
    have hU6 := hU5.trans hu6 (fun k _ e => .inl e)
    rw [mapF_at hids hz, if_pos (show (some (Value.pointer (some (⟨z.g, 0, none⟩ : Addr)))).isSome = true from rfl)] at hm6
    have HCA : Hid (CaAt w6 c room mb (((⟨w.heap.size + 1, id, b, true⟩ : Nd) :: l).eraseIdx l.length)) := Lib.hid ⟨hr6, by rw [List.length_eraseIdx_of_lt (by simp)]; exact hm6.congr fun k _ => (mapF_erase hids hz k).symm, h.mc, fun y hy => hml y (List.mem_of_mem_eraseIdx hy), ids_erase hids _⟩
    clear k0 k1 k2 k3 k4 kz z0 z1 z2 z3 z4 z5 zz k9 z9 hm6 hr6 hr5 hm5 hz5 hR5 hU5 hu5 hrun hg6
    obtain ⟨r0, r1, r2, r3, rz⟩ := Blk3G hR6
    obtain ⟨z0, z1, z2, z3, z4, z5, zz⟩ := ndF hz6
    go_wp2_with fail
    refine bodyPost_ret (v := .tuple #[.agg #[.int .i64 z.id, .string z.b, .bool z.d], .bool true]) (by simp [results, Try.results13, go_sem, r1, r2, r3]) rfl ⟨z, hz, rfl, HCA.out.upd (S := (· = w.heap.size)) ((((Upd.refl _ w6).setIn 0 _).setIn 1 _).setIn 2 _) (by omega) (by omega) ?_, hU6.trans (T := (· = w.heap.size)) ((((Upd.refl _ w6).setIn 0 _).setIn 1 _).setIn 2 _) (fun k hk e => by omega)⟩
    exact fun y hy => (hSl y.g (.inr (List.mem_map.2 ⟨y, List.mem_of_mem_eraseIdx hy, rfl⟩))).2
  | false =>
    go_upto_region 7 with fail
    go_wp2_with fail
    refine (HFI.out false).mono ?_
    rintro e w4 ⟨rfl, hr4, hu4⟩
    have hmid := HMID.out false _ hr4 hu4
    obtain ⟨c0, c1, c2, c3, c4, cz⟩ := caF hr4.ca
    have HM := Lib.hid hmid
    have hlen := fun n => mpLen (hmid.1.map.new ((New.refl w4).drewN n)) Try.underlying86 3
    simp only [List.length_cons] at hlen
    obtain ⟨r0, r1, r2, r3, rz⟩ := Blk3G hmid.2.1
    have hl2 : ¬ ((l.length + 1 : Nat) : Int) ≤ room := by omega
    obtain ⟨z, hz⟩ : ∃ z, ((⟨w.heap.size + 1, id, b, false⟩ : Nd) :: l)[l.length]? = some z := ⟨_, List.getElem?_eq_getElem (by simp)⟩
    rw [List.length_cons, adr_at hz] at c3
    go_upto_region 8 with fail
    clear hmid hr4 hu4
    go_quiet (fail)
    go_wp2_with fail
    refine (out_any _ (HM.out.1.ring.new ((New.refl w4).drewN _)) hz).mono ?_
    rintro e w5 ⟨rfl, hr5, ⟨pa, pb, hz5⟩, hu5⟩
    have hids := HM.out.1.ids
    have hml := HM.out.1.ml
    have hzm := hml z (List.mem_of_getElem? hz)
    have hzc := HM.out.1.ring.ne z (List.mem_of_getElem? hz)
    have hSl : ∀ k, RgS c ((⟨w.heap.size + 1, id, b, false⟩ : Nd) :: l) k → k ≠ mb ∧ k ≠ w.heap.size := fun k hk => by
      rcases hk with rfl | e
      · exact ⟨fun e => h.mc e.symm, by omega⟩
      · obtain ⟨y, hy, he⟩ := List.mem_map.1 e
        rw [← he]
        refine ⟨hml y hy, ?_⟩
        rcases List.mem_cons.1 hy with rfl | hy
        · show w.heap.size + 1 ≠ w.heap.size; omega
        · have := hlw y hy; omega
    have hzr := (hSl z.g (.inr (List.mem_map.2 ⟨z, List.mem_of_getElem? hz, rfl⟩))).2
    have hzw : (Lit.int .i64 z.id).wf = true := by rcases List.mem_cons.1 (List.mem_of_getElem? hz) with rfl | hy; exact hid; exact hwf z hy
    have hm5 := (HM.out.1.map.new ((New.refl w4).drewN _)).upd hu5 (fun e => (hSl _ e).1 rfl)
    have hR5 := (HM.out.2.1.new ((New.refl w4).drewN _)).upd hu5 (fun e => (hSl _ e).2 rfl)
    have hU5 := (HM.out.2.2.drewN _).trans hu5 (fun k hk e => .inr (by rcases e with e | e; exact .inl e; rw [List.map_cons] at e; rcases List.mem_cons.1 e with e | e; (simp only at e; have := HM.out.2.2.size; omega); exact .inr e))
    obtain ⟨k0, k1, k2, k3, k4, kz⟩ := caF hr5.ca
    obtain ⟨z0, z1, z2, z3, z4, z5, zz⟩ := ndF hz5
    clear r0 r1 r2 r3 rz c0 c1 c2 c3 c4 cz x0 x1 x2 x3 x4 x5 xz HM HMID HFI hlen
    go_upto_region 12 with fail
    refine wp_region_held_drew (S := fun w' => w'.cell? ⟨c, 1, none⟩ = some (.map (some mb)) ∧ w'.cell? ⟨z.g, 0, none⟩ = some (.int .i64 z.id)) (by kernel_rfl) (⟨k2, z1⟩) (fun hHeld => ?_)
    refine wpAnyH_take (i := 0) (oi := { dst := some 73, op := Op.move (Operand.tmp 0), type := 23, pos := "cache.go:61", after := #[], guard := none }) (v := ?_) rfl (by kernel_rfl) (by kernel_rfl) (by kernel_rfl) (fun _ _ _ h => h) (Or.inl ⟨by rfl, ?_⟩) (by assumption) ?_
    rotate_left
    · (intro wq hSw; (try dsimp only at hSw); go_simp; first | done | with_reducible rfl)
    try simp only [Act.put, List.setIfInBounds_toArray, List.set_cons_zero, List.set_cons_succ]
    refine wpAnyH_take (i := 1) (oi := { dst := some 74, op := Op.nilCheck (Operand.tmp 73), type := 0, pos := "cache.go:61", after := #[{ on := 0, ground := Ground.data }], guard := none }) (v := ?_) rfl (by kernel_rfl) (by kernel_rfl) (by kernel_rfl) (fun _ _ _ h => h) (Or.inl ⟨by rfl, ?_⟩) (by assumption) ?_
    rotate_left
    · (intro wq hSw; (try dsimp only at hSw); go_simp; first | done | with_reducible rfl)
    try simp only [Act.put, List.setIfInBounds_toArray, List.set_cons_zero, List.set_cons_succ]
    refine wpAnyH_take (i := 2) (oi := { dst := some 75, op := Op.fieldAddr 91 (Operand.tmp 74) 1, type := 0, pos := "cache.go:61", after := #[{ on := 1, ground := Ground.data }], guard := none }) (v := ?_) rfl (by kernel_rfl) (by kernel_rfl) (by kernel_rfl) (fun _ _ _ h => h) (Or.inl ⟨by rfl, ?_⟩) (by assumption) ?_
    rotate_left
    · (intro wq hSw; (try dsimp only at hSw); go_simp; first | done | with_reducible rfl)
    try simp only [Act.put, List.setIfInBounds_toArray, List.set_cons_zero, List.set_cons_succ]
    refine wpAnyH_take (i := 3) (oi := { dst := some 76, op := Op.load 86 (Operand.tmp 75), type := 86, pos := "cache.go:61", after := #[{ on := 2, ground := Ground.data }], guard := none }) (v := ?_) rfl (by kernel_rfl) (by kernel_rfl) (by kernel_rfl) (fun _ _ _ h => h) (Or.inl ⟨by rfl, ?_⟩) (by assumption) ?_
    rotate_left
    · (intro wq hSw; (try dsimp only at hSw); go_simp; first | done | with_reducible rfl)
    try simp only [Act.put, List.setIfInBounds_toArray, List.set_cons_zero, List.set_cons_succ]
    refine wpAnyH_take (i := 4) (oi := { dst := some 77, op := Op.move (Operand.tmp 12), type := 87, pos := "cache.go:61", after := #[], guard := none }) (v := ?_) rfl (by kernel_rfl) (by kernel_rfl) (by kernel_rfl) (fun _ _ _ h => h) (Or.inl ⟨by rfl, ?_⟩) (by assumption) ?_
    rotate_left
    · (intro wq hSw; (try dsimp only at hSw); go_simp; first | done | with_reducible rfl)
    try simp only [Act.put, List.setIfInBounds_toArray, List.set_cons_zero, List.set_cons_succ]
    refine wpAnyH_take (i := 5) (oi := { dst := some 78, op := Op.nilCheck (Operand.tmp 77), type := 0, pos := "cache.go:61", after := #[{ on := 4, ground := Ground.data }], guard := none }) (v := ?_) rfl (by kernel_rfl) (by kernel_rfl) (by kernel_rfl) (fun _ _ _ h => h) (Or.inl ⟨by rfl, ?_⟩) (by assumption) ?_
    rotate_left
    · (intro wq hSw; (try dsimp only at hSw); go_simp; first | done | with_reducible rfl)
    try simp only [Act.put, List.setIfInBounds_toArray, List.set_cons_zero, List.set_cons_succ]
    refine wpAnyH_take (i := 6) (oi := { dst := some 79, op := Op.fieldAddr 89 (Operand.tmp 78) 0, type := 0, pos := "cache.go:61", after := #[{ on := 5, ground := Ground.data }], guard := none }) (v := ?_) rfl (by kernel_rfl) (by kernel_rfl) (by kernel_rfl) (fun _ _ _ h => h) (Or.inl ⟨by rfl, ?_⟩) (by assumption) ?_
    rotate_left
    · (intro wq hSw; (try dsimp only at hSw); go_simp; first | done | with_reducible rfl)
    try simp only [Act.put, List.setIfInBounds_toArray, List.set_cons_zero, List.set_cons_succ]
    refine wpAnyH_take (i := 7) (oi := { dst := some 80, op := Op.fieldAddr 32 (Operand.tmp 79) 0, type := 0, pos := "cache.go:61", after := #[{ on := 6, ground := Ground.data }], guard := none }) (v := ?_) rfl (by kernel_rfl) (by kernel_rfl) (by kernel_rfl) (fun _ _ _ h => h) (Or.inl ⟨by rfl, ?_⟩) (by assumption) ?_
    rotate_left
    · (intro wq hSw; (try dsimp only at hSw); go_simp; first | done | with_reducible rfl)
    try simp only [Act.put, List.setIfInBounds_toArray, List.set_cons_zero, List.set_cons_succ]
    refine wpAnyH_take (i := 8) (oi := { dst := some 81, op := Op.load 3 (Operand.tmp 80), type := 3, pos := "cache.go:61", after := #[{ on := 7, ground := Ground.data }], guard := none }) (v := ?_) rfl (by kernel_rfl) (by kernel_rfl) (by kernel_rfl) (fun _ _ _ h => h) (Or.inl ⟨by rfl, ?_⟩) (by assumption) ?_
    rotate_left
    · (intro wq hSw; (try dsimp only at hSw); go_simp; first | done | with_reducible rfl)
    try simp only [Act.put, List.setIfInBounds_toArray, List.set_cons_zero, List.set_cons_succ]
    refine wpAnyH_ready (rs := [9]) (by kernel_rfl) (by simp) ?_
    refine AllReadyH.cons (o := { dst := none, op := Op.call { callee := Callee.builtin Builtin.delete, args := #[Operand.tmp 76, Operand.tmp 81], argTypes := #[86, 3] }, type := 0, pos := "cache.go:61", after := #[{ on := 3, ground := Ground.data }, { on := 8, ground := Ground.data }], guard := none }) rfl (fun K hK => ?_) AllReadyH.nil
    obtain ⟨w6, hrun, hm6, hg6⟩ := mpDel keyInt (hm5.new (New.refl w5).drew) Try.underlying86 0 z.id hzw
    go_simp
    have k9 := (caF ((hr5.new (New.refl w5).drew).ca.grown hg6 (by intro e; injection e with e; exact h.mc e.symm))).2.2.1
    have z9 := (ndF ((hz5.drew).grown hg6 (by intro e; injection e with e; exact hzm e))).2.1
    refine hK.out _ _ ?_ (fun hHeld => ?_)
    · exact ⟨k9, z9⟩
    clear hK K
    try simp only [Act.put, List.setIfInBounds_toArray, List.set_cons_zero, List.set_cons_succ]
    refine wpAnyH_done (by kernel_rfl) ?_ _
    clear hHeld
    have hu6 : Upd (· = mb) w5 w6 := ((Upd.refl _ w5).drew).grown hg6 (fun k _ e => by injection e with e; exact e.symm)
    have hr6 := hr5.keep hu6 (fun e => h.mc e.symm) (fun y hy => hml y (List.mem_of_mem_eraseIdx hy))
    have hz6 := hz5.upd hu6 hzm
    have hR6 := hR5.upd hu6 (by omega)
    have hU6 := hU5.trans hu6 (fun k _ e => .inl e)
    rw [mapF_at hids hz, if_pos (show (some (Value.pointer (some (⟨z.g, 0, none⟩ : Addr)))).isSome = true from rfl)] at hm6
    have HCA : Hid (CaAt w6 c room mb (((⟨w.heap.size + 1, id, b, false⟩ : Nd) :: l).eraseIdx l.length)) := Lib.hid ⟨hr6, by rw [List.length_eraseIdx_of_lt (by simp)]; exact hm6.congr fun k _ => (mapF_erase hids hz k).symm, h.mc, fun y hy => hml y (List.mem_of_mem_eraseIdx hy), ids_erase hids _⟩
    clear k0 k1 k2 k3 k4 kz z0 z1 z2 z3 z4 z5 zz k9 z9 hm6 hr6 hr5 hm5 hz5 hR5 hU5 hu5 hrun hg6
    obtain ⟨r0, r1, r2, r3, rz⟩ := Blk3G hR6
    obtain ⟨z0, z1, z2, z3, z4, z5, zz⟩ := ndF hz6
    go_wp2_with fail
    refine bodyPost_ret (v := .tuple #[.agg #[.int .i64 z.id, .string z.b, .bool z.d], .bool true]) (by simp [results, Try.results13, go_sem, r1, r2, r3]) rfl ⟨z, hz, rfl, HCA.out.upd (S := (· = w.heap.size)) ((((Upd.refl _ w6).setIn 0 _).setIn 1 _).setIn 2 _) (by omega) (by omega) ?_, hU6.trans (T := (· = w.heap.size)) ((((Upd.refl _ w6).setIn 0 _).setIn 1 _).setIn 2 _) (fun k hk e => by omega)⟩
    exact fun y hy => (hSl y.g (.inr (List.mem_map.2 ⟨y, List.mem_of_mem_eraseIdx hy, rfl⟩))).2
end Go.Proofs.Ytcganajbfplmpaa
