/- Chapter 11 (cache): Len. -/
import Derived.Test.YtcganajbfplmpaaCa4
namespace Go.Proofs.Ytcganajbfplmpaa
open Go.RowKit Go.Lap
set_option linter.unusedVariables false

set_option maxHeartbeats 1000000 in
theorem len_any {c mb : Nat} {room : Int} {l : List Nd} (w : World) (h : CaAt w c room mb l) :
    Calls Try.prog 22 #[.pointer (some ⟨c, 0, none⟩)] w fun e w' => e = .returned (.int .i64 (l.length : Int)) ∧ w' = w := by
  obtain ⟨c0, c1, c2, c3, c4, cz⟩ := caF h.ring.ca
  have hlen := mpLen h.map Try.underlying86 3
  go_enter Try.func22, Try.ntmps22
  go_wp2_with fail
  go_ret
  exact ⟨rfl, rfl⟩

set_option maxRecDepth 100000 in
set_option maxHeartbeats 4000000 in
theorem get_hit {c mb : Nat} {room : Int} {l : List Nd} (w : World) (h : CaAt w c room mb l) {i : Nat} {x : Nd} (hx : l[i]? = some x) (hid : (Lit.int .i64 x.id).wf = true) :
    Calls Try.prog 15 #[.pointer (some ⟨c, 0, none⟩), .int .i64 x.id] w fun e w' => e = .returned (.tuple #[.string x.b, .int .i64 0]) ∧ CaAt w' c room mb (x :: l.eraseIdx i) ∧ Upd (CaS c mb l) w w' := by
  have hm := mapF_at h.ids hx
  have hgc := h.ring.ne x (List.mem_of_getElem? hx)
  have hi := (List.getElem?_eq_some_iff.1 hx).1
  have hyl : ∀ y ∈ l.eraseIdx i, y.g ≠ x.g := fun y hy e => by
    obtain ⟨j, hj, hjy⟩ := List.mem_eraseIdx_iff_getElem?.1 hy
    exact hj (h.ring.inj hjy hx e)
  have hSm : ∀ k, RgS c l k → k ≠ mb := fun k hk => by
    rcases hk with rfl | e
    · exact fun e => h.mc e.symm
    · obtain ⟨y, hy, he⟩ := List.mem_map.1 e
      rw [← he]; exact h.ml y hy
  have hS : ∀ k, RgS c (x :: l.eraseIdx i) k → RgS c l k := fun k hk => hk.imp id fun e => by
    obtain ⟨y, hy, he⟩ := List.mem_map.1 e
    rcases List.mem_cons.1 hy with rfl | hy
    · exact List.mem_map.2 ⟨y, List.mem_of_getElem? hx, he⟩
    · exact List.mem_map.2 ⟨y, List.mem_of_mem_eraseIdx hy, he⟩
  obtain ⟨c0, c1, c2, c3, c4, cz⟩ := caF h.ring.ca
  go_enter Try.func15, Try.ntmps15
  go_wp2_with (at_lookup; refine wpList_mp_ok keyInt rfl _ _ 86 87 rfl Try.underlying86 (zeroN _) rfl h.map x.id hid rfl ?_; rw [hm]; dsimp only [Option.getD, Option.isSome])
  refine (out_any w h.ring hx).mono ?_
  rintro e w2 ⟨rfl, hr2, ⟨pa, pb, hx2⟩, hu2⟩
  clear c0 c1 c2 c3 c4 cz
  go_wp2_with fail
  refine (first_any w2 hr2 (x := x) hx2 hgc hyl).mono ?_
  rintro e w4 ⟨rfl, hr4, hu4⟩
  obtain ⟨x0, x1, x2, x3, x4, x5, xz⟩ := ndF (hr4.nd 0 x rfl)
  go_wp2_with fail
  go_ret2
  refine ⟨rfl, ⟨hr4, ?_, h.mc, ?_, ids_front h.ids hx rfl⟩, (hu2.mono (T := CaS c mb l) (fun k _ hk => .inr hk)).trans hu4 (fun k _ hk => .inr (hS k hk))⟩
  · rw [List.length_cons, List.length_eraseIdx_of_lt hi, show l.length - 1 + 1 = l.length by omega]
    exact ((h.map.upd hu2 (fun e => hSm _ e rfl)).upd hu4 (fun e => hSm _ (hS _ e) rfl)).congr fun k _ => (mapF_front (y := x) h.ids hx rfl rfl k).symm
  · intro y hy
    rcases List.mem_cons.1 hy with rfl | hy
    · exact h.ml y (List.mem_of_getElem? hx)
    · exact h.ml y (List.mem_of_mem_eraseIdx hy)
end Go.Proofs.Ytcganajbfplmpaa
