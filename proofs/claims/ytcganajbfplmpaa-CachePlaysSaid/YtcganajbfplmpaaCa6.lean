/- Chapter 11 (cache): the cache as a row of entries: Put, in one contract. -/
import Derived.Test.YtcganajbfplmpaaCa5
namespace Go.Proofs.Ytcganajbfplmpaa
open Go.RowKit Go.Lap
set_option linter.unusedVariables false

/-- The cache at c holds the entries E; its blocks lie in F. -/
def CSt (w : World) (F : Nat → Prop) (c : Nat) (room : Nat) (E : List Ent) : Prop :=
  ∃ mb l, CaAt w c (room : Int) mb l ∧ l.map Nd.ent = E ∧ (∀ k, CaS c mb l k → F k) ∧ (∀ e ∈ E, (Lit.int .i64 e.id).wf = true) ∧ E.length ≤ room ∧ 1 ≤ room ∧ room ≤ 1024
/-- F, and what is new. -/
def Grow (F : Nat → Prop) (w w' : World) (k : Nat) : Prop := F k ∨ (w.heap.size ≤ k ∧ k < w'.heap.size)
/-- What comes of a Put. -/
def putE (room : Nat) (E : List Ent) (id : Int) (b : ByteArray) (d : Bool) : List Ent := (frontE E id b d).take room
def retE : Option Ent → Value
  | none => .tuple #[.agg #[.int .i64 0, .string ⟨#[]⟩, .bool false], .bool false]
  | some z => .tuple #[.agg #[.int .i64 z.id, .string z.b, .bool z.d], .bool true]

section
variable {w w' : World} {F G : Nat → Prop} {c room : Nat} {E : List Ent}
theorem CSt.upd {S : Nat → Prop} (h : CSt w F c room E) (hu : Upd S w w') (hS : ∀ k, F k → ¬ S k) : CSt w' F c room E := by
  obtain ⟨mb, l, h1, h2, h3, h4⟩ := h
  exact ⟨mb, l, h1.upd hu (hS _ (h3 _ (.inr (.inl rfl)))) (hS _ (h3 _ (.inl rfl))) (fun x hx => hS _ (h3 _ (.inr (.inr (List.mem_map.2 ⟨x, hx, rfl⟩))))), h2, h3, h4⟩
theorem CSt.new (h : CSt w F c room E) (hn : New w w') : CSt w' F c room E := h.upd (S := fun _ => False) (Upd.new hn) (fun _ _ x => x)
theorem CSt.mono (h : CSt w F c room E) (hF : ∀ k, F k → G k) : CSt w G c room E := by
  obtain ⟨mb, l, h1, h2, h3, h4⟩ := h
  exact ⟨mb, l, h1, h2, fun k hk => hF k (h3 k hk), h4⟩
end

theorem find_ent {l : List Nd} {id : Int} : (l.map Nd.ent).find? (fun x => decide (x.id = id)) = (l.find? fun x => decide (x.id = id)).map Nd.ent := by
  rw [List.find?_map]; rfl
theorem frontE_none {l : List Nd} {id : Int} (h : mapF l id = none) (b : ByteArray) (d : Bool) : frontE (l.map Nd.ent) id b d = ⟨id, b, d⟩ :: l.map Nd.ent := by
  have hf : l.find? (fun x => decide (x.id = id)) = none := by
    unfold mapF at h
    exact Option.map_eq_none_iff.1 h
  unfold frontE
  rw [find_ent, hf]
  rfl
theorem findIdx_at {l : List Nd} (h : (l.map (·.id)).Nodup) {i : Nat} {x : Nd} (hx : l[i]? = some x) : (l.map Nd.ent).findIdx (fun y => decide (y.id = x.id)) = i := by
  have hi := (List.getElem?_eq_some_iff.1 hx).1
  refine (List.findIdx_eq (by simpa using hi)).2 ⟨by
    have := (List.getElem?_eq_some_iff.1 hx).2
    simp [this, Nd.ent], fun j hj => ?_⟩
  have hjl : j < l.length := by omega
  have hy : l[j]? = some l[j] := List.getElem?_eq_getElem hjl
  simp only [List.getElem_map, Nd.ent, decide_eq_false_iff_not]
  exact fun e => by have := ids_inj h hy hx e; omega
theorem find_at {l : List Nd} (h : (l.map (·.id)).Nodup) {i : Nat} {x : Nd} (hx : l[i]? = some x) : (l.map Nd.ent).find? (fun y => decide (y.id = x.id)) = some x.ent := by
  have hm := mapF_at h hx
  unfold mapF at hm
  obtain ⟨y, hy, he⟩ := Option.map_eq_some_iff.1 hm
  have hyx : y.id = x.id := by simpa using List.find?_some hy
  obtain ⟨j, hj⟩ := List.getElem?_of_mem (List.mem_of_find?_eq_some hy)
  have := ids_inj h hj hx hyx
  subst this
  rw [hj] at hx
  cases hx
  rw [find_ent, hy]
  rfl
theorem frontE_hit {l : List Nd} (h : (l.map (·.id)).Nodup) {i : Nat} {x : Nd} (hx : l[i]? = some x) (b : ByteArray) (d : Bool) : frontE (l.map Nd.ent) x.id b d = ⟨x.id, b, d || x.d⟩ :: (l.map Nd.ent).eraseIdx i := by
  unfold frontE
  rw [find_at h hx, findIdx_at h hx]
  rfl
theorem eraseIdx_last {α : Type} : ∀ (l : List α), l.eraseIdx (l.length - 1) = l.take (l.length - 1)
  | [] => rfl
  | [_] => rfl
  | x :: y :: l => by
    have := eraseIdx_last (y :: l)
    simp only [List.length_cons, Nat.add_sub_cancel] at this ⊢
    rw [List.eraseIdx_cons_succ, List.take_succ_cons, this]
theorem map_ent_erase : ∀ (l : List Nd) (i : Nat), (l.eraseIdx i).map Nd.ent = (l.map Nd.ent).eraseIdx i
  | [], _ => rfl
  | _ :: _, 0 => rfl
  | x :: l, i + 1 => by rw [List.eraseIdx_cons_succ, List.map_cons, List.map_cons, List.eraseIdx_cons_succ, map_ent_erase l i]

theorem put_any {F : Nat → Prop} {c room : Nat} {E : List Ent} (w : World) (h : CSt w F c room E) (id : Int) (hid : (Lit.int .i64 id).wf = true) (b : ByteArray) (d : Bool) :
    Calls Try.prog 13 #[.pointer (some ⟨c, 0, none⟩), .int .i64 id, .string b, .bool d] w fun e w' => e = .returned (retE (frontE E id b d)[room]?) ∧ CSt w' (Grow F w w') c room (putE room E id b d) ∧ Upd F w w' := by
  obtain ⟨mb, l, hc, rfl, hF, hwf, hlr, hr1, hr2⟩ := h
  have hlr' : l.length ≤ room := by simpa using hlr
  have hwf' : ∀ y ∈ l, (Lit.int .i64 y.id).wf = true := fun y hy => hwf y.ent (List.mem_map.2 ⟨y, hy, rfl⟩)
  have hS : ∀ (w' : World) (l' : List Nd), CaAt w' c room mb l' → (∀ y ∈ l', (∃ z ∈ l, z.g = y.g) ∨ y.g = w.heap.size + 1) → w.heap.size + 1 ≤ w'.heap.size → ∀ k, CaS c mb l' k → Grow F w w' k := by
    intro w' l' h' hy _ k hk
    rcases hk with rfl | rfl | hk
    · exact .inl (hF _ (.inl rfl))
    · exact .inl (hF _ (.inr (.inl rfl)))
    · obtain ⟨y, hym, rfl⟩ := List.mem_map.1 hk
      rcases hy y hym with ⟨z, hz, e⟩ | e
      · exact .inl (hF _ (.inr (.inr (List.mem_map.2 ⟨z, hz, e⟩))))
      · obtain ⟨i, hi⟩ := List.getElem?_of_mem hym
        exact .inr ⟨by simp only [e]; omega, (h'.ring.nd i y hi).lt⟩
  cases hm : mapF l id with
  | some v =>
    obtain ⟨i, x, hx, rfl, rfl⟩ := mapF_some hm
    have hi := (List.getElem?_eq_some_iff.1 hx).1
    refine (put_hit w hc hx (by omega) hid b d).mono ?_
    rintro e w' ⟨rfl, h', hu⟩
    have hlen : (frontE (l.map Nd.ent) x.id b d).length = l.length := by
      rw [frontE_hit hc.ids hx, List.length_cons, List.length_eraseIdx_of_lt (by simpa using hi), List.length_map]; omega
    have he : putE room (l.map Nd.ent) x.id b d = (⟨x.g, x.id, b, d || x.d⟩ :: l.eraseIdx i : List Nd).map Nd.ent := by
      unfold putE
      rw [List.take_of_length_le (by omega), frontE_hit hc.ids hx, List.map_cons, map_ent_erase]
      rfl
    refine ⟨by rw [List.getElem?_eq_none (by omega)]; rfl, ⟨mb, _, h', he.symm, ?_, ?_, ?_, hr1, hr2⟩, hu.mono fun k _ hk => hF k hk⟩
    · intro k hk
      rcases hk with rfl | rfl | hk
      · exact .inl (hF _ (.inl rfl))
      · exact .inl (hF _ (.inr (.inl rfl)))
      · obtain ⟨y, hy, rfl⟩ := List.mem_map.1 hk
        rcases List.mem_cons.1 hy with rfl | hy
        · exact .inl (hF _ (.inr (.inr (List.mem_map.2 ⟨x, List.mem_of_getElem? hx, rfl⟩))))
        · exact .inl (hF _ (.inr (.inr (List.mem_map.2 ⟨y, List.mem_of_mem_eraseIdx hy, rfl⟩))))
    · rw [he]
      intro e hme
      obtain ⟨y, hy, rfl⟩ := List.mem_map.1 hme
      rcases List.mem_cons.1 hy with rfl | hy
      · exact hid
      · exact hwf' y (List.mem_of_mem_eraseIdx hy)
    · unfold putE; rw [List.length_take]; omega
  | none =>
    have hfr := frontE_none hm b d
    have hwfn : ∀ e ∈ putE room (l.map Nd.ent) id b d, (Lit.int .i64 e.id).wf = true := by
      intro e he
      unfold putE at he
      rw [hfr] at he
      rcases List.mem_cons.1 (List.mem_of_mem_take he) with rfl | he
      · exact hid
      · exact hwf e he
    have hln : (putE room (l.map Nd.ent) id b d).length ≤ room := by unfold putE; rw [List.length_take]; omega
    by_cases hlt : l.length + 1 ≤ room
    · refine (put_room w hc id hm (by omega) (by omega) hid b d).mono ?_
      rintro e w' ⟨rfl, h', hu⟩
      have hsz : w.heap.size + 1 ≤ w'.heap.size := Nat.le_of_lt (h'.ring.nd 0 _ rfl).lt
      refine ⟨by rw [hfr, List.getElem?_eq_none (by simpa using hlt)]; rfl, ⟨mb, _, h', ?_, hS w' _ h' ?_ hsz, hwfn, hln, hr1, hr2⟩, hu.mono fun k _ hk => hF k hk⟩
      · unfold putE
        rw [hfr, List.take_of_length_le (by simpa using hlt)]
        rfl
      · intro y hy
        rcases List.mem_cons.1 hy with rfl | hy
        · exact .inr rfl
        · exact .inl ⟨y, hy, rfl⟩
    · obtain hle : l.length = room := by omega
      refine (put_full w hc id hm (by omega) hwf' (by omega) hid b d).mono ?_
      rintro e w' ⟨z, hz, rfl, h', hu⟩
      have hlast := eraseIdx_last ((⟨w.heap.size + 1, id, b, d⟩ : Nd) :: l)
      rw [List.length_cons, Nat.add_sub_cancel] at hlast
      rw [hlast] at h'
      have hsz : w.heap.size + 1 ≤ w'.heap.size := Nat.le_of_lt (h'.ring.nd 0 ⟨w.heap.size + 1, id, b, d⟩ (by rw [List.getElem?_take_of_lt (by omega)]; rfl)).lt
      have hz' : (frontE (l.map Nd.ent) id b d)[room]? = some z.ent := by
        have := congrArg (Option.map Nd.ent) hz
        rw [← List.getElem?_map, hle] at this
        rw [hfr]
        exact this
      refine ⟨by rw [hz']; rfl, ⟨mb, _, h', ?_, hS w' _ h' ?_ hsz, hwfn, hln, hr1, hr2⟩, hu.mono fun k _ hk => hF k hk⟩
      · unfold putE
        rw [hfr, ← hle, List.map_take]
        rfl
      · intro y hy
        rcases List.mem_cons.1 (List.mem_of_mem_take hy) with rfl | hy
        · exact .inr rfl
        · exact .inl ⟨y, hy, rfl⟩

theorem put_to {F : Nat → Prop} {c room : Nat} {E : List Ent} (w : World) (h : CSt w F c room E) (id : Int) (hid : (Lit.int .i64 id).wf = true) (b : ByteArray) (d : Bool) {v : Value} {E' : List Ent} (hv : retE (frontE E id b d)[room]? = v) (hE : putE room E id b d = E') :
    Calls Try.prog 13 #[.pointer (some ⟨c, 0, none⟩), .int .i64 id, .string b, .bool d] w fun e w' => e = .returned v ∧ CSt w' (Grow F w w') c room E' ∧ Upd F w w' := by
  subst hv hE
  exact put_any w h id hid b d

/-- What comes of a Get of what is there. -/
def getE (E : List Ent) (id : Int) : List Ent :=
  match E.find? fun x => decide (x.id = id) with
  | some x => x :: E.eraseIdx (E.findIdx fun x => decide (x.id = id))
  | none => E
/-- Get, where it is there. -/
theorem get_is {F : Nat → Prop} {c room : Nat} {E : List Ent} (w : World) (h : CSt w F c room E) (id : Int) (hid : (Lit.int .i64 id).wf = true) {x : Ent} (hx : E.find? (fun x => decide (x.id = id)) = some x) :
    Calls Try.prog 15 #[.pointer (some ⟨c, 0, none⟩), .int .i64 id] w fun e w' => e = .returned (.tuple #[.string x.b, .int .i64 0]) ∧ CSt w' F c room (getE E id) ∧ Upd F w w' := by
  obtain ⟨mb, l, hc, rfl, hF, hwf, hlr, hr1, hr2⟩ := h
  have hlr' : l.length ≤ room := by simpa using hlr
  rw [find_ent] at hx
  obtain ⟨y, hy, rfl⟩ := Option.map_eq_some_iff.1 hx
  have hyi : y.id = id := by simpa using List.find?_some hy
  obtain ⟨i, hi⟩ := List.getElem?_of_mem (List.mem_of_find?_eq_some hy)
  subst hyi
  have hil := (List.getElem?_eq_some_iff.1 hi).1
  refine (get_hit w hc hi hid).mono ?_
  rintro e w' ⟨rfl, h', hu⟩
  have he : getE (l.map Nd.ent) y.id = (y :: l.eraseIdx i).map Nd.ent := by
    unfold getE
    rw [find_at hc.ids hi, findIdx_at hc.ids hi, List.map_cons, map_ent_erase]
  refine ⟨rfl, ⟨mb, _, h', he.symm, ?_, ?_, ?_, hr1, hr2⟩, hu.mono fun k _ hk => hF k hk⟩
  · intro k hk
    rcases hk with rfl | rfl | hk
    · exact hF _ (.inl rfl)
    · exact hF _ (.inr (.inl rfl))
    · obtain ⟨z, hz, rfl⟩ := List.mem_map.1 hk
      refine hF _ (.inr (.inr (List.mem_map.2 ⟨z, ?_, rfl⟩)))
      rcases List.mem_cons.1 hz with rfl | hz
      · exact List.mem_of_getElem? hi
      · exact List.mem_of_mem_eraseIdx hz
  · rw [he]
    intro e hme
    obtain ⟨z, hz, rfl⟩ := List.mem_map.1 hme
    refine hwf z.ent (List.mem_map.2 ⟨z, ?_, rfl⟩)
    rcases List.mem_cons.1 hz with rfl | hz
    · exact List.mem_of_getElem? hi
    · exact List.mem_of_mem_eraseIdx hz
  · rw [he, List.length_map, List.length_cons, List.length_eraseIdx_of_lt hil]; omega
theorem lenC {F : Nat → Prop} {c room : Nat} {E : List Ent} (w : World) (h : CSt w F c room E) :
    Calls Try.prog 22 #[.pointer (some ⟨c, 0, none⟩)] w fun e w' => e = .returned (.int .i64 (E.length : Int)) ∧ w' = w := by
  obtain ⟨mb, l, hc, rfl, _⟩ := h
  rw [List.length_map]
  exact len_any w hc
/-- An entry's cells. -/
def entC (x : Ent) : List Value := [.int .i64 x.id, .string x.b, .bool x.d]
theorem entOk : Enc entC 3 := fun x => ⟨rfl, by simp [entC, Value.oneCell']⟩
def ListPostC (w : World) (E : List Ent) (e : Ending) (w' : World) : Prop := ∃ u, e = .returned u ∧ Owns w' w.heap.size 32 3 entC u E ∧ New w w'
theorem listC {F : Nat → Prop} {c room : Nat} {E : List Ent} (w : World) (h : CSt w F c room E) :
    Calls Try.prog 21 #[.pointer (some ⟨c, 0, none⟩)] w (ListPostC w E) := by
  obtain ⟨mb, l, hc, rfl, _, _, hlr, _, hr2⟩ := h
  refine (list_any w hc.ring (by simp at hlr; omega)).mono ?_
  rintro e w' ⟨u, rfl, ho, hn⟩
  refine ⟨u, rfl, ?_, hn⟩
  have h2 : (l.map Nd.ent).flatMap entC = l.flatMap eEnc := by rw [List.flatMap_map]; rfl
  show World.ownsRow _ _ _ _ _ (l.map Nd.ent).length ((l.map Nd.ent).flatMap entC)
  rw [h2, List.length_map]
  exact ho
theorem newC (room : Nat) (w : World) (h1 : 1 ≤ room) (h2 : room ≤ 1024) : Calls Try.prog 10 #[.int .i64 (room : Int)] w fun e w' => ∃ c, e = .returned (.tuple #[.pointer (some ⟨c, 0, none⟩), .int .i64 0]) ∧ CSt w' (Grow (fun _ => False) w w') c room [] ∧ New w w' := by
  refine (new_any room w (by omega) (by omega)).mono ?_
  rintro e w' ⟨c, mb, rfl, hc, hm, h, hn⟩
  refine ⟨c, rfl, ⟨mb, [], h, rfl, ?_, by simp, by simp, h1, h2⟩, hn⟩
  intro k hk
  rcases hk with rfl | rfl | hk
  · exact .inr ⟨hm, h.map.lt⟩
  · exact .inr ⟨hc, h.ring.ca.lt⟩
  · simp at hk
end Go.Proofs.Ytcganajbfplmpaa
