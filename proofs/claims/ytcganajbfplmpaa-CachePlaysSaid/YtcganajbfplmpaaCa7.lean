/- Chapter 11 (cache): Drop; Get where it is not there. -/
import Derived.Test.YtcganajbfplmpaaCa6
namespace Go.Proofs.Ytcganajbfplmpaa
open Go.RowKit Go.Lap
set_option linter.unusedVariables false

/-- A row of integers. -/
def iE (n : Int) : List Value := [.int .i64 n]
theorem iEOk : Enc iE 1 := fun _ => ⟨rfl, by simp [iE, Value.oneCell']⟩
theorem iTy : SlTy Try.prog 43 3 (.int .i64 0) 1 8 := ⟨Try.underlying43, by kernel_rfl, rfl, by decide⟩

theorem upd_cellC {S : Nat → Prop} {w w' : World} (h : Upd S w w') {b : Nat} (hb : b < w.heap.size) (hS : ¬ S b) (o : Nat) : w'.cell? ⟨b, o, none⟩ = w.cell? ⟨b, o, none⟩ := by
  have := h.block b hb hS
  simp [World.cell?, this]
theorem growC {w w' : World} {b : Nat} (h : w.grownBy w' (some b)) : Upd (· = b) w w' := ⟨h.os, h.tape, h.output, h.size, fun i hi hn => h.block i hi (by simpa using hn)⟩
/-- A number taken out. -/
def delE (E : List Ent) (id : Int) : List Ent := E.eraseIdx (E.findIdx fun x => decide (x.id = id))
def dropS (p : List Ent × Nat) (id : Int) : List Ent × Nat := (delE p.1 id, if (p.1.find? fun x => decide (x.id = id)).isSome then p.2 + 1 else p.2)
def dropE (E : List Ent) (ids : List Int) : List Ent × Nat := ids.foldl dropS (E, 0)

theorem mapF_ent {l : List Nd} {id : Int} : (mapF l id).isSome = ((l.map Nd.ent).find? fun x => decide (x.id = id)).isSome := by
  unfold mapF
  rw [find_ent]; simp
theorem delE_none {E : List Ent} {id : Int} (h : (E.find? fun x => decide (x.id = id)) = none) : delE E id = E := by
  unfold delE
  refine List.eraseIdx_of_length_le ?_
  rw [List.findIdx_eq_length.2 (fun x hx => by simpa using List.find?_eq_none.1 h x hx)]
  exact Nat.le_refl _
theorem delE_at {l : List Nd} (h : (l.map (·.id)).Nodup) {i : Nat} {x : Nd} (hx : l[i]? = some x) : delE (l.map Nd.ent) x.id = (l.eraseIdx i).map Nd.ent := by
  unfold delE
  rw [findIdx_at h hx, map_ent_erase]
theorem dropS_none {l : List Nd} {id : Int} {n : Nat} (h : mapF l id = none) : dropS (l.map Nd.ent, n) id = (l.map Nd.ent, n) := by
  have h1 : ((l.map Nd.ent).find? fun x => decide (x.id = id)) = none := by
    have := mapF_ent (l := l) (id := id)
    rw [h] at this
    simpa using this.symm
  unfold dropS
  rw [delE_none h1, h1]
  rfl
theorem dropS_at {l : List Nd} (h : (l.map (·.id)).Nodup) {i n : Nat} {x : Nd} (hx : l[i]? = some x) : dropS (l.map Nd.ent, n) x.id = ((l.eraseIdx i).map Nd.ent, n + 1) := by
  have h1 : ((l.map Nd.ent).find? fun y => decide (y.id = x.id)).isSome = true := by
    have := mapF_ent (l := l) (id := x.id)
    rw [mapF_at h hx] at this
    exact this.symm
  unfold dropS
  rw [delE_at h hx, if_pos h1]
theorem dropE_snoc (E : List Ent) (ids : List Int) {k : Nat} {x : Int} (hx : ids[k]? = some x) : dropE E (ids.take (k + 1)) = dropS (dropE E (ids.take k)) x := by
  unfold dropE
  rw [List.take_add_one, hx, List.foldl_append]
  rfl
theorem dropE_le (E : List Ent) : ∀ (ids : List Int), (dropE E ids).2 ≤ ids.length := by
  have key : ∀ (ids : List Int) (p : List Ent × Nat), (ids.foldl dropS p).2 ≤ p.2 + ids.length := by
    intro ids
    induction ids with
    | nil => intro p; simp
    | cons x ids ih =>
      intro p
      have := ih (dropS p x)
      have h2 : (dropS p x).2 ≤ p.2 + 1 := by unfold dropS; dsimp only; split <;> omega
      simp only [List.foldl_cons, List.length_cons]; omega
  intro ids
  have := key ids (E, 0)
  unfold dropE
  omega

def DropPost (w : World) (c mb : Nat) (room : Int) (l : List Nd) (ids : List Int) (e : Ending) (w' : World) : Prop := ∃ l', e = .returned (.int .i64 ((dropE (l.map Nd.ent) ids).2 : Int)) ∧ CaAt w' c room mb l' ∧ l'.map Nd.ent = (dropE (l.map Nd.ent) ids).1 ∧ (∀ j, CaS c mb l' j → CaS c mb l j) ∧ l'.length ≤ l.length ∧ Upd (CaS c mb l) w w'
set_option maxRecDepth 100000 in
set_option maxHeartbeats 8000000 in
theorem drop_nd {c mb : Nat} {room : Int} {l : List Nd} (w : World) (h : CaAt w c room mb l) {v : Value} {ids : List Int} (hs : SlIn w 1 iE v ids) (hl : ids.length ≤ 100000) (hwf : ∀ x ∈ ids, (Lit.int .i64 x).wf = true)
    (hF : ∀ b off n cp, v = .slice (some ⟨b, off, none⟩) n cp → ¬ CaS c mb l b) :
    Calls Try.prog 17 #[.pointer (some ⟨c, 0, none⟩), v] w (DropPost w c mb room l ids) := by
  obtain ⟨A, cp, hv, hcp, hor⟩ := id hs
  subst hv
  have HW := Lib.hid hwf
  clear hwf hs
  go_enter Try.func17, Try.ntmps17
  go_wp2_with fail
  go_loopw [5, 7, 8, 9, 12] (fun u5 _ _ _ u12 wr => ∃ (k : Nat) (l' : List Nd), k ≤ ids.length ∧ u12 = .int .i64 k ∧ u5 = .int .i64 ((dropE (l.map Nd.ent) (ids.take k)).2 : Int) ∧ CaAt wr c room mb l' ∧ l'.map Nd.ent = (dropE (l.map Nd.ent) (ids.take k)).1 ∧ (∀ j, CaS c mb l' j → CaS c mb l j) ∧ l'.length ≤ l.length ∧ Upd (CaS c mb l) w wr) (fun _ _ _ _ u12 _ => ids.length - (intOf u12).toNat)
  case atStart => exact ⟨0, l, by omega, rfl, rfl, h, rfl, fun j hj => hj, Nat.le_refl _, Upd.refl _ _⟩
  case round =>
    obtain ⟨k, l', hk, rfl, rfl, h', hE, hS, hle, hu⟩ := hrel
    have hnk := dropE_le (l.map Nd.ent) (ids.take k)
    rw [List.length_take] at hnk
    generalize hp : dropE (l.map Nd.ent) (ids.take k) = p at hE hnk ⊢
    have HP := Lib.hid hp
    have HU := Lib.hid hu
    have HS := Lib.hid hS
    have HE := Lib.hid hE
    clear hp hu hS hE
    by_cases hlt : k < ids.length
    · have hlt' : (k : Int) < (ids.length : Int) := by omega
      rcases hor with hor | ⟨b, off, rfl, hb, hc⟩
      · rw [hor] at hlt; simp at hlt
      obtain ⟨x, hx⟩ : ∃ x, ids[k]? = some x := ⟨_, List.getElem?_eq_getElem hlt⟩
      have e1 : wr.cell? ⟨b, off + k, none⟩ = some (.int .i64 x) := (upd_cellC HU.out hb (hF _ _ _ _ rfl) _).trans (by have := hc _ x hx 0 _ rfl; simpa using this)
      have hxw := HW.out x (List.mem_of_getElem? hx)
      have HST := Lib.hid (dropE_snoc (l.map Nd.ent) ids hx)
      have HC0 := Lib.hid hc
      clear hc hx
      obtain ⟨c0, c1, c2, c3, c4, cz⟩ := caF h'.ring.ca
      cases hm : mapF l' x with
      | none =>
        have HM := Lib.hid hm
        go_wp2_with (at_lookup; refine wpList_mp_ok keyInt rfl _ _ 86 87 rfl Try.underlying86 (zeroN _) rfl h'.map x hxw rfl ?_; rw [hm]; dsimp only [Option.getD, Option.isSome])
        go_roundw
        case rel =>
          have hst : dropE (l.map Nd.ent) (ids.take (k + 1)) = p := by
            rw [HST.out, HP.out, show p = (l'.map Nd.ent, p.2) by rw [HE.out], dropS_none HM.out]
          exact ⟨k + 1, l', by omega, by go_num, by rw [hst], h', by rw [hst]; exact HE.out, HS.out, hle, HU.out⟩
        case measure => simp [intOf]; omega
      | some z =>
        obtain ⟨i, y, hy, hyid, rfl⟩ := mapF_some hm
        subst hyid
        have hi := (List.getElem?_eq_some_iff.1 hy).1
        go_wp2_with (at_lookup; refine wpList_mp_ok keyInt rfl _ _ 86 87 rfl Try.underlying86 (zeroN _) rfl h'.map y.id hxw rfl ?_; rw [hm]; dsimp only [Option.getD, Option.isSome])
        refine (out_any wr h'.ring hy).mono ?_
        rintro e w2 ⟨rfl, hr2, -, hu2⟩
        have hSm : ∀ j, RgS c l' j → j ≠ mb := fun j hj => by
          rcases hj with rfl | e
          · exact fun e => h'.mc e.symm
          · obtain ⟨y, hy, he⟩ := List.mem_map.1 e
            rw [← he]; exact h'.ml y hy
        have hm2 := h'.map.upd hu2 (fun e => hSm _ e rfl)
        obtain ⟨d0, d1, d2, d3, d4, dz⟩ := caF hr2.ca
        clear c0 c1 c2 c3 c4 cz e1
        go_wp2_with (at_delete; refine wpList_mp_del keyInt rfl _ _ 86 87 rfl Try.underlying86 rfl hm2 y.id hxw rfl ?_; intro w3 hm3 hg3)
        rw [hm] at hm3
        have hu3 := growC hg3
        go_roundw
        case rel =>
          have hst : dropE (l.map Nd.ent) (ids.take (k + 1)) = ((l'.eraseIdx i).map Nd.ent, p.2 + 1) := by
            rw [HST.out, HP.out, show p = (l'.map Nd.ent, p.2) by rw [HE.out], dropS_at h'.ids hy]
          have hle2 := List.length_eraseIdx_of_lt hi
          refine ⟨k + 1, l'.eraseIdx i, by omega, by go_num, by rw [hst]; go_num, ⟨hr2.keep hu3 (fun e => h'.mc e.symm) (fun y hy e => h'.ml y (List.mem_of_mem_eraseIdx hy) e), ?_, h'.mc, fun y hy => h'.ml y (List.mem_of_mem_eraseIdx hy), ids_erase h'.ids i⟩, by rw [hst], ?_, by omega, ?_⟩
          · rw [hle2]
            exact hm3.congr fun j _ => (mapF_erase h'.ids hy j).symm
          · intro j hj
            refine HS.out j ?_
            rcases hj with rfl | rfl | hj
            · exact .inl rfl
            · exact .inr (.inl rfl)
            · obtain ⟨z, hz, rfl⟩ := List.mem_map.1 hj
              exact .inr (.inr (List.mem_map.2 ⟨z, List.mem_of_mem_eraseIdx hz, rfl⟩))
          · exact (HU.out.trans hu2 (fun j _ hj => HS.out j (.inr hj))).trans hu3 (fun j _ hj => HS.out j (.inl hj))
        case measure => simp [intOf]; omega
    · have hlt' : ¬ (k : Int) < (ids.length : Int) := by omega
      obtain rfl : k = ids.length := by omega
      rw [List.take_length] at HP
      go_wp2_with fail
      go_ret
      exact ⟨l', by rw [HP.out]; rfl, h', by rw [HP.out]; exact HE.out, HS.out, hle, HU.out⟩
end Go.Proofs.Ytcganajbfplmpaa
