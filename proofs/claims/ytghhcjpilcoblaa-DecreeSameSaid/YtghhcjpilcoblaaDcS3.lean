/- Chapter 22 (decree): an act of the law keeps what holds; what is known stays known; logs are beginnings of one another. -/
import Derived.Test.YtghhcjpilcoblaaDg18
import Derived.Test.YtghhcjpilcoblaaDcS2
namespace Go.Proofs.Ytghhcjpilcoblaa
open Go.RowKit Go.Lap
set_option linter.unusedVariables false
/-- What is known stays known. -/
def LgUp (g g' : Gm) : Prop := ∀ i s v, (g.nd i).lg s = some v → (g'.nd i).lg s = some v
section
variable {n B : Nat} {P P' : ByteArray → Prop} {g g' : Gm} {x y : Nod}
theorem LgUp.refl (g : Gm) : LgUp g g := fun _ _ _ h => h
theorem LgUp.trans {a b c : Gm} (h : LgUp a b) (k : LgUp b c) : LgUp a c := fun i s v hv => k i s v (h i s v hv)
theorem LgUp.nd {i : Nat} {b : List Pkt} (h : ∀ s v, (g.nd i).lg s = some v → x.lg s = some v) : LgUp g ⟨set g.nd i x, b⟩ := fun k s v hv => by
  show (set g.nd i x k).lg s = some v
  by_cases hk : k = i
  · subst hk; rw [set_same]; exact h s v hv
  · rw [set_ne _ _ hk]; exact hv
theorem asked_lg (x : Nod) (m : Msg) : (x.asked m).1.lg = x.lg := by
  unfold Nod.asked
  split
  · rfl
  · dsimp only; split
    · rfl
    · split <;> rfl
theorem promised_lg (x : Nod) (n : Nat) (fr : Int) (m : Msg) : (x.promised n fr m).1.lg = x.lg := by
  unfold Nod.promised
  split
  · rfl
  · split
    · rfl
    · split <;> rfl
theorem taken_lg (x : Nod) (n : Nat) (fr : Int) (m : Msg) (s : Nat) (v : ByteArray) (hv : x.lg s = some v) : (x.taken n fr m).1.lg s = some v := by
  unfold Nod.taken
  split
  · exact hv
  · split
    · exact hv
    · dsimp only; split
      · exact know_keeps _ _ _ _ _ hv
      · exact hv
theorem LgUp.arrive (g : Gm) (n : Nat) (p : Pkt) (b : List Pkt) : LgUp g (g.arrive n p b) := by
  unfold Gm.arrive
  dsimp only
  split
  · exact LgUp.nd fun s v hv => by rw [asked_lg]; exact hv
  · exact LgUp.nd fun s v hv => by rw [asked_lg]; exact hv
  · exact LgUp.nd fun s v hv => by rw [promised_lg]; exact hv
  · exact LgUp.nd fun s v hv => taken_lg _ _ _ _ _ _ hv
  · exact LgUp.nd fun s v hv => hv
  · exact LgUp.nd fun s v hv => know_keeps _ _ _ _ _ hv
  · exact fun i s v hv => hv
theorem LgUp.deliver (g : Gm) (n i : Nat) : LgUp g (g.deliver n i) := by
  unfold Gm.deliver
  split
  · exact LgUp.arrive g n _ _
  · exact LgUp.refl g
theorem LgUp.tick (g : Gm) (n i : Nat) : LgUp g (g.tick n i) := by
  unfold Gm.tick
  dsimp only
  split
  · exact fun i s v hv => hv
  · exact LgUp.nd fun s v hv => hv
theorem LgUp.propose (g : Gm) (i : Nat) (v : ByteArray) : LgUp g (g.propose i v) := LgUp.nd fun s v hv => hv
theorem LgUp.crash (g : Gm) (i : Nat) : LgUp g (g.crash i) := LgUp.nd fun s v hv => hv
theorem LgUp.copy (g : Gm) (i : Nat) : LgUp g (g.copy i) := by
  unfold Gm.copy
  split
  · exact fun i s v hv => hv
  · exact LgUp.refl g
theorem LgUp.lose (g : Gm) (a b : Int) : LgUp g (g.lose a b) := fun i s v hv => hv
theorem LgUp.do22 (n : Nat) (g : Gm) (x : DAct) : LgUp g (doG n g x) := by
  unfold doG proposeG tickG deliverG copyG crashG
  repeat' split
  all_goals first | exact LgUp.propose _ _ _ | exact LgUp.tick _ _ _ | exact LgUp.deliver _ _ _ | exact LgUp.copy _ _ | exact LgUp.lose _ _ _ | exact LgUp.crash _ _ | exact LgUp.refl _
theorem DJ.do22 (hd : DJ n P g) (hn : n ≤ 7) (hok : GmOk n B g) (x : DAct) (hP : ∀ v, P v → P' v) (hx : x.k = 0 → doR n g x = 0 → P' x.v) : DJ n P' (doG n g x) := by
  have hd' := hd.more hP
  obtain ⟨k, i, a, t, v⟩ := x
  unfold doG
  dsimp only at hx ⊢
  split
  · rename_i hk
    unfold proposeG
    split
    · rename_i hc
      obtain ⟨j, rfl, hj⟩ := inN_of hc.1
      obtain ⟨h, hd'⟩ := hd'
      have hPv : P' v := hx hk (by unfold doR; rw [if_pos hk]; unfold proposeR; rw [if_pos hc.1, if_pos hc.2])
      rw [Int.toNat_natCast]
      exact ⟨h, hd'.propose hn hj hPv⟩
    · exact hd'
  · split
    · unfold tickG
      split
      · rename_i hc
        obtain ⟨j, rfl, hj⟩ := inN_of hc
        obtain ⟨h, hd'⟩ := hd'
        rw [Int.toNat_natCast]
        exact ⟨h, hd'.tick hn hj⟩
      · exact hd'
    · split
      · unfold deliverG
        split
        · exact hd'.deliver hn hok _
        · exact hd'
      · split
        · unfold copyG
          split
          · obtain ⟨h, hd'⟩ := hd'
            exact ⟨h, hd'.copy _⟩
          · exact hd'
        · split
          · obtain ⟨h, hd'⟩ := hd'
            exact ⟨h, hd'.lose _ _⟩
          · split
            · unfold crashG
              split
              · rename_i hc
                obtain ⟨j, rfl, hj⟩ := inN_of hc
                obtain ⟨h, hd'⟩ := hd'
                rw [Int.toNat_natCast]
                exact ⟨h, hd'.crash hn hj⟩
              · exact hd'
            · exact hd'
theorem log_pre' {a b : Nat} {f h : Nat → ByteArray} (hab : a ≤ b) (hf : ∀ s, s < a → f s = h s) : (List.range a).map f <+: (List.range b).map h := by
  obtain ⟨c, rfl⟩ := Nat.exists_eq_add_of_le hab
  rw [List.range_add, List.map_append]
  rw [show (List.range a).map f = (List.range a).map h from List.map_congr_left fun s hs => hf s (List.mem_range.1 hs)]
  exact List.prefix_append _ _
theorem isSome_get {o : Option ByteArray} (h : o.isSome = true) : ∃ v, o = some v := Option.isSome_iff_exists.1 h
/-- A list that only grows. -/
theorem log_grows (hx : IsFirst x.lg x.first) (hy : IsFirst y.lg y.first) (h : ∀ s v, x.lg s = some v → y.lg s = some v) : x.log <+: y.log := by
  have hle : x.first ≤ y.first := by
    refine Nat.le_of_not_lt fun hlt => ?_
    obtain ⟨v, hv⟩ := isSome_get (hx.yes _ hlt)
    have := h _ _ hv
    rw [hy.no] at this
    cases this
  refine log_pre' hle fun s hs => ?_
  obtain ⟨v, hv⟩ := isSome_get (hx.yes s hs)
  rw [hv, h _ _ hv]
/-- Of two lists that never say two things one is the beginning of the other. -/
theorem log_compat (hx : IsFirst x.lg x.first) (hy : IsFirst y.lg y.first) (h : ∀ s v u, x.lg s = some v → y.lg s = some u → v = u) : x.log <+: y.log ∨ y.log <+: x.log := by
  have key : ∀ {x y : Nod}, IsFirst x.lg x.first → IsFirst y.lg y.first → (∀ s v u, x.lg s = some v → y.lg s = some u → v = u) → x.first ≤ y.first → x.log <+: y.log := fun {x y} hx hy h hle => by
    refine log_pre' hle fun s hs => ?_
    obtain ⟨v, hv⟩ := isSome_get (hx.yes s hs)
    obtain ⟨u, hu⟩ := isSome_get (hy.yes s (by omega))
    rw [hv, hu, h s v u hv hu]
  rcases Nat.le_total x.first y.first with hle | hle
  · exact .inl (key hx hy h hle)
  · exact .inr (key hy hx (fun s v u hv hu => (h s u v hu hv).symm) hle)
theorem log_mem (hx : IsFirst x.lg x.first) {v : ByteArray} (hv : v ∈ x.log) : ∃ s, s < x.first ∧ x.lg s = some v := by
  unfold Nod.log at hv
  obtain ⟨s, hs, e⟩ := List.mem_map.1 hv
  obtain ⟨u, hu⟩ := isSome_get (hx.yes s (List.mem_range.1 hs))
  rw [hu] at e
  exact ⟨s, List.mem_range.1 hs, by rw [hu, ← e]; rfl⟩
theorem log_len (x : Nod) : x.log.length = x.first := by unfold Nod.log; rw [List.length_map, List.length_range]
theorem logR_nat {i : Nat} (hi : i < n) : logR n g (i : Int) = (g.nd i).log := by
  unfold logR
  rw [if_pos (show inN n (i : Int) from ⟨by omega, by omega⟩), Int.toNat_natCast]
theorem DJ.compat (hd : DJ n P g) (hok : GmOk n B g) (hB : B ≤ 1000000000) {i k : Nat} (hi : i < n) (hk : k < n) : (g.nd i).log <+: (g.nd k).log ∨ (g.nd k).log <+: (g.nd i).log :=
  log_compat ((hok.nd i hi).first hB).1 ((hok.nd k hk).first hB).1 fun s v u hv hu => hd.same hv hu
theorem LgUp.log (h : LgUp g g') {C : Nat} (hok : GmOk n B g) (hB : B ≤ 1000000000) (hok' : GmOk n C g') (hC : C ≤ 1000000000) {i : Nat} (hi : i < n) : (g.nd i).log <+: (g'.nd i).log :=
  log_grows ((hok.nd i hi).first hB).1 ((hok'.nd i hi).first hC).1 fun s v hv => h i s v hv
theorem DJ.mem (hd : DJ n P g) (hok : GmOk n B g) (hB : B ≤ 1000000000) {i : Nat} (hi : i < n) {v : ByteArray} (hv : v ∈ (g.nd i).log) : P v := by
  obtain ⟨s, _, hs⟩ := log_mem ((hok.nd i hi).first hB).1 hv
  exact hd.prop hs
theorem log_small (hok : GmOk n B g) (hB : B ≤ 1000000000) {i : Nat} (hi : i < n) : (g.nd i).log.length ≤ B := by
  rw [log_len]; exact ((hok.nd i hi).first hB).2
end
end Go.Proofs.Ytghhcjpilcoblaa
