/- Chapter 24: what ReplicaReads leans on (plain), and how its batches lie. -/
import Derived.Test.YtecniafnihpjmaaGreatDoorRdP
import Derived.Test.YtecniafnihpjmaaGreatDoorRdC
import Derived.Test.YtecniafnihpjmaaGreatDoorMg10
namespace Go.Proofs.YtecniafnihpjmaaGreatDoor
open Go.RowKit Go.Lap C
set_option linter.unusedVariables false
set_option linter.unusedSimpArgs false
/-- The keys of what may be rise. -/
theorem chkFrom_rise : ∀ {p : Option ByteArray} {l : List Wri}, chkFrom p l = 0 → (∀ k, p = some k → ∀ x ∈ l, lsK k x.key = true) ∧ l.Pairwise (fun x y => lsK x.key y.key = true) ∧ ∀ x ∈ l, chk1 x = 0
  | p, [], _ => ⟨fun _ _ x h => by simp at h, List.Pairwise.nil, fun x h => by simp at h⟩
  | p, x :: l, h => by
    unfold chkFrom at h
    by_cases h1 : chk1 x = 0
    · rw [if_neg (fun e => e h1)] at h
      cases h2 : prevBad p x.key with
      | true => rw [h2] at h; simp at h
      | false =>
        rw [h2, if_neg (by simp)] at h
        obtain ⟨a, b, c⟩ := chkFrom_rise h
        have hx := a x.key rfl
        refine ⟨fun k hk y hy => ?_, List.pairwise_cons.2 ⟨hx, b⟩, fun y hy => ?_⟩
        · subst hk
          have hkx : lsK k x.key = true := by unfold prevBad at h2; simpa [lsK] using h2
          rcases List.mem_cons.1 hy with rfl | hy
          · exact hkx
          · exact lsK_trans hkx (hx y hy)
        · rcases List.mem_cons.1 hy with rfl | hy
          · exact h1
          · exact c y hy
    · rw [if_pos h1] at h; exact absurd h h1
theorem chk_rise {l : List Wri} (h : chk l = 0) : l.length ≤ 8 ∧ l.Pairwise (fun x y => lsK x.key y.key = true) ∧ ∀ x ∈ l, chk1 x = 0 := by
  unfold chk at h
  split at h
  · simp at h
  · split at h
    · simp at h
    · exact ⟨by omega, (chkFrom_rise h).2⟩
theorem chk1_okS {x : Wri} (h : chk1 x = 0) : okS x.key := by
  unfold chk1 at h
  split at h
  · simp at h
  · rename_i h1
    have : x.key.size ≤ 64 := by omega
    show x.key.size ≤ maxLen
    unfold maxLen; omega
theorem filter_one {l : List Wri} (h : l.Pairwise (fun x y => lsK x.key y.key = true)) (k : ByteArray) : (l.filter fun x => decide (x.key = k)).length ≤ 1 := by
  induction l with
  | nil => simp
  | cons x l ih =>
    obtain ⟨h1, h2⟩ := List.pairwise_cons.1 h
    by_cases e : x.key = k
    · have : l.filter (fun x => decide (x.key = k)) = [] := by
        rw [List.filter_eq_nil_iff]
        intro y hy hyk
        have hyk' : y.key = k := by simpa using hyk
        have := h1 y hy
        rw [e, hyk', lsK_irr] at this
        cases this
      simp [e, this]
    · simp [e]; exact ih h2
theorem vsOf_app (P Q : List (Nat × Wri)) (k : ByteArray) : vsOf (P ++ Q) k = vsOf P k ++ vsOf Q k := by unfold vsOf; rw [List.filter_append, List.map_append]
theorem vsOf_row (t : Nat) (l : List Wri) (k : ByteArray) : vsOf (l.map fun x => (t, x)) k = (l.filter fun x => decide (x.key = k)).map fun x => ⟨(t : Int), x.val, x.gone⟩ := by
  unfold vsOf
  rw [List.filter_map, List.map_map]
  rfl
theorem rise_snoc {l : List Ver} {v : Ver} (h : Rise l) (hv : ∀ x ∈ l, x.at_ < v.at_) : Rise (l ++ [v]) := by
  intro i x y hx hy
  have hlen : i + 1 < (l ++ [v]).length := (List.getElem?_eq_some_iff.1 hy).1
  rw [List.length_append, List.length_singleton] at hlen
  rw [List.getElem?_append_left (by omega)] at hx
  by_cases e : i + 1 < l.length
  · rw [List.getElem?_append_left e] at hy
    exact h i x y hx hy
  · have e2 : i + 1 = l.length := by omega
    rw [List.getElem?_append_right (by omega), e2, Nat.sub_self] at hy
    simp at hy
    subst hy
    exact hv x (List.mem_of_getElem? hx)
theorem wsUp_rise {l : List Btc} (h : ∀ b ∈ l, chk b.l = 0) (k : ByteArray) : ∀ i, Rise (vsOf (wsUp l i) k)
  | 0 => by intro i x y hx; simp [wsUp, vsOf] at hx
  | i + 1 => by
    have ih := wsUp_rise h k i
    cases hb : l[i]? with
    | none =>
      have : wsUp l (i + 1) = wsUp l i := by
        unfold wsUp
        rw [List.range_succ, List.flatMap_append]
        simp [hb, Btc.none]
      rw [this]; exact ih
    | some b =>
      rw [wsUp_next hb, vsOf_app, vsOf_row]
      have h1 := filter_one (chk_rise (h b (List.mem_of_getElem? hb))).2.1 k
      generalize b.l.filter (fun x => decide (x.key = k)) = f at h1 ⊢
      match f, h1 with
      | [], _ => rw [List.map_nil, List.append_nil]; exact ih
      | [x], _ =>
        refine rise_snoc ih fun y hy => ?_
        obtain ⟨p, hp, e⟩ := vsOf_at hy
        have := wsUp_at l _ p hp
        rw [e]
        show (p.1 : Int) < ((i + 1 : Nat) : Int)
        omega
      | x :: y :: r, h1 => simp at h1
theorem wsUp_take {l : List Btc} : ∀ {a i : Nat}, i ≤ a → wsUp (l.take a) i = wsUp l i
  | a, 0, _ => rfl
  | a, i + 1, h => by
    have ih := wsUp_take (l := l) (a := a) (i := i) (by omega)
    unfold wsUp at ih ⊢
    rw [List.range_succ, List.flatMap_append, List.flatMap_append, ih]
    congr 1
    simp only [List.flatMap_cons, List.flatMap_nil, List.append_nil]
    rw [List.getElem?_take, if_pos (by omega)]
/-- A replica that is alone. -/
structure Lone (x : Rpl) : Prop where
  id : x.id = 0
  cf : x.cf = ⟨1, [0]⟩
  cl : x.cl = x.l.length
  la : x.j.la = x.l.length
  ok : ∀ b ∈ x.l, chk b.l = 0
theorem Lone.new : Lone (Rpl.new_ 0 ⟨1, [0]⟩) := ⟨rfl, rfl, rfl, rfl, fun b h => by simp [Rpl.new_] at h⟩
theorem new_la (j : Jd) (b : Btc) : ((j.new_ b).1.la = j.la ∨ (j.new_ b).1.la = j.la + 1) := by
  unfold Jd.new_ Jd.commit
  split
  · exact .inl rfl
  · split
    · exact .inl rfl
    · split
      · exact .inl rfl
      · exact .inr rfl
theorem say_la (j : Jd) (b : Btc) : (j.say b).1.la = j.la ∨ ((j.say b).1.la = j.la + 1 ∧ chk b.l = 0) := by
  unfold Jd.say
  by_cases h : chk b.l = 0
  · rw [if_neg (fun e => e h)]
    cases j.sn b.c with
    | none => exact (new_la j b).imp id fun e => ⟨e, h⟩
    | some p =>
      obtain ⟨q, v⟩ := p
      dsimp only
      split
      · exact .inl rfl
      · split
        · exact .inl rfl
        · exact (new_la j b).imp id fun e => ⟨e, h⟩
  · rw [if_pos h]; exact .inl rfl
theorem Lone.submit {x : Rpl} (h : Lone x) (b : Btc) : Lone (x.submit b).1 ∧ (x.submit b).1.l.length ≤ x.l.length + 1 := by
  obtain ⟨id, cf, j, l, cl, out⟩ := x
  obtain ⟨h1, h2, h3, h4, h5⟩ := h
  dsimp only at h1 h2 h3 h4 h5
  subst h1 h2
  unfold Rpl.submit
  rw [if_neg (by show ¬ placeC [0] 0 ≠ 0; decide)]
  dsimp only
  have hla : (⟨0, ⟨1, [0]⟩, j, l, cl, out⟩ : Rpl).la = l.length := rfl
  rcases say_la j b with e | ⟨e, hc⟩
  · rw [if_neg (by rw [hla]; omega)]
    exact ⟨⟨rfl, rfl, h3, by rw [← h4]; exact e, h5⟩, by dsimp only; omega⟩
  · rw [if_pos (by rw [hla]; omega)]
    unfold Rpl.added
    dsimp only
    have hn : (nextC ⟨1, [0]⟩ 0).2 = false := by decide
    have hb : (befC ⟨1, [0]⟩ 0).2 = false := by decide
    rw [hn, if_neg (by simp)]
    unfold Rpl.cleaned Rpl.tell Rpl.la
    dsimp only
    rw [hb, if_neg (by simp)]
    refine ⟨⟨rfl, rfl, rfl, ?_, fun c hc' => ?_⟩, by simp⟩
    · dsimp only
      rw [e, List.length_append, List.length_singleton, h4]
    · dsimp only at hc'
      rcases List.mem_append.1 hc' with hc' | hc'
      · exact h5 c hc'
      · rw [List.mem_singleton.1 hc']; exact hc
/-- What Get answers where all is clean. -/
theorem get_val {x : Rpl} {key : ByteArray} {a : Nat} (ha : a ≤ x.cl) : x.get key a = match valP (wsUp x.l a) key with | some s => (s, 0) | none => (⟨#[]⟩, 243) := by
  have hall : ∀ y ∈ vsOf (wsUp x.l a) key, y.at_ ≤ (a : Int) := fun y hy => by
    obtain ⟨p, hp, e⟩ := vsOf_at hy
    have := wsUp_at _ _ p hp
    rw [e]; omega
  unfold Rpl.get
  rw [if_neg (by omega), cutN_all hall, atV_last]
  have h := valP_last (wsUp x.l a) key
  generalize lastV (vsOf (wsUp x.l a) key) = r at h ⊢
  obtain ⟨rs, rn⟩ := r
  dsimp only at h ⊢
  cases hv : valP (wsUp x.l a) key with
  | none =>
    rw [hv] at h
    by_cases h0 : rn = 0
    · simp [h0] at h
    · rw [if_neg h0]
  | some s =>
    rw [hv] at h
    by_cases h0 : rn = 0
    · simp [h0] at h; rw [if_pos h0, h]
    · simp [h0] at h
theorem get_new {x : Rpl} {key : ByteArray} {a : Nat} (ha : x.cl < a) : x.get key a = (⟨#[]⟩, 242) := by unfold Rpl.get; rw [if_pos ha]
section
variable {w w' W wr : World}
/-- A batch among the arguments. -/
structure BvIn (W : World) (p : BtV) : Prop where
  sl : SlIn W 3 Wri.enc p.sl p.b.l
  ll : p.b.l.length ≤ maxLen
  c : p.b.c < big
  r : p.b.r < big
  s : p.b.s < big
theorem bvi_at {v : Value} {l : List BtV} (h : SlIn W 4 BtV.enc v l) {k : Nat} {p : BtV} (hk : l[k]? = some p) (hn : New W wr) : ∃ g off cap, v = .slice (some ⟨g, off, none⟩) l.length cap ∧ g < W.heap.size ∧
    wr.cell? ⟨g, off + k * 4, none⟩ = some (.int .u64 (p.b.c : Int)) ∧ wr.cell? ⟨g, off + k * 4 + 1, none⟩ = some (.int .u64 (p.b.r : Int)) ∧ wr.cell? ⟨g, off + k * 4 + 2, none⟩ = some (.int .u64 (p.b.s : Int)) ∧ wr.cell? ⟨g, off + k * 4 + 3, none⟩ = some (.slice p.A p.b.l.length p.c) := by
  obtain ⟨A, c, rfl, _, hh⟩ := h
  rcases hh with rfl | ⟨g, off, rfl, hg, hc⟩
  · simp at hk
  have e := fun j u hu => (hn.cells.1 g (off + k * 4 + j) hg).trans (hc k p hk j u hu)
  exact ⟨g, off, c, rfl, hg, e 0 _ rfl, e 1 _ rfl, e 2 _ rfl, e 3 _ rfl⟩
theorem BtRow.takeR {base : Nat} {A : Option Addr} {m c : Nat} {l : List Btc} (h : BtRow w base (.slice A m c) l) {k : Nat} (hk : k ≤ l.length) (hkc : k ≤ c) : BtRow w base (.slice A k c) (l.take k) := by
  obtain ⟨ps, rfl, h2, h3⟩ := h
  rw [List.length_map] at hk
  exact ⟨ps.take k, by rw [List.map_take], h2.take BtV.encOk hk hkc (Nat.le_refl _), fun p hp => h3 p (List.mem_of_mem_take hp)⟩
theorem BtRow.capR {base : Nat} {A : Option Addr} {m c : Nat} {l : List Btc} (h : BtRow w base (.slice A m c) l) : m = l.length ∧ l.length ≤ c := by
  obtain ⟨ps, rfl, h2, h3⟩ := h
  have := (h2.slIn BtV.encOk).cap_le
  rw [List.length_map]
  exact ⟨this.2, this.1⟩
end
end Go.Proofs.YtecniafnihpjmaaGreatDoor
