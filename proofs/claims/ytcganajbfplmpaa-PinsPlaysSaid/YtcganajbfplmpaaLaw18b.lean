/- Chapter 18 (pins): plain laws on the floor. -/
import Derived.Test.YtcganajbfplmpaaAwake18
namespace Go.Proofs.Ytcganajbfplmpaa
open Go.RowKit Go.Lap
set_option linter.unusedVariables false

section
variable {E : List Pnm} {K : List Lse} {x : PAct} {last : Nat}
theorem good_doE (h : GoodE E) (hx : x.good) : GoodE (doE E x) := by
  unfold doE
  split
  · exact good_pin h _ hx.a
  · split
    · exact good_del h _
    · exact h
theorem good_doK (h : GoodK K) (hx : x.good) : GoodK (doK K x) := by
  unfold doK
  split
  · exact good_lease h hx.r hx.a hx.u
  · split
    · exact good_exp h _
    · exact h
theorem lease_mem (h0 : leaseErr K x.r x.a = 0) : (∀ y ∈ leaseE K x.r x.a x.u, (∃ z ∈ K, z.a = y.a) ∨ y.a = x.a) ∧ ∃ y ∈ leaseE K x.r x.a x.u, y.a = x.a := by
  unfold leaseE
  rw [if_pos h0]
  unfold leaseK
  rcases leaseErr_zero h0 with ⟨z, hz, hza⟩ | ⟨hz, _⟩
  · rw [hz]
    dsimp only [Option.isSome]
    rw [if_pos rfl]
    have hm := lookK_mem hz
    refine ⟨fun y hy => ?_, ?_⟩
    · obtain ⟨q, hq, rfl⟩ := List.mem_map.1 hy
      refine .inl ⟨q, hq, ?_⟩
      split <;> rfl
    · refine ⟨⟨x.r, z.1, x.u⟩, List.mem_map.2 ⟨_, hm, ?_⟩, hza⟩
      exact if_pos rfl
  · rw [hz]
    refine ⟨fun y hy => ?_, ⟨x.r, x.a, x.u⟩, by simp, rfl⟩
    simp only [Option.isSome] at hy
    rcases List.mem_append.1 hy with hy | hy
    · exact .inl ⟨y, hy, rfl⟩
    · simp at hy; subst hy; exact .inr rfl
/-- No other act lowers the floor. -/
theorem floor_else (h0 : x.kind ≠ 0) (h2 : x.kind ≠ 2) : floorP E K last ≤ floorP (doE E x) (doK K x) last := by
  obtain ⟨g1, g2, g3, _⟩ := floorP_le E K last
  obtain ⟨_, _, _, g4⟩ := floorP_le (doE E x) (doK K x) last
  rcases g4 with g4 | ⟨y, hy, g4⟩ | ⟨y, hy, g4⟩
  · rw [g4]; exact g1
  · rw [g4]
    unfold doE at hy
    rw [if_neg h0] at hy
    split at hy
    · exact g2 y (List.mem_filter.1 hy).1
    · exact g2 y hy
  · rw [g4]
    unfold doK at hy
    rw [if_neg h2] at hy
    split at hy
    · exact g3 y (List.mem_filter.1 hy).1
    · exact g3 y hy
theorem floor_bad (hk : x.kind = 0 ∨ x.kind = 2) (hr : doR E K x ≠ 0) : floorP (doE E x) (doK K x) last = floorP E K last := by
  unfold doR at hr
  unfold doE doK
  rcases hk with hk | hk
  · rw [if_pos hk] at hr
    rw [if_pos hk, if_neg (by omega), if_neg (by omega)]
    unfold pinE
    rw [if_neg hr]
  · rw [if_neg (by omega), if_neg (by omega), if_pos hk] at hr
    rw [if_neg (by omega), if_neg (by omega), if_pos hk]
    unfold leaseE
    rw [if_neg hr]
theorem floor_ok (hk : x.kind = 0 ∨ x.kind = 2) (hr : doR E K x = 0) : floorP (doE E x) (doK K x) last ≤ x.a ∧ (floorP (doE E x) (doK K x) last < floorP E K last → floorP (doE E x) (doK K x) last = x.a) := by
  obtain ⟨g1, g2, g3, _⟩ := floorP_le E K last
  obtain ⟨_, f2, f3, f4⟩ := floorP_le (doE E x) (doK K x) last
  unfold doR at hr
  rcases hk with hk | hk
  · rw [if_pos hk] at hr
    have hE : doE E x = insP E x.name x.a := by unfold doE pinE; rw [if_pos hk, if_pos hr]
    have hK : doK K x = K := by unfold doK; rw [if_neg (by omega), if_neg (by omega)]
    rw [hE, hK] at f2 f3 f4 ⊢
    refine ⟨f2 ⟨x.name, x.a⟩ (mem_ins.2 (.inl rfl)), fun hlt => ?_⟩
    rcases f4 with f4 | ⟨y, hy, f4⟩ | ⟨y, hy, f4⟩
    · omega
    · rcases mem_ins.1 hy with rfl | hy
      · exact f4
      · have := g2 y hy; omega
    · have := g3 y hy; omega
  · rw [if_neg (by omega), if_neg (by omega), if_pos hk] at hr
    have hE : doE E x = E := by unfold doE; rw [if_neg (by omega), if_neg (by omega)]
    have hK : doK K x = leaseE K x.r x.a x.u := by unfold doK; rw [if_pos hk]
    rw [hE, hK] at f2 f3 f4 ⊢
    obtain ⟨h1, y, hy, hya⟩ := lease_mem hr
    refine ⟨by have := f3 y hy; omega, fun hlt => ?_⟩
    rcases f4 with f4 | ⟨y, hy, f4⟩ | ⟨y, hy, f4⟩
    · omega
    · have := g2 y hy; omega
    · rcases h1 y hy with ⟨z, hz, hza⟩ | hza
      · have := g3 z hz; omega
      · omega
theorem srt_at (hs : SrtE E) {k : Nat} {x y : Pnm} (hx : E[k]? = some x) (hy : E[k + 1]? = some y) : lsS x.s y.s = true := by
  obtain ⟨h1, rfl⟩ := List.getElem?_eq_some_iff.1 hx
  obtain ⟨h2, rfl⟩ := List.getElem?_eq_some_iff.1 hy
  exact List.pairwise_iff_getElem.1 hs k (k + 1) h1 h2 (by omega)
end
end Go.Proofs.Ytcganajbfplmpaa
