/- A region that draws its order and ends in stores that wait for all the rest: the condition S need not hold behind these (built on Derived.OrdersHeld's laws). -/
import Derived.Test.YtecniafnihpjmaaGreatDoorMg5
import Derived.Deep.RegionHeld3
namespace Go.Proofs.YtecniafnihpjmaaGreatDoor
open Go.RowKit Go.Lap
set_option linter.unusedVariables false
section
variable {P : Program} {ops : Array Oper} {Q : Exit → Act → World → Prop} {md : Region.Mode} {S : World → Prop} {zs : List Nat}
/-- Whatever order is picked from here on; S holds behind each operation that is none of zs. -/
def wpZ (P : Program) (md : Region.Mode) (ops : Array Oper) (Q : Exit → Act → World → Prop) (S : World → Prop) (zs : List Nat) : Nat → Array Bool → Act → World → Prop
  | 0, listed, a, w => Region.ready md ops listed = [] ∧ Q .normal a w
  | fuel + 1, listed, a, w => (Region.ready md ops listed = [] → Q .normal a w) ∧
      ∀ i, i ∈ Region.ready md ops listed → wpOp P ops Q i (fun a' w' => (i ∉ zs → S w') ∧ wpZ P md ops Q S zs fuel (listed.setIfInBounds i true) a' w') a w
theorem wpZ_any : ∀ (fuel : Nat) (listed : Array Bool) (a : Act) (w : World), wpZ P md ops Q S zs fuel listed a w → wpAny P md ops Q fuel listed a w
  | 0, _, _, _, h => h
  | _ + 1, _, _, _, h => ⟨h.1, fun i hi => wpOp_mono (fun a' w' h' => wpZ_any _ _ a' w' h'.2) (h.2 i hi)⟩
/-- All of zs wait for i. -/
def waits (md : Region.Mode) (ops : Array Oper) (zs : List Nat) (i : Nat) : Bool := zs.all fun z => match ops[z]? with | none => true | some o => o.after.any fun e => Region.binds md e && e.on == i
theorem waits_not {i z : Nat} {listed : Array Bool} (h : waits md ops zs i = true) (hz : z ∈ zs) (hi : i ∈ Region.ready md ops listed) : z ∉ Region.ready md ops listed := by
  intro hr
  obtain ⟨h0, _⟩ := mem_ready.1 hi
  obtain ⟨_, o, ho, hall⟩ := mem_ready.1 hr
  have h1 := List.all_eq_true.1 h z hz
  rw [ho] at h1
  obtain ⟨e, he, hb⟩ := Array.any_eq_true'.1 h1
  simp only [Bool.and_eq_true, beq_iff_eq] at hb
  have h2 := hall e he hb.1
  rw [hb.2] at h2
  rcases Nat.lt_or_ge i listed.size with hlt | hge
  · simp [hlt] at h0 h2; rw [h0] at h2; cases h2
  · simp [Array.getElem?_eq_none hge] at h2
theorem wpZ_first {i : Nat} {oi : Oper} {v : Value} (hi : ops[i]? = some oi) (hsel : ∀ (j : Nat) (o : Oper) cs b, ops[j]? = some o → o.op ≠ .select cs b)
    (hQ : ∀ c a w, Q (.panic c) (a.put oi.dst v) w → Q (.panic c) a w) (hw : waits md ops zs i = true) (hni : i ∉ zs) : ∀ (fuel : Nat) (listed : Array Bool) (a : Act) (w : World),
      (∀ j oj, ops[j]? = some oj → j ≠ i → listed.getD j true = false → (∀ e ∈ oj.after, Region.binds md e = true → e.on ≠ i) → oi.apart ops oj = true) →
      i ∈ Region.ready md ops listed → YieldsIf P ops S oi v a → S w →
      wpZ P md ops Q S zs fuel (listed.setIfInBounds i true) (a.put oi.dst v) w → wpZ P md ops Q S zs (fuel + 1) listed a w := by
  intro fuel
  induction fuel with
  | zero =>
    intro listed a w _ hr hy hS H
    refine ⟨fun h => absurd (h ▸ hr) (by simp), fun j hj => ?_⟩
    rcases Classical.em (j = i) with rfl | hji
    · exact hy.wpOp hi hS ⟨fun _ => hS, H⟩
    · exact absurd (H.1 ▸ ready_mono hj hji) (by simp)
  | succ fuel ih =>
    intro listed a w hfree hr hy hS H
    refine ⟨fun h => absurd (h ▸ hr) (by simp), fun j hj => ?_⟩
    rcases Classical.em (j = i) with rfl | hji
    · exact hy.wpOp hi hS ⟨fun _ => hS, H⟩
    · have hjz : j ∉ zs := fun hz => waits_not hw hz hr hj
      obtain ⟨hju, oj, hoj, hall⟩ := mem_ready.1 hj
      have hno : ∀ e ∈ oj.after, Region.binds md e = true → e.on ≠ i := by
        intro e he hb heq
        have h1 := hall e he hb
        have h0 := (mem_ready.1 hr).1
        rw [heq] at h1
        rcases Nat.lt_or_ge i listed.size with hlt | hge
        · simp [hlt] at h0 h1; rw [h0] at h1; cases h1
        · simp [Array.getElem?_eq_none hge] at h1
      refine wpOp_mono (fun a' w' h3 => ?_) (wpOp_putIf hoj (hfree j oj hoj hji hju hno) (fun cs b => hsel i oi cs b hi) (fun cs b => hsel j oj cs b hoj) hQ hy (H.2 j (ready_mono hj hji)))
      have hS' := h3.2.1 hjz
      refine ⟨fun _ => hS', ih _ a' w' (fun k ok hk hki hun hnk => hfree k ok hk hki ?_ hnk) (ready_mono hr (Ne.symm hji)) h3.1 hS' ?_⟩
      · rcases Classical.em (j = k) with rfl | hjk
        · exact hju
        · rw [getD_set_ne true hjk] at hun; exact hun
      · rw [Array.setIfInBounds_comm _ _ hji]; exact h3.2.2
theorem wpZ_take {i : Nat} {oi : Oper} {v : Value} {fuel : Nat} {listed : Array Bool} {a : Act} {w : World} (hi : ops[i]? = some oi)
    (hs : Region.noSelect ops = true) (hf : Region.free md ops listed i = true) (hr : ((Region.ready md ops listed).contains i && (waits md ops zs i && !zs.contains i)) = true)
    (hQ : ∀ c a w, Q (.panic c) (a.put oi.dst v) w → Q (.panic c) a w) (hy : YieldsIf P ops S oi v a) (hS : S w)
    (h : wpZ P md ops Q S zs fuel (listed.setIfInBounds i true) (a.put oi.dst v) w) : wpZ P md ops Q S zs (fuel + 1) listed a w := by
  simp only [Bool.and_eq_true, Bool.not_eq_true'] at hr
  exact wpZ_first hi (Region.noSelect_spec hs) hQ hr.2.1 (by simpa using hr.2.2) fuel listed a w (Region.free_spec hi hf) (by simpa using hr.1) hy hS h
theorem tkZ {i : Nat} {oi : Oper} {v : Value} {fuel : Nat} {listed : Array Bool} {a : Act} {w : World} (hy : YieldsIf P ops S oi v a) (h : wpZ P md ops Q S zs fuel (listed.setIfInBounds i true) (a.put oi.dst v) w)
    (hi : ops[i]? = some oi := by rfl) (hs : Region.noSelect ops = true := by kernel_rfl) (hf : Region.free md ops listed i = true := by kernel_rfl) (hr : ((Region.ready md ops listed).contains i && (waits md ops zs i && !zs.contains i)) = true := by kernel_rfl)
    (hQ : ∀ c a w, Q (.panic c) (a.put oi.dst v) w → Q (.panic c) a w := by exact fun _ _ _ h => h) (hS : S w := by assumption) : wpZ P md ops Q S zs (fuel + 1) listed a w := wpZ_take hi hs hf hr hQ hy hS h
theorem tkZN {i : Nat} {oi : Oper} {v : Value} {fuel : Nat} {listed : Array Bool} {a : Act} {w : World} (hi : ops.toList[i]? = some oi) (h : wpZ P md ops Q S zs fuel (listed.setIfInBounds i true) (a.put oi.dst v) w)
    (hy : ∀ w', S w' → (execOp a.eval oi).run P w' = .ok (.value v) w' := by (intro wq hSw; (try dsimp only at hSw); go_simp; first | done | with_reducible rfl))
    (hw : Region.wanted oi (yielded ops a.tmps) = true := by rfl)
    (hs : Region.noSelect ops = true := by kernel_rfl) (hf : Region.free md ops listed i = true := by kernel_rfl) (hr : ((Region.ready md ops listed).contains i && (waits md ops zs i && !zs.contains i)) = true := by kernel_rfl)
    (hQ : ∀ c a w, Q (.panic c) (a.put oi.dst v) w → Q (.panic c) a w := by exact fun _ _ _ h => h) (hS : S w := by assumption) : wpZ P md ops Q S zs (fuel + 1) listed a w := wpZ_take (by rw [← Array.getElem?_toList]; exact hi) hs hf hr hQ (.inl ⟨hw, hy⟩) hS h
theorem tkZU {i : Nat} {oi : Oper} {fuel : Nat} {listed : Array Bool} {a : Act} {w : World} (hi : ops.toList[i]? = some oi) (h : wpZ P md ops Q S zs fuel (listed.setIfInBounds i true) (a.put oi.dst undef) w)
    (hw : Region.wanted oi (yielded ops a.tmps) = false := by rfl)
    (hs : Region.noSelect ops = true := by kernel_rfl) (hf : Region.free md ops listed i = true := by kernel_rfl) (hr : ((Region.ready md ops listed).contains i && (waits md ops zs i && !zs.contains i)) = true := by kernel_rfl)
    (hQ : ∀ c a w, Q (.panic c) (a.put oi.dst undef) w → Q (.panic c) a w := by exact fun _ _ _ h => h) (hS : S w := by assumption) : wpZ P md ops Q S zs (fuel + 1) listed a w := wpZ_take (by rw [← Array.getElem?_toList]; exact hi) hs hf hr hQ (.inr ⟨hw, rfl⟩) hS h
def AllZ (P : Program) (md : Region.Mode) (ops : Array Oper) (Q : Exit → Act → World → Prop) (S : World → Prop) (zs : List Nat) (fuel : Nat) (listed : Array Bool) (a : Act) (w : World) (rs : List Nat) : Prop :=
  ∀ i, i ∈ rs → wpOp P ops Q i (fun a' w' => (i ∉ zs → S w') ∧ wpZ P md ops Q S zs fuel (listed.setIfInBounds i true) a' w') a w
theorem AllZ.nil {fuel : Nat} {listed : Array Bool} {a : Act} {w : World} : AllZ P md ops Q S zs fuel listed a w [] := fun _ h => by cases h
theorem AllZ.cons {fuel : Nat} {listed : Array Bool} {a : Act} {w : World} {i : Nat} {o : Oper} {rs : List Nat} (ho : ops[i]? = some o)
    (h : ∀ K' : Act → World → Prop, Shut (∀ a w, S w → (S w → wpZ P md ops Q S zs fuel (listed.setIfInBounds i true) a w) → K' a w) → if Region.wanted o (yielded ops a.tmps) = true then Oper.wp P o a w K' Q else K' (a.put o.dst undef) w)
    (hs : AllZ P md ops Q S zs fuel listed a w rs) : AllZ P md ops Q S zs fuel listed a w (i :: rs) := fun j hj => by
  rcases List.mem_cons.1 hj with rfl | hj
  · exact wpOp_step ho (fun K' hK => h K' (fun a w hS hW => hK a w ⟨fun _ => hS, hW hS⟩))
  · exact hs j hj
theorem AllZ.consZ {fuel : Nat} {listed : Array Bool} {a : Act} {w : World} {i : Nat} {o : Oper} {rs : List Nat} (ho : ops[i]? = some o) (hz : zs.contains i = true)
    (h : ∀ K' : Act → World → Prop, Shut (∀ a w, wpZ P md ops Q S zs fuel (listed.setIfInBounds i true) a w → K' a w) → if Region.wanted o (yielded ops a.tmps) = true then Oper.wp P o a w K' Q else K' (a.put o.dst undef) w)
    (hs : AllZ P md ops Q S zs fuel listed a w rs) : AllZ P md ops Q S zs fuel listed a w (i :: rs) := fun j hj => by
  rcases List.mem_cons.1 hj with rfl | hj
  · exact wpOp_step ho (fun K' hK => h K' (fun a w hW => hK a w ⟨fun hn => absurd (by simpa using hz) hn, hW⟩))
  · exact hs j hj
theorem rdZN {fuel : Nat} {listed : Array Bool} {a : Act} {w : World} {i : Nat} {o : Oper} {rs : List Nat} (hi : ops.toList[i]? = some o)
    (h : ∀ K' : Act → World → Prop, Shut (∀ a w, S w → (S w → wpZ P md ops Q S zs fuel (listed.setIfInBounds i true) a w) → K' a w) → if Region.wanted o (yielded ops a.tmps) = true then Oper.wp P o a w K' Q else K' (a.put o.dst undef) w)
    (hs : AllZ P md ops Q S zs fuel listed a w rs) : AllZ P md ops Q S zs fuel listed a w (i :: rs) := AllZ.cons (by rw [← Array.getElem?_toList]; exact hi) h hs
theorem rdZZ {fuel : Nat} {listed : Array Bool} {a : Act} {w : World} {i : Nat} {o : Oper} {rs : List Nat} (hi : ops.toList[i]? = some o) (hz : zs.contains i = true)
    (h : ∀ K' : Act → World → Prop, Shut (∀ a w, wpZ P md ops Q S zs fuel (listed.setIfInBounds i true) a w → K' a w) → if Region.wanted o (yielded ops a.tmps) = true then Oper.wp P o a w K' Q else K' (a.put o.dst undef) w)
    (hs : AllZ P md ops Q S zs fuel listed a w rs) : AllZ P md ops Q S zs fuel listed a w (i :: rs) := AllZ.consZ (by rw [← Array.getElem?_toList]; exact hi) hz h hs
theorem wpZ_ready {rs : List Nat} {fuel : Nat} {listed : Array Bool} {a : Act} {w : World} (hr : Region.ready md ops listed = rs) (hne : rs ≠ [])
    (h : AllZ P md ops Q S zs fuel listed a w rs) : wpZ P md ops Q S zs (fuel + 1) listed a w := ⟨fun h0 => absurd (hr ▸ h0) hne, fun i hi => h i (hr ▸ hi)⟩
theorem stZN {fuel : Nat} {listed : Array Bool} {a : Act} {w : World} {i : Nat} {o : Oper} (hi : ops.toList[i]? = some o)
    (h : ∀ K' : Act → World → Prop, Shut (∀ a w, S w → (S w → wpZ P md ops Q S zs fuel (listed.setIfInBounds i true) a w) → K' a w) → if Region.wanted o (yielded ops a.tmps) = true then Oper.wp P o a w K' Q else K' (a.put o.dst undef) w)
    (hr : Region.ready md ops listed = [i] := by kernel_rfl) : wpZ P md ops Q S zs (fuel + 1) listed a w := wpZ_ready hr (by simp) (rdZN hi h AllZ.nil)
theorem stZZ {fuel : Nat} {listed : Array Bool} {a : Act} {w : World} {i : Nat} {o : Oper} (hi : ops.toList[i]? = some o)
    (h : ∀ K' : Act → World → Prop, Shut (∀ a w, wpZ P md ops Q S zs fuel (listed.setIfInBounds i true) a w → K' a w) → if Region.wanted o (yielded ops a.tmps) = true then Oper.wp P o a w K' Q else K' (a.put o.dst undef) w)
    (hz : zs.contains i = true := by kernel_rfl) (hr : Region.ready md ops listed = [i] := by kernel_rfl) : wpZ P md ops Q S zs (fuel + 1) listed a w := wpZ_ready hr (by simp) (rdZZ hi hz h AllZ.nil)
theorem wpZ_done {listed : Array Bool} {a : Act} {w : World} (hr : Region.ready md ops listed = []) (h : Q .normal a w) : ∀ fuel, wpZ P md ops Q S zs fuel listed a w
  | 0 => ⟨hr, h⟩
  | _ + 1 => ⟨fun _ => h, fun i hi => by rw [hr] at hi; cases hi⟩
theorem wp_region_z {id : Nat} {a : Act} {w : World} (zs : List Nat) (S : World → Prop) (hm : P.follows .mixedOrders = true) (hS : S w.drew)
    (h : S w.drew → wpZ P .any ops Q S zs ops.size (Array.replicate ops.size false) a w.drew) : (Code.region id ops true).wp P Q a w := wp_region_any hm (wpZ_any _ _ _ _ (h hS))
end
end Go.Proofs.YtecniafnihpjmaaGreatDoor
