/- How an argument that is read as data is opened: structs laid flat, slices of structs as lists. -/
import Derived.Test.YtecniafnihpjmaaGreatDoorBase
import Derived.ProofKit
import Derived.Deep.Slices
import Derived.OpenShut
import Derived.ShutString
import Derived.ChangeOld
namespace Go.Lap
open Go.ChangeShapes Go.WideShapes Go.ChangeAt Go.RowKit

def joinFlat (P : Program) (g : TypeId → Option (List TypeId)) : List Field → Nat → Option (List TypeId)
  | [], _ => some []
  | f :: fs, off => if f.offset = off then (g f.type).bind fun ks => if P.cellsOf f.type = ks.length then (joinFlat P g fs (off + ks.length)).map (ks ++ ·) else none else none

/-- The leaf types of a type, one a cell. -/
def flat (P : Program) : Nat → TypeId → Option (List TypeId)
  | 0, _ => none
  | n + 1, t => match P.underlying t with
    | some .bool => some [t]
    | some (.int _) => some [t]
    | some .string => some [t]
    | some (.slice _) => some [t]
    | some (.struct fs) => (joinFlat P (flat P n) fs.toList 0).bind fun ks => if P.cellsOf t = ks.length then some ks else none
    | _ => none

section
variable {H : Type} (enc : TypeId × Value → H) (P : Program) (w : World) (base : Nat) (spare : Nat → Bool) (held : Bool)

/-- One cell reads as a value of type t. -/
def OkL (t : TypeId) (v : Value) : Prop := ∃ fuel y, DataW.trod enc P w base spare held fuel t [v] = some y

def OkAll : List TypeId → List Value → Prop
  | [], [] => True
  | k :: ks, v :: vs => OkL enc P w base spare held k v ∧ OkAll ks vs
  | _, _ => False

variable {enc P w base spare held}
theorem OkAll.append : ∀ {ks ks' : List TypeId} {cs cs' : List Value}, OkAll enc P w base spare held ks cs → OkAll enc P w base spare held ks' cs' → OkAll enc P w base spare held (ks ++ ks') (cs ++ cs')
  | [], _, [], _, _, h' => h'
  | _ :: _, _, _ :: _, _, h, h' => ⟨h.1, OkAll.append h.2 h'⟩
  | [], _, _ :: _, _, h, _ => h.elim
  | _ :: _, _, [], _, h, _ => h.elim

theorem OkAll.length : ∀ {ks : List TypeId} {cs : List Value}, OkAll enc P w base spare held ks cs → cs.length = ks.length
  | [], [], _ => rfl
  | _ :: _, _ :: _, h => by simp [OkAll.length h.2]
  | [], _ :: _, h => h.elim
  | _ :: _, [], h => h.elim

theorem joinFlat_sound {g : TypeId → Option (List TypeId)} {n : Nat} {cs : List Value}
    (hg : ∀ t ks cs' x, g t = some ks → DataW.trod enc P w base spare held n t cs' = some x → OkAll enc P w base spare held ks cs') :
    ∀ (fs : List Field) (off : Nat) (ks : List TypeId), joinFlat P g fs off = some ks →
      (∀ f ∈ fs, ∃ y, DataW.trod enc P w base spare held n f.type ((cs.drop f.offset).take (P.cellsOf f.type)) = some y) → OkAll enc P w base spare held ks ((cs.drop off).take ks.length) := by
  intro fs
  induction fs with
  | nil => intro off ks h _; simp [joinFlat] at h; subst h; simp [OkAll]
  | cons f fs ih =>
    intro off ks h hf
    unfold joinFlat at h
    split at h
    case isFalse => cases h
    rename_i ho
    obtain ⟨kf, hkf, h⟩ := Option.bind_eq_some_iff.1 h
    split at h
    case isFalse => cases h
    rename_i hc
    obtain ⟨kr, hkr, rfl⟩ := Option.map_eq_some_iff.1 h
    have h2 := ih _ _ hkr (fun f' hf' => hf f' (List.mem_cons_of_mem _ hf'))
    obtain ⟨y, hy⟩ := hf f (List.mem_cons_self ..)
    have h1 := hg _ _ _ _ hkf hy
    rw [ho, hc] at h1
    have := OkAll.append h1 h2
    rw [List.length_append, List.take_add]
    rw [List.drop_drop]
    exact this

theorem flat_sound : ∀ (n : Nat) (t : TypeId) (ks : List TypeId) (fuel : Nat) (cs : List Value) (x : DataW H × List MemPlace), flat P n t = some ks →
    DataW.trod enc P w base spare held fuel t cs = some x → OkAll enc P w base spare held ks cs := by
  intro n
  induction n with
  | zero => intro t ks fuel cs x h; simp [flat] at h
  | succ n ih =>
    intro t ks fuel cs x h hx
    unfold flat at h
    split at h
    · rename_i hu; cases h; obtain ⟨b, rfl, _⟩ := DataW.trod_bool hu hx; exact ⟨⟨_, _, hx⟩, trivial⟩
    · rename_i hu; cases h; obtain ⟨b, rfl, _⟩ := DataW.trod_int hu hx; exact ⟨⟨_, _, hx⟩, trivial⟩
    · rename_i hu; cases h; obtain ⟨b, rfl, _⟩ := DataW.trod_string hu hx; exact ⟨⟨_, _, hx⟩, trivial⟩
    · rename_i hu; cases h
      rcases DataW.trod_slice hu hx with ⟨rfl, _⟩ | ⟨a, len, cap, _, _, _, _, rfl, _⟩ <;> exact ⟨⟨_, _, hx⟩, trivial⟩
    · rename_i fs hu
      obtain ⟨ks', hj, h⟩ := Option.bind_eq_some_iff.1 h
      split at h
      case isFalse => cases h
      rename_i hc
      cases h
      obtain ⟨xs, m, _, _, hlen, hxl, hf⟩ := DataW.trod_struct hu hx
      have h1 := joinFlat_sound (n := m) (cs := cs) (fun t ks cs' x hk hx => ih t ks m cs' x hk hx) _ _ _ hj (fun f hfm => by
        obtain ⟨i, hi, hfi⟩ := List.mem_iff_getElem.1 hfm
        have h2 := hf i f (by simpa [Array.getElem?_eq_some_iff] using ⟨by simpa using hi, by simpa using hfi⟩)
        rw [List.getElem?_eq_getElem (by simpa [hxl] using hi)] at h2
        exact ⟨_, h2⟩)
      rw [List.drop_zero, List.take_of_length_le (by omega)] at h1
      exact h1
    · cases h

theorem list_of_all {α : Type} {R : Nat → α → Prop} : ∀ (n : Nat), (∀ i, i < n → ∃ a, R i a) → ∃ l : List α, l.length = n ∧ ∀ i a, l[i]? = some a → R i a
  | 0, _ => ⟨[], rfl, fun i a h => by simp at h⟩
  | n + 1, h => by
    obtain ⟨l, hl, hR⟩ := list_of_all n (fun i hi => h i (by omega))
    obtain ⟨a, ha⟩ := h n (by omega)
    refine ⟨l ++ [a], by simp [hl], fun i b hb => ?_⟩
    by_cases hi : i < l.length
    · rw [List.getElem?_append_left hi] at hb; exact hR i b hb
    · rw [List.getElem?_append_right (by omega)] at hb
      have : i - l.length = 0 := by
        rcases Nat.eq_zero_or_pos (i - l.length) with h0 | h0
        · exact h0
        · rw [List.getElem?_eq_none (by simp; omega)] at hb; cases hb
      rw [this] at hb
      have hin : i = n := by omega
      subst hin
      simp at hb
      subst hb
      exact ha

/-- A slice of structs, opened as a list. -/
theorem open_sl {α : Type} {ec : α → List Value} {good : α → Prop} {t e : TypeId} {n : Nat} {ks : List TypeId} (ht : P.underlying t = some (.slice e)) (hf : flat P n e = some ks) (hC : P.cellsOf e = ks.length) (hpos : 0 < ks.length)
    (dec : ∀ cs, OkAll enc P w base spare held ks cs → ∃ a, cs = ec a ∧ good a) {v : Value} (h : OkL enc P w base spare held t v) :
    ∃ l : List α, SlIn w ks.length ec v l ∧ (∀ a ∈ l, good a) ∧ l.length ≤ maxLen := by
  obtain ⟨fuel, x, hx⟩ := h
  rcases Go.Deep.open_slice ht hx with ⟨h0, _⟩ | ⟨a, len, cap, m, k, D, Pl, hcs, _, hl, hm, hmm, _, hi⟩
  · cases h0
    exact ⟨[], ⟨_, _, rfl, Nat.le_refl _, .inl rfl⟩, by simp, by simp⟩
  · cases hcs
    have hlm : len ≤ m := by rw [hmm]; split <;> omega
    have hall : ∀ i, i < len → ∃ b : α, good b ∧ ∀ j u, (ec b)[j]? = some u → w.cell? (a.add (i * ks.length + j)) = some u := fun i him => by
      obtain ⟨cs', hc, hd⟩ := hi i (by omega)
      have ho := flat_sound _ _ _ _ _ _ hf hd
      obtain ⟨b, rfl, hg⟩ := dec _ ho
      rw [hC] at hc
      obtain ⟨_, hcl, hat⟩ := World.cells?_some hc
      refine ⟨b, hg, fun j u hu => ?_⟩
      have hj : j < ks.length := by rw [← hcl]; exact (List.getElem?_eq_some_iff.1 hu).1
      rw [← Go.Deep.add_add, hat j hj, hu]
    have hlen : ∀ i b, (∀ j u, (ec b)[j]? = some u → w.cell? (a.add (i * ks.length + j)) = some u) → True := fun _ _ _ => trivial
    clear hlen
    obtain ⟨l, hll, hR⟩ := list_of_all (R := fun i b => good b ∧ ∀ j u, (ec b)[j]? = some u → w.cell? (a.add (i * ks.length + j)) = some u) len hall
    refine ⟨l, ⟨some a, cap, by rw [hll], by omega, ?_⟩, fun b hb => ?_, by omega⟩
    · rcases l with _ | ⟨b0, l'⟩
      · exact .inl rfl
      · right
        have h0 := (hR 0 b0 rfl).2
        obtain ⟨cs', hc, _⟩ := hi 0 (by simp at hll; omega)
        rw [hC] at hc
        obtain ⟨_, hcl, hat⟩ := World.cells?_some hc
        have hc0 := hat 0 hpos
        rw [List.getElem?_eq_getElem (by omega)] at hc0
        obtain ⟨b, off, spot⟩ := a
        have hspot : spot = none := by simpa [Addr.add] using World.cell?_spot hc0
        subst hspot
        have hb := World.block_lt_of_cell? _ _ hc0
        refine ⟨b, off, rfl, by simpa [Addr.add] using hb, fun k x hx j u hu => ?_⟩
        have := (hR k x hx).2 j u hu
        unfold Addr.add at this
        split at this
        · rename_i hz
          have : off + k * ks.length + j = off := by omega
          rw [this]; assumption
        · simpa [Nat.add_assoc] using this
    · obtain ⟨i, hi', hbi⟩ := List.mem_iff_getElem.1 hb
      exact (hR i b (by rw [List.getElem?_eq_getElem hi', hbi])).1

theorem okL_bool {t : TypeId} {v : Value} (ht : P.underlying t = some .bool) (h : OkL enc P w base spare held t v) : ∃ b, v = .bool b := by
  obtain ⟨_, _, h⟩ := h; obtain ⟨b, hb, _⟩ := DataW.trod_bool ht h; cases hb; exact ⟨b, rfl⟩
theorem okL_int {t : TypeId} {k : IntKind} {v : Value} (ht : P.underlying t = some (.int k)) (h : OkL enc P w base spare held t v) : ∃ n, v = .int k n ∧ (Lit.int k n).wf = true := by
  obtain ⟨_, _, h⟩ := h; obtain ⟨b, hb, _, hw⟩ := DataW.trod_int ht h; cases hb; exact ⟨b, rfl, hw⟩
theorem okL_string {t : TypeId} {v : Value} (ht : P.underlying t = some .string) (h : OkL enc P w base spare held t v) : ∃ s, v = .string s ∧ s.size ≤ maxLen := by
  obtain ⟨_, _, h⟩ := h; obtain ⟨b, hb, _, hw⟩ := DataW.trod_string ht h; cases hb; exact ⟨b, rfl, hw⟩

/-- An argument of a one-cell type. -/
theorem okL_of_trod {t : TypeId} {v : Value} {d : DataW H} {p : List MemPlace} (hv : v.cells.toList = [v]) (h : DataW.Trod enc P w base spare held t v d p) : OkL enc P w base spare held t v := by
  obtain ⟨fuel, hf⟩ := h
  rw [hv] at hf
  exact ⟨fuel, _, hf⟩
/-- An argument that is a struct by value. -/
theorem okAll_of_trod {t : TypeId} {fs : Array Field} {n : Nat} {ks : List TypeId} {v : Value} {r : Reach} {b0 : Nat} {d : DataW H} {p : List MemPlace} (ht : P.underlying t = some (.struct fs)) (hf : flat P n t = some ks)
    (hv : Value.okWide P w r b0 t v) (h : DataW.Trod enc P w base spare held t v d p) : ∃ cs : List Value, v = .agg cs.toArray ∧ OkAll enc P w base spare held ks cs := by
  obtain ⟨⟨cs⟩, rfl, _⟩ := okWide_struct ht hv
  obtain ⟨fuel, hx⟩ := h
  exact ⟨cs, rfl, flat_sound _ _ _ _ _ _ hf (by simpa [Value.cells] using hx)⟩
end
end Go.Lap
