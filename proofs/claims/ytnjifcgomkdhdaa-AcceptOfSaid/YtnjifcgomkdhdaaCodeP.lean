/- Plain laws of chapter 3: what is put is taken again, what is taken is put again. -/
import Derived.Test.YtnjifcgomkdhdaaFld2
namespace Go.Proofs.Ytnjifcgomkdhdaa
open Go.RowKit Go.Lap
set_option linter.unusedVariables false

theorem ofNat_toNat8 {n : Nat} (h : n < 256) : (UInt8.ofNat n).toNat = n := by simp [UInt8.toNat_ofNat']; omega

theorem getV_varB : ∀ (n i acc : Nat) (rest : List UInt8), i ≤ 9 → n * 128 ^ i < 18446744073709551616 → (0 < i → n ≠ 0) → getV i acc (varB n ++ rest) = (0, acc + n * 128 ^ i, rest) := by
  intro n
  induction n using Nat.strongRecOn with
  | ind n ih =>
    intro i acc rest hi hn h0
    by_cases h : n < 128
    · rw [varB_small h]
      show getV i acc (UInt8.ofNat n :: rest) = _
      rw [getV, ofNat_toNat8 (by omega)]
      rw [if_neg, if_pos h]
      rintro (⟨h9, h1⟩ | ⟨hi0, hz⟩)
      · subst h9
        have : (2 : Nat) * 128 ^ 9 ≤ n * 128 ^ 9 := Nat.mul_le_mul_right _ h1
        omega
      · exact h0 hi0 hz
    · have h8 : i ≠ 9 := by
        intro h9
        subst h9
        have : (2 : Nat) * 128 ^ 9 ≤ n * 128 ^ 9 := Nat.mul_le_mul_right _ (by omega)
        omega
      rw [varB_big (by omega)]
      show getV i acc (UInt8.ofNat (n % 128 + 128) :: (varB (n / 128) ++ rest)) = _
      rw [getV, ofNat_toNat8 (by omega), if_neg (by omega), if_neg (by omega), Nat.add_sub_cancel]
      have hp : n / 128 * 128 ^ (i + 1) ≤ n * 128 ^ i := by
        rw [Nat.pow_succ, Nat.mul_comm (128 ^ i) 128, ← Nat.mul_assoc]
        exact Nat.mul_le_mul_right _ (by omega)
      rw [ih (n / 128) (by omega) (i + 1) _ rest (by omega) (by omega) (fun _ => by omega)]
      have : acc + n % 128 * 128 ^ i + n / 128 * 128 ^ (i + 1) = acc + n * 128 ^ i := by
        rw [Nat.pow_succ, Nat.mul_comm (128 ^ i) 128, ← Nat.mul_assoc, Nat.add_assoc, ← Nat.add_mul]
        congr 2
        omega
      rw [this]

theorem takeV_varB (n : Nat) (rest : List UInt8) (h : n < 18446744073709551616) : takeV (varB n ++ rest) = (0, n, rest) := by
  unfold takeV
  rw [getV_varB n 0 0 rest (by omega) (by simpa using h) (by omega)]
  simp

theorem getV_back : ∀ (bs : List UInt8) (i acc n : Nat) (rest : List UInt8), getV i acc bs = (0, n, rest) → ∃ m, n = acc + m * 128 ^ i ∧ bs = varB m ++ rest ∧ (0 < i → m ≠ 0) := by
  intro bs
  induction bs with
  | nil => intro i acc n rest h; simp [getV] at h
  | cons x xs ih =>
    intro i acc n rest h
    have hx := x.toNat_lt
    rw [getV] at h
    split at h
    · simp at h
    · rename_i hbad
      split at h
      · rename_i h128
        simp only [Prod.mk.injEq, true_and] at h
        refine ⟨x.toNat, h.1.symm, ?_, fun hi hz => hbad (.inr ⟨hi, hz⟩)⟩
        rw [varB_small h128, ← h.2]
        simp
      · rename_i h128
        obtain ⟨m, hm, hxs, h0⟩ := ih _ _ _ _ h
        have hm0 := h0 (by omega)
        refine ⟨(x.toNat - 128) + 128 * m, ?_, ?_, fun _ => by omega⟩
        · rw [hm, Nat.pow_succ, Nat.add_mul, Nat.add_assoc, Nat.mul_comm (128 ^ i) 128, ← Nat.mul_assoc, Nat.mul_comm m 128]
        · rw [varB_big (by omega)]
          have e1 : (x.toNat - 128 + 128 * m) % 128 + 128 = x.toNat := by omega
          have e2 : (x.toNat - 128 + 128 * m) / 128 = m := by omega
          rw [e1, e2, hxs]
          simp

theorem takeV_back {bs : List UInt8} (h : (takeV bs).1 = 0) : bs = varB (takeV bs).2.1 ++ (takeV bs).2.2 := by
  unfold takeV at *
  have hc := getV_code bs 0 0
  have hb := getV_back bs 0 0 (getV 0 0 bs).2.1 (getV 0 0 bs).2.2
  generalize getV 0 0 bs = r at *
  obtain ⟨c, n, rest⟩ := r
  simp only at *
  have hc0 : c = 0 := by
    by_cases h10 : c = 10
    · simp [h10] at h
    · simpa [h10] using h
  obtain ⟨m, hm, hbs, _⟩ := hb (by rw [hc0])
  have : m = n := by rw [hm]; simp
  rw [← this]
  exact hbs

theorem RdAt.setNew {w w' : World} {g : Nat} {v : Value} {bs : List UInt8} {err : Int} (h : RdAt w g v bs err) (hne : bs ≠ []) (hn : New w w') {p : Addr} (hp : w.heap.size ≤ p.block) (u : Value) : RdAt (w'.setCell p u) g v bs err := by
  have h' := h.new hn
  have hg := h.1.lt
  have hb : v.ownBlock ≠ some p.block := by
    obtain ⟨A, c, rfl, hc, hh⟩ := h.2.1
    rcases hh with hh | ⟨b, off, rfl, hb, hh⟩
    · exact absurd hh hne
    · intro he
      have : b = p.block := by simpa [Value.ownBlock] using he
      omega
  exact ⟨h'.1.far (by omega) u, h'.2.1.setFar hb u, h'.2.2⟩
theorem varB_ne (n : Nat) (rest : List UInt8) : varB n ++ rest ≠ [] := by
  intro h
  have h1 := congrArg List.length h
  have h2 := varB_pos n
  rw [List.length_append, List.length_nil] at h1
  omega
theorem Blk5F {w : World} {g t : Nat} {a b c d e : Value} (h : Blk w g t #[a, b, c, d, e]) : g < w.heap.size ∧ w.cell? ⟨g, 0, none⟩ = some a ∧ w.cell? ⟨g, 1, none⟩ = some b ∧ w.cell? ⟨g, 2, none⟩ = some c ∧ w.cell? ⟨g, 3, none⟩ = some d ∧ w.cell? ⟨g, 4, none⟩ = some e ∧ (∀ i, w.frozen? ⟨g, i, none⟩ = false) :=
  ⟨h.lt, h.cell 0, h.cell 1, h.cell 2, h.cell 3, h.cell 4, h.frozen⟩

/-- The bytes of a field. -/
def encF (f : Fld) : List UInt8 := if f.kind = 1 then varB f.s.size ++ f.s.data.toList else if f.kind = 2 then varB (flagN f.yes) else varB f.v

theorem putF_enc (bs : List UInt8) (f : Fld) (h : f.s.size ≤ 65536) : putF (bs, 0) f = (bs ++ encF f, 0) := by
  unfold putF encF textS numB
  by_cases h1 : f.kind = 1
  · simp [h1, Nat.not_lt.2 h]
  · by_cases h2 : f.kind = 2 <;> simp [h1, h2]

theorem encF_len (f : Fld) (hv : f.v < 18446744073709551616) (h : f.s.size ≤ 65536) : (encF f).length ≤ f.s.size + 10 := by
  have h1 := varB_len10 (n := f.s.size) (by omega)
  have h2 := varB_len10 (flagN_lt f.yes)
  have h3 := varB_len10 hv
  unfold encF
  repeat' split
  · simp only [List.length_append, strLen]; omega
  · omega
  · omega

def encsF (l : List Fld) : List UInt8 := l.flatMap encF
theorem encsF_snoc {l : List Fld} {k : Nat} {x : Fld} (h : l[k]? = some x) : encsF (l.take (k + 1)) = encsF (l.take k) ++ encF x := by
  obtain ⟨hk, rfl⟩ := List.getElem?_eq_some_iff.1 h
  unfold encsF
  rw [List.take_succ_eq_append_getElem hk, List.flatMap_append]
  simp
theorem encsF_drop {l : List Fld} {k : Nat} {x : Fld} (h : l[k]? = some x) : encsF (l.drop k) = encF x ++ encsF (l.drop (k + 1)) := by
  obtain ⟨hk, rfl⟩ := List.getElem?_eq_some_iff.1 h
  unfold encsF
  rw [List.drop_eq_getElem_cons hk, List.flatMap_cons]
theorem encsF_len : ∀ (l : List Fld) (m : Nat), m ≤ 65536 → (∀ f ∈ l, f.v < 18446744073709551616 ∧ f.s.size ≤ m) → (encsF l).length ≤ (m + 10) * l.length
  | [], m, _, _ => by simp [encsF]
  | f :: l, m, hm, h => by
    have h1 := h f (List.mem_cons_self ..)
    have h2 := encF_len f h1.1 (by omega)
    have h3 := encsF_len l m hm (fun g hg => h g (List.mem_cons_of_mem _ hg))
    simp only [encsF, List.flatMap_cons, List.length_append, List.length_cons, Nat.mul_succ] at *
    omega

theorem numR_enc (n : Nat) (rest : List UInt8) (h : n < 18446744073709551616) : numR (varB n ++ rest) 0 = (n, rest, 0) := by
  unfold numR
  rw [if_pos rfl, takeV_varB n rest h, if_pos rfl]
theorem textR_enc (s : ByteArray) (rest : List UInt8) (h : s.size ≤ 65536) : textR (varB s.size ++ s.data.toList ++ rest) 0 = (s.data.toList, rest, 0) := by
  unfold textR
  rw [List.append_assoc, takeV_varB _ _ (by omega), if_pos ⟨rfl, rfl, by simp only; omega⟩]
  have hl := strLen s
  rw [if_neg (by simp only [List.length_append]; omega)]
  simp only [← hl]
  rw [List.take_left, List.drop_left]
theorem flagR_enc (b : Bool) (rest : List UInt8) : flagR (varB (flagN b) ++ rest) 0 = (b, rest, 0) := by
  cases b
  · rw [show varB (flagN false) = [0] from by rw [varB_small (by decide)]; rfl]; simp [flagR]
  · rw [show varB (flagN true) = [1] from by rw [varB_small (by decide)]; rfl]; simp [flagR]
end Go.Proofs.Ytnjifcgomkdhdaa
