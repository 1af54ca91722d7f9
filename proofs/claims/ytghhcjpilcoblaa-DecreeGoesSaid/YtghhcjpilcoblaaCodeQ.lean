/- Chapter 3, what needs no law of it: fields taken and put as plain functions; readers and writers side by side. -/
import Derived.Test.YtghhcjpilcoblaaCodeR2
import Derived.Laws.Bits128
import Derived.Laws.IdiomStrings
namespace Go.Proofs.Ytghhcjpilcoblaa
open Go.RowKit Go.Lap
set_option linter.unusedVariables false

theorem RdAt.step {w a b : World} {g : Nat} (hn : New w a) (hg : w.heap.size ≤ g) (hu : Upd (· = g) a b) : New w b := hn.upd hu (fun i hi => by omega)

structure Fld where
  kind : Int
  v : Nat
  s : ByteArray
  yes : Bool
  most : Int

def Fld.enc (f : Fld) : List Value := [.int .i64 f.kind, .int .u64 (f.v : Int), .string f.s, .bool f.yes, .int .i64 f.most]

def Fld.val (f : Fld) : Value := .agg #[.int .i64 f.kind, .int .u64 (f.v : Int), .string f.s, .bool f.yes, .int .i64 f.most]

def Fld.good (f : Fld) : Prop := f.v < 18446744073709551616 ∧ f.s.size ≤ maxLen ∧ -9223372036854775808 ≤ f.kind ∧ f.kind ≤ 9223372036854775807 ∧ -9223372036854775808 ≤ f.most ∧ f.most ≤ 9223372036854775807

/-- What is taken of a kind: the field, the rest, what went wrong. -/
def takeF (kind most : Int) (bs : List UInt8) (err : Int) : Fld × List UInt8 × Int :=
  if kind = 0 then (⟨kind, (numR bs err).1, str [], false, 0⟩, (numR bs err).2)
  else if kind = 1 then (⟨kind, 0, str (textR bs err).1, false, 0⟩, (textR bs err).2)
  else if kind = 2 then (⟨kind, 0, str [], (flagR bs err).1, 0⟩, (flagR bs err).2)
  else (⟨kind, (countR bs err most).1, str [], false, 0⟩, (countR bs err most).2)

theorem fldBlocks {w w2 : World} {g : Nat} {T1 T2 : TypeId} {cs1 cs2 : Array Value} (hg : g < w.heap.size) (hu : Upd (· = g) ((w.alloc (.cells cs1 T1)).alloc (.cells cs2 T2)) w2) :
    Blk w2 w.heap.size T1 cs1 ∧ Blk w2 (w.heap.size + 1) T2 cs2 := by
  have hB := Blk.mk_new (w.alloc (.cells cs1 T1)) T2 cs2
  rw [World.size_alloc] at hB
  exact ⟨((Blk.mk_new w T1 cs1).alloc _).upd hu (by omega), hB.upd hu (by omega)⟩

theorem RdAt.keeps {w W w2 w3 : World} {g : Nat} {v v2 : Value} {bs bs' : List UInt8} {err err' : Int} (h : RdAt w g v bs err) (h2 : RdAt w2 g v2 bs' err') (hf : Fr W v v2) (hW : W.heap.size = w.heap.size + 2) (hne : bs = [] → bs' = [])
    (hu : Upd (fun k => k = w.heap.size ∨ k = w.heap.size + 1) w2 w3) : RdAt w3 g v2 bs' err' := by
  have hg := h.1.lt
  refine ⟨h2.1.upd hu (by omega), ?_, h2.2.2⟩
  obtain ⟨A, c, hv, hc, hh⟩ := h2.2.1
  rcases hh with hh | ⟨b, off, rfl, hb, hh⟩
  · exact ⟨A, c, hv, hc, .inl hh⟩
  · by_cases hbs : bs' = []
    · exact ⟨_, c, hv, hc, .inl hbs⟩
    · refine h2.2.1.upd hu ?_
      intro k hk hS
      rcases hf k hk with h1 | h1
      · obtain ⟨A1, c1, hv1, hc1, hh1⟩ := h.2.1
        rcases hh1 with hh1 | ⟨b1, off1, rfl, hb1, hh1⟩
        · exact hbs (hne hh1)
        · subst hv1
          simp [Value.ownBlock] at h1
          omega
      · omega

theorem fr2 {w W : World} {v v2 : Value} (hf : Fr W v v2) (hW : W.heap.size = w.heap.size + 2) : Fr w v v2 := fun k hk => by
  rcases hf k hk with h1 | h1
  · exact .inl h1
  · exact .inr (by omega)

theorem numR_nil (err : Int) : (numR [] err).2.1 = [] := by
  unfold numR; split
  · split
    · simp [takeV, getV] at *
    · rfl
  · rfl

theorem textR_nil (err : Int) : (textR [] err).2.1 = [] := by
  unfold textR; split
  · simp [takeV, getV] at *
  · rfl

theorem countR_nil (err most : Int) : (countR [] err most).2.1 = [] := by
  unfold countR; split
  · simp [takeV, getV] at *
  · rfl

theorem flagR_nil (err : Int) : (flagR [] err).2.1 = [] := by
  unfold flagR; split <;> rfl

theorem countR_le (bs : List UInt8) (err most : Int) : ((countR bs err most).1 : Int) ≤ most ∨ (countR bs err most).1 = 0 := by
  unfold countR; split
  · next h => exact .inl h.2.2
  · exact .inr rfl

theorem ofNat_toNat8 {n : Nat} (h : n < 256) : (UInt8.ofNat n).toNat = n := by simp [UInt8.toNat_ofNat']; omega

theorem getV_varB : ∀ (n i acc : Nat) (rest : List UInt8), i ≤ 9 → n * 128 ^ i < 18446744073709551616 → (0 < i → n ≠ 0) → getV i acc (varB n ++ rest) = (0, acc + n * 128 ^ i, rest) := by
  intro n
  induction n using Nat.strongRecOn with
  | ind n ih =>
    intro i acc rest hi hn h0
    by_cases h : n < 128
    · rw [varB_small h]
      show getV i acc (UInt8.ofNat n :: rest) = _
      rw [getV, ofNat_toNat8 (by omega)]
      rw [if_neg, if_pos h]
      rintro (⟨h9, h1⟩ | ⟨hi0, hz⟩)
      · subst h9
        have : (2 : Nat) * 128 ^ 9 ≤ n * 128 ^ 9 := Nat.mul_le_mul_right _ h1
        omega
      · exact h0 hi0 hz
    · have h8 : i ≠ 9 := by
        intro h9
        subst h9
        have : (2 : Nat) * 128 ^ 9 ≤ n * 128 ^ 9 := Nat.mul_le_mul_right _ (by omega)
        omega
      rw [varB_big (by omega)]
      show getV i acc (UInt8.ofNat (n % 128 + 128) :: (varB (n / 128) ++ rest)) = _
      rw [getV, ofNat_toNat8 (by omega), if_neg (by omega), if_neg (by omega), Nat.add_sub_cancel]
      have hp : n / 128 * 128 ^ (i + 1) ≤ n * 128 ^ i := by
        rw [Nat.pow_succ, Nat.mul_comm (128 ^ i) 128, ← Nat.mul_assoc]
        exact Nat.mul_le_mul_right _ (by omega)
      rw [ih (n / 128) (by omega) (i + 1) _ rest (by omega) (by omega) (fun _ => by omega)]
      have : acc + n % 128 * 128 ^ i + n / 128 * 128 ^ (i + 1) = acc + n * 128 ^ i := by
        rw [Nat.pow_succ, Nat.mul_comm (128 ^ i) 128, ← Nat.mul_assoc, Nat.add_assoc, ← Nat.add_mul]
        congr 2
        omega
      rw [this]

theorem takeV_varB (n : Nat) (rest : List UInt8) (h : n < 18446744073709551616) : takeV (varB n ++ rest) = (0, n, rest) := by
  unfold takeV
  rw [getV_varB n 0 0 rest (by omega) (by simpa using h) (by omega)]
  simp

theorem getV_back : ∀ (bs : List UInt8) (i acc n : Nat) (rest : List UInt8), getV i acc bs = (0, n, rest) → ∃ m, n = acc + m * 128 ^ i ∧ bs = varB m ++ rest ∧ (0 < i → m ≠ 0) := by
  intro bs
  induction bs with
  | nil => intro i acc n rest h; simp [getV] at h
  | cons x xs ih =>
    intro i acc n rest h
    have hx := x.toNat_lt
    rw [getV] at h
    split at h
    · simp at h
    · rename_i hbad
      split at h
      · rename_i h128
        simp only [Prod.mk.injEq, true_and] at h
        refine ⟨x.toNat, h.1.symm, ?_, fun hi hz => hbad (.inr ⟨hi, hz⟩)⟩
        rw [varB_small h128, ← h.2]
        simp
      · rename_i h128
        obtain ⟨m, hm, hxs, h0⟩ := ih _ _ _ _ h
        have hm0 := h0 (by omega)
        refine ⟨(x.toNat - 128) + 128 * m, ?_, ?_, fun _ => by omega⟩
        · rw [hm, Nat.pow_succ, Nat.add_mul, Nat.add_assoc, Nat.mul_comm (128 ^ i) 128, ← Nat.mul_assoc, Nat.mul_comm m 128]
        · rw [varB_big (by omega)]
          have e1 : (x.toNat - 128 + 128 * m) % 128 + 128 = x.toNat := by omega
          have e2 : (x.toNat - 128 + 128 * m) / 128 = m := by omega
          rw [e1, e2, hxs]
          simp

theorem takeV_back {bs : List UInt8} (h : (takeV bs).1 = 0) : bs = varB (takeV bs).2.1 ++ (takeV bs).2.2 := by
  unfold takeV at *
  have hc := getV_code bs 0 0
  have hb := getV_back bs 0 0 (getV 0 0 bs).2.1 (getV 0 0 bs).2.2
  generalize getV 0 0 bs = r at *
  obtain ⟨c, n, rest⟩ := r
  simp only at *
  have hc0 : c = 0 := by
    by_cases h10 : c = 10
    · simp [h10] at h
    · simpa [h10] using h
  obtain ⟨m, hm, hbs, _⟩ := hb (by rw [hc0])
  have : m = n := by rw [hm]; simp
  rw [← this]
  exact hbs

theorem RdAt.setNew {w w' : World} {g : Nat} {v : Value} {bs : List UInt8} {err : Int} (h : RdAt w g v bs err) (hne : bs ≠ []) (hn : New w w') {p : Addr} (hp : w.heap.size ≤ p.block) (u : Value) : RdAt (w'.setCell p u) g v bs err := by
  have h' := h.new hn
  have hg := h.1.lt
  have hb : v.ownBlock ≠ some p.block := by
    obtain ⟨A, c, rfl, hc, hh⟩ := h.2.1
    rcases hh with hh | ⟨b, off, rfl, hb, hh⟩
    · exact absurd hh hne
    · intro he
      have : b = p.block := by simpa [Value.ownBlock] using he
      omega
  exact ⟨h'.1.far (by omega) u, h'.2.1.setFar hb u, h'.2.2⟩

theorem varB_ne (n : Nat) (rest : List UInt8) : varB n ++ rest ≠ [] := by
  intro h
  have h1 := congrArg List.length h
  have h2 := varB_pos n
  rw [List.length_append, List.length_nil] at h1
  omega

theorem Blk5F {w : World} {g t : Nat} {a b c d e : Value} (h : Blk w g t #[a, b, c, d, e]) : g < w.heap.size ∧ w.cell? ⟨g, 0, none⟩ = some a ∧ w.cell? ⟨g, 1, none⟩ = some b ∧ w.cell? ⟨g, 2, none⟩ = some c ∧ w.cell? ⟨g, 3, none⟩ = some d ∧ w.cell? ⟨g, 4, none⟩ = some e ∧ (∀ i, w.frozen? ⟨g, i, none⟩ = false) :=
  ⟨h.lt, h.cell 0, h.cell 1, h.cell 2, h.cell 3, h.cell 4, h.frozen⟩

/-- The bytes of a field. -/
def encF (f : Fld) : List UInt8 := if f.kind = 1 then varB f.s.size ++ f.s.data.toList else if f.kind = 2 then varB (flagN f.yes) else varB f.v

theorem encF_len (f : Fld) (hv : f.v < 18446744073709551616) (h : f.s.size ≤ 65536) : (encF f).length ≤ f.s.size + 10 := by
  have h1 := varB_len10 (n := f.s.size) (by omega)
  have h2 := varB_len10 (flagN_lt f.yes)
  have h3 := varB_len10 hv
  unfold encF
  repeat' split
  · simp only [List.length_append, strLen]; omega
  · omega
  · omega

def encsF (l : List Fld) : List UInt8 := l.flatMap encF

theorem encsF_snoc {l : List Fld} {k : Nat} {x : Fld} (h : l[k]? = some x) : encsF (l.take (k + 1)) = encsF (l.take k) ++ encF x := by
  obtain ⟨hk, rfl⟩ := List.getElem?_eq_some_iff.1 h
  unfold encsF
  rw [List.take_succ_eq_append_getElem hk, List.flatMap_append]
  simp

theorem encsF_drop {l : List Fld} {k : Nat} {x : Fld} (h : l[k]? = some x) : encsF (l.drop k) = encF x ++ encsF (l.drop (k + 1)) := by
  obtain ⟨hk, rfl⟩ := List.getElem?_eq_some_iff.1 h
  unfold encsF
  rw [List.drop_eq_getElem_cons hk, List.flatMap_cons]

theorem encsF_len : ∀ (l : List Fld) (m : Nat), m ≤ 65536 → (∀ f ∈ l, f.v < 18446744073709551616 ∧ f.s.size ≤ m) → (encsF l).length ≤ (m + 10) * l.length
  | [], m, _, _ => by simp [encsF]
  | f :: l, m, hm, h => by
    have h1 := h f (List.mem_cons_self ..)
    have h2 := encF_len f h1.1 (by omega)
    have h3 := encsF_len l m hm (fun g hg => h g (List.mem_cons_of_mem _ hg))
    simp only [encsF, List.flatMap_cons, List.length_append, List.length_cons, Nat.mul_succ] at *
    omega

theorem numR_enc (n : Nat) (rest : List UInt8) (h : n < 18446744073709551616) : numR (varB n ++ rest) 0 = (n, rest, 0) := by
  unfold numR
  rw [if_pos rfl, takeV_varB n rest h, if_pos rfl]

theorem textR_enc (s : ByteArray) (rest : List UInt8) (h : s.size ≤ 65536) : textR (varB s.size ++ s.data.toList ++ rest) 0 = (s.data.toList, rest, 0) := by
  unfold textR
  rw [List.append_assoc, takeV_varB _ _ (by omega), if_pos ⟨rfl, rfl, by simp only; omega⟩]
  have hl := strLen s
  rw [if_neg (by simp only [List.length_append]; omega)]
  simp only [← hl]
  rw [List.take_left, List.drop_left]

theorem flagR_enc (b : Bool) (rest : List UInt8) : flagR (varB (flagN b) ++ rest) 0 = (b, rest, 0) := by
  cases b
  · rw [show varB (flagN false) = [0] from by rw [varB_small (by decide)]; rfl]; simp [flagR]
  · rw [show varB (flagN true) = [1] from by rw [varB_small (by decide)]; rfl]; simp [flagR]

/-- '[]byte(s)': a new row that reads as the string's bytes. -/
theorem run_bytesP (s : ByteArray) (w : World) : ∃ v w', (convert 9 42 (.string s)).run Try.prog w = .ok v w' ∧ SlIn w' 1 bEnc v s.data.toList ∧ New w w' := by
  refine ⟨_, _, run_bytes_of_string w 9 42 5 s Try.underlying9 Try.underlying42 Try.underlying5, ?_, (New.refl w).drew.alloc _⟩
  have hge := grownCap_ge w s.size 0 5
  generalize grownCap w s.size 0 5 = cap at *
  have hlen : s.data.toList.length = s.size := Array.length_toList
  refine ⟨some ⟨w.heap.size, 0, none⟩, cap, by rw [hlen], by omega, .inr ⟨w.heap.size, 0, rfl, by simp, ?_⟩⟩
  intro k x hk j u hu
  have hj : j = 0 := by
    have := (List.getElem?_eq_some_iff.1 hu).1
    simp [bEnc] at this
    exact this
  subst hj
  simp [bEnc] at hu
  have hk2 := (List.getElem?_eq_some_iff.1 hk).1
  rw [hlen] at hk2
  have hb : (w.drew.alloc (.cells (bytesRow s cap) 5 ((bytesRow s cap).size, (bytesRow s cap).size + 1))).heap[w.heap.size]? = some (.cells (bytesRow s cap) 5 ((bytesRow s cap).size, (bytesRow s cap).size + 1)) := by
    show (w.heap.push _)[w.heap.size]? = _
    simp
  unfold World.cell?
  simp only [hb]
  rw [Array.getElem?_toList] at hk
  obtain ⟨hk3, hk4⟩ := Array.getElem?_eq_some_iff.1 hk
  simp [bytesRow, Array.getElem?_append, hk2, ← hu, hk4]

theorem getV_lenP (bs : List UInt8) : ∀ i acc, (getV i acc bs).2.2.length ≤ bs.length := by
  induction bs with
  | nil => intro i acc; simp [getV]
  | cons x xs ih =>
    intro i acc
    rw [getV]
    repeat' split
    · simp
    · simp
    · exact Nat.le_succ_of_le (ih (i + 1) (acc + (x.toNat - 128) * 128 ^ i))

theorem takeV_lenP (bs : List UInt8) : (takeV bs).2.2.length ≤ bs.length := getV_lenP bs 0 0

theorem takeF_lenP (kind most : Int) (bs : List UInt8) (err : Int) : (takeF kind most bs err).2.1.length ≤ bs.length := by
  have h := takeV_lenP bs
  unfold takeF numR textR flagR countR
  repeat' split
  all_goals first | exact Nat.le_refl _ | exact h | (simp; done) | (simp; omega)

theorem takeV_codeP (bs : List UInt8) : (takeV bs).1 = 0 ∨ (takeV bs).1 = 30 ∨ (takeV bs).1 = 12 := by
  have h := getV_code bs 0 0
  unfold takeV
  generalize getV 0 0 bs = r at *
  obtain ⟨c, n, rest⟩ := r
  simp only at *
  rcases h with h | h | h <;> simp [h]

/-- What goes wrong is never that there is more. -/
theorem takeF_code (kind most : Int) (bs : List UInt8) : (takeF kind most bs 0).2.2 ≠ 31 := by
  have h := takeV_codeP bs
  unfold takeF numR textR flagR countR belowErr
  repeat' split
  all_goals first | decide | (simp only [ne_eq]; omega)

theorem endR_ok {bs : List UInt8} {err : Int} (h31 : err ≠ 31) (h : endR bs err = 0 ∨ endR bs err = 31) : err = 0 := by
  unfold endR at h
  by_cases he : err = 0
  · exact he
  · rw [if_neg he] at h; omega

/-- What was taken, put again, is what was taken. -/
theorem takeF_back (kind most : Int) (bs : List UInt8) (hk : kind = 0 ∨ kind = 1 ∨ kind = 2 ∨ kind = 3) (he : (takeF kind most bs 0).2.2 = 0) :
    (takeF kind most bs 0).1.v < 18446744073709551616 ∧ (takeF kind most bs 0).1.s.size ≤ 65536 ∧ encF (takeF kind most bs 0).1 ++ (takeF kind most bs 0).2.1 = bs := by
  have hlt := takeV_lt bs
  have hb := takeV_back (bs := bs)
  have hc := takeV_codeP bs
  rcases hk with rfl | rfl | rfl | rfl
  · simp only [takeF, if_true, numR] at he ⊢
    by_cases h0 : (takeV bs).1 = 0
    · simp only [h0, if_true] at he ⊢
      exact ⟨hlt, by simp [str_size], (hb h0).symm⟩
    · simp only [h0, if_false] at he
  · have e : takeF 1 most bs 0 = (⟨1, 0, str (textR bs 0).1, false, 0⟩, (textR bs 0).2) := rfl
    rw [e] at he ⊢
    simp only at he ⊢
    unfold textR at he ⊢
    by_cases h1 : (takeV bs).1 = 0 ∧ ((takeV bs).2.1 : Int) ≤ 65536
    · rw [if_pos ⟨rfl, h1⟩] at he ⊢
      by_cases h2 : (takeV bs).2.2.length < (takeV bs).2.1
      · rw [if_pos h2] at he; simp at he
      · rw [if_neg h2] at he ⊢
        simp only
        have hsz : (str (List.take (takeV bs).2.1 (takeV bs).2.2)).size = (takeV bs).2.1 := by rw [str_size, List.length_take]; omega
        refine ⟨by omega, by rw [hsz]; omega, ?_⟩
        show (varB _ ++ (str (List.take (takeV bs).2.1 (takeV bs).2.2)).data.toList) ++ _ = bs
        rw [hsz, show (str (List.take (takeV bs).2.1 (takeV bs).2.2)).data.toList = List.take (takeV bs).2.1 (takeV bs).2.2 from by simp [str], List.append_assoc, List.take_append_drop]
        exact (hb h1.1).symm
    · rw [if_neg (fun h => h1 h.2)] at he
      simp only [belowErr, if_true] at he
      by_cases h0 : (takeV bs).1 = 0
      · rw [if_pos h0] at he; omega
      · rw [if_neg h0] at he; exact absurd he h0
  · have e : takeF 2 most bs 0 = (⟨2, 0, str [], (flagR bs 0).1, 0⟩, (flagR bs 0).2) := rfl
    rw [e] at he ⊢
    simp only at he ⊢
    refine ⟨by decide, by simp [str_size], ?_⟩
    cases bs with
    | nil => simp [flagR] at he
    | cons x xs =>
      by_cases hx : 1 < x.toNat
      · simp [flagR, hx] at he
      · have hx2 : flagR (x :: xs) 0 = (decide (x.toNat = 1), xs, 0) := by simp [flagR, hx]
        rw [hx2]
        show varB (flagN (decide (x.toNat = 1))) ++ xs = x :: xs
        have hx3 : flagN (decide (x.toNat = 1)) = x.toNat := by
          unfold flagN
          by_cases h1 : x.toNat = 1 <;> simp [h1]; omega
        rw [hx3, varB_small (by omega)]
        simp
  · have e : takeF 3 most bs 0 = (⟨3, (countR bs 0 most).1, str [], false, 0⟩, (countR bs 0 most).2) := rfl
    rw [e] at he ⊢
    simp only at he ⊢
    unfold countR at he ⊢
    by_cases h1 : (takeV bs).1 = 0 ∧ ((takeV bs).2.1 : Int) ≤ most
    · rw [if_pos ⟨rfl, h1⟩]
      exact ⟨hlt, by simp [str_size], (hb h1.1).symm⟩
    · rw [if_neg (fun h => h1 h.2)] at he
      simp only [belowErr, if_true] at he
      by_cases h0 : (takeV bs).1 = 0
      · rw [if_pos h0] at he; omega
      · rw [if_neg h0] at he; exact absurd he h0

/-- A reader's bytes lie apart from a writer's. -/
def Apart (g2 : Nat) (v2 v : Value) (bs : List UInt8) : Prop := bs = [] ∨ ∀ k, v.ownBlock = some k → ¬ WrS g2 v2 k

theorem rd_ne_wr {w : World} {base g g2 : Nat} {v v2 : Value} {bs ws : List UInt8} {err e2 : Int} (h : RdAt w g v bs err) (hw : WrAt w base g2 v2 ws e2) : ¬ WrS g2 v2 g := by
  rintro (h1 | h1)
  · exact Blk.ne_ h.1 hw.2.1 (by decide) h1
  · exact hw.2.2.ne_blk h.1 (by decide) h1

theorem RdAt.put {w w' : World} {base g g2 : Nat} {v v2 : Value} {bs ws : List UInt8} {err e2 : Int} (h : RdAt w g v bs err) (hw : WrAt w base g2 v2 ws e2) (hd : Apart g2 v2 v bs) (hu : Upd (WrS g2 v2) w w') : RdAt w' g v bs err := by
  refine ⟨h.1.upd hu (rd_ne_wr h hw), ?_, h.2.2⟩
  rcases hd with rfl | hd
  · obtain ⟨A, c, rfl, hc, _⟩ := h.2.1
    exact ⟨A, c, rfl, hc, .inl rfl⟩
  · exact h.2.1.upd hu hd

theorem RdAt.own_lt {w : World} {g : Nat} {v : Value} {bs : List UInt8} {err : Int} (h : RdAt w g v bs err) (hne : bs ≠ []) : ∀ k, v.ownBlock = some k → k < w.heap.size := by
  intro k hk
  obtain ⟨A, c, rfl, hc, hh⟩ := h.2.1
  rcases hh with hh | ⟨b, off, rfl, hb, hh⟩
  · exact absurd hh hne
  · have : b = k := by simpa [Value.ownBlock] using hk
    omega

theorem Apart.put {w : World} {base g g2 : Nat} {v v2 v3 : Value} {bs ws : List UInt8} {err e2 : Int} (h : RdAt w g v bs err) (hd : Apart g2 v2 v bs) (hf : Fr w v2 v3) : Apart g2 v3 v bs := by
  by_cases hne : bs = []
  · exact .inl hne
  rcases hd with hd | hd
  · exact .inl hd
  refine .inr fun k hk => ?_
  have hlt := h.own_lt hne k hk
  rintro (h1 | h1)
  · exact hd k hk (.inl h1)
  · rcases hf k h1 with h2 | h2
    · exact hd k hk (.inr h2)
    · omega

theorem Apart.take {w : World} {base g2 : Nat} {v v2 v3 : Value} {bs bs' ws : List UInt8} {e2 : Int} (hw : WrAt w base g2 v2 ws e2) (hd : Apart g2 v2 v bs) (hf : Fr w v v3) (hl : bs'.length ≤ bs.length) : Apart g2 v2 v3 bs' := by
  rcases hd with rfl | hd
  · exact .inl (List.eq_nil_of_length_eq_zero (Nat.le_zero.1 hl))
  refine .inr fun k hk => ?_
  rcases hf k hk with h1 | h1
  · exact hd k h1
  · exact hw.fresh h1

theorem WrAt.take {w w' : World} {base g g2 : Nat} {v v2 : Value} {bs ws : List UInt8} {err e2 : Int} (h : RdAt w g v bs err) (hw : WrAt w base g2 v2 ws e2) (hu : Upd (· = g) w w') : WrAt w' base g2 v2 ws e2 :=
  hw.upd hu (fun e => rd_ne_wr h hw (.inl e.symm)) (fun k hk e => rd_ne_wr h hw (.inr (by rw [hk, e])))

theorem takeF_kind (kind most : Int) (bs : List UInt8) (err : Int) : (takeF kind most bs err).1.kind = kind ∧ (takeF kind most bs err).1.most = 0 := by
  unfold takeF
  repeat' split
  all_goals exact ⟨rfl, rfl⟩

theorem numR_lenE (bs : List UInt8) (err : Int) : (numR bs err).2.1.length ≤ bs.length := by simpa [takeF] using takeF_lenP 0 0 bs err

theorem textR_lenE (bs : List UInt8) (err : Int) : (textR bs err).2.1.length ≤ bs.length := by simpa [takeF] using takeF_lenP 1 0 bs err

theorem flagR_lenE (bs : List UInt8) (err : Int) : (flagR bs err).2.1.length ≤ bs.length := by simpa [takeF] using takeF_lenP 2 0 bs err

/-- The reader's bytes do not lie in block p. -/
def Off (p : Nat) (v : Value) (bs : List UInt8) : Prop := bs = [] ∨ v.ownBlock ≠ some p

theorem Off.start {w : World} {g : Nat} {v : Value} {bs : List UInt8} {err : Int} (h : RdAt w g v bs err) {p : Nat} (hp : w.heap.size ≤ p) : Off p v bs := by
  by_cases hne : bs = []
  · exact .inl hne
  · exact .inr (fun hk => by have := h.own_lt hne _ hk; omega)

theorem Off.read {w : World} {v v' : Value} {bs bs' : List UInt8} {p : Nat} (h : Off p v bs) (hf : Fr w v v') (hp : p < w.heap.size) (hl : bs'.length ≤ bs.length) : Off p v' bs' := by
  rcases h with rfl | h
  · exact .inl (List.eq_nil_of_length_eq_zero (by simpa using hl))
  · right
    intro hk
    rcases hf p hk with h1 | h1
    · exact h h1
    · omega

theorem RdAt.off {S : Nat → Prop} {w w' : World} {g p : Nat} {v : Value} {bs : List UInt8} {err : Int} (h : RdAt w g v bs err) (ho : Off p v bs) (hu : Upd S w w') (hg : ¬ S g) (hS : ∀ k, S k → k = p) : RdAt w' g v bs err := by
  refine ⟨h.1.upd hu hg, ?_, h.2.2⟩
  rcases ho with rfl | ho
  · obtain ⟨A, c, rfl, hc, _⟩ := h.2.1
    exact ⟨A, c, rfl, hc, .inl rfl⟩
  · exact h.2.1.upd hu (fun k hk hs => ho (by rw [← hS k hs]; exact hk))

theorem str_list (l : List UInt8) : (str l).data.toList = l := by simp [str]

theorem numR_back {bs : List UInt8} (he : (numR bs 0).2.2 = 0) : (numR bs 0).1 < 18446744073709551616 ∧ varB (numR bs 0).1 ++ (numR bs 0).2.1 = bs := by
  have h := takeF_back 0 0 bs (.inl rfl) (by simpa [takeF] using he)
  exact ⟨by simpa [takeF] using h.1, by simpa [takeF, encF] using h.2.2⟩

theorem textR_back {bs : List UInt8} (he : (textR bs 0).2.2 = 0) : (textR bs 0).1.length ≤ 65536 ∧ varB (textR bs 0).1.length ++ (textR bs 0).1 ++ (textR bs 0).2.1 = bs := by
  have h := takeF_back 1 0 bs (.inr (.inl rfl)) (by simpa [takeF] using he)
  refine ⟨by simpa [takeF, str_size] using h.2.1, ?_⟩
  have h2 : encF ⟨1, 0, str (textR bs 0).1, false, 0⟩ ++ (textR bs 0).2.1 = bs := by simpa [takeF] using h.2.2
  unfold encF at h2
  rw [if_pos rfl, str_size, str_list] at h2
  exact h2

theorem flagR_back {bs : List UInt8} (he : (flagR bs 0).2.2 = 0) : varB (flagN (flagR bs 0).1) ++ (flagR bs 0).2.1 = bs := by
  have h := takeF_back 2 0 bs (.inr (.inr (.inl rfl))) (by simpa [takeF] using he)
  simpa [takeF, encF] using h.2.2

theorem numR_err (bs : List UInt8) {err : Int} (h : err ≠ 0) : numR bs err = (0, bs, err) := by unfold numR; rw [if_neg h]

theorem textR_err (bs : List UInt8) {err : Int} (h : err ≠ 0) : textR bs err = ([], bs, err) := by unfold textR; rw [if_neg (fun h1 => h h1.1)]; unfold belowErr; rw [if_neg h]

theorem flagR_err (bs : List UInt8) {err : Int} (h : err ≠ 0) : flagR bs err = (false, bs, err) := by unfold flagR; rw [if_neg h]

theorem endR_err (bs : List UInt8) {err : Int} (h : err ≠ 0) : endR bs err = err := by unfold endR; rw [if_neg h]

theorem endR_zero (bs : List UInt8) : endR bs 0 = 0 ↔ bs = [] := by unfold endR; rw [if_pos rfl]; split <;> simp_all

end Go.Proofs.Ytghhcjpilcoblaa
