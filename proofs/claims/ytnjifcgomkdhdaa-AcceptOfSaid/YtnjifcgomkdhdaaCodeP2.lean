/- Plain laws of chapter 3: fields that are taken, put again, are the bytes that were taken; a reader and a writer side by side. -/
import Derived.Test.YtnjifcgomkdhdaaCodeP
import Derived.Laws.IdiomStrings
namespace Go.Proofs.Ytnjifcgomkdhdaa
open Go.RowKit Go.Lap
set_option linter.unusedVariables false

/-- '[]byte(s)': a new row that reads as the string's bytes. -/
theorem run_bytesP (s : ByteArray) (w : World) : ∃ v w', (convert 9 47 (.string s)).run Try.prog w = .ok v w' ∧ SlIn w' 1 bEnc v s.data.toList ∧ New w w' := by
  refine ⟨_, _, run_bytes_of_string w 9 47 5 s Try.underlying9 Try.underlying47 Try.underlying5, ?_, (New.refl w).drew.alloc _⟩
  have hge := grownCap_ge w s.size 0 5
  generalize grownCap w s.size 0 5 = cap at *
  have hlen : s.data.toList.length = s.size := Array.length_toList
  refine ⟨some ⟨w.heap.size, 0, none⟩, cap, by rw [hlen], by omega, .inr ⟨w.heap.size, 0, rfl, by simp, ?_⟩⟩
  intro k x hk j u hu
  have hj : j = 0 := by
    have := (List.getElem?_eq_some_iff.1 hu).1
    simp [bEnc] at this
    exact this
  subst hj
  simp [bEnc] at hu
  have hk2 := (List.getElem?_eq_some_iff.1 hk).1
  rw [hlen] at hk2
  have hb : (w.drew.alloc (.cells (bytesRow s cap) 5 ((bytesRow s cap).size, (bytesRow s cap).size + 1))).heap[w.heap.size]? = some (.cells (bytesRow s cap) 5 ((bytesRow s cap).size, (bytesRow s cap).size + 1)) := by
    show (w.heap.push _)[w.heap.size]? = _
    simp
  unfold World.cell?
  simp only [hb]
  rw [Array.getElem?_toList] at hk
  obtain ⟨hk3, hk4⟩ := Array.getElem?_eq_some_iff.1 hk
  simp [bytesRow, Array.getElem?_append, hk2, ← hu, hk4]

theorem getV_lenP (bs : List UInt8) : ∀ i acc, (getV i acc bs).2.2.length ≤ bs.length := by
  induction bs with
  | nil => intro i acc; simp [getV]
  | cons x xs ih =>
    intro i acc
    rw [getV]
    repeat' split
    · simp
    · simp
    · exact Nat.le_succ_of_le (ih (i + 1) (acc + (x.toNat - 128) * 128 ^ i))
theorem takeV_lenP (bs : List UInt8) : (takeV bs).2.2.length ≤ bs.length := getV_lenP bs 0 0
theorem takeF_lenP (kind most : Int) (bs : List UInt8) (err : Int) : (takeF kind most bs err).2.1.length ≤ bs.length := by
  have h := takeV_lenP bs
  unfold takeF numR textR flagR countR
  repeat' split
  all_goals first | exact Nat.le_refl _ | exact h | (simp; done) | (simp; omega)

theorem takeV_codeP (bs : List UInt8) : (takeV bs).1 = 0 ∨ (takeV bs).1 = 30 ∨ (takeV bs).1 = 12 := by
  have h := getV_code bs 0 0
  unfold takeV
  generalize getV 0 0 bs = r at *
  obtain ⟨c, n, rest⟩ := r
  simp only at *
  rcases h with h | h | h <;> simp [h]

/-- What goes wrong is never that there is more. -/
theorem takeF_code (kind most : Int) (bs : List UInt8) : (takeF kind most bs 0).2.2 ≠ 31 := by
  have h := takeV_codeP bs
  unfold takeF numR textR flagR countR belowErr
  repeat' split
  all_goals first | decide | (simp only [ne_eq]; omega)

theorem endR_ok {bs : List UInt8} {err : Int} (h31 : err ≠ 31) (h : endR bs err = 0 ∨ endR bs err = 31) : err = 0 := by
  unfold endR at h
  by_cases he : err = 0
  · exact he
  · rw [if_neg he] at h; omega

/-- What was taken, put again, is what was taken. -/
theorem takeF_back (kind most : Int) (bs : List UInt8) (hk : kind = 0 ∨ kind = 1 ∨ kind = 2 ∨ kind = 3) (he : (takeF kind most bs 0).2.2 = 0) :
    (takeF kind most bs 0).1.v < 18446744073709551616 ∧ (takeF kind most bs 0).1.s.size ≤ 65536 ∧ encF (takeF kind most bs 0).1 ++ (takeF kind most bs 0).2.1 = bs := by
  have hlt := takeV_lt bs
  have hb := takeV_back (bs := bs)
  have hc := takeV_codeP bs
  rcases hk with rfl | rfl | rfl | rfl
  · simp only [takeF, if_true, numR] at he ⊢
    by_cases h0 : (takeV bs).1 = 0
    · simp only [h0, if_true] at he ⊢
      exact ⟨hlt, by simp [str_size], (hb h0).symm⟩
    · simp only [h0, if_false] at he
  · have e : takeF 1 most bs 0 = (⟨1, 0, str (textR bs 0).1, false, 0⟩, (textR bs 0).2) := rfl
    rw [e] at he ⊢
    simp only at he ⊢
    unfold textR at he ⊢
    by_cases h1 : (takeV bs).1 = 0 ∧ ((takeV bs).2.1 : Int) ≤ 65536
    · rw [if_pos ⟨rfl, h1⟩] at he ⊢
      by_cases h2 : (takeV bs).2.2.length < (takeV bs).2.1
      · rw [if_pos h2] at he; simp at he
      · rw [if_neg h2] at he ⊢
        simp only
        have hsz : (str (List.take (takeV bs).2.1 (takeV bs).2.2)).size = (takeV bs).2.1 := by rw [str_size, List.length_take]; omega
        refine ⟨by omega, by rw [hsz]; omega, ?_⟩
        show (varB _ ++ (str (List.take (takeV bs).2.1 (takeV bs).2.2)).data.toList) ++ _ = bs
        rw [hsz, show (str (List.take (takeV bs).2.1 (takeV bs).2.2)).data.toList = List.take (takeV bs).2.1 (takeV bs).2.2 from by simp [str], List.append_assoc, List.take_append_drop]
        exact (hb h1.1).symm
    · rw [if_neg (fun h => h1 h.2)] at he
      simp only [belowErr, if_true] at he
      by_cases h0 : (takeV bs).1 = 0
      · rw [if_pos h0] at he; omega
      · rw [if_neg h0] at he; exact absurd he h0
  · have e : takeF 2 most bs 0 = (⟨2, 0, str [], (flagR bs 0).1, 0⟩, (flagR bs 0).2) := rfl
    rw [e] at he ⊢
    simp only at he ⊢
    refine ⟨by decide, by simp [str_size], ?_⟩
    cases bs with
    | nil => simp [flagR] at he
    | cons x xs =>
      by_cases hx : 1 < x.toNat
      · simp [flagR, hx] at he
      · have hx2 : flagR (x :: xs) 0 = (decide (x.toNat = 1), xs, 0) := by simp [flagR, hx]
        rw [hx2]
        show varB (flagN (decide (x.toNat = 1))) ++ xs = x :: xs
        have hx3 : flagN (decide (x.toNat = 1)) = x.toNat := by
          unfold flagN
          by_cases h1 : x.toNat = 1 <;> simp [h1]; omega
        rw [hx3, varB_small (by omega)]
        simp
  · have e : takeF 3 most bs 0 = (⟨3, (countR bs 0 most).1, str [], false, 0⟩, (countR bs 0 most).2) := rfl
    rw [e] at he ⊢
    simp only at he ⊢
    unfold countR at he ⊢
    by_cases h1 : (takeV bs).1 = 0 ∧ ((takeV bs).2.1 : Int) ≤ most
    · rw [if_pos ⟨rfl, h1⟩]
      exact ⟨hlt, by simp [str_size], (hb h1.1).symm⟩
    · rw [if_neg (fun h => h1 h.2)] at he
      simp only [belowErr, if_true] at he
      by_cases h0 : (takeV bs).1 = 0
      · rw [if_pos h0] at he; omega
      · rw [if_neg h0] at he; exact absurd he h0

/-- A reader's bytes lie apart from a writer's. -/
def Apart (g2 : Nat) (v2 v : Value) (bs : List UInt8) : Prop := bs = [] ∨ ∀ k, v.ownBlock = some k → ¬ WrS g2 v2 k

theorem rd_ne_wr {w : World} {base g g2 : Nat} {v v2 : Value} {bs ws : List UInt8} {err e2 : Int} (h : RdAt w g v bs err) (hw : WrAt w base g2 v2 ws e2) : ¬ WrS g2 v2 g := by
  rintro (h1 | h1)
  · exact Blk.ne_ h.1 hw.2.1 (by decide) h1
  · exact hw.2.2.ne_blk h.1 (by decide) h1

theorem RdAt.put {w w' : World} {base g g2 : Nat} {v v2 : Value} {bs ws : List UInt8} {err e2 : Int} (h : RdAt w g v bs err) (hw : WrAt w base g2 v2 ws e2) (hd : Apart g2 v2 v bs) (hu : Upd (WrS g2 v2) w w') : RdAt w' g v bs err := by
  refine ⟨h.1.upd hu (rd_ne_wr h hw), ?_, h.2.2⟩
  rcases hd with rfl | hd
  · obtain ⟨A, c, rfl, hc, _⟩ := h.2.1
    exact ⟨A, c, rfl, hc, .inl rfl⟩
  · exact h.2.1.upd hu hd

theorem RdAt.own_lt {w : World} {g : Nat} {v : Value} {bs : List UInt8} {err : Int} (h : RdAt w g v bs err) (hne : bs ≠ []) : ∀ k, v.ownBlock = some k → k < w.heap.size := by
  intro k hk
  obtain ⟨A, c, rfl, hc, hh⟩ := h.2.1
  rcases hh with hh | ⟨b, off, rfl, hb, hh⟩
  · exact absurd hh hne
  · have : b = k := by simpa [Value.ownBlock] using hk
    omega

theorem Apart.put {w : World} {base g g2 : Nat} {v v2 v3 : Value} {bs ws : List UInt8} {err e2 : Int} (h : RdAt w g v bs err) (hd : Apart g2 v2 v bs) (hf : Fr w v2 v3) : Apart g2 v3 v bs := by
  by_cases hne : bs = []
  · exact .inl hne
  rcases hd with hd | hd
  · exact .inl hd
  refine .inr fun k hk => ?_
  have hlt := h.own_lt hne k hk
  rintro (h1 | h1)
  · exact hd k hk (.inl h1)
  · rcases hf k h1 with h2 | h2
    · exact hd k hk (.inr h2)
    · omega

theorem Apart.take {w : World} {base g2 : Nat} {v v2 v3 : Value} {bs bs' ws : List UInt8} {e2 : Int} (hw : WrAt w base g2 v2 ws e2) (hd : Apart g2 v2 v bs) (hf : Fr w v v3) (hl : bs'.length ≤ bs.length) : Apart g2 v2 v3 bs' := by
  rcases hd with rfl | hd
  · exact .inl (List.eq_nil_of_length_eq_zero (Nat.le_zero.1 hl))
  refine .inr fun k hk => ?_
  rcases hf k hk with h1 | h1
  · exact hd k h1
  · exact hw.fresh h1

theorem WrAt.take {w w' : World} {base g g2 : Nat} {v v2 : Value} {bs ws : List UInt8} {err e2 : Int} (h : RdAt w g v bs err) (hw : WrAt w base g2 v2 ws e2) (hu : Upd (· = g) w w') : WrAt w' base g2 v2 ws e2 :=
  hw.upd hu (fun e => rd_ne_wr h hw (.inl e.symm)) (fun k hk e => rd_ne_wr h hw (.inr (by rw [hk, e])))

theorem take_agg (kind most : Int) (g : Nat) (v : Value) (bs : List UInt8) (err : Int) (w : World) (h : RdAt w g v bs err) (hb : bs.length ≤ 1000000000) (hm0 : -9223372036854775808 ≤ most) (hm1 : most ≤ 9223372036854775807) :
    Calls Try.prog 34 #[.pointer (some ⟨g, 0, none⟩), .int .i64 kind, .int .i64 most] w (RdPost w g v (.agg #[.int .i64 (takeF kind most bs err).1.kind, .int .u64 ((takeF kind most bs err).1.v : Int), .string (takeF kind most bs err).1.s, .bool (takeF kind most bs err).1.yes, .int .i64 (takeF kind most bs err).1.most]) (takeF kind most bs err).2.1 (takeF kind most bs err).2.2) :=
  take_any kind most g v bs err w h hb hm0 hm1

theorem takeF_kind (kind most : Int) (bs : List UInt8) (err : Int) : (takeF kind most bs err).1.kind = kind ∧ (takeF kind most bs err).1.most = 0 := by
  unfold takeF
  repeat' split
  all_goals exact ⟨rfl, rfl⟩
end Go.Proofs.Ytnjifcgomkdhdaa
