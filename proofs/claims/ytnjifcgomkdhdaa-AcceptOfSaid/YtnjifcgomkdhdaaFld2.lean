/- The laws' own helper of chapter 3: a field taken. -/
import Derived.Test.YtnjifcgomkdhdaaFld
namespace Go.Proofs.Ytnjifcgomkdhdaa
open Go.RowKit Go.Lap
set_option linter.unusedVariables false

/-- What is taken of a kind: the field, the rest, what went wrong. -/
def takeF (kind most : Int) (bs : List UInt8) (err : Int) : Fld × List UInt8 × Int :=
  if kind = 0 then (⟨kind, (numR bs err).1, str [], false, 0⟩, (numR bs err).2)
  else if kind = 1 then (⟨kind, 0, str (textR bs err).1, false, 0⟩, (textR bs err).2)
  else if kind = 2 then (⟨kind, 0, str [], (flagR bs err).1, 0⟩, (flagR bs err).2)
  else (⟨kind, (countR bs err most).1, str [], false, 0⟩, (countR bs err most).2)

theorem fldBlocks {w w2 : World} {g : Nat} {T1 T2 : TypeId} {cs1 cs2 : Array Value} (hg : g < w.heap.size) (hu : Upd (· = g) ((w.alloc (.cells cs1 T1)).alloc (.cells cs2 T2)) w2) :
    Blk w2 w.heap.size T1 cs1 ∧ Blk w2 (w.heap.size + 1) T2 cs2 := by
  have hB := Blk.mk_new (w.alloc (.cells cs1 T1)) T2 cs2
  rw [World.size_alloc] at hB
  exact ⟨((Blk.mk_new w T1 cs1).alloc _).upd hu (by omega), hB.upd hu (by omega)⟩

theorem RdAt.keeps {w W w2 w3 : World} {g : Nat} {v v2 : Value} {bs bs' : List UInt8} {err err' : Int} (h : RdAt w g v bs err) (h2 : RdAt w2 g v2 bs' err') (hf : Fr W v v2) (hW : W.heap.size = w.heap.size + 2) (hne : bs = [] → bs' = [])
    (hu : Upd (fun k => k = w.heap.size ∨ k = w.heap.size + 1) w2 w3) : RdAt w3 g v2 bs' err' := by
  have hg := h.1.lt
  refine ⟨h2.1.upd hu (by omega), ?_, h2.2.2⟩
  obtain ⟨A, c, hv, hc, hh⟩ := h2.2.1
  rcases hh with hh | ⟨b, off, rfl, hb, hh⟩
  · exact ⟨A, c, hv, hc, .inl hh⟩
  · by_cases hbs : bs' = []
    · exact ⟨_, c, hv, hc, .inl hbs⟩
    · refine h2.2.1.upd hu ?_
      intro k hk hS
      rcases hf k hk with h1 | h1
      · obtain ⟨A1, c1, hv1, hc1, hh1⟩ := h.2.1
        rcases hh1 with hh1 | ⟨b1, off1, rfl, hb1, hh1⟩
        · exact hbs (hne hh1)
        · subst hv1
          simp [Value.ownBlock] at h1
          omega
      · omega

theorem fr2 {w W : World} {v v2 : Value} (hf : Fr W v v2) (hW : W.heap.size = w.heap.size + 2) : Fr w v v2 := fun k hk => by
  rcases hf k hk with h1 | h1
  · exact .inl h1
  · exact .inr (by omega)

theorem numR_nil (err : Int) : (numR [] err).2.1 = [] := by
  unfold numR; split
  · split
    · simp [takeV, getV] at *
    · rfl
  · rfl
theorem textR_nil (err : Int) : (textR [] err).2.1 = [] := by
  unfold textR; split
  · simp [takeV, getV] at *
  · rfl
theorem countR_nil (err most : Int) : (countR [] err most).2.1 = [] := by
  unfold countR; split
  · simp [takeV, getV] at *
  · rfl
theorem flagR_nil (err : Int) : (flagR [] err).2.1 = [] := by
  unfold flagR; split <;> rfl

set_option maxRecDepth 100000 in
set_option maxHeartbeats 1000000 in
theorem take_num (most : Int) (g : Nat) (v : Value) (bs : List UInt8) (err : Int) (w : World) (h : RdAt w g v bs err) (hb : bs.length ≤ 1000000000) :
    Calls Try.prog 34 #[.pointer (some ⟨g, 0, none⟩), .int .i64 0, .int .i64 most] w (RdPost w g v (.agg #[.int .i64 0, .int .u64 (numR bs err).1, .string (str []), .bool false, .int .i64 0]) (numR bs err).2.1 (numR bs err).2.2) := by
  have hg0 := h.1.lt
  go_enter Try.func34, Try.ntmps34
  go_wp2_with fail
  refine (rnum_any g v bs err _ ((h.new ((New.refl _).alloc _)).new ((New.refl _).alloc _)) hb).mono ?_
  rintro e w2 ⟨v2, rfl, h2, hu2, hf2⟩
  obtain ⟨hB1, hB2⟩ := fldBlocks hg0 hu2
  have c0 := hB2.cell 0
  have c1 := hB2.cell 1
  have c2 := hB2.cell 2
  have c3 := hB2.cell 3
  have c4 := hB2.cell 4
  have hz2 := hB2.frozen
  have d0 := hB1.cell 0
  have d1 := hB1.cell 1
  have d2 := hB1.cell 2
  have d3 := hB1.cell 3
  have d4 := hB1.cell 4
  have hz1 := hB1.frozen
  go_wp2_with fail
  exact bodyPost_ret (v := .agg #[.int .i64 0, .int .u64 (numR bs err).1, .string (str []), .bool false, .int .i64 0]) (by simp [results, Try.results34, go_sem, d0, d1, d2, d3, d4, str]) rfl
    ⟨v2, rfl, h.keeps h2 hf2 (by simp) (fun e => by rw [e]; exact numR_nil _) (((((((Upd.refl _ w2).setCell (fun _ => .inr rfl) _).setCell (fun _ => .inl rfl) _).setCell (fun _ => .inl rfl) _).setCell (fun _ => .inl rfl) _).setCell (fun _ => .inl rfl) _).setCell (fun _ => .inl rfl) _),
      ((((((((Upd.new ((New.refl w).alloc _)).alloc _).trans hu2 (fun _ _ h => h)).setNew (Nat.le_succ _) _).setNew (Nat.le_refl _) _).setNew (Nat.le_refl _) _).setNew (Nat.le_refl _) _).setNew (Nat.le_refl _) _).setNew (Nat.le_refl _) _, fr2 hf2 (by simp)⟩

set_option maxRecDepth 100000 in
set_option maxHeartbeats 1000000 in
theorem take_text (most : Int) (g : Nat) (v : Value) (bs : List UInt8) (err : Int) (w : World) (h : RdAt w g v bs err) (hb : bs.length ≤ 1000000000) :
    Calls Try.prog 34 #[.pointer (some ⟨g, 0, none⟩), .int .i64 1, .int .i64 most] w (RdPost w g v (.agg #[.int .i64 1, .int .u64 0, .string (str (textR bs err).1), .bool false, .int .i64 0]) (textR bs err).2.1 (textR bs err).2.2) := by
  have hg0 := h.1.lt
  go_enter Try.func34, Try.ntmps34
  go_wp2_with fail
  refine (rtext_any g v bs err _ ((h.new ((New.refl _).alloc _)).new ((New.refl _).alloc _)) hb).mono ?_
  rintro e w2 ⟨v2, rfl, h2, hu2, hf2⟩
  obtain ⟨hB1, hB2⟩ := fldBlocks hg0 hu2
  have c0 := hB2.cell 0
  have c1 := hB2.cell 1
  have c2 := hB2.cell 2
  have c3 := hB2.cell 3
  have c4 := hB2.cell 4
  have hz2 := hB2.frozen
  have d0 := hB1.cell 0
  have d1 := hB1.cell 1
  have d2 := hB1.cell 2
  have d3 := hB1.cell 3
  have d4 := hB1.cell 4
  have hz1 := hB1.frozen
  go_wp2_with fail
  exact bodyPost_ret (v := .agg #[.int .i64 1, .int .u64 0, .string (str (textR bs err).1), .bool false, .int .i64 0]) (by simp [results, Try.results34, go_sem, d0, d1, d2, d3, d4, str]) rfl
    ⟨v2, rfl, h.keeps h2 hf2 (by simp) (fun e => by rw [e]; exact textR_nil _) (((((((Upd.refl _ w2).setCell (fun _ => .inr rfl) _).setCell (fun _ => .inl rfl) _).setCell (fun _ => .inl rfl) _).setCell (fun _ => .inl rfl) _).setCell (fun _ => .inl rfl) _).setCell (fun _ => .inl rfl) _),
      ((((((((Upd.new ((New.refl w).alloc _)).alloc _).trans hu2 (fun _ _ h => h)).setNew (Nat.le_succ _) _).setNew (Nat.le_refl _) _).setNew (Nat.le_refl _) _).setNew (Nat.le_refl _) _).setNew (Nat.le_refl _) _).setNew (Nat.le_refl _) _, fr2 hf2 (by simp)⟩

set_option maxRecDepth 100000 in
set_option maxHeartbeats 1000000 in
theorem take_flag (most : Int) (g : Nat) (v : Value) (bs : List UInt8) (err : Int) (w : World) (h : RdAt w g v bs err) (hb : bs.length ≤ 1000000000) :
    Calls Try.prog 34 #[.pointer (some ⟨g, 0, none⟩), .int .i64 2, .int .i64 most] w (RdPost w g v (.agg #[.int .i64 2, .int .u64 0, .string (str []), .bool (flagR bs err).1, .int .i64 0]) (flagR bs err).2.1 (flagR bs err).2.2) := by
  have hg0 := h.1.lt
  go_enter Try.func34, Try.ntmps34
  go_wp2_with fail
  refine (rflag_any g v bs err _ ((h.new ((New.refl _).alloc _)).new ((New.refl _).alloc _)) hb).mono ?_
  rintro e w2 ⟨v2, rfl, h2, hu2, hf2⟩
  obtain ⟨hB1, hB2⟩ := fldBlocks hg0 hu2
  have c0 := hB2.cell 0
  have c1 := hB2.cell 1
  have c2 := hB2.cell 2
  have c3 := hB2.cell 3
  have c4 := hB2.cell 4
  have hz2 := hB2.frozen
  have d0 := hB1.cell 0
  have d1 := hB1.cell 1
  have d2 := hB1.cell 2
  have d3 := hB1.cell 3
  have d4 := hB1.cell 4
  have hz1 := hB1.frozen
  go_wp2_with fail
  exact bodyPost_ret (v := .agg #[.int .i64 2, .int .u64 0, .string (str []), .bool (flagR bs err).1, .int .i64 0]) (by simp [results, Try.results34, go_sem, d0, d1, d2, d3, d4, str]) rfl
    ⟨v2, rfl, h.keeps h2 hf2 (by simp) (fun e => by rw [e]; exact flagR_nil _) (((((((Upd.refl _ w2).setCell (fun _ => .inr rfl) _).setCell (fun _ => .inl rfl) _).setCell (fun _ => .inl rfl) _).setCell (fun _ => .inl rfl) _).setCell (fun _ => .inl rfl) _).setCell (fun _ => .inl rfl) _),
      ((((((((Upd.new ((New.refl w).alloc _)).alloc _).trans hu2 (fun _ _ h => h)).setNew (Nat.le_succ _) _).setNew (Nat.le_refl _) _).setNew (Nat.le_refl _) _).setNew (Nat.le_refl _) _).setNew (Nat.le_refl _) _).setNew (Nat.le_refl _) _, fr2 hf2 (by simp)⟩

theorem countR_le (bs : List UInt8) (err most : Int) : ((countR bs err most).1 : Int) ≤ most ∨ (countR bs err most).1 = 0 := by
  unfold countR; split
  · next h => exact .inl h.2.2
  · exact .inr rfl

set_option maxRecDepth 100000 in
set_option maxHeartbeats 1000000 in
theorem take_count (kind most : Int) (g : Nat) (v : Value) (bs : List UInt8) (err : Int) (w : World) (h : RdAt w g v bs err) (hb : bs.length ≤ 1000000000) (hm0 : -9223372036854775808 ≤ most) (hm1 : most ≤ 9223372036854775807)
    (k0 : (kind == 0) = false) (k1 : (kind == 1) = false) (k2 : (kind == 2) = false) :
    Calls Try.prog 34 #[.pointer (some ⟨g, 0, none⟩), .int .i64 kind, .int .i64 most] w (RdPost w g v (.agg #[.int .i64 kind, .int .u64 (countR bs err most).1, .string (str []), .bool false, .int .i64 0]) (countR bs err most).2.1 (countR bs err most).2.2) := by
  have hg0 := h.1.lt
  have hle := countR_le bs err most
  go_enter Try.func34, Try.ntmps34
  go_wp2_with fail
  refine (count_any g v bs err most _ ((h.new ((New.refl _).alloc _)).new ((New.refl _).alloc _)) hb hm0 hm1).mono ?_
  rintro e w2 ⟨v2, rfl, h2, hu2, hf2⟩
  obtain ⟨hB1, hB2⟩ := fldBlocks hg0 hu2
  have c0 := hB2.cell 0
  have c1 := hB2.cell 1
  have c2 := hB2.cell 2
  have c3 := hB2.cell 3
  have c4 := hB2.cell 4
  have hz2 := hB2.frozen
  have d0 := hB1.cell 0
  have d1 := hB1.cell 1
  have d2 := hB1.cell 2
  have d3 := hB1.cell 3
  have d4 := hB1.cell 4
  have hz1 := hB1.frozen
  have hnil : bs = [] → (countR bs err most).2.1 = [] := fun e => by rw [e]; exact countR_nil _ _
  generalize (countR bs err most).2.1 = bs' at *
  generalize (countR bs err most).2.2 = err' at *
  generalize (countR bs err most).1 = n at *
  by_cases hn : n = 0
  · subst hn
    go_wp2_with fail
    exact bodyPost_ret (v := .agg #[.int .i64 kind, .int .u64 0, .string (str []), .bool false, .int .i64 0]) (by simp [results, Try.results34, go_sem, d0, d1, d2, d3, d4, str]) rfl
      ⟨v2, rfl, h.keeps h2 hf2 (by simp) hnil ((((((Upd.refl _ w2).setCell (fun _ => .inl rfl) _).setCell (fun _ => .inl rfl) _).setCell (fun _ => .inl rfl) _).setCell (fun _ => .inl rfl) _).setCell (fun _ => .inl rfl) _),
        (((((((Upd.new ((New.refl w).alloc _)).alloc _).trans hu2 (fun _ _ h => h)).setNew (Nat.le_refl _) _).setNew (Nat.le_refl _) _).setNew (Nat.le_refl _) _).setNew (Nat.le_refl _) _).setNew (Nat.le_refl _) _, fr2 hf2 (by simp)⟩
  · have b1 : ((0 : Int) < (n : Int)) := by omega
    have b2 : ((n : Int) ≤ 9223372036854775807) := by omega
    have b3 : (IntKind.u64.wrap (n : Int)) = (n : Int) := by rw [IntKind.wrap_u64]; omega
    have b4 : decide (0 < n) = true := by simp; omega
    clear hle hn
    go_wp2_with fail
    exact bodyPost_ret (v := .agg #[.int .i64 kind, .int .u64 n, .string (str []), .bool false, .int .i64 0]) (by simp [results, Try.results34, go_sem, d0, d1, d2, d3, d4, str]) rfl
      ⟨v2, rfl, h.keeps h2 hf2 (by simp) hnil (((((((Upd.refl _ w2).setCell (fun _ => .inr rfl) _).setCell (fun _ => .inl rfl) _).setCell (fun _ => .inl rfl) _).setCell (fun _ => .inl rfl) _).setCell (fun _ => .inl rfl) _).setCell (fun _ => .inl rfl) _),
        ((((((((Upd.new ((New.refl w).alloc _)).alloc _).trans hu2 (fun _ _ h => h)).setNew (Nat.le_succ _) _).setNew (Nat.le_refl _) _).setNew (Nat.le_refl _) _).setNew (Nat.le_refl _) _).setNew (Nat.le_refl _) _).setNew (Nat.le_refl _) _, fr2 hf2 (by simp)⟩

theorem take_any (kind most : Int) (g : Nat) (v : Value) (bs : List UInt8) (err : Int) (w : World) (h : RdAt w g v bs err) (hb : bs.length ≤ 1000000000) (hm0 : -9223372036854775808 ≤ most) (hm1 : most ≤ 9223372036854775807) :
    Calls Try.prog 34 #[.pointer (some ⟨g, 0, none⟩), .int .i64 kind, .int .i64 most] w (RdPost w g v (takeF kind most bs err).1.val (takeF kind most bs err).2.1 (takeF kind most bs err).2.2) := by
  unfold takeF
  by_cases h0 : kind = 0
  · subst h0; exact take_num most g v bs err w h hb
  by_cases h1 : kind = 1
  · subst h1; exact take_text most g v bs err w h hb
  by_cases h2 : kind = 2
  · subst h2; exact take_flag most g v bs err w h hb
  rw [if_neg h0, if_neg h1, if_neg h2]
  exact take_count kind most g v bs err w h hb hm0 hm1 (by simpa using h0) (by simpa using h1) (by simpa using h2)
end Go.Proofs.Ytnjifcgomkdhdaa
