/- Chapter 5 (batch): the stable sort of any row of writes: by chunks, each sorted, two merged to one. -/
import Derived.Test.YtdobingccipkkaaBat20
namespace Go.Proofs.Ytdobingccipkkaa
open Go.RowKit Go.Lap
set_option linter.unusedVariables false

/-- A row of chunks of B writes, each of which rises; the last one may be shorter. -/
inductive Chunks (B : Nat) : List Wri → Prop
  | last {l : List Wri} : l.length ≤ B → RiseW l → Chunks B l
  | cons {u l : List Wri} : u.length = B → RiseW u → Chunks B l → Chunks B (u ++ l)
inductive Full (B : Nat) : List Wri → Prop
  | nil : Full B []
  | snoc {X u : List Wri} : Full B X → u.length = B → RiseW u → Full B (X ++ u)
theorem Full.app {B : Nat} {X : List Wri} (h : Full B X) : ∀ {Y : List Wri}, Chunks B Y → Chunks B (X ++ Y) := by
  induction h with
  | nil => intro Y hY; exact hY
  | snoc _ hu hr ih => intro Y hY; rw [List.append_assoc]; exact ih (.cons hu hr hY)
theorem rise_nil : RiseW [] := List.Pairwise.nil
theorem Chunks.one {B : Nat} {l : List Wri} (h : Chunks B l) (hl : l.length ≤ B) : RiseW l := by
  cases h with
  | last _ h => exact h
  | cons hu hr hl2 =>
    rename_i u t
    rw [List.length_append] at hl
    have : t = [] := List.eq_nil_of_length_eq_zero (by omega)
    rw [this, List.append_nil]; exact hr
theorem Chunks.next {B : Nat} {l : List Wri} (h : Chunks B l) (hl : B ≤ l.length) : ∃ u t, l = u ++ t ∧ u.length = B ∧ RiseW u ∧ Chunks B t := by
  cases h with
  | last h1 h2 => exact ⟨l, [], by simp, by omega, h2, .last (by simp) rise_nil⟩
  | cons hu hr hl2 => exact ⟨_, _, rfl, hu, hr, hl2⟩

def SameKeys (l L : List Wri) : Prop := ∀ k, ofKey k L = ofKey k l
theorem SameKeys.mid {l X Y : List Wri} {Z : List Wri} (h : SameKeys l (X ++ (Y ++ Z))) : SameKeys l (X ++ (sortW Y ++ Z)) := fun k => by
  rw [← h k]; simp only [ofKey_append, ofKey_sortW]
theorem SameKeys.sorted {l L : List Wri} (h : SameKeys l L) (hr : RiseW L) : L = sortW l := sortW_of hr h

/-- The chunks in work: what is ahead has chunks, what is behind is as it was. -/
def InsC (w0 wr : World) (base g n cap B : Nat) (l : List Wri) (a : Nat) : Prop := ∃ X Y : List Wri, a = X.length ∧ Full B X ∧ SameKeys l (X ++ Y) ∧ Row w0 wr base g n cap (X ++ Y)
/-- Chunks of B. -/
def AtC (w0 wr : World) (base g n cap B : Nat) (l : List Wri) : Prop := ∃ L : List Wri, Chunks B L ∧ SameKeys l L ∧ Row w0 wr base g n cap L
/-- Chunks of B to chunks of 2 B. -/
def MerC (w0 wr : World) (base g n cap B : Nat) (l : List Wri) (a : Nat) : Prop := ∃ X Y : List Wri, a = X.length ∧ Full (2 * B) X ∧ Chunks B Y ∧ SameKeys l (X ++ Y) ∧ Row w0 wr base g n cap (X ++ Y)
theorem Row.len {w0 wr : World} {base g n cap : Nat} {l : List Wri} (h : Row w0 wr base g n cap l) : n = l.length := by
  obtain ⟨-, -, h, -⟩ := row_frozen h.2; exact h
theorem AtC.keep {w0 wr w' : World} {base g n cap B : Nat} {l : List Wri} (h : AtC w0 wr base g n cap B l) (hn : New wr w') : AtC w0 w' base g n cap B l := by
  obtain ⟨L, a, b, c⟩ := h; exact ⟨L, a, b, c.keep hn⟩

/-- One chunk more. -/
theorem InsC.step {w0 wr : World} {base g n cap B a : Nat} {l : List Wri} (hB : B ≤ 100000) (hn : n ≤ 100000) (h : InsC w0 wr base g n cap B l a) (hb : a + B ≤ n) :
    ∃ (P : Ending → World → Prop), Calls Try.prog 55 #[.slice (some ⟨g, 0, none⟩) n cap, .int .i64 (a : Int), .int .i64 ((a + B : Nat) : Int), (.func (.func 28) #[] #[])] wr P ∧
      ∀ e w', P e w' → e = .returned (.tuple #[]) ∧ InsC w0 w' base g n cap B l (a + B) := by
  obtain ⟨X, Y, rfl, hX, hk, hr⟩ := h
  have hlen := hr.len
  rw [List.length_append] at hlen
  have e : X ++ Y = X ++ Y.take B ++ Y.drop B := by rw [List.append_assoc, List.take_append_drop]
  have ht : (Y.take B).length = B := by rw [List.length_take]; omega
  have hc := insSort_any base g n cap X (Y.take B) (Y.drop B) wr hn (by rw [ht, List.length_drop]; omega) (by rw [← e]; exact hr.2)
  rw [ht] at hc
  refine ⟨_, hc, ?_⟩
  rintro e' w' ⟨rfl, hu, ho⟩
  refine ⟨rfl, X ++ sortW (Y.take B), Y.drop B, by rw [List.length_append, sortW_length, ht], hX.snoc (by rw [sortW_length, ht]) (rise_sortW _), ?_, hr.1.trans hu (fun _ _ h => h), ?_⟩
  · rw [List.append_assoc]; exact SameKeys.mid (by rw [List.take_append_drop]; exact hk)
  · rw [List.append_assoc]; exact ho
/-- The last chunk. -/
theorem InsC.last {w0 wr : World} {base g n cap B a : Nat} {l : List Wri} (hn : n ≤ 100000) (h : InsC w0 wr base g n cap B l a) (hb : n < a + B) :
    ∃ (P : Ending → World → Prop), Calls Try.prog 55 #[.slice (some ⟨g, 0, none⟩) n cap, .int .i64 (a : Int), .int .i64 (n : Int), (.func (.func 28) #[] #[])] wr P ∧
      ∀ e w', P e w' → e = .returned (.tuple #[]) ∧ AtC w0 w' base g n cap B l := by
  obtain ⟨X, Y, rfl, hX, hk, hr⟩ := h
  have hlen := hr.len
  rw [List.length_append] at hlen
  have hc := insSort_any base g n cap X Y [] wr hn (by rw [hlen]; rfl) (by rw [List.append_nil]; exact hr.2)
  rw [← hlen] at hc
  refine ⟨_, hc, ?_⟩
  rintro e' w' ⟨rfl, hu, ho⟩
  refine ⟨rfl, X ++ (sortW Y ++ []), ?_, SameKeys.mid (by rw [List.append_nil]; exact hk), hr.1.trans hu (fun _ _ h => h), ho⟩
  rw [List.append_nil]
  exact hX.app (.last (by rw [sortW_length]; omega) (rise_sortW _))
/-- Two chunks are merged. -/
theorem MerC.step {w0 wr : World} {base g n cap B a : Nat} {l : List Wri} (hB : 0 < B) (hn : n ≤ 100000) (h : MerC w0 wr base g n cap B l a) (hb : a + 2 * B ≤ n) :
    ∃ (P : Ending → World → Prop), Calls Try.prog 56 #[.slice (some ⟨g, 0, none⟩) n cap, .int .i64 (a : Int), .int .i64 ((a + B : Nat) : Int), .int .i64 ((a + 2 * B : Nat) : Int), (.func (.func 28) #[] #[])] wr P ∧
      ∀ e w', P e w' → e = .returned (.tuple #[]) ∧ MerC w0 w' base g n cap B l (a + 2 * B) := by
  obtain ⟨X, Y, rfl, hX, hY, hk, hr⟩ := h
  have hlen := hr.len
  rw [List.length_append] at hlen
  obtain ⟨U, Y1, rfl, hU, rU, hY1⟩ := hY.next (by omega)
  rw [List.length_append] at hlen
  obtain ⟨V, Z, rfl, hV, rV, hZ⟩ := hY1.next (by omega)
  have hc := sym_all (U.length + V.length) base g n cap X U V Z (X ++ (U ++ (V ++ Z))) (X ++ sortW (U ++ V) ++ Z) wr hn (Nat.le_refl _) (by omega) (by omega) rU rV (by simp) rfl hr.len hr.2 X.length (X.length + B) (X.length + 2 * B) rfl (by omega) (by omega)
  refine ⟨_, hc, ?_⟩
  rintro e' w' ⟨rfl, hr2⟩
  refine ⟨rfl, X ++ sortW (U ++ V), Z, by rw [List.length_append, sortW_length, List.length_append]; omega, hX.snoc (by rw [sortW_length, List.length_append]; omega) (rise_sortW _), hZ, ?_, hr.next hr2⟩
  rw [List.append_assoc]; exact SameKeys.mid (by rw [List.append_assoc]; exact hk)
/-- The last chunk and a piece are merged. -/
theorem MerC.last {w0 wr : World} {base g n cap B a : Nat} {l : List Wri} (hB : 0 < B) (hn : n ≤ 100000) (h : MerC w0 wr base g n cap B l a) (hb : n < a + 2 * B) (hm : a + B < n) :
    ∃ (P : Ending → World → Prop), Calls Try.prog 56 #[.slice (some ⟨g, 0, none⟩) n cap, .int .i64 (a : Int), .int .i64 ((a + B : Nat) : Int), .int .i64 (n : Int), (.func (.func 28) #[] #[])] wr P ∧
      ∀ e w', P e w' → e = .returned (.tuple #[]) ∧ AtC w0 w' base g n cap (2 * B) l := by
  obtain ⟨X, Y, rfl, hX, hY, hk, hr⟩ := h
  have hlen := hr.len
  rw [List.length_append] at hlen
  obtain ⟨U, V, rfl, hU, rU, hY1⟩ := hY.next (by omega)
  rw [List.length_append] at hlen
  have rV := hY1.one (by omega)
  have hc := sym_all (U.length + V.length) base g n cap X U V [] (X ++ (U ++ V)) (X ++ sortW (U ++ V) ++ []) wr hn (Nat.le_refl _) (by omega) (by omega) rU rV (by simp) rfl hr.len hr.2 X.length (X.length + B) n rfl (by omega) (by omega)
  refine ⟨_, hc, ?_⟩
  rintro e' w' ⟨rfl, hr2⟩
  refine ⟨rfl, _, ?_, ?_, hr.next hr2⟩
  · rw [List.append_nil]
    exact hX.app (.last (by rw [sortW_length, List.length_append]; omega) (rise_sortW _))
  · rw [List.append_assoc]; exact SameKeys.mid (by rw [List.append_nil]; exact hk)
theorem MerC.none {w0 wr : World} {base g n cap B a : Nat} {l : List Wri} (h : MerC w0 wr base g n cap B l a) (hm : n ≤ a + B) : AtC w0 wr base g n cap (2 * B) l := by
  obtain ⟨X, Y, rfl, hX, hY, hk, hr⟩ := h
  have hlen := hr.len
  rw [List.length_append] at hlen
  exact ⟨_, hX.app (.last (by omega) (hY.one (by omega))), hk, hr⟩
theorem AtC.done {w0 wr : World} {base g n cap B : Nat} {l : List Wri} (h : AtC w0 wr base g n cap B l) (hB : n ≤ B) : Row w0 wr base g n cap (sortW l) := by
  obtain ⟨L, hL, hk, hr⟩ := h
  rw [← hk.sorted (hL.one (by rw [← hr.len]; exact hB))]
  exact hr
theorem AtC.begin {w0 wr : World} {base g n cap B : Nat} {l : List Wri} (h : AtC w0 wr base g n cap B l) : MerC w0 wr base g n cap B l 0 := by
  obtain ⟨L, hL, hk, hr⟩ := h
  exact ⟨[], L, rfl, .nil, hL, hk, hr⟩

set_option maxRecDepth 100000 in
set_option maxHeartbeats 4000000 in
theorem stable_any (base g n cap : Nat) (l : List Wri) (w : World) (hn : n ≤ 100000) (hl : n = l.length) (ho : Owns w base 43 3 Wri.enc (.slice (some ⟨g, 0, none⟩) n cap) l) :
    Calls Try.prog 47 #[.slice (some ⟨g, 0, none⟩) n cap, .int .i64 (n : Int), (.func (.func 28) #[] #[])] w (SortsTo w base g n cap l) := by
  have H0 : Hid (InsC w w base g n cap 20 l 0) := Lib.hid ⟨[], l, rfl, .nil, fun _ => rfl, Row.start ho⟩
  clear hl ho
  go_enter Try.func47, Try.ntmps47
  go_wp2_with fail
  go_loopw [7, 8] (fun a b wr => ∃ k : Nat, k ≤ n ∧ a = .int .i64 (k : Int) ∧ b = .int .i64 ((k + 20 : Nat) : Int) ∧ InsC w wr base g n cap 20 l k) (fun a _ _ => n - (intOf a).toNat)
  case atStart => exact ⟨0, by omega, rfl, rfl, H0.out⟩
  case round =>
    clear H0
    obtain ⟨k, hkn, rfl, rfl, hr⟩ := hrel
    generalize hj : k + 20 = j at *
    by_cases hlt : j ≤ n
    · have hlt2 : (j : Int) ≤ (n : Int) := by omega
      obtain ⟨P, hc, hp⟩ := hr.step (by omega) hn (by omega)
      rw [hj] at hc hp
      have HC := Lib.hid hc
      have HP := Lib.hid hp
      have HJ := Lib.hid hj
      clear hr hc hp hj
      go_wp2_with fail
      refine HC.out.mono ?_
      intro e w1 h1
      obtain ⟨rfl, h2⟩ := HP.out e w1 h1
      have H2 := Lib.hid h2
      clear h1 h2
      go_wp2_with fail
      go_roundw
      case rel => exact ⟨j, hlt, rfl, by go_num, H2.out⟩
      case measure => have := HJ.out; simp [intOf]; omega
    · have hlt2 : ¬ (j : Int) ≤ (n : Int) := by omega
      obtain ⟨P, hc, hp⟩ := hr.last hn (by omega)
      have HC := Lib.hid hc
      have HP := Lib.hid hp
      clear hr hc hp hj
      go_wp2_with fail
      refine HC.out.mono ?_
      intro e w1 h1
      obtain ⟨rfl, h2⟩ := HP.out e w1 h1
      have H2 := Lib.hid h2
      clear h1 h2 HC HP hlt hlt2
      go_wp2_with fail
      go_loopw [6] (fun bs wr => ∃ B : Nat, 20 ≤ B ∧ B ≤ 200000 ∧ bs = .int .i64 (B : Int) ∧ AtC w wr base g n cap B l) (fun bs _ => 200000 - (intOf bs).toNat)
      case atStart => exact ⟨20, by omega, by omega, rfl, H2.out⟩
      case round =>
        clear H2
        obtain ⟨B, hB1, hB2, rfl, hr⟩ := hrel
        by_cases hBn : B < n
        · have hBn2 : (B : Int) < (n : Int) := by omega
          have HM := Lib.hid hr.begin
          clear hr
          obtain ⟨D, hD⟩ : ∃ D, D = 2 * B := ⟨_, rfl⟩
          have w2 : IntKind.i64.wrap (2 * (B : Int)) = (D : Int) := by rw [IntWalk.i64_in _ (by omega)]; omega
          have w3 : IntKind.i64.wrap ((B : Int) * 2) = (D : Int) := by rw [IntWalk.i64_in _ (by omega)]; omega
          have HD := Lib.hid hD
          clear hD
          go_wp2_with fail
          go_loopw [7, 8] (fun a b wr => ∃ k : Nat, k ≤ n ∧ a = .int .i64 (k : Int) ∧ b = .int .i64 ((k + D : Nat) : Int) ∧ MerC w wr base g n cap B l k) (fun a _ _ => n - (intOf a).toNat)
          case atStart => exact ⟨0, by omega, rfl, by go_num, HM.out⟩
          case round =>
            clear HM
            obtain ⟨k, hkn, rfl, rfl, hr⟩ := hrel
            obtain ⟨j, hj⟩ : ∃ j, j = k + D := ⟨_, rfl⟩
            obtain ⟨m, hm⟩ : ∃ m, m = k + B := ⟨_, rfl⟩
            rw [← hj]
            have hDD := HD.out
            by_cases hlt : j ≤ n
            · have hlt2 : (j : Int) ≤ (n : Int) := by omega
              obtain ⟨P, hc, hp⟩ := hr.step (by omega) hn (by omega)
              rw [← hDD, ← hj] at hc hp
              rw [← hm] at hc
              have wm : IntKind.i64.wrap ((k : Int) + (B : Int)) = (m : Int) := by rw [IntWalk.i64_in _ (by omega)]; omega
              have wj : IntKind.i64.wrap ((j : Int) + (D : Int)) = ((j + D : Nat) : Int) := by rw [IntWalk.i64_in _ (by omega)]; omega
              have HC := Lib.hid hc
              have HP := Lib.hid hp
              have HJ := Lib.hid hj
              have HJ2 := Lib.hid (show k < j by omega)
              obtain ⟨jj, hjj⟩ : ∃ jj, jj = j + D := ⟨_, rfl⟩
              rw [← hjj] at wj
              have HJJ := Lib.hid hjj
              clear hr hc hp hj hm hDD hjj
              go_wp2_with fail
              refine HC.out.mono ?_
              intro e w1 h1
              obtain ⟨rfl, h2⟩ := HP.out e w1 h1
              have H2 := Lib.hid h2
              clear h1 h2
              go_wp2_with fail
              go_roundw
              case rel => exact ⟨j, hlt, rfl, by rw [← HJJ.out], H2.out⟩
              case measure => have := HJ2.out; simp [intOf]; omega
            · have hlt2 : ¬ (j : Int) ≤ (n : Int) := by omega
              have wm : IntKind.i64.wrap ((k : Int) + (B : Int)) = (m : Int) := by rw [IntWalk.i64_in _ (by omega)]; omega
              by_cases hmn : m < n
              · have hmn2 : (m : Int) < (n : Int) := by omega
                obtain ⟨P, hc, hp⟩ := hr.last (by omega) hn (by omega) (by omega)
                rw [← hm] at hc
                rw [← hDD] at hp
                have HC := Lib.hid hc
                have HP := Lib.hid hp
                have HJ2 := Lib.hid (show B < D ∧ D ≤ 200000 by omega)
                clear hr hc hp hj hm hDD
                go_wp2_with fail
                refine HC.out.mono ?_
                intro e w1 h1
                obtain ⟨rfl, h2⟩ := HP.out e w1 h1
                have H2 := Lib.hid h2
                clear h1 h2
                go_wp2_with fail
                go_roundw
                case rel => exact ⟨D, by have := HJ2.out; omega, HJ2.out.2, rfl, H2.out⟩
                case measure => have := HJ2.out; simp [intOf]; omega
              · have hmn2 : ¬ (m : Int) < (n : Int) := by omega
                have hp := hr.none (by omega)
                rw [← hDD] at hp
                have H2 := Lib.hid hp
                have HJ2 := Lib.hid (show B < D ∧ D ≤ 200000 by omega)
                clear hr hp hj hm hDD
                go_wp2_with fail
                go_roundw
                case rel => exact ⟨D, by have := HJ2.out; omega, HJ2.out.2, rfl, H2.out⟩
                case measure => have := HJ2.out; simp [intOf]; omega
        · have hBn2 : ¬ (B : Int) < (n : Int) := by omega
          have HR := Lib.hid (hr.done (by omega))
          clear hr
          go_wp2_with fail
          go_end0
          exact ⟨rfl, HR.out⟩

set_option maxRecDepth 100000 in
set_option maxHeartbeats 1000000 in
theorem sortStable_any (base g n cap : Nat) (l : List Wri) (w : World) (hn : n ≤ 100000) (hl : n = l.length) (ho : Owns w base 43 3 Wri.enc (.slice (some ⟨g, 0, none⟩) n cap) l) :
    Calls Try.prog 27 #[.slice (some ⟨g, 0, none⟩) n cap, (.func (.func 28) #[] #[])] w (SortsTo w base g n cap l) := by
  have hc := stable_any base g n cap l w hn hl ho
  clear hl ho
  go_enter Try.func27, Try.ntmps27
  go_wp2_with fail
  refine hc.mono ?_
  rintro e w1 ⟨rfl, hu, ho⟩
  go_wp2_with fail
  go_end0
  exact ⟨rfl, hu, ho⟩

theorem sorted_any (c r s : Nat) (v : Value) (l : List Wri) (w : World) (hl : l.length ≤ 100000) (hs : SlIn w 3 Wri.enc v l) :
    Calls Try.prog 15 #[.agg #[.int .u64 (c : Int), .int .u64 (r : Int), .int .u64 (s : Int), v]] w (SortPost w c r s l) :=
  sorted_of (fun l => l.length ≤ 100000) (fun _ h => h) (fun base g n cap l w h hn ho => sortStable_any base g n cap l w (by omega) hn ho) c r s v l w hl hs
end Go.Proofs.Ytdobingccipkkaa
