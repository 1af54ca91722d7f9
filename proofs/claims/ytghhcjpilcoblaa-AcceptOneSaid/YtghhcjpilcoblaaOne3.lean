/- Chapter 20 (accept): the walk of the law AcceptOne. -/
import Derived.Test.YtghhcjpilcoblaaOne2c
import Derived.Deep.DeepCutAuto
namespace Go.Proofs.Ytghhcjpilcoblaa
open Go.RowKit Go.Lap Go.Lap.Pax
set_option linter.unusedVariables false

/-- So many acceptors are made. -/
structure OA (w wx : World) (n ab : Nat) (g : Nat → Nat) : Prop where
  nw : New w wx
  abk : Blk wx ab 25 (pts n g)
  abw : w.heap.size ≤ ab
  ac : ∀ k, k < n → AcIs wx (g k) ⟨0, none⟩ ∧ w.heap.size ≤ g k
  inj : ∀ i j, i < n → j < n → g i = g j → i = j
theorem OA.new {w wx wy : World} {n ab : Nat} {g : Nat → Nat} (h : OA w wx n ab g) (hn : New wx wy) : OA w wy n ab g :=
  ⟨h.nw.trans hn, h.abk.new hn, h.abw, fun k hk => ⟨AccAt.new (h.ac k hk).1 hn, (h.ac k hk).2⟩, h.inj⟩
theorem pts_more (n : Nat) (g : Nat → Nat) (h : n < 8) (g' : Nat) : (pts n g).setIfInBounds n (.pointer (some ⟨g', 0, none⟩)) = pts (n + 1) (upd g n g') := by
  have hk : ∀ j, j ≠ n → pt (n + 1) (upd g n g') j = pt n g j := fun j hj => by
    unfold pt
    by_cases h1 : j < n
    · rw [if_pos h1, if_pos (by omega), upd_ne _ _ hj]
    · rw [if_neg h1, if_neg (by omega)]
  have hi : pt (n + 1) (upd g n g') n = .pointer (some ⟨g', 0, none⟩) := by unfold pt; rw [if_pos (by omega), upd_same]
  unfold pts
  match n, h with
  | 0, _ => rw [hi, hk 1 (by decide), hk 2 (by decide), hk 3 (by decide), hk 4 (by decide), hk 5 (by decide), hk 6 (by decide), hk 7 (by decide)]; rfl
  | 1, _ => rw [hi, hk 0 (by decide), hk 2 (by decide), hk 3 (by decide), hk 4 (by decide), hk 5 (by decide), hk 6 (by decide), hk 7 (by decide)]; rfl
  | 2, _ => rw [hi, hk 0 (by decide), hk 1 (by decide), hk 3 (by decide), hk 4 (by decide), hk 5 (by decide), hk 6 (by decide), hk 7 (by decide)]; rfl
  | 3, _ => rw [hi, hk 0 (by decide), hk 1 (by decide), hk 2 (by decide), hk 4 (by decide), hk 5 (by decide), hk 6 (by decide), hk 7 (by decide)]; rfl
  | 4, _ => rw [hi, hk 0 (by decide), hk 1 (by decide), hk 2 (by decide), hk 3 (by decide), hk 5 (by decide), hk 6 (by decide), hk 7 (by decide)]; rfl
  | 5, _ => rw [hi, hk 0 (by decide), hk 1 (by decide), hk 2 (by decide), hk 3 (by decide), hk 4 (by decide), hk 6 (by decide), hk 7 (by decide)]; rfl
  | 6, _ => rw [hi, hk 0 (by decide), hk 1 (by decide), hk 2 (by decide), hk 3 (by decide), hk 4 (by decide), hk 5 (by decide), hk 7 (by decide)]; rfl
  | 7, _ => rw [hi, hk 0 (by decide), hk 1 (by decide), hk 2 (by decide), hk 3 (by decide), hk 4 (by decide), hk 5 (by decide), hk 6 (by decide)]; rfl
theorem OA.more {w wx wy : World} {n ab g' : Nat} {g : Nat → Nat} (h : OA w wx n ab g) (hn : n < 8) (hN : New wx wy) (hg : wx.heap.size ≤ g') (ha : AcIs wy g' ⟨0, none⟩) :
    OA w (wy.setCell ⟨ab, n, none⟩ (.pointer (some ⟨g', 0, none⟩))) (n + 1) ab (upd g n g') := by
  have h1 := h.new hN
  have hu : Upd (· = ab) wy (wy.setCell ⟨ab, n, none⟩ (.pointer (some ⟨g', 0, none⟩))) := (Upd.refl _ _).setIn n _
  have hne : ∀ j, j < n → g j ≠ g' := fun j hj e => by have := Blk.lt (h.ac j hj).1; omega
  refine ⟨h1.nw.upd hu (fun i hi => by have := h.abw; omega), ?_, h.abw, fun j hj => ?_, fun i j hi hj e => ?_⟩
  · have := h1.abk.set_ n (.pointer (some ⟨g', 0, none⟩))
    rw [pts_more n g hn] at this
    exact this
  · by_cases hjn : j = n
    · subst hjn
      rw [upd_same]
      exact ⟨Blk.upd ha hu (fun e => Blk.ne_ ha h1.abk (by decide) e), Nat.le_trans h.nw.size hg⟩
    · rw [upd_ne _ _ hjn]
      exact ⟨Blk.upd (h1.ac j (by omega)).1 hu (fun e => Blk.ne_ (h1.ac j (by omega)).1 h1.abk (by decide) e), (h.ac j (by omega)).2⟩
  · by_cases hik : i = n <;> by_cases hjk : j = n
    · rw [hik, hjk]
    · rw [hik, upd_same, upd_ne _ _ hjk] at e; exact absurd e.symm (hne j (by omega))
    · rw [hjk, upd_same, upd_ne _ _ hik] at e; exact absurd e (hne i (by omega))
    · rw [upd_ne _ _ hik, upd_ne _ _ hjk] at e; exact h.inj i j (by omega) (by omega) e
theorem newA_any (w : World) : Calls Try.prog 8 #[] w fun e w' => e = .returned (.pointer (some ⟨w.heap.size, 0, none⟩)) ∧ AcIs w' w.heap.size ⟨0, none⟩ ∧ New w w' := by
  refine (new_any w).mono ?_
  rintro e w' ⟨rfl, rfl⟩
  exact ⟨rfl, Blk.mk_new w _ _, (New.refl w).alloc _⟩
theorem run_ptr_nil {P : Program} (w : World) {t : TypeId} (a : Addr) : True := trivial
def pm0 (i : Nat) : PM := ⟨balR (i + 1), balN (i + 1), none, 0, 0, fun _ => false, fun _ => false, ⟨#[]⟩, false⟩
def L0 (k : Nat) : List PM := (List.range k).map pm0
theorem L0_snoc (k : Nat) : L0 (k + 1) = L0 k ++ [pm0 k] := by unfold L0; rw [List.range_succ, List.map_append]; rfl
theorem L0_len (k : Nat) : (L0 k).length = k := by simp [L0]
def strC (s : ByteArray) : List Value := [.string s]
theorem L0_at {k i : Nat} {x : PM} (h : (L0 k)[i]? = some x) : x = pm0 i := by
  unfold L0 at h
  rw [List.getElem?_map] at h
  obtain ⟨j, hj, rfl⟩ := Option.map_eq_some_iff.1 h
  rw [List.getElem?_range] at hj
  · cases hj; rfl
  · exact Decidable.byContradiction fun hn => by rw [List.getElem?_eq_none (by simp; omega)] at hj; cases hj
theorem OM.start {w w2 wx : World} {n ab pb pc P : Nat} {g : Nat → Nat} (h : OA w w2 n ab g) (hn : New w2 wx) (ho : Owns wx w2.heap.size 36 21 pmE (.slice (some ⟨pb, 0, none⟩) (L0 P).length pc) (L0 P)) : OM w wx n ab pb pc g (L0 P) st0 := by
  have h1 := h.new hn
  refine ⟨h1.nw, h1.abk, h1.abw, h1.ac, h1.inj, ho.lower h.nw.size, fun i x hx => ?_, fun i j x y hij hx hy b hb => ?_⟩
  · have := L0_at hx
    subst this
    exact ⟨⟨rfl, rfl, rfl, rfl, rfl, rfl⟩, Owns.nil _ _ _ _ _⟩
  · have := L0_at hx
    subst this
    cases hb
/-- A step as it lies in memory. -/
structure OStep where
  pr : Nat
  ac : Nat
  acc : Bool
  again : Bool
def osE (x : OStep) : List Value := [.int .u8 (x.pr : Int), .int .u8 (x.ac : Int), .bool x.acc, .bool x.again]
theorem acc_facts {n P : Nat} {s : St} (h : Inv n s) (hv : ∀ i, (s.pp i).val.size ≤ 1000) (hp : ∀ k, (s.ac k).p ≤ P) (hP : P ≤ 12) (k : Nat) :
    balR (s.ac k).p < 18446744073709551616 ∧ balN (s.ac k).p < 18446744073709551616 ∧ acR (s.ac k) < 18446744073709551616 ∧ acN (s.ac k) < 18446744073709551616 ∧ (acV (s.ac k)).size ≤ 65536 ∧
      lessB (balR (s.ac k).p) (balN (s.ac k).p) (acR (s.ac k)) (acN (s.ac k)) = false ∧ ((s.ac k).a.isSome = false → acR (s.ac k) = 0 ∧ acN (s.ac k) = 0 ∧ acV (s.ac k) = ⟨#[]⟩) := by
  have h1 := balR_le (hp k)
  have h2 := balN_le (s.ac k).p
  unfold acR acN acV
  cases ha : (s.ac k).a with
  | none =>
    refine ⟨by omega, by omega, by simp, by simp, by simp [ByteArray.size], ?_, fun _ => ⟨rfl, rfl, rfl⟩⟩
    have := bal_less (s.ac k).p 0
    exact this
  | some y =>
    obtain ⟨ya, yv⟩ := y
    obtain ⟨g1, g2, g3⟩ := h.a1 k ya yv ha
    have h3 := balR_le (show ya + 1 ≤ P from Nat.le_trans g1 (hp k))
    have h4 := balN_le (ya + 1)
    have h5 := hv ya
    dsimp only
    refine ⟨by omega, by omega, by omega, by omega, by rw [g3]; omega, ?_, fun h => by cases h⟩
    rw [bal_less]
    exact decide_eq_false (by omega)
theorem set4 {α : Type} (a b c d v : α) (l : List α) (n : Nat) : (a :: b :: c :: d :: l).set (n + 4) v = a :: b :: c :: d :: l.set n v := rfl
theorem set16 {α : Type} (a1 a2 a3 a4 a5 a6 a7 a8 a9 a10 a11 a12 a13 a14 a15 a16 v : α) (l : List α) (n : Nat) :
    (a1 :: a2 :: a3 :: a4 :: a5 :: a6 :: a7 :: a8 :: a9 :: a10 :: a11 :: a12 :: a13 :: a14 :: a15 :: a16 :: l).set (n + 16) v = a1 :: a2 :: a3 :: a4 :: a5 :: a6 :: a7 :: a8 :: a9 :: a10 :: a11 :: a12 :: a13 :: a14 :: a15 :: a16 :: l.set n v := rfl
theorem Blk4O {w : World} {g t : Nat} {a b c d : Value} (h : Blk w g t #[a, b, c, d]) : g < w.heap.size ∧ w.cell? ⟨g, 0, none⟩ = some a ∧ w.cell? ⟨g, 1, none⟩ = some b ∧ w.cell? ⟨g, 2, none⟩ = some c ∧ w.cell? ⟨g, 3, none⟩ = some d ∧ (∀ i, w.frozen? ⟨g, i, none⟩ = false) := ⟨h.lt, h.cell 0, h.cell 1, h.cell 2, h.cell 3, h.frozen⟩
def Aft29 (m : Nat) (w : World) (n ab pb pc : Nat) (g : Nat → Nat) (L : List PM) (s : St) (a p : Nat) (s19 s20 : Value) (wx : World) : Prop :=
  ∃ (gq : Nat) (ph : Bool) (pr pn : Int) (pv : ByteArray), s19 = .pointer (some ⟨gq, 0, none⟩) ∧ s20 = .bool (decide ((s.ac a).p ≤ p + 1)) ∧ Blk wx gq 45 #[.bool ph, .int .u64 pr, .int .u64 pn, .string pv] ∧ OM w wx n ab pb pc g L (prepS s a p) ∧ ((s.ac a).p ≤ p + 1 → (⟨ph, pr, pn, pv⟩ : Pro) = proOf (s.ac a).a) ∧ m ≤ gq
def PrepPost (w : World) (n ab pb pc : Nat) (g : Nat → Nat) (L : List PM) (s : St) (a p : Nat) (wx : World) (e : Ending) (w' : World) : Prop :=
  ∃ (ph : Bool) (pr pn : Int) (pv : ByteArray), e = .returned (.tuple #[.agg #[.bool ph, .int .u64 pr, .int .u64 pn, .string pv], .bool (decide ((s.ac a).p ≤ p + 1))]) ∧ Upd (· = g a) wx w' ∧ OM w w' n ab pb pc g L (prepS s a p) ∧ ((s.ac a).p ≤ p + 1 → (⟨ph, pr, pn, pv⟩ : Pro) = proOf (s.ac a).a)
theorem prepO {w wx : World} {n ab pb pc : Nat} {g : Nat → Nat} {L : List PM} {s : St} {a p : Nat} (h : OM w wx n ab pb pc g L s) (ha : a < n) :
    Calls Try.prog 13 #[.pointer (some ⟨g a, 0, none⟩), .agg #[.int .u64 ((balR (p + 1) : Nat) : Int), .int .u64 ((balN (p + 1) : Nat) : Int)]] wx (PrepPost w n ab pb pc g L s a p wx) := by
  have hac := (h.ac a ha).1
  have hl := bal_less (p + 1) (s.ac a).p
  by_cases hle : (s.ac a).p ≤ p + 1
  · rw [decide_eq_false (by omega)] at hl
    refine (prepare_yes _ _ _ _ _ _ _ _ _ wx hac hl).mono ?_
    rintro e w' ⟨rfl, hu, ha'⟩
    refine ⟨_, _, _, _, by rw [decide_eq_true hle], hu, ?_, fun _ => ?_⟩
    · unfold prepS
      rw [if_pos hle]
      exact h.setAc ha hu (a' := ⟨p + 1, (s.ac a).a⟩) ha'
    · unfold proOf acR acN acV
      cases (s.ac a).a <;> rfl
  · rw [decide_eq_true (by omega)] at hl
    refine (prepare_no _ _ _ _ _ _ _ _ _ wx hac hl).mono ?_
    rintro e w' ⟨rfl, hn⟩
    refine ⟨_, _, _, _, by rw [decide_eq_false hle], Upd.new hn, ?_, fun h => absurd h hle⟩
    unfold prepS
    rw [if_neg hle]
    exact h.new hn
set_option maxRecDepth 100000 in
set_option maxHeartbeats 16000000 in
theorem acceptOne_walk (r : Nat) (own : List ByteArray) (steps : List OStep) (vo vs : Value) (w : World) (hr : r < 256) (hlo : own.length ≤ maxLen) (hls : steps.length ≤ maxLen) (ho : SlIn w 1 strC vo own) (hs : SlIn w 4 osE vs steps) (hgs : ∀ x ∈ steps, x.pr < 256 ∧ x.ac < 256) (hgo : ∀ x ∈ own, x.size ≤ maxLen) :
    Calls Try.prog 3 #[.int .u8 (r : Int), vo, vs] w fun e w' => e = .returned (.bool true) ∧ New w w' := by
  unfold maxLen at hlo hls
  obtain ⟨n, hn⟩ : ∃ n, n = 1 + r % 7 := ⟨_, rfl⟩
  have hn8 : n ≤ 7 := by omega
  have hn1 : 1 ≤ n := by omega
  have hnr : (1 : Int) + (r : Int) % 7 = (n : Int) := by omega
  have hr0 : (0 : Int) ≤ (r : Int) := by omega
  clear hn
  obtain ⟨Ao, co, hvo, hco, horo⟩ := _root_.id ho
  obtain ⟨As, cs, hvs, hcs, hors⟩ := _root_.id hs
  subst hvo
  subst hvs
  have hB0 := Blk.mk_new w 25 (pts 0 fun _ => 0)
  have HA0 := Lib.hid (show OA w (w.alloc (.cells (pts 0 fun _ => 0) 25)) 0 w.heap.size (fun _ => 0) from ⟨(New.refl w).alloc _, hB0, Nat.le_refl _, fun k hk => absurd hk (by omega), fun i j hi => absurd hi (by omega)⟩)
  have HS := Lib.hid hs
  have HO := Lib.hid ho
  have HGS := Lib.hid hgs
  clear hB0 hs ho hgs
  go_enter Try.func3, Try.ntmps3
  go_wp2_with fail
  generalize hab : w.heap.size = ab at HA0 ⊢
  have HAB := Lib.hid hab
  clear hab
  go_loopw [9] (fun i wr => ∃ k : Nat, k ≤ n ∧ i = .int .i64 k ∧ ∃ g, OA w wr k ab g) (fun i _ => n - (intOf i).toNat)
  case atStart => exact ⟨0, by omega, rfl, _, HA0.out⟩
  case round =>
    clear HA0
    obtain ⟨k, hk, rfl, g, hA⟩ := hrel
    have hal := hA.abk.lt
    have haz := hA.abk.frozen
    have HA := Lib.hid hA
    by_cases hlt : k < n
    · have hlt' : (k : Int) < (n : Int) := by omega
      as_aux_lemma =>
        have hk0 : (0 : Int) ≤ (k : Int) := by omega
        have hk8 : (k : Int) < 8 := by omega
        have hk8n : k < 8 := by omega
        have e0 : wr.cell? ⟨ab, k, none⟩ = some (pt k g k) := by rw [hA.abk.cell k, pts_at k g hk8n]
        go_wp2_with fail
        refine (newA_any wr).mono ?_
        rintro e w5 ⟨rfl, ha5, hn5⟩
        have hm := HA.out.more hk8n hn5 (Nat.le_refl _) ha5
        have e1 := hm.abk.cell k
        rw [pts_at _ _ hk8n, show pt (k + 1) (upd g k wr.heap.size) k = .pointer (some ⟨wr.heap.size, 0, none⟩) by unfold pt; rw [if_pos (by omega), upd_same]] at e1
        have HM := Lib.hid hm
        have e2 : w5.cell? ⟨ab, k, none⟩ = some (pt k g k) := by rw [(hA.abk.new hn5).cell k, pts_at k g hk8n]
        have haz5 := (hA.abk.new hn5).frozen
        have hal5 := (hA.abk.new hn5).lt
        generalize wr.heap.size = g5 at HM e1 ⊢
        clear hA hm ha5 hn5 e0 hal haz
        go_wp2_with fail
        go_roundw
        case rel => exact ⟨k + 1, by omega, by go_num, _, HM.out⟩
        case measure => simp [intOf]; omega
    · have hlt' : ¬ (k : Int) < (n : Int) := by omega
      obtain rfl : k = n := by omega
      clear hal haz
      go_wp2_with fail
      refine (awake20 wr).mono ?_
      rintro e w2 ⟨rfl, hn2⟩
      have hA2 := HA.out.new hn2
      clear hA hn2
      by_cases h0 : own.length = 0
      · have h0' : ((own.length : Int) == 0) = true := beq_iff_eq.2 (by omega)
        go_wp2_with fail
        refine (awake20 w2).mono ?_
        rintro e w3 ⟨rfl, hn3⟩
        go_wp2_with fail
        go_ret
        exact ⟨rfl, hA2.nw.trans hn3⟩
      have h0' : ((own.length : Int) == 0) = false := beq_eq_false_iff_ne.2 (by omega)
      by_cases h12 : 12 < own.length
      · have h12' : (12 : Int) < (own.length : Int) := by omega
        go_wp2_with fail
        refine (awake20 w2).mono ?_
        rintro e w3 ⟨rfl, hn3⟩
        go_wp2_with fail
        go_ret
        exact ⟨rfl, hA2.nw.trans hn3⟩
      have h12' : ¬ (12 : Int) < (own.length : Int) := by omega
      have hO2a : Owns (w2.alloc (.cells #[] 36)) w2.heap.size 36 21 pmE (.slice (some ⟨w2.heap.size, 0, none⟩) 0 0) (L0 0) := by
        have := World.ownsRow_made (base := w2.heap.size) (e := 36) (size := 21) w2 #[] 0 (Nat.le_refl _) (by simp) (by simp)
        exact this
      have hO2 := hO2a
      clear hO2a
      have HO2 := Lib.hid hO2
      have HA2 := Lib.hid hA2
      have HNK := Lib.hid h0
      clear hO2 hA2
      go_wp2_with fail
      go_loopw [10, 11] (fun u i wr => ∃ m : Nat, m ≤ own.length ∧ i = .int .i64 m ∧ Owns wr w2.heap.size 36 21 pmE u (L0 m) ∧ New w2 wr ∧ ∀ (j : Nat) x, j < m → own[j]? = some x → x.size ≤ 1000) (fun _ i _ => own.length - (intOf i).toNat)
      case atStart => exact ⟨0, by omega, rfl, HO2.out, (New.refl _).alloc _, fun j x hj => absurd hj (by omega)⟩
      case round =>
        clear HO2
        obtain ⟨m, hm, rfl, hO, hN, hsz⟩ := hrel
        have HOW := Lib.hid hO
        have HN := Lib.hid hN
        have HSZ := Lib.hid hsz
        have hlen := L0_len m
        obtain ⟨pA, pn, pc, hpv⟩ := (Owns.slIn pmOk hO).shape
        subst hpv
        clear hsz
        by_cases hml : m < own.length
        · have hml' : (m : Int) < (own.length : Int) := by omega
          have hm0 : (0 : Int) ≤ (m : Int) := by omega
          rcases horo with horo | ⟨b, off, rfl, hb, hc⟩
          · rw [horo] at hml; simp at hml
          obtain ⟨x, hx⟩ : ∃ x, own[m]? = some x := ⟨_, List.getElem?_eq_getElem hml⟩
          have e0 : wr.cell? ⟨b, off + m, none⟩ = some (.string x) := ((HA2.out.nw.trans hN).cells.1 _ _ hb).trans (by have := hc _ x hx 0 _ rfl; simpa using this)
          have hbl := Nat.lt_of_lt_of_le hb (HA2.out.nw.trans hN).size
          have HX := Lib.hid hx
          clear hc hx
          by_cases h1000 : 1000 < x.size
          · have h1000' : (1000 : Int) < (x.size : Int) := by omega
            go_wp2_with fail
            go_ret
            exact ⟨rfl, HA2.out.nw.trans HN.out⟩
          · have h1000' : ¬ (1000 : Int) < (x.size : Int) := by omega
            have hq1 : (m : Int) / 3 + 1 = ((balR (m + 1) : Nat) : Int) := by unfold balR; rw [if_neg (by omega)]; omega
            have hq2 : (m : Int) % 3 = ((balN (m + 1) : Nat) : Int) := by unfold balN; rw [if_neg (by omega)]; omega
            have hbr := balR_le (show m + 1 ≤ 13 by omega)
            have hbn := balN_le (m + 1)
            have hw1 : IntKind.u64.wrap ((balR (m + 1) : Nat) : Int) = ((balR (m + 1) : Nat) : Int) := by rw [IntKind.wrap_u64]; omega
            have hw2 : IntKind.u64.wrap ((balN (m + 1) : Nat) : Int) = ((balN (m + 1) : Nat) : Int) := by rw [IntKind.wrap_u64]; omega
            have HSN := Lib.hid (L0_snoc m)
            have HP0 := Lib.hid (show pmE (pm0 m) = [.int .u64 ((balR (m + 1) : Nat) : Int), .int .u64 ((balN (m + 1) : Nat) : Int), .slice none 0 0, .bool false, .bool false, .bool false, .bool false, .bool false, .bool false, .bool false, .bool false, .bool false, .bool false, .bool false, .bool false, .bool false, .bool false, .bool false, .bool false, .string ⟨#[]⟩, .bool false] from rfl)
            generalize balR (m + 1) = q1 at *
            generalize balN (m + 1) = q2 at *
            generalize L0 m = M at *
            go_wp2_with fail
            refine (bal_any _ _ wr).mono ?_
            rintro e w3 ⟨rfl, hn3⟩
            have hbx := Blk.mk_new w3 36 #[.int .u64 (q1 : Int), .int .u64 (q2 : Int), .slice none 0 0, .bool false, .bool false, .bool false, .bool false, .bool false, .bool false, .bool false, .bool false, .bool false, .bool false, .bool false, .bool false, .bool false, .bool false, .bool false, .bool false, .string ⟨#[]⟩, .bool false]
            have hox := (HOW.out.new hn3).alloc (.cells #[.int .u64 (q1 : Int), .int .u64 (q2 : Int), .slice none 0 0, .bool false, .bool false, .bool false, .bool false, .bool false, .bool false, .bool false, .bool false, .bool false, .bool false, .bool false, .bool false, .bool false, .bool false, .bool false, .bool false, .string ⟨#[]⟩, .bool false] 36)
            have HN9 := Lib.hid ((HN.out.trans hn3).alloc (.cells #[.int .u64 (q1 : Int), .int .u64 (q2 : Int), .slice none 0 0, .bool false, .bool false, .bool false, .bool false, .bool false, .bool false, .bool false, .bool false, .bool false, .bool false, .bool false, .bool false, .bool false, .bool false, .bool false, .bool false, .string ⟨#[]⟩, .bool false] 36))
            have HM1 := Lib.hid (show M.length + [pm0 m].length ≤ maxLen by unfold maxLen; simp only [List.length_singleton]; omega)
            have HM2 := Lib.hid (show (M.length + [pm0 m].length) * 80 ≤ 140737488355328 by simp only [List.length_singleton]; omega)
            have HM3 := Lib.hid (show w2.heap.size ≤ (w3.alloc (.cells #[.int .u64 (q1 : Int), .int .u64 (q2 : Int), .slice none 0 0, .bool false, .bool false, .bool false, .bool false, .bool false, .bool false, .bool false, .bool false, .bool false, .bool false, .bool false, .bool false, .bool false, .bool false, .bool false, .bool false, .string ⟨#[]⟩, .bool false] 36)).heap.size from HN9.out.size)
            have hsrc : SlIn (w3.alloc (.cells #[.int .u64 (q1 : Int), .int .u64 (q2 : Int), .slice none 0 0, .bool false, .bool false, .bool false, .bool false, .bool false, .bool false, .bool false, .bool false, .bool false, .bool false, .bool false, .bool false, .bool false, .bool false, .bool false, .bool false, .string ⟨#[]⟩, .bool false] 36)) 21 pmE (.slice (some ⟨w3.heap.size, 0, none⟩) 1 1) [pm0 m] := SlIn.one (x := pm0 m) hbx pmOk (by rw [HP0.out])
            have HSRC := Lib.hid hsrc
            clear hO hn3 hsrc
            go_wp2_with (at_builtin; refine wpList_app pmTy pmOk rfl _ _ rfl rfl rfl hox HSRC.out HM1.out HM2.out HM3.out ?_; intro v9 w9 ho9 hg9 hb9; obtain ⟨A9, n9, c9, hv9⟩ := (Owns.slIn pmOk ho9).shape; subst hv9)
            go_roundw
            case rel =>
              refine ⟨m + 1, by omega, by go_num, by rw [HSN.out]; exact ho9, HN9.out.grown hg9 (fun j hj => hox.blockGe j hj), fun j y hj hy => ?_⟩
              · by_cases hjm : j < m
                · exact HSZ.out j y hjm hy
                · obtain rfl : j = m := by omega
                  rw [HX.out] at hy
                  cases hy
                  omega
            case measure => simp [intOf]; omega
        · have hml' : ¬ (m : Int) < (own.length : Int) := by omega
          obtain rfl : m = own.length := by omega
          obtain ⟨pb, hpA⟩ : ∃ pb, pA = some ⟨pb, 0, none⟩ := by
            rcases hO.2 with h2 | ⟨g1, cap, cur, hv, _⟩
            · have := h2.2; rw [hlen] at this; exact absurd this HNK.out
            · cases hv; exact ⟨g1, rfl⟩
          subst hpA
          obtain ⟨_, _, hpn, -, -⟩ := Owns.slIn pmOk hO
          have hpn2 : pn = own.length := by injection hpn with _ h _; rw [h, hlen]
          have hOM : OM w wr k ab pb pc g (L0 own.length) st0 := OM.start HA2.out hN (by rw [hlen]; rw [hpn2] at hO; exact hO)
          subst hpn2
          have HOM := Lib.hid hOM
          have HSZ0 := Lib.hid (show Sz own.length st0 from ⟨fun _ => Nat.zero_le _, fun _ => Nat.zero_le _, fun _ => Nat.zero_le _⟩)
          have HLEN := Lib.hid hlen
          clear hO hN hOM hlen hpn HOW HN HA2 HA
          have hP1 : 1 ≤ own.length := by have := HNK.out; omega
          have hP12 : own.length ≤ 12 := by omega
          go_wp2_with fail
          go_loopw [12, 13, 14, 15, 16, 17, 18, 19, 20] (fun c a i _ _ _ _ _ _ wr => ∃ q : Nat, q ≤ steps.length ∧ q ≤ 200 ∧ i = .int .i64 q ∧ ∃ (g : Nat → Nat) (L : List PM) (s : St), c = .string s.ch ∧ a = .bool s.any ∧ OM w wr k ab pb pc g L s ∧ Inv k s ∧ Sz own.length s ∧ L.length = own.length) (fun _ _ i _ _ _ _ _ _ _ => steps.length - (intOf i).toNat)
          case atStart => exact ⟨0, by omega, by omega, rfl, g, L0 own.length, st0, rfl, rfl, HOM.out, inv0 k, HSZ0.out, HLEN.out⟩
          case round =>
            clear HOM HSZ0 HLEN
            obtain ⟨q, hq, hq200, rfl, g, L, s, rfl, rfl, hM, hI, hSz, hLl⟩ := hrel
            have HM := Lib.hid hM
            have HI := Lib.hid hI
            have HSz := Lib.hid hSz
            by_cases hend : q < steps.length ∧ q < 200
            · obtain ⟨hql, hq2⟩ := hend
              have hql' : (q : Int) < (steps.length : Int) := by omega
              have hq2' : (q : Int) < 200 := by omega
              have hq0 : (0 : Int) ≤ (q : Int) := by omega
              rcases hors with hors | ⟨bs, os, rfl, hbs, hcs2⟩
              · rw [hors] at hql; simp at hql
              obtain ⟨x, hx⟩ : ∃ x, steps[q]? = some x := ⟨_, List.getElem?_eq_getElem hql⟩
              have hcells := hM.nw.cells.1
              have e0 : wr.cell? ⟨bs, os + q * 4, none⟩ = some (.int .u8 (x.pr : Int)) := (hcells _ _ hbs).trans (by have := hcs2 _ x hx 0 _ rfl; simpa using this)
              have e1 : wr.cell? ⟨bs, os + q * 4 + 1, none⟩ = some (.int .u8 (x.ac : Int)) := (hcells _ _ hbs).trans (by have := hcs2 _ x hx 1 _ rfl; simpa using this)
              have e2 : wr.cell? ⟨bs, os + q * 4 + 2, none⟩ = some (.bool x.acc) := (hcells _ _ hbs).trans (by have := hcs2 _ x hx 2 _ rfl; simpa using this)
              have e3 : wr.cell? ⟨bs, os + q * 4 + 3, none⟩ = some (.bool x.again) := (hcells _ _ hbs).trans (by have := hcs2 _ x hx 3 _ rfl; simpa using this)
              have hbsl := Nat.lt_of_lt_of_le hbs hM.nw.size
              obtain ⟨hx1, hx2⟩ := HGS.out x (List.mem_of_getElem? hx)
              obtain ⟨a, ha⟩ : ∃ a, a = x.ac % k := ⟨_, rfl⟩
              obtain ⟨p, hp⟩ : ∃ p, p = x.pr % own.length := ⟨_, rfl⟩
              have hak : a < k := by rw [ha]; exact Nat.mod_lt _ (by omega)
              have hpP : p < own.length := by rw [hp]; exact Nat.mod_lt _ (by omega)
              have hka : (x.ac : Int) % (k : Int) = (a : Int) := by rw [ha]; omega
              have hpp : (x.pr : Int) % (own.length : Int) = (p : Int) := by rw [hp]; omega
              have hkz : ((k : Int) == 0) = false := beq_eq_false_iff_ne.2 (by omega)
              have hPz : ((own.length : Int) == 0) = false := beq_eq_false_iff_ne.2 (by omega)
              have hx10 : (0 : Int) ≤ (x.pr : Int) := by omega
              have hx20 : (0 : Int) ≤ (x.ac : Int) := by omega
              clear ha hp hcells hcs2 hx hM hI hSz
              go_upto_region 22 with fail
              go_cut [15, 16] (fun s15 s16 wx => s15 = .int .i64 (a : Int) ∧ s16 = .int .i64 (p : Int) ∧ New wr wx)
              case first =>
                go_quiet (fail)
                go_wp2_with fail
                go_meet
                exact ⟨by rw [hka], by rw [hpp], (New.refl wr).drewN _⟩
              case rest =>
                obtain ⟨rfl, rfl, hnq⟩ := hcut
                have hMc := HM.out.new hnq
                have HMc := Lib.hid hMc
                have hcw := hnq.cells.1
                replace e0 := (hcw _ _ hbsl).trans e0
                replace e1 := (hcw _ _ hbsl).trans e1
                replace e2 := (hcw _ _ hbsl).trans e2
                replace e3 := (hcw _ _ hbsl).trans e3
                replace hbsl := Nat.lt_of_lt_of_le hbsl hnq.size
                have ha0 : (0 : Int) ≤ (a : Int) := by omega
                have ha8 : (a : Int) < 8 := by omega
                have ha8n : a < 8 := by omega
                have eA : wc.cell? ⟨ab, a, none⟩ = some (.pointer (some ⟨g a, 0, none⟩)) := by
                  rw [hMc.abk.cell a, pts_at k g ha8n]
                  unfold pt
                  rw [if_pos hak]
                have habl := hMc.abk.lt
                have habz := hMc.abk.frozen
                have HAK := Lib.hid (And.intro hak ha8n)
                have HPP := Lib.hid hpP
                clear hka hpp hkz hPz hx10 hx20 hx1 hx2 hcw hnq
                cases hag : x.again with
                | true =>
                  as_aux_lemma =>
                    rw [hag] at e3
                    obtain ⟨f1, f2, f3, f4, f5, f6, f7⟩ := acc_facts HI.out HSz.out.v HSz.out.p hP12 a
                    have hac := (hMc.ac a hak).1
                    have HAC := Lib.hid (And.intro f1 (And.intro f2 (And.intro f3 (And.intro f4 (And.intro f5 (And.intro f6 f7))))))
                    have hby := accBytes_any (g a) _ _ _ _ _ _ wc hac f1 f2 f3 f4 f5
                    have hof := ofC_enc f1 f2 f3 f4 f5 f6 f7
                    have hlen := accB_len f1 f2 f3 f4 f5 (h := (s.ac a).a.isSome)
                    have HOF := Lib.hid (And.intro hof hlen)
                    clear f1 f2 f3 f4 f5 f6 f7 hof hlen hac hMc
                    go_wp2_with fail
                    refine hby.mono ?_
                    rintro e w5 ⟨u, rfl, ho5, hn5⟩
                    have e5 : w5.cell? ⟨ab, a, none⟩ = some (.pointer (some ⟨g a, 0, none⟩)) := (hn5.cells.1 _ _ habl).trans eA
                    go_wp2_with fail
                    refine (accOf_any _ u w5 HOF.out.2 (Owns.slIn bEncOk ho5)).mono ?_
                    rintro e w6 ⟨hn6, hr6⟩
                    rw [HOF.out.1] at hr6
                    rcases hr6 with ⟨hf, _⟩ | ⟨av, g6, hf, rfl, hg6, ha6⟩
                    · cases hf
                    cases hf
                    dsimp only at ha6
                    rw [str_data] at ha6
                    have hN6 := hn5.trans hn6
                    have hnew := HMc.out.again HAK.out.1 HAK.out.2 hN6 (Nat.le_trans hn5.size hg6) ha6
                    have e6 := (hN6.cells.1 _ _ habl).trans eA
                    have habl6 := Nat.lt_of_lt_of_le habl hN6.size
                    have habz6 := (HMc.out.new hN6).abk.frozen
                    have HNEW := Lib.hid hnew
                    clear hnew ha6 hby ho5 hn5 hn6 hN6 hg6 e5 habz
                    go_wp2_with fail
                    go_roundw
                    case rel => exact ⟨q + 1, by omega, by omega, by go_num, _, L, s, rfl, rfl, HNEW.out, HI.out, HSz.out, hLl⟩
                    case measure => simp [intOf]; omega
                | false =>
                  rw [hag] at e3
                  obtain ⟨y, hy⟩ : ∃ y, L[p]? = some y := ⟨_, List.getElem?_eq_getElem (by omega)⟩
                  have hpm := (hMc.row p y hy).1
                  have HY := Lib.hid hy
                  have HPM := Lib.hid hpm
                  obtain ⟨hpbl, hpbz⟩ := hMc.pbf
                  have hp0 : (0 : Int) ≤ (p : Int) := by omega
                  have hpP' : (p : Int) < (own.length : Int) := by omega
                  have KS := Lib.hid (show ∀ wx s', OM w wx k ab pb pc g L s' → wx.cell? ⟨ab, a, none⟩ = some (.pointer (some ⟨g a, 0, none⟩)) ∧ wx.cell? ⟨pb, p * 21, none⟩ = some (.int .u64 (y.r : Int)) ∧ wx.cell? ⟨pb, p * 21 + 1, none⟩ = some (.int .u64 (y.n : Int)) from fun wx s' hO =>
                    ⟨by rw [hO.abk.cell a, pts_at k g ha8n]; unfold pt; rw [if_pos hak], by have c0 := hO.cell (p := p) (j := 0) (u := .int .u64 (y.r : Int)) hy rfl; rw [Nat.add_zero] at c0; exact c0, by have c1 := hO.cell (p := p) (j := 1) (u := .int .u64 (y.n : Int)) hy rfl; exact c1⟩)
                  have HPY := Lib.hid (show ∀ wx, OM w wx k ab pb pc g L s → Calls Try.prog 13 #[.pointer (some ⟨g a, 0, none⟩), .agg #[.int .u64 (y.r : Int), .int .u64 (y.n : Int)]] wx (PrepPost w k ab pb pc g L s a p wx) from fun wx hO => by
                    rw [hpm.r, hpm.n]; exact prepO hO hak)
                  have HGA := Lib.hid (Blk.lt (hMc.ac a hak).1)
                  cases hacc : x.acc with
                  | false =>
                    rw [hacc] at e2
                    clear hMc hpm hy
                    go_upto_region 29 with fail
                    go_cut [19, 20] (fun s19 s20 wx => Aft29 wc.heap.size w k ab pb pc g L s a p s19 s20 wx)
                    case first =>
                      as_aux_lemma =>
                        refine wp_region_held_drew (S := fun w' => w'.cell? ⟨ab, a, none⟩ = some (.pointer (some ⟨g a, 0, none⟩)) ∧ w'.cell? ⟨pb, p * 21, none⟩ = some (.int .u64 (y.r : Int)) ∧ w'.cell? ⟨pb, p * 21 + 1, none⟩ = some (.int .u64 (y.n : Int))) (by kernel_rfl) (KS.out _ _ (OM.new HMc.out (New.refl wc).drew)) (fun hHeld => ?_)
                        refine wpAnyH_take (i := 0) (oi := { dst := some 131, op := Op.move (Operand.tmp 15), type := 3, pos := "law.go:163", after := #[], guard := none }) (v := ?_) rfl (by kernel_rfl) (by kernel_rfl) (by kernel_rfl) (fun _ _ _ h => h) (Or.inl ⟨by rfl, ?_⟩) hHeld ?_
                        rotate_left
                        · (intro wq hSw; (try dsimp only at hSw); go_simp; first | done | with_reducible rfl)
                        try (simp only [Act.put, List.setIfInBounds_toArray, set16]; simp only [List.set_cons_succ, List.set_cons_zero])
                        refine wpAnyH_take (i := 1) (oi := { dst := some 132, op := Op.indexAddr 25 (Operand.tmp 8) (Operand.tmp 131), type := 0, pos := "law.go:163", after := #[{ on := 0, ground := Ground.data }], guard := none }) (v := ?_) rfl (by kernel_rfl) (by kernel_rfl) (by kernel_rfl) (fun _ _ _ h => h) (Or.inl ⟨by rfl, ?_⟩) hHeld ?_
                        rotate_left
                        · (intro wq hSw; (try dsimp only at hSw); go_simp; first | done | with_reducible rfl)
                        try (simp only [Act.put, List.setIfInBounds_toArray, set16]; simp only [set4]; simp only [List.set_cons_zero])
                        refine wpAnyH_take (i := 2) (oi := { dst := some 133, op := Op.load 24 (Operand.tmp 132), type := 24, pos := "law.go:163", after := #[{ on := 1, ground := Ground.data }], guard := none }) (v := ?_) rfl (by kernel_rfl) (by kernel_rfl) (by kernel_rfl) (fun _ _ _ h => h) (Or.inl ⟨by rfl, ?_⟩) hHeld ?_
                        rotate_left
                        · (intro wq hSw; (try dsimp only at hSw); go_simp; first | done | with_reducible rfl)
                        try (simp only [Act.put, List.setIfInBounds_toArray, set16]; simp only [set4]; simp only [List.set_cons_succ, List.set_cons_zero])
                        refine wpAnyH_take (i := 3) (oi := { dst := some 134, op := Op.move (Operand.tmp 10), type := 28, pos := "law.go:163", after := #[], guard := none }) (v := ?_) rfl (by kernel_rfl) (by kernel_rfl) (by kernel_rfl) (fun _ _ _ h => h) (Or.inl ⟨by rfl, ?_⟩) hHeld ?_
                        rotate_left
                        · (intro wq hSw; (try dsimp only at hSw); go_simp; first | done | with_reducible rfl)
                        try (simp only [Act.put, List.setIfInBounds_toArray, set16]; simp only [set4]; simp only [List.set_cons_succ, List.set_cons_zero])
                        refine wpAnyH_take (i := 4) (oi := { dst := some 135, op := Op.move (Operand.tmp 16), type := 3, pos := "law.go:163", after := #[], guard := none }) (v := ?_) rfl (by kernel_rfl) (by kernel_rfl) (by kernel_rfl) (fun _ _ _ h => h) (Or.inl ⟨by rfl, ?_⟩) hHeld ?_
                        rotate_left
                        · (intro wq hSw; (try dsimp only at hSw); go_simp; first | done | with_reducible rfl)
                        try (simp only [Act.put, List.setIfInBounds_toArray, set16]; simp only [set4]; simp only [List.set_cons_succ, List.set_cons_zero])
                        refine wpAnyH_take (i := 5) (oi := { dst := some 136, op := Op.indexAddr 28 (Operand.tmp 134) (Operand.tmp 135), type := 0, pos := "law.go:163", after := #[{ on := 3, ground := Ground.data }, { on := 4, ground := Ground.data }], guard := none }) (v := ?_) rfl (by kernel_rfl) (by kernel_rfl) (by kernel_rfl) (fun _ _ _ h => h) (Or.inl ⟨by rfl, ?_⟩) hHeld ?_
                        rotate_left
                        · (intro wq hSw; (try dsimp only at hSw); go_simp; first | done | with_reducible rfl)
                        try (simp only [Act.put, List.setIfInBounds_toArray, set16]; simp only [set4]; simp only [List.set_cons_zero])
                        refine wpAnyH_take (i := 6) (oi := { dst := some 137, op := Op.fieldAddr 36 (Operand.tmp 136) 0, type := 0, pos := "law.go:163", after := #[{ on := 5, ground := Ground.data }], guard := none }) (v := ?_) rfl (by kernel_rfl) (by kernel_rfl) (by kernel_rfl) (fun _ _ _ h => h) (Or.inl ⟨by rfl, ?_⟩) hHeld ?_
                        rotate_left
                        · (intro wq hSw; (try dsimp only at hSw); go_simp; first | done | with_reducible rfl)
                        try (simp only [Act.put, List.setIfInBounds_toArray, set16]; simp only [set4]; simp only [List.set_cons_succ, List.set_cons_zero])
                        refine wpAnyH_take (i := 7) (oi := { dst := some 138, op := Op.load 31 (Operand.tmp 137), type := 31, pos := "law.go:163", after := #[{ on := 6, ground := Ground.data }], guard := none }) (v := ?_) rfl (by kernel_rfl) (by kernel_rfl) (by kernel_rfl) (fun _ _ _ h => h) (Or.inl ⟨by rfl, ?_⟩) hHeld ?_
                        rotate_left
                        · (intro wq hSw; (try dsimp only at hSw); go_simp; first | done | with_reducible rfl)
                        try (simp only [Act.put, List.setIfInBounds_toArray, set16]; simp only [set4]; simp only [List.set_cons_succ, List.set_cons_zero])
                        refine wpAnyH_ready (rs := [8, 12]) (by kernel_rfl) (by simp) ?_
                        refine AllReadyH.cons (o := { dst := some 139, op := Op.call { callee := Callee.value (Operand.func 13), args := #[Operand.tmp 133, Operand.tmp 138], argTypes := #[24, 31] }, type := 46, pos := "law.go:163", after := #[{ on := 2, ground := Ground.data }, { on := 7, ground := Ground.data }], guard := none }) rfl (fun K hK => ?_) (AllReadyH.cons (o := { dst := some 19, op := Op.alloc 45, type := 0, pos := "law.go:163", after := #[], guard := none }) rfl (fun K hK => ?_) AllReadyH.nil)
                        · go_simp
                          refine (HPY.out _ (OM.new HMc.out (New.refl wc).drew)).mono ?_
                          rintro e w3 ⟨ph, pr, pn, pv, rfl, hu3, hM3, hpq⟩
                          refine hK.out _ _ ?_ (fun hHeld => ?_)
                          · exact KS.out _ _ hM3
                          clear hK K
                          try (simp only [Act.put, List.setIfInBounds_toArray, set16]; simp only [set4]; simp only [List.set_cons_succ, List.set_cons_zero])
                          refine wpAnyH_take (i := 9) (oi := { dst := some 130, op := Op.move (Operand.tmp 139), type := 46, pos := "law.go:163", after := #[{ on := 8, ground := Ground.data }], guard := none }) (v := ?_) rfl (by kernel_rfl) (by kernel_rfl) (by kernel_rfl) (fun _ _ _ h => h) (Or.inl ⟨by rfl, ?_⟩) hHeld ?_
                          rotate_left
                          · (intro wq hSw; (try dsimp only at hSw); go_simp; first | done | with_reducible rfl)
                          try (simp only [Act.put, List.setIfInBounds_toArray, set16]; simp only [List.set_cons_succ, List.set_cons_zero])
                          refine wpAnyH_take (i := 10) (oi := { dst := some 140, op := Op.extract (Operand.tmp 130) 0, type := 45, pos := "law.go:163", after := #[{ on := 9, ground := Ground.data }], guard := none }) (v := ?_) rfl (by kernel_rfl) (by kernel_rfl) (by kernel_rfl) (fun _ _ _ h => h) (Or.inl ⟨by rfl, ?_⟩) hHeld ?_
                          rotate_left
                          · (intro wq hSw; (try dsimp only at hSw); go_simp; first | done | with_reducible rfl)
                          try (simp only [Act.put, List.setIfInBounds_toArray, set16]; simp only [set4]; simp only [List.set_cons_zero])
                          refine wpAnyH_take (i := 11) (oi := { dst := some 141, op := Op.extract (Operand.tmp 130) 1, type := 4, pos := "law.go:163", after := #[{ on := 9, ground := Ground.data }, { on := 13, ground := Ground.gcOnly Departure.lateStores }], guard := none }) (v := ?_) rfl (by kernel_rfl) (by kernel_rfl) (by kernel_rfl) (fun _ _ _ h => h) (Or.inl ⟨by rfl, ?_⟩) hHeld ?_
                          rotate_left
                          · (intro wq hSw; (try dsimp only at hSw); go_simp; first | done | with_reducible rfl)
                          try (simp only [Act.put, List.setIfInBounds_toArray, set16]; simp only [set4]; simp only [List.set_cons_succ, List.set_cons_zero])
                          refine wpAnyH_ready (rs := [12]) (by kernel_rfl) (by simp) ?_
                          refine AllReadyH.cons (o := { dst := some 19, op := Op.alloc 45, type := 0, pos := "law.go:163", after := #[], guard := none }) rfl (fun K hK => ?_) AllReadyH.nil
                          go_simp
                          have hM4 := OM.new hM3 ((New.refl _).alloc (.cells #[.bool false, .int .u64 0, .int .u64 0, .string ⟨#[]⟩] 45))
                          have hb4 := Blk.mk_new w3 45 #[.bool false, .int .u64 0, .int .u64 0, .string ⟨#[]⟩]
                          obtain ⟨t0, t1, t2, t3, t4, tz⟩ := Blk4O hb4
                          refine hK.out _ _ ?_ (fun hHeld => ?_)
                          · exact KS.out _ _ hM4
                          clear hK K
                          try (simp only [Act.put, List.setIfInBounds_toArray, set16]; simp only [List.set_cons_succ, List.set_cons_zero])
                          refine wpAnyH_ready (rs := [13]) (by kernel_rfl) (by simp) ?_
                          refine AllReadyH.cons (o := { dst := none, op := Op.store 45 (Operand.tmp 19) (Operand.tmp 140), type := 0, pos := "law.go:163", after := #[{ on := 12, ground := Ground.data }, { on := 10, ground := Ground.data }, { on := 8, ground := Ground.chain }, { on := 0, ground := Ground.phase }, { on := 1, ground := Ground.phase }, { on := 2, ground := Ground.phase }, { on := 3, ground := Ground.phase }, { on := 4, ground := Ground.phase }, { on := 5, ground := Ground.phase }, { on := 6, ground := Ground.phase }, { on := 7, ground := Ground.phase }, { on := 8, ground := Ground.phase }, { on := 9, ground := Ground.phase }, { on := 10, ground := Ground.phase }, { on := 11, ground := Ground.textOnly Departure.lateStores }, { on := 12, ground := Ground.phase }], guard := none }) rfl (fun K hK => ?_) AllReadyH.nil
                          go_simp
                          have hM5 := OM.new hM3 ((New.refl w3).alloc (.cells #[.bool ph, .int .u64 pr, .int .u64 pn, .string pv] 45))
                          have hB5 := Blk.mk_new w3 45 #[.bool ph, .int .u64 pr, .int .u64 pn, .string pv]
                          refine hK.out _ _ ?_ (fun hHeld => ?_)
                          · exact KS.out _ _ hM5
                          clear hK K
                          try simp only [Act.put, List.setIfInBounds_toArray, List.set_cons_zero, List.set_cons_succ]
                          refine wpAnyH_take (i := 14) (oi := { dst := some 20, op := Op.assign (Operand.tmp 141), type := 4, pos := "law.go:163", after := #[{ on := 11, ground := Ground.data }, { on := 13, ground := Ground.chain }, { on := 0, ground := Ground.phase }, { on := 1, ground := Ground.phase }, { on := 2, ground := Ground.phase }, { on := 3, ground := Ground.phase }, { on := 4, ground := Ground.phase }, { on := 5, ground := Ground.phase }, { on := 6, ground := Ground.phase }, { on := 7, ground := Ground.phase }, { on := 8, ground := Ground.phase }, { on := 9, ground := Ground.phase }, { on := 10, ground := Ground.phase }, { on := 11, ground := Ground.phase }, { on := 12, ground := Ground.phase }, { on := 13, ground := Ground.phase }], guard := none }) (v := ?_) rfl (by kernel_rfl) (by kernel_rfl) (by kernel_rfl) (fun _ _ _ h => h) (Or.inl ⟨by rfl, ?_⟩) hHeld ?_
                          rotate_left
                          · (intro wq hSw; (try dsimp only at hSw); go_simp; first | done | with_reducible rfl)
                          try (simp only [Act.put, List.setIfInBounds_toArray, set16]; simp only [set4]; simp only [List.set_cons_zero])
                          refine wpAnyH_done (by kernel_rfl) ?_ _
                          clear hHeld
                          go_wp2_with fail
                          go_meet
                          exact ⟨_, ph, pr, pn, pv, rfl, rfl, hB5, hM5, hpq, by first | exact Nat.le_refl _ | exact hu3.size⟩
                        · go_simp
                          have hM4 := OM.new (OM.new HMc.out (New.refl wc).drew) ((New.refl _).alloc (.cells #[.bool false, .int .u64 0, .int .u64 0, .string ⟨#[]⟩] 45))
                          have hb4 := Blk.mk_new wc.drew 45 #[.bool false, .int .u64 0, .int .u64 0, .string ⟨#[]⟩]
                          obtain ⟨t0, t1, t2, t3, t4, tz⟩ := Blk4O hb4
                          refine hK.out _ _ ?_ (fun hHeld => ?_)
                          · exact KS.out _ _ hM4
                          clear hK K
                          try (simp only [Act.put, List.setIfInBounds_toArray, set16]; simp only [List.set_cons_succ, List.set_cons_zero])
                          refine wpAnyH_ready (rs := [8]) (by kernel_rfl) (by simp) ?_
                          refine AllReadyH.cons (o := { dst := some 139, op := Op.call { callee := Callee.value (Operand.func 13), args := #[Operand.tmp 133, Operand.tmp 138], argTypes := #[24, 31] }, type := 46, pos := "law.go:163", after := #[{ on := 2, ground := Ground.data }, { on := 7, ground := Ground.data }], guard := none }) rfl (fun K hK => ?_) AllReadyH.nil
                          go_simp
                          refine (HPY.out _ hM4).mono ?_
                          rintro e w3 ⟨ph, pr, pn, pv, rfl, hu3, hM3, hpq⟩
                          have hb3 : Blk w3 wc.heap.size 45 #[.bool false, .int .u64 0, .int .u64 0, .string ⟨#[]⟩] := Blk.upd hb4 hu3 (fun e => by have h9 := HGA.out; have h8 : wc.heap.size = g a := e; omega)
                          obtain ⟨y0, y1, y2, y3, y4, yz⟩ := Blk4O hb3
                          refine hK.out _ _ ?_ (fun hHeld => ?_)
                          · exact KS.out _ _ hM3
                          clear hK K
                          try (simp only [Act.put, List.setIfInBounds_toArray, set16]; simp only [set4]; simp only [List.set_cons_succ, List.set_cons_zero])
                          refine wpAnyH_take (i := 9) (oi := { dst := some 130, op := Op.move (Operand.tmp 139), type := 46, pos := "law.go:163", after := #[{ on := 8, ground := Ground.data }], guard := none }) (v := ?_) rfl (by kernel_rfl) (by kernel_rfl) (by kernel_rfl) (fun _ _ _ h => h) (Or.inl ⟨by rfl, ?_⟩) hHeld ?_
                          rotate_left
                          · (intro wq hSw; (try dsimp only at hSw); go_simp; first | done | with_reducible rfl)
                          try (simp only [Act.put, List.setIfInBounds_toArray, set16]; simp only [List.set_cons_succ, List.set_cons_zero])
                          refine wpAnyH_take (i := 10) (oi := { dst := some 140, op := Op.extract (Operand.tmp 130) 0, type := 45, pos := "law.go:163", after := #[{ on := 9, ground := Ground.data }], guard := none }) (v := ?_) rfl (by kernel_rfl) (by kernel_rfl) (by kernel_rfl) (fun _ _ _ h => h) (Or.inl ⟨by rfl, ?_⟩) hHeld ?_
                          rotate_left
                          · (intro wq hSw; (try dsimp only at hSw); go_simp; first | done | with_reducible rfl)
                          try (simp only [Act.put, List.setIfInBounds_toArray, set16]; simp only [set4]; simp only [List.set_cons_zero])
                          refine wpAnyH_take (i := 11) (oi := { dst := some 141, op := Op.extract (Operand.tmp 130) 1, type := 4, pos := "law.go:163", after := #[{ on := 9, ground := Ground.data }, { on := 13, ground := Ground.gcOnly Departure.lateStores }], guard := none }) (v := ?_) rfl (by kernel_rfl) (by kernel_rfl) (by kernel_rfl) (fun _ _ _ h => h) (Or.inl ⟨by rfl, ?_⟩) hHeld ?_
                          rotate_left
                          · (intro wq hSw; (try dsimp only at hSw); go_simp; first | done | with_reducible rfl)
                          try (simp only [Act.put, List.setIfInBounds_toArray, set16]; simp only [set4]; simp only [List.set_cons_succ, List.set_cons_zero])
                          refine wpAnyH_ready (rs := [13]) (by kernel_rfl) (by simp) ?_
                          refine AllReadyH.cons (o := { dst := none, op := Op.store 45 (Operand.tmp 19) (Operand.tmp 140), type := 0, pos := "law.go:163", after := #[{ on := 12, ground := Ground.data }, { on := 10, ground := Ground.data }, { on := 8, ground := Ground.chain }, { on := 0, ground := Ground.phase }, { on := 1, ground := Ground.phase }, { on := 2, ground := Ground.phase }, { on := 3, ground := Ground.phase }, { on := 4, ground := Ground.phase }, { on := 5, ground := Ground.phase }, { on := 6, ground := Ground.phase }, { on := 7, ground := Ground.phase }, { on := 8, ground := Ground.phase }, { on := 9, ground := Ground.phase }, { on := 10, ground := Ground.phase }, { on := 11, ground := Ground.textOnly Departure.lateStores }, { on := 12, ground := Ground.phase }], guard := none }) rfl (fun K hK => ?_) AllReadyH.nil
                          go_simp
                          have hU5 : Upd (· = wc.heap.size) w3 ((((w3.setCell ⟨wc.heap.size, 0, none⟩ (.bool ph)).setCell ⟨wc.heap.size, 1, none⟩ (.int .u64 pr)).setCell ⟨wc.heap.size, 2, none⟩ (.int .u64 pn)).setCell ⟨wc.heap.size, 3, none⟩ (.string pv)) := ((((Upd.refl _ w3).setIn 0 _).setIn 1 _).setIn 2 _).setIn 3 _
                          have hM5 := OM.updNew HMc.out hM3 hU5 (fun i hi => by omega)
                          have hB5 : Blk ((((w3.setCell ⟨wc.heap.size, 0, none⟩ (.bool ph)).setCell ⟨wc.heap.size, 1, none⟩ (.int .u64 pr)).setCell ⟨wc.heap.size, 2, none⟩ (.int .u64 pn)).setCell ⟨wc.heap.size, 3, none⟩ (.string pv)) wc.heap.size 45 #[.bool ph, .int .u64 pr, .int .u64 pn, .string pv] := (((Blk.set_ hb3 0 (.bool ph)).set_ 1 (.int .u64 pr)).set_ 2 (.int .u64 pn)).set_ 3 (.string pv)
                          refine hK.out _ _ ?_ (fun hHeld => ?_)
                          · exact KS.out _ _ hM5
                          clear hK K
                          try simp only [Act.put, List.setIfInBounds_toArray, List.set_cons_zero, List.set_cons_succ]
                          refine wpAnyH_take (i := 14) (oi := { dst := some 20, op := Op.assign (Operand.tmp 141), type := 4, pos := "law.go:163", after := #[{ on := 11, ground := Ground.data }, { on := 13, ground := Ground.chain }, { on := 0, ground := Ground.phase }, { on := 1, ground := Ground.phase }, { on := 2, ground := Ground.phase }, { on := 3, ground := Ground.phase }, { on := 4, ground := Ground.phase }, { on := 5, ground := Ground.phase }, { on := 6, ground := Ground.phase }, { on := 7, ground := Ground.phase }, { on := 8, ground := Ground.phase }, { on := 9, ground := Ground.phase }, { on := 10, ground := Ground.phase }, { on := 11, ground := Ground.phase }, { on := 12, ground := Ground.phase }, { on := 13, ground := Ground.phase }], guard := none }) (v := ?_) rfl (by kernel_rfl) (by kernel_rfl) (by kernel_rfl) (fun _ _ _ h => h) (Or.inl ⟨by rfl, ?_⟩) hHeld ?_
                          rotate_left
                          · (intro wq hSw; (try dsimp only at hSw); go_simp; first | done | with_reducible rfl)
                          try (simp only [Act.put, List.setIfInBounds_toArray, set16]; simp only [set4]; simp only [List.set_cons_zero])
                          refine wpAnyH_done (by kernel_rfl) ?_ _
                          clear hHeld
                          go_wp2_with fail
                          go_meet
                          exact ⟨_, ph, pr, pn, pv, rfl, rfl, hB5, hM5, hpq, by first | exact Nat.le_refl _ | exact hu3.size⟩
                    case rest =>
                      obtain ⟨gq, ph, pr, pn, pv, rfl, rfl, hB, hM, hpq, hgq⟩ := hcut
                      have hppE := prepS_pp s a p
                      have hchE : (prepS s a p).ch = s.ch ∧ (prepS s a p).any = s.any := by unfold prepS; split <;> exact ⟨rfl, rfl⟩
                      have hI1 := HI.out.prep a p
                      have hS1 : Sz own.length (prepS s a p) := HSz.out.prep HPP.out
                      have HI1 := Lib.hid hI1
                      have HS1 := Lib.hid hS1
                      have HM1 := Lib.hid hM
                      have HCE := Lib.hid hchE
                      have HPE := Lib.hid hppE
                      have cF : wc.cell? ⟨pb, p * 21 + 3 + a, none⟩ = some (.bool (y.fr a)) := by have c0 := hM.cell (p := p) (j := 3 + a) (u := .bool (y.fr a)) HY.out (pmE_fr y HAK.out.2); rw [← Nat.add_assoc] at c0; exact c0
                      have cH : wc.cell? ⟨pb, p * 21 + 20, none⟩ = some (.bool y.has) := by have c0 := hM.cell (p := p) (j := 20) (u := .bool y.has) HY.out rfl; exact c0
                      obtain ⟨hpbl1, hpbz1⟩ := hM.pbf
                      clear hI1 hS1 hM hchE hppE
                      by_cases hle : (s.ac a).p ≤ p + 1
                      rotate_left
                      · rw [decide_eq_false hle]
                        go_wp2_with fail
                        go_roundw
                        case rel => exact ⟨q + 1, by omega, by omega, by go_num, g, L, prepS s a p, by rw [HCE.out.1], by rw [HCE.out.2], HM1.out, HI1.out, HS1.out, hLl⟩
                        case measure => simp [intOf]; omega
                      rw [decide_eq_true hle]
                      cases hfr : y.fr a with
                      | true =>
                        rw [hfr] at cF
                        go_wp2_with fail
                        go_roundw
                        case rel => exact ⟨q + 1, by omega, by omega, by go_num, g, L, prepS s a p, by rw [HCE.out.1], by rw [HCE.out.2], HM1.out, HI1.out, HS1.out, hLl⟩
                        case measure => simp [intOf]; omega
                      | false =>
                        rw [hfr] at cF
                        cases hhas : y.has with
                        | true =>
                          rw [hhas] at cH
                          go_wp2_with fail
                          go_roundw
                          case rel => exact ⟨q + 1, by omega, by omega, by go_num, g, L, prepS s a p, by rw [HCE.out.1], by rw [HCE.out.2], HM1.out, HI1.out, HS1.out, hLl⟩
                          case measure => simp [intOf]; omega
                        | false =>
                          rw [hhas] at cH
                          as_aux_lemma =>
                            have hmk := HM1.out.mark HY.out HAK.out.2
                            have hBm : Blk (wc.setCell ⟨pb, p * 21 + 3 + a, none⟩ (.bool true)) gq 45 #[.bool ph, .int .u64 pr, .int .u64 pn, .string pv] := Blk.upd hB ((Upd.refl _ wc).setIn (p * 21 + 3 + a) _) (fun e => by have e1 : gq = pb := e; omega)
                            have HQ := Lib.hid (hpq hle)
                            obtain ⟨y1, hy1⟩ : ∃ y1, y1 = ({ y with fr := upd y.fr a true } : PM) := ⟨_, rfl⟩
                            obtain ⟨L1, hL1⟩ : ∃ L1, L1 = L.set p y1 := ⟨_, rfl⟩
                            obtain ⟨s1, hs1⟩ : ∃ s1, s1 = markS (prepS s a p) a p := ⟨_, rfl⟩
                            have hat : L1[p]? = some y1 := by rw [hL1, List.getElem?_set, if_pos rfl, if_pos (List.getElem?_eq_some_iff.1 HY.out).1]
                            have hpr0 := promised HI.out HSz.out HAK.out.1 HAK.out.2 HPP.out hle (by rw [← HPM.out.has]; exact hhas) (by rw [← HPM.out.fr]; exact hfr)
                            have hfr1 : y1.fr = ((puS s1 p (s.ac a).a).pp p).fr := by rw [hs1, hy1, puS_mark, HPE.out]; dsimp only; rw [upd_same, HPM.out.fr]; rfl
                            rw [← hs1] at hpr0
                            have hmk1 : OM w (wc.setCell ⟨pb, p * 21 + 3 + a, none⟩ (.bool true)) k ab pb pc g L1 s1 := by rw [hL1, hy1, hs1]; exact hmk
                            have hhas1 : y1.has = false := by rw [hy1]; exact hhas
                            have hch1 : s1.ch = s.ch ∧ s1.any = s.any := by rw [hs1]; exact HCE.out
                            have hll1 : L1.length = own.length := by rw [hL1, List.length_set]; exact hLl
                            have hln1 : (s1.pp p).prom.length ≤ 8 := by rw [hs1]; unfold markS; dsimp only; rw [upd_same]; dsimp only; rw [HPE.out]; exact Nat.le_trans (HSz.out.l p) (cnt_le _ 8)
                            have HMK := Lib.hid hmk1
                            have HBm := Lib.hid hBm
                            have HG := Lib.hid hgq
                            have HAT := Lib.hid hat
                            have HPR := Lib.hid hpr0
                            have HFR := Lib.hid hfr1
                            have HCH := Lib.hid hch1
                            have HLL := Lib.hid hll1
                            have HH1 := Lib.hid hhas1
                            have HLN := Lib.hid hln1
                            clear hB hgq hpq hmk hBm hy1 hL1 hs1 hat hpr0 hmk1 hhas1 hch1 hll1 hln1 hfr1
                            go_upto_region 32 with fail
                            generalize hwm : wc.setCell ⟨pb, p * 21 + 3 + a, none⟩ (.bool true) = wm at HMK HBm ⊢
                            clear hwm
                            have HOW := Lib.hid ((HMK.out.row p y1 HAT.out).2)
                            have HL1 := Lib.hid (show ((s1.pp p).prom.map proOf).length + [proOf (s.ac a).a].length ≤ maxLen by unfold maxLen; rw [List.length_map]; simp only [List.length_singleton]; have := HLN.out; omega)
                            have HL2 := Lib.hid (show (((s1.pp p).prom.map proOf).length + [proOf (s.ac a).a].length) * 40 ≤ 140737488355328 by rw [List.length_map]; simp only [List.length_singleton]; have := HLN.out; omega)
                            clear cF cH hpbl1 hpbz1 hpbl hpbz eA habl habz e0 e1 e2 e3 hbsl
                            go_cut [] (fun wx => Aft32 w k ab pb pc g L1 s1 p y1 (s.ac a).a wx)
                            case first =>
                              as_aux_lemma =>
                                refine wp_region_held_drew (S := fun _ => True) (by kernel_rfl) (trivial) (fun hHeld => ?_)
                                refine wpAnyH_take (i := 0) (oi := { dst := some 167, op := Op.move (Operand.tmp 10), type := 28, pos := "law.go:166", after := #[], guard := none }) (v := ?_) rfl (by kernel_rfl) (by kernel_rfl) (by kernel_rfl) (fun _ _ _ h => h) (Or.inl ⟨by rfl, ?_⟩) (by assumption) ?_
                                rotate_left
                                · (intro wq hSw; (try dsimp only at hSw); go_simp; first | done | with_reducible rfl)
                                try (simp only [Act.put, List.setIfInBounds_toArray, set16]; simp only [set4]; simp only [List.set_cons_succ, List.set_cons_zero])
                                refine wpAnyH_take (i := 1) (oi := { dst := some 168, op := Op.move (Operand.tmp 16), type := 3, pos := "law.go:166", after := #[], guard := none }) (v := ?_) rfl (by kernel_rfl) (by kernel_rfl) (by kernel_rfl) (fun _ _ _ h => h) (Or.inl ⟨by rfl, ?_⟩) (by assumption) ?_
                                rotate_left
                                · (intro wq hSw; (try dsimp only at hSw); go_simp; first | done | with_reducible rfl)
                                try (simp only [Act.put, List.setIfInBounds_toArray, set16]; simp only [set4]; simp only [List.set_cons_zero])
                                refine wpAnyH_take (i := 2) (oi := { dst := some 169, op := Op.move (Operand.tmp 10), type := 28, pos := "law.go:166", after := #[], guard := none }) (v := ?_) rfl (by kernel_rfl) (by kernel_rfl) (by kernel_rfl) (fun _ _ _ h => h) (Or.inl ⟨by rfl, ?_⟩) (by assumption) ?_
                                rotate_left
                                · (intro wq hSw; (try dsimp only at hSw); go_simp; first | done | with_reducible rfl)
                                try (simp only [Act.put, List.setIfInBounds_toArray, set16]; simp only [set4]; simp only [List.set_cons_succ, List.set_cons_zero])
                                refine wpAnyH_take (i := 3) (oi := { dst := some 170, op := Op.move (Operand.tmp 16), type := 3, pos := "law.go:166", after := #[], guard := none }) (v := ?_) rfl (by kernel_rfl) (by kernel_rfl) (by kernel_rfl) (fun _ _ _ h => h) (Or.inl ⟨by rfl, ?_⟩) (by assumption) ?_
                                rotate_left
                                · (intro wq hSw; (try dsimp only at hSw); go_simp; first | done | with_reducible rfl)
                                try (simp only [Act.put, List.setIfInBounds_toArray, set16]; simp only [set4]; simp only [List.set_cons_succ, List.set_cons_zero])
                                refine wpAnyH_take (i := 4) (oi := { dst := some 171, op := Op.indexAddr 28 (Operand.tmp 169) (Operand.tmp 170), type := 0, pos := "law.go:166", after := #[{ on := 2, ground := Ground.data }, { on := 3, ground := Ground.data }], guard := none }) (v := ?_) rfl (by kernel_rfl) (by kernel_rfl) (by kernel_rfl) (fun _ _ _ h => h) (Or.inl ⟨by rfl, ?_⟩) (by assumption) ?_
                                rotate_left
                                · (intro wq hSw; (try dsimp only at hSw); go_simp; first | done | with_reducible rfl)
                                try (simp only [Act.put, List.setIfInBounds_toArray, set16]; simp only [set4]; simp only [List.set_cons_succ, List.set_cons_zero])
                                refine wpAnyH_take (i := 5) (oi := { dst := some 172, op := Op.fieldAddr 36 (Operand.tmp 171) 1, type := 0, pos := "law.go:166", after := #[{ on := 4, ground := Ground.data }], guard := none }) (v := ?_) rfl (by kernel_rfl) (by kernel_rfl) (by kernel_rfl) (fun _ _ _ h => h) (Or.inl ⟨by rfl, ?_⟩) (by assumption) ?_
                                rotate_left
                                · (intro wq hSw; (try dsimp only at hSw); go_simp; first | done | with_reducible rfl)
                                try (simp only [Act.put, List.setIfInBounds_toArray, set16]; simp only [set4]; simp only [List.set_cons_zero])
                                refine wpAnyH_ready (rs := [6, 7]) (by kernel_rfl) (by simp) ?_
                                refine AllReadyH.cons (o := { dst := some 173, op := Op.load 33 (Operand.tmp 172), type := 33, pos := "law.go:166", after := #[{ on := 5, ground := Ground.data }], guard := none }) rfl (fun K hK => ?_) (AllReadyH.cons (o := { dst := some 174, op := Op.load 45 (Operand.tmp 19), type := 45, pos := "law.go:166", after := #[], guard := none }) rfl (fun K hK => ?_) AllReadyH.nil)
                                · have q6 := OM.cell (p := p) (j := 2) (u := .slice y1.A y1.ln y1.cp) HMK.out HAT.out rfl
                                  obtain ⟨b1, b2⟩ := HMK.out.pbf
                                  go_simp
                                  refine hK.out _ _ ?_ (fun hHeld => ?_)
                                  · exact trivial
                                  clear hK K
                                  try (simp only [Act.put, List.setIfInBounds_toArray, set16]; simp only [set4]; simp only [List.set_cons_succ, List.set_cons_zero])
                                  refine wpAnyH_ready (rs := [7]) (by kernel_rfl) (by simp) ?_
                                  refine AllReadyH.cons (o := { dst := some 174, op := Op.load 45 (Operand.tmp 19), type := 45, pos := "law.go:166", after := #[], guard := none }) rfl (fun K hK => ?_) AllReadyH.nil
                                  obtain ⟨o0, o1, o2, o3, o4, oz⟩ := Blk4O (Blk.new HBm.out (New.refl wm).drew)
                                  go_simp
                                  refine hK.out _ _ ?_ (fun hHeld => ?_)
                                  · exact trivial
                                  clear hK K
                                  try (simp only [Act.put, List.setIfInBounds_toArray, set16]; simp only [set4]; simp only [List.set_cons_succ, List.set_cons_zero])
                                  refine wpAnyH_ready (rs := [8]) (by kernel_rfl) (by simp) ?_
                                  refine AllReadyH.cons (o := { dst := some 175, op := Op.buildSlice 33 1 #[(0, Operand.tmp 174)], type := 33, pos := "law.go:166", after := #[{ on := 7, ground := Ground.data }], guard := none }) rfl (fun K hK => ?_) AllReadyH.nil
                                  go_simp
                                  have hM8 := OM.new (OM.new HMK.out (New.refl wm).drew) ((New.refl wm.drew).alloc (.cells #[.bool ph, .int .u64 pr, .int .u64 pn, .string pv] 45))
                                  have hX8 := Blk.mk_new wm.drew 45 #[.bool ph, .int .u64 pr, .int .u64 pn, .string pv]
                                  refine hK.out _ _ ?_ (fun hHeld => ?_)
                                  · exact trivial
                                  clear hK K
                                  try (simp only [Act.put, List.setIfInBounds_toArray, set16]; simp only [set4]; simp only [List.set_cons_succ, List.set_cons_zero])
                                  refine wpAnyH_ready (rs := [9]) (by kernel_rfl) (by simp) ?_
                                  refine AllReadyH.cons (o := { dst := some 176, op := Op.call { callee := Callee.builtin Builtin.append, args := #[Operand.tmp 173, Operand.tmp 175], argTypes := #[33, 33] }, type := 33, pos := "law.go:166", after := #[{ on := 6, ground := Ground.data }, { on := 8, ground := Ground.data }], guard := none }) rfl (fun K hK => ?_) AllReadyH.nil
                                  refine step_app promTy promEnc rfl (.tmp 173) (.tmp 175) rfl rfl rfl (hM8.row p y1 HAT.out).2 (SlIn.one (x := proOf (s.ac a).a) hX8 promEnc (by rw [← HQ.out]; rfl)) HL1.out HL2.out hM8.nw.size ?_
                                  intro va wa hoa hga hba
                                  obtain ⟨A9, n9, c9, rfl⟩ := (Owns.slIn promEnc hoa).shape
                                  refine hK.out _ _ ?_ (fun hHeld => ?_)
                                  · exact trivial
                                  clear hK K
                                  try (simp only [Act.put, List.setIfInBounds_toArray, set16]; simp only [List.set_cons_zero])
                                  refine wpAnyH_take (i := 10) (oi := { dst := some 177, op := Op.indexAddr 28 (Operand.tmp 167) (Operand.tmp 168), type := 0, pos := "law.go:166", after := #[{ on := 0, ground := Ground.data }, { on := 1, ground := Ground.data }, { on := 0, ground := Ground.phase }, { on := 1, ground := Ground.phase }, { on := 2, ground := Ground.phase }, { on := 3, ground := Ground.phase }, { on := 4, ground := Ground.phase }, { on := 5, ground := Ground.phase }, { on := 6, ground := Ground.phase }, { on := 7, ground := Ground.phase }, { on := 8, ground := Ground.phase }, { on := 9, ground := Ground.phase }], guard := none }) (v := ?_) rfl (by kernel_rfl) (by kernel_rfl) (by kernel_rfl) (fun _ _ _ h => h) (Or.inl ⟨by rfl, ?_⟩) (by assumption) ?_
                                  rotate_left
                                  · (intro wq hSw; (try dsimp only at hSw); go_simp; first | done | with_reducible rfl)
                                  try (simp only [Act.put, List.setIfInBounds_toArray, set16]; simp only [List.set_cons_succ, List.set_cons_zero])
                                  refine wpAnyH_take (i := 11) (oi := { dst := some 178, op := Op.fieldAddr 36 (Operand.tmp 177) 1, type := 0, pos := "law.go:166", after := #[{ on := 10, ground := Ground.data }, { on := 0, ground := Ground.phase }, { on := 1, ground := Ground.phase }, { on := 2, ground := Ground.phase }, { on := 3, ground := Ground.phase }, { on := 4, ground := Ground.phase }, { on := 5, ground := Ground.phase }, { on := 6, ground := Ground.phase }, { on := 7, ground := Ground.phase }, { on := 8, ground := Ground.phase }, { on := 9, ground := Ground.phase }], guard := none }) (v := ?_) rfl (by kernel_rfl) (by kernel_rfl) (by kernel_rfl) (fun _ _ _ h => h) (Or.inl ⟨by rfl, ?_⟩) (by assumption) ?_
                                  rotate_left
                                  · (intro wq hSw; (try dsimp only at hSw); go_simp; first | done | with_reducible rfl)
                                  try (simp only [Act.put, List.setIfInBounds_toArray, set16]; simp only [List.set_cons_succ, List.set_cons_zero])
                                  refine wpAnyH_ready (rs := [12]) (by kernel_rfl) (by simp) ?_
                                  refine AllReadyH.cons (o := { dst := none, op := Op.store 33 (Operand.tmp 178) (Operand.tmp 176), type := 0, pos := "law.go:166", after := #[{ on := 11, ground := Ground.data }, { on := 9, ground := Ground.data }, { on := 9, ground := Ground.chain }, { on := 0, ground := Ground.phase }, { on := 1, ground := Ground.phase }, { on := 2, ground := Ground.phase }, { on := 3, ground := Ground.phase }, { on := 4, ground := Ground.phase }, { on := 5, ground := Ground.phase }, { on := 6, ground := Ground.phase }, { on := 7, ground := Ground.phase }, { on := 8, ground := Ground.phase }, { on := 9, ground := Ground.phase }], guard := none }) rfl (fun K hK => ?_) AllReadyH.nil
                                  obtain ⟨t1, t2, t3⟩ := hM8.pbGrown HAT.out hga
                                  have q7 := OM.cell (p := p) (j := 2) (u := .slice y1.A y1.ln y1.cp) hM8 HAT.out rfl
                                  rw [← t3 (p * 21 + 2)] at q7
                                  clear t3
                                  go_simp
                                  have hM9 := hM8.put HAT.out hoa hga hba
                                  refine hK.out _ _ ?_ (fun hHeld => ?_)
                                  · exact trivial
                                  clear hK K
                                  try simp only [Act.put, List.setIfInBounds_toArray, List.set_cons_zero, List.set_cons_succ]
                                  refine wpAnyH_done (by kernel_rfl) ?_ _
                                  clear hHeld
                                  go_wp2_with fail
                                  go_meet
                                  exact ⟨A9, n9, c9, hM9⟩
                                · obtain ⟨o0, o1, o2, o3, o4, oz⟩ := Blk4O (Blk.new HBm.out (New.refl wm).drew)
                                  go_simp
                                  refine hK.out _ _ ?_ (fun hHeld => ?_)
                                  · exact trivial
                                  clear hK K
                                  try (simp only [Act.put, List.setIfInBounds_toArray, set16]; simp only [set4]; simp only [List.set_cons_succ, List.set_cons_zero])
                                  refine wpAnyH_ready (rs := [6, 8]) (by kernel_rfl) (by simp) ?_
                                  refine AllReadyH.cons (o := { dst := some 173, op := Op.load 33 (Operand.tmp 172), type := 33, pos := "law.go:166", after := #[{ on := 5, ground := Ground.data }], guard := none }) rfl (fun K hK => ?_) (AllReadyH.cons (o := { dst := some 175, op := Op.buildSlice 33 1 #[(0, Operand.tmp 174)], type := 33, pos := "law.go:166", after := #[{ on := 7, ground := Ground.data }], guard := none }) rfl (fun K hK => ?_) AllReadyH.nil)
                                  · have q6 := OM.cell (p := p) (j := 2) (u := .slice y1.A y1.ln y1.cp) HMK.out HAT.out rfl
                                    obtain ⟨b1, b2⟩ := HMK.out.pbf
                                    go_simp
                                    refine hK.out _ _ ?_ (fun hHeld => ?_)
                                    · exact trivial
                                    clear hK K
                                    try (simp only [Act.put, List.setIfInBounds_toArray, set16]; simp only [set4]; simp only [List.set_cons_succ, List.set_cons_zero])
                                    refine wpAnyH_ready (rs := [8]) (by kernel_rfl) (by simp) ?_
                                    refine AllReadyH.cons (o := { dst := some 175, op := Op.buildSlice 33 1 #[(0, Operand.tmp 174)], type := 33, pos := "law.go:166", after := #[{ on := 7, ground := Ground.data }], guard := none }) rfl (fun K hK => ?_) AllReadyH.nil
                                    go_simp
                                    have hM8 := OM.new (OM.new HMK.out (New.refl wm).drew) ((New.refl wm.drew).alloc (.cells #[.bool ph, .int .u64 pr, .int .u64 pn, .string pv] 45))
                                    have hX8 := Blk.mk_new wm.drew 45 #[.bool ph, .int .u64 pr, .int .u64 pn, .string pv]
                                    refine hK.out _ _ ?_ (fun hHeld => ?_)
                                    · exact trivial
                                    clear hK K
                                    try (simp only [Act.put, List.setIfInBounds_toArray, set16]; simp only [set4]; simp only [List.set_cons_succ, List.set_cons_zero])
                                    refine wpAnyH_ready (rs := [9]) (by kernel_rfl) (by simp) ?_
                                    refine AllReadyH.cons (o := { dst := some 176, op := Op.call { callee := Callee.builtin Builtin.append, args := #[Operand.tmp 173, Operand.tmp 175], argTypes := #[33, 33] }, type := 33, pos := "law.go:166", after := #[{ on := 6, ground := Ground.data }, { on := 8, ground := Ground.data }], guard := none }) rfl (fun K hK => ?_) AllReadyH.nil
                                    refine step_app promTy promEnc rfl (.tmp 173) (.tmp 175) rfl rfl rfl (hM8.row p y1 HAT.out).2 (SlIn.one (x := proOf (s.ac a).a) hX8 promEnc (by rw [← HQ.out]; rfl)) HL1.out HL2.out hM8.nw.size ?_
                                    intro va wa hoa hga hba
                                    obtain ⟨A9, n9, c9, rfl⟩ := (Owns.slIn promEnc hoa).shape
                                    refine hK.out _ _ ?_ (fun hHeld => ?_)
                                    · exact trivial
                                    clear hK K
                                    try (simp only [Act.put, List.setIfInBounds_toArray, set16]; simp only [List.set_cons_zero])
                                    refine wpAnyH_take (i := 10) (oi := { dst := some 177, op := Op.indexAddr 28 (Operand.tmp 167) (Operand.tmp 168), type := 0, pos := "law.go:166", after := #[{ on := 0, ground := Ground.data }, { on := 1, ground := Ground.data }, { on := 0, ground := Ground.phase }, { on := 1, ground := Ground.phase }, { on := 2, ground := Ground.phase }, { on := 3, ground := Ground.phase }, { on := 4, ground := Ground.phase }, { on := 5, ground := Ground.phase }, { on := 6, ground := Ground.phase }, { on := 7, ground := Ground.phase }, { on := 8, ground := Ground.phase }, { on := 9, ground := Ground.phase }], guard := none }) (v := ?_) rfl (by kernel_rfl) (by kernel_rfl) (by kernel_rfl) (fun _ _ _ h => h) (Or.inl ⟨by rfl, ?_⟩) (by assumption) ?_
                                    rotate_left
                                    · (intro wq hSw; (try dsimp only at hSw); go_simp; first | done | with_reducible rfl)
                                    try (simp only [Act.put, List.setIfInBounds_toArray, set16]; simp only [List.set_cons_succ, List.set_cons_zero])
                                    refine wpAnyH_take (i := 11) (oi := { dst := some 178, op := Op.fieldAddr 36 (Operand.tmp 177) 1, type := 0, pos := "law.go:166", after := #[{ on := 10, ground := Ground.data }, { on := 0, ground := Ground.phase }, { on := 1, ground := Ground.phase }, { on := 2, ground := Ground.phase }, { on := 3, ground := Ground.phase }, { on := 4, ground := Ground.phase }, { on := 5, ground := Ground.phase }, { on := 6, ground := Ground.phase }, { on := 7, ground := Ground.phase }, { on := 8, ground := Ground.phase }, { on := 9, ground := Ground.phase }], guard := none }) (v := ?_) rfl (by kernel_rfl) (by kernel_rfl) (by kernel_rfl) (fun _ _ _ h => h) (Or.inl ⟨by rfl, ?_⟩) (by assumption) ?_
                                    rotate_left
                                    · (intro wq hSw; (try dsimp only at hSw); go_simp; first | done | with_reducible rfl)
                                    try (simp only [Act.put, List.setIfInBounds_toArray, set16]; simp only [List.set_cons_succ, List.set_cons_zero])
                                    refine wpAnyH_ready (rs := [12]) (by kernel_rfl) (by simp) ?_
                                    refine AllReadyH.cons (o := { dst := none, op := Op.store 33 (Operand.tmp 178) (Operand.tmp 176), type := 0, pos := "law.go:166", after := #[{ on := 11, ground := Ground.data }, { on := 9, ground := Ground.data }, { on := 9, ground := Ground.chain }, { on := 0, ground := Ground.phase }, { on := 1, ground := Ground.phase }, { on := 2, ground := Ground.phase }, { on := 3, ground := Ground.phase }, { on := 4, ground := Ground.phase }, { on := 5, ground := Ground.phase }, { on := 6, ground := Ground.phase }, { on := 7, ground := Ground.phase }, { on := 8, ground := Ground.phase }, { on := 9, ground := Ground.phase }], guard := none }) rfl (fun K hK => ?_) AllReadyH.nil
                                    obtain ⟨t1, t2, t3⟩ := hM8.pbGrown HAT.out hga
                                    have q7 := OM.cell (p := p) (j := 2) (u := .slice y1.A y1.ln y1.cp) hM8 HAT.out rfl
                                    rw [← t3 (p * 21 + 2)] at q7
                                    clear t3
                                    go_simp
                                    have hM9 := hM8.put HAT.out hoa hga hba
                                    refine hK.out _ _ ?_ (fun hHeld => ?_)
                                    · exact trivial
                                    clear hK K
                                    try simp only [Act.put, List.setIfInBounds_toArray, List.set_cons_zero, List.set_cons_succ]
                                    refine wpAnyH_done (by kernel_rfl) ?_ _
                                    clear hHeld
                                    go_wp2_with fail
                                    go_meet
                                    exact ⟨A9, n9, c9, hM9⟩
                                  · go_simp
                                    have hM8 := OM.new (OM.new HMK.out (New.refl wm).drew) ((New.refl wm.drew).alloc (.cells #[.bool ph, .int .u64 pr, .int .u64 pn, .string pv] 45))
                                    have hX8 := Blk.mk_new wm.drew 45 #[.bool ph, .int .u64 pr, .int .u64 pn, .string pv]
                                    refine hK.out _ _ ?_ (fun hHeld => ?_)
                                    · exact trivial
                                    clear hK K
                                    try (simp only [Act.put, List.setIfInBounds_toArray, set16]; simp only [set4]; simp only [List.set_cons_succ, List.set_cons_zero])
                                    refine wpAnyH_ready (rs := [6]) (by kernel_rfl) (by simp) ?_
                                    refine AllReadyH.cons (o := { dst := some 173, op := Op.load 33 (Operand.tmp 172), type := 33, pos := "law.go:166", after := #[{ on := 5, ground := Ground.data }], guard := none }) rfl (fun K hK => ?_) AllReadyH.nil
                                    have q6 := OM.cell (p := p) (j := 2) (u := .slice y1.A y1.ln y1.cp) HMK.out HAT.out rfl
                                    obtain ⟨b1, b2⟩ := HMK.out.pbf
                                    go_simp
                                    refine hK.out _ _ ?_ (fun hHeld => ?_)
                                    · exact trivial
                                    clear hK K
                                    try (simp only [Act.put, List.setIfInBounds_toArray, set16]; simp only [set4]; simp only [List.set_cons_succ, List.set_cons_zero])
                                    refine wpAnyH_ready (rs := [9]) (by kernel_rfl) (by simp) ?_
                                    refine AllReadyH.cons (o := { dst := some 176, op := Op.call { callee := Callee.builtin Builtin.append, args := #[Operand.tmp 173, Operand.tmp 175], argTypes := #[33, 33] }, type := 33, pos := "law.go:166", after := #[{ on := 6, ground := Ground.data }, { on := 8, ground := Ground.data }], guard := none }) rfl (fun K hK => ?_) AllReadyH.nil
                                    refine step_app promTy promEnc rfl (.tmp 173) (.tmp 175) rfl rfl rfl (hM8.row p y1 HAT.out).2 (SlIn.one (x := proOf (s.ac a).a) hX8 promEnc (by rw [← HQ.out]; rfl)) HL1.out HL2.out hM8.nw.size ?_
                                    intro va wa hoa hga hba
                                    obtain ⟨A9, n9, c9, rfl⟩ := (Owns.slIn promEnc hoa).shape
                                    refine hK.out _ _ ?_ (fun hHeld => ?_)
                                    · exact trivial
                                    clear hK K
                                    try (simp only [Act.put, List.setIfInBounds_toArray, set16]; simp only [List.set_cons_zero])
                                    refine wpAnyH_take (i := 10) (oi := { dst := some 177, op := Op.indexAddr 28 (Operand.tmp 167) (Operand.tmp 168), type := 0, pos := "law.go:166", after := #[{ on := 0, ground := Ground.data }, { on := 1, ground := Ground.data }, { on := 0, ground := Ground.phase }, { on := 1, ground := Ground.phase }, { on := 2, ground := Ground.phase }, { on := 3, ground := Ground.phase }, { on := 4, ground := Ground.phase }, { on := 5, ground := Ground.phase }, { on := 6, ground := Ground.phase }, { on := 7, ground := Ground.phase }, { on := 8, ground := Ground.phase }, { on := 9, ground := Ground.phase }], guard := none }) (v := ?_) rfl (by kernel_rfl) (by kernel_rfl) (by kernel_rfl) (fun _ _ _ h => h) (Or.inl ⟨by rfl, ?_⟩) (by assumption) ?_
                                    rotate_left
                                    · (intro wq hSw; (try dsimp only at hSw); go_simp; first | done | with_reducible rfl)
                                    try (simp only [Act.put, List.setIfInBounds_toArray, set16]; simp only [List.set_cons_succ, List.set_cons_zero])
                                    refine wpAnyH_take (i := 11) (oi := { dst := some 178, op := Op.fieldAddr 36 (Operand.tmp 177) 1, type := 0, pos := "law.go:166", after := #[{ on := 10, ground := Ground.data }, { on := 0, ground := Ground.phase }, { on := 1, ground := Ground.phase }, { on := 2, ground := Ground.phase }, { on := 3, ground := Ground.phase }, { on := 4, ground := Ground.phase }, { on := 5, ground := Ground.phase }, { on := 6, ground := Ground.phase }, { on := 7, ground := Ground.phase }, { on := 8, ground := Ground.phase }, { on := 9, ground := Ground.phase }], guard := none }) (v := ?_) rfl (by kernel_rfl) (by kernel_rfl) (by kernel_rfl) (fun _ _ _ h => h) (Or.inl ⟨by rfl, ?_⟩) (by assumption) ?_
                                    rotate_left
                                    · (intro wq hSw; (try dsimp only at hSw); go_simp; first | done | with_reducible rfl)
                                    try (simp only [Act.put, List.setIfInBounds_toArray, set16]; simp only [List.set_cons_succ, List.set_cons_zero])
                                    refine wpAnyH_ready (rs := [12]) (by kernel_rfl) (by simp) ?_
                                    refine AllReadyH.cons (o := { dst := none, op := Op.store 33 (Operand.tmp 178) (Operand.tmp 176), type := 0, pos := "law.go:166", after := #[{ on := 11, ground := Ground.data }, { on := 9, ground := Ground.data }, { on := 9, ground := Ground.chain }, { on := 0, ground := Ground.phase }, { on := 1, ground := Ground.phase }, { on := 2, ground := Ground.phase }, { on := 3, ground := Ground.phase }, { on := 4, ground := Ground.phase }, { on := 5, ground := Ground.phase }, { on := 6, ground := Ground.phase }, { on := 7, ground := Ground.phase }, { on := 8, ground := Ground.phase }, { on := 9, ground := Ground.phase }], guard := none }) rfl (fun K hK => ?_) AllReadyH.nil
                                    obtain ⟨t1, t2, t3⟩ := hM8.pbGrown HAT.out hga
                                    have q7 := OM.cell (p := p) (j := 2) (u := .slice y1.A y1.ln y1.cp) hM8 HAT.out rfl
                                    rw [← t3 (p * 21 + 2)] at q7
                                    clear t3
                                    go_simp
                                    have hM9 := hM8.put HAT.out hoa hga hba
                                    refine hK.out _ _ ?_ (fun hHeld => ?_)
                                    · exact trivial
                                    clear hK K
                                    try simp only [Act.put, List.setIfInBounds_toArray, List.set_cons_zero, List.set_cons_succ]
                                    refine wpAnyH_done (by kernel_rfl) ?_ _
                                    clear hHeld
                                    go_wp2_with fail
                                    go_meet
                                    exact ⟨A9, n9, c9, hM9⟩
                            case rest =>
                              obtain ⟨A9, n9, c9, hM9⟩ := hcut
                              have hfr2 := HFR.out
                              have hh2 : ((puS s1 p (s.ac a).a).pp p).has = false := by rw [← (hM9.row p { y1 with A := A9, ln := n9, cp := c9 } (by rw [List.getElem?_set, if_pos rfl, if_pos (List.getElem?_eq_some_iff.1 HAT.out).1])).1.has]; exact HH1.out
                              obtain ⟨y2, hy2⟩ : ∃ y2, y2 = ({ y1 with A := A9, ln := n9, cp := c9 } : PM) := ⟨_, rfl⟩
                              have hfr3 : y2.fr = y1.fr := by rw [hy2]
                              rw [← hy2] at hM9
                              rw [← hfr3] at hfr2
                              have hll2 : (L1.set p y2).length = own.length := by rw [List.length_set]; exact HLL.out
                              have hat2 : (L1.set p y2)[p]? = some y2 := by rw [List.getElem?_set, if_pos rfl, if_pos (List.getElem?_eq_some_iff.1 HAT.out).1]
                              have hch2 : (puS s1 p (s.ac a).a).ch = s.ch ∧ (puS s1 p (s.ac a).a).any = s.any := HCH.out
                              have hpr2 := HPR.out
                              clear HPR HMK HBm HAT HFR HCH HLL HH1 HLN HQ HM1 HOW HL1 HL2
                              generalize L1.set p y2 = L2 at *
                              generalize puS s1 p (s.ac a).a = s2 at *
                              clear hy2 hfr3
                              have hc0 := hM9.cell (p := p) (j := 3) (u := .bool (y2.fr 0)) hat2 rfl
                              have hc1 := hM9.cell (p := p) (j := 4) (u := .bool (y2.fr 1)) hat2 rfl
                              have hc2 := hM9.cell (p := p) (j := 5) (u := .bool (y2.fr 2)) hat2 rfl
                              have hc3 := hM9.cell (p := p) (j := 6) (u := .bool (y2.fr 3)) hat2 rfl
                              have hc4 := hM9.cell (p := p) (j := 7) (u := .bool (y2.fr 4)) hat2 rfl
                              have hc5 := hM9.cell (p := p) (j := 8) (u := .bool (y2.fr 5)) hat2 rfl
                              have hc6 := hM9.cell (p := p) (j := 9) (u := .bool (y2.fr 6)) hat2 rfl
                              have hc7 := hM9.cell (p := p) (j := 10) (u := .bool (y2.fr 7)) hat2 rfl
                              obtain ⟨hpb9, hpz9⟩ := hM9.pbf
                              obtain ⟨qn, hqn⟩ : ∃ qn, qn = k / 2 + 1 := ⟨_, rfl⟩
                              have hquo : ∀ wx, Calls Try.prog 15 #[.int .i64 (k : Int)] wx fun e w' => e = .returned (.int .i64 (qn : Int)) ∧ w' = wx := fun wx => (quorum_any (k : Int) wx (by omega) (by omega)).mono fun e w' h => ⟨by rw [h.1, show max (k : Int) 0 / 2 + 1 = (qn : Int) by omega], h.2⟩
                              obtain ⟨cn, hcn⟩ : ∃ cn, cn = cnt y2.fr 8 := ⟨_, rfl⟩
                              have hcou : ∀ wx, Calls Try.prog 14 #[.agg #[.bool (y2.fr 0), .bool (y2.fr 1), .bool (y2.fr 2), .bool (y2.fr 3), .bool (y2.fr 4), .bool (y2.fr 5), .bool (y2.fr 6), .bool (y2.fr 7)]] wx fun e w' => e = .returned (.int .i64 (cn : Int)) ∧ New wx w' := fun wx => by rw [hcn]; exact count8_any y2.fr wx
                              have HQN := Lib.hid (And.intro hqn hcn)
                              have HCO := Lib.hid hcou
                              clear hqn hcn hcou
                              have HM9 := Lib.hid hM9
                              have HAT2 := Lib.hid hat2
                              have HPR2 := Lib.hid hpr2
                              have HFR2 := Lib.hid hfr2
                              have HH2 := Lib.hid hh2
                              have HLL2 := Lib.hid hll2
                              have HCH2 := Lib.hid hch2
                              have HQU := Lib.hid hquo
                              clear hM9 hat2 hpr2 hfr2 hh2 hll2 hch2 hquo
                              go_wp2_with fail
                              refine (HCO.out _).mono ?_
                              rintro e w5 ⟨rfl, hn5⟩
                              have hM5 := HM9.out.new hn5
                              have HM5 := Lib.hid hM5
                              clear hM5 hn5 HM9 HCO hc0 hc1 hc2 hc3 hc4 hc5 hc6 hc7 hpb9 hpz9
                              go_wp2_with fail
                              refine (HQU.out _).mono ?_
                              rintro e w6 ⟨rfl, rfl⟩
                              clear HQU
                              by_cases hge : qn ≤ cn
                              rotate_left
                              · have hge' : ¬ (qn : Int) ≤ (cn : Int) := by omega
                                go_wp2_with fail
                                go_roundw
                                case rel => exact ⟨q + 1, by omega, by omega, by go_num, g, L2, s2, by rw [HCH2.out.1], by rw [HCH2.out.2], HM5.out, HPR2.out.1, HPR2.out.2, HLL2.out⟩
                                case measure => simp [intOf]; omega
                              have hge' : (qn : Int) ≤ (cn : Int) := by omega
                              as_aux_lemma =>
                                rcases horo with horo | ⟨b, off, rfl, hb, hc⟩
                                · have := HPP.out; rw [horo] at this; simp at this
                                obtain ⟨xo, hxo⟩ : ∃ xo, own[p]? = some xo := ⟨_, List.getElem?_eq_getElem HPP.out⟩
                                have hxs := HSZ.out p xo HPP.out hxo
                                have KO := Lib.hid (show ∀ wx L s, OM w wx k ab pb pc g L s → wx.cell? ⟨b, off + p, none⟩ = some (.string xo) from fun wx L s hO => (hO.nw.cells.1 _ _ hb).trans (by have := hc _ xo hxo 0 _ rfl; simpa using this))
                                have hval2 := valued (p := p) (own := xo) HPR2.out.1 HPR2.out.2 HH2.out (by rw [← HFR2.out, ← HQN.out.1, ← HQN.out.2]; exact hge) hxs
                                have HV2 := Lib.hid hval2
                                clear hc hxo hxs hval2 HQN
                                go_upto_region 34 with fail
                                refine wp_region_held_drew (S := fun w' => w'.cell? ⟨b, off + p, none⟩ = some (.string xo) ∧ w'.cell? ⟨pb, p * 21 + 2, none⟩ = some (.slice y2.A y2.ln y2.cp)) (by kernel_rfl) (⟨KO.out _ _ _ (OM.new HM5.out (New.refl _).drew), OM.cell (p := p) (j := 2) (u := .slice y2.A y2.ln y2.cp) (OM.new HM5.out (New.refl _).drew) HAT2.out rfl⟩) (fun hHeld => ?_)
                                refine wpAnyH_take (i := 0) (oi := { dst := some 188, op := Op.move (Operand.tmp 10), type := 28, pos := "law.go:168", after := #[], guard := none }) (v := ?_) rfl (by kernel_rfl) (by kernel_rfl) (by kernel_rfl) (fun _ _ _ h => h) (Or.inl ⟨by rfl, ?_⟩) (by assumption) ?_
                                rotate_left
                                · (intro wq hSw; (try dsimp only at hSw); go_simp; first | done | with_reducible rfl)
                                try (simp only [Act.put, List.setIfInBounds_toArray, set16]; simp only [set4]; simp only [List.set_cons_zero])
                                refine wpAnyH_take (i := 1) (oi := { dst := some 189, op := Op.move (Operand.tmp 16), type := 3, pos := "law.go:168", after := #[], guard := none }) (v := ?_) rfl (by kernel_rfl) (by kernel_rfl) (by kernel_rfl) (fun _ _ _ h => h) (Or.inl ⟨by rfl, ?_⟩) (by assumption) ?_
                                rotate_left
                                · (intro wq hSw; (try dsimp only at hSw); go_simp; first | done | with_reducible rfl)
                                try (simp only [Act.put, List.setIfInBounds_toArray, set16]; simp only [set4]; simp only [List.set_cons_succ, List.set_cons_zero])
                                refine wpAnyH_take (i := 2) (oi := { dst := some 190, op := Op.move (Operand.tmp 10), type := 28, pos := "law.go:168", after := #[{ on := 16, ground := Ground.gcOnly Departure.lateStores }], guard := none }) (v := ?_) rfl (by kernel_rfl) (by kernel_rfl) (by kernel_rfl) (fun _ _ _ h => h) (Or.inl ⟨by rfl, ?_⟩) (by assumption) ?_
                                rotate_left
                                · (intro wq hSw; (try dsimp only at hSw); go_simp; first | done | with_reducible rfl)
                                try (simp only [Act.put, List.setIfInBounds_toArray, set16]; simp only [set4]; simp only [List.set_cons_succ, List.set_cons_zero])
                                refine wpAnyH_take (i := 3) (oi := { dst := some 191, op := Op.move (Operand.tmp 16), type := 3, pos := "law.go:168", after := #[{ on := 16, ground := Ground.gcOnly Departure.lateStores }], guard := none }) (v := ?_) rfl (by kernel_rfl) (by kernel_rfl) (by kernel_rfl) (fun _ _ _ h => h) (Or.inl ⟨by rfl, ?_⟩) (by assumption) ?_
                                rotate_left
                                · (intro wq hSw; (try dsimp only at hSw); go_simp; first | done | with_reducible rfl)
                                try (simp only [Act.put, List.setIfInBounds_toArray, set16]; simp only [set4]; simp only [List.set_cons_succ, List.set_cons_zero])
                                refine wpAnyH_take (i := 4) (oi := { dst := some 192, op := Op.move (Operand.tmp 1), type := 22, pos := "law.go:168", after := #[], guard := none }) (v := ?_) rfl (by kernel_rfl) (by kernel_rfl) (by kernel_rfl) (fun _ _ _ h => h) (Or.inl ⟨by rfl, ?_⟩) (by assumption) ?_
                                rotate_left
                                · (intro wq hSw; (try dsimp only at hSw); go_simp; first | done | with_reducible rfl)
                                try (simp only [Act.put, List.setIfInBounds_toArray, set16]; simp only [List.set_cons_zero])
                                refine wpAnyH_take (i := 5) (oi := { dst := some 193, op := Op.move (Operand.tmp 16), type := 3, pos := "law.go:168", after := #[], guard := none }) (v := ?_) rfl (by kernel_rfl) (by kernel_rfl) (by kernel_rfl) (fun _ _ _ h => h) (Or.inl ⟨by rfl, ?_⟩) (by assumption) ?_
                                rotate_left
                                · (intro wq hSw; (try dsimp only at hSw); go_simp; first | done | with_reducible rfl)
                                try (simp only [Act.put, List.setIfInBounds_toArray, set16]; simp only [List.set_cons_succ, List.set_cons_zero])
                                refine wpAnyH_take (i := 6) (oi := { dst := some 194, op := Op.indexAddr 22 (Operand.tmp 192) (Operand.tmp 193), type := 0, pos := "law.go:168", after := #[{ on := 4, ground := Ground.data }, { on := 5, ground := Ground.data }], guard := none }) (v := ?_) rfl (by kernel_rfl) (by kernel_rfl) (by kernel_rfl) (fun _ _ _ h => h) (Or.inl ⟨by rfl, ?_⟩) (by assumption) ?_
                                rotate_left
                                · (intro wq hSw; (try dsimp only at hSw); go_simp; first | done | with_reducible rfl)
                                try (simp only [Act.put, List.setIfInBounds_toArray, set16]; simp only [List.set_cons_succ, List.set_cons_zero])
                                refine wpAnyH_take (i := 7) (oi := { dst := some 195, op := Op.load 9 (Operand.tmp 194), type := 9, pos := "law.go:168", after := #[{ on := 6, ground := Ground.data }], guard := none }) (v := ?_) rfl (by kernel_rfl) (by kernel_rfl) (by kernel_rfl) (fun _ _ _ h => h) (Or.inl ⟨by rfl, ?_⟩) (by assumption) ?_
                                rotate_left
                                · (intro wq hSw; (try dsimp only at hSw); go_simp; first | done | with_reducible rfl)
                                try (simp only [Act.put, List.setIfInBounds_toArray, set16]; simp only [List.set_cons_succ, List.set_cons_zero])
                                refine wpAnyH_take (i := 8) (oi := { dst := some 196, op := Op.move (Operand.tmp 10), type := 28, pos := "law.go:168", after := #[], guard := none }) (v := ?_) rfl (by kernel_rfl) (by kernel_rfl) (by kernel_rfl) (fun _ _ _ h => h) (Or.inl ⟨by rfl, ?_⟩) (by assumption) ?_
                                rotate_left
                                · (intro wq hSw; (try dsimp only at hSw); go_simp; first | done | with_reducible rfl)
                                try (simp only [Act.put, List.setIfInBounds_toArray, set16]; simp only [set4]; simp only [List.set_cons_zero])
                                refine wpAnyH_take (i := 9) (oi := { dst := some 197, op := Op.move (Operand.tmp 16), type := 3, pos := "law.go:168", after := #[], guard := none }) (v := ?_) rfl (by kernel_rfl) (by kernel_rfl) (by kernel_rfl) (fun _ _ _ h => h) (Or.inl ⟨by rfl, ?_⟩) (by assumption) ?_
                                rotate_left
                                · (intro wq hSw; (try dsimp only at hSw); go_simp; first | done | with_reducible rfl)
                                try (simp only [Act.put, List.setIfInBounds_toArray, set16]; simp only [set4]; simp only [List.set_cons_succ, List.set_cons_zero])
                                refine wpAnyH_take (i := 10) (oi := { dst := some 198, op := Op.indexAddr 28 (Operand.tmp 196) (Operand.tmp 197), type := 0, pos := "law.go:168", after := #[{ on := 8, ground := Ground.data }, { on := 9, ground := Ground.data }], guard := none }) (v := ?_) rfl (by kernel_rfl) (by kernel_rfl) (by kernel_rfl) (fun _ _ _ h => h) (Or.inl ⟨by rfl, ?_⟩) (by assumption) ?_
                                rotate_left
                                · (intro wq hSw; (try dsimp only at hSw); go_simp; first | done | with_reducible rfl)
                                try (simp only [Act.put, List.setIfInBounds_toArray, set16]; simp only [set4]; simp only [List.set_cons_succ, List.set_cons_zero])
                                refine wpAnyH_take (i := 11) (oi := { dst := some 199, op := Op.fieldAddr 36 (Operand.tmp 198) 1, type := 0, pos := "law.go:168", after := #[{ on := 10, ground := Ground.data }], guard := none }) (v := ?_) rfl (by kernel_rfl) (by kernel_rfl) (by kernel_rfl) (fun _ _ _ h => h) (Or.inl ⟨by rfl, ?_⟩) (by assumption) ?_
                                rotate_left
                                · (intro wq hSw; (try dsimp only at hSw); go_simp; first | done | with_reducible rfl)
                                try (simp only [Act.put, List.setIfInBounds_toArray, set16]; simp only [set4]; simp only [List.set_cons_succ, List.set_cons_zero])
                                refine wpAnyH_take (i := 12) (oi := { dst := some 200, op := Op.load 33 (Operand.tmp 199), type := 33, pos := "law.go:168", after := #[{ on := 11, ground := Ground.data }], guard := none }) (v := ?_) rfl (by kernel_rfl) (by kernel_rfl) (by kernel_rfl) (fun _ _ _ h => h) (Or.inl ⟨by rfl, ?_⟩) (by assumption) ?_
                                rotate_left
                                · (intro wq hSw; (try dsimp only at hSw); go_simp; first | done | with_reducible rfl)
                                try (simp only [Act.put, List.setIfInBounds_toArray, set16]; simp only [set4]; simp only [List.set_cons_zero])
                                refine wpAnyH_ready (rs := [13]) (by kernel_rfl) (by simp) ?_
                                refine AllReadyH.cons (o := { dst := some 201, op := Op.call { callee := Callee.value (Operand.func 16), args := #[Operand.tmp 195, Operand.tmp 200], argTypes := #[9, 33] }, type := 9, pos := "law.go:168", after := #[{ on := 7, ground := Ground.data }, { on := 12, ground := Ground.data }], guard := none }) rfl (fun K hK => ?_) AllReadyH.nil
                                go_simp
                                refine (choose_any xo _ _ _ ?_ (Owns.slIn promEnc ((OM.new HM5.out (New.refl _).drew).row p y2 HAT2.out).2)).mono ?_
                                · rw [List.length_map]; have := HPR2.out.2.l p; have := cnt_le (s2.pp p).fr 8; omega
                                rintro e w6 ⟨rfl, hn6⟩
                                rw [best_val]
                                have hM6 := HM5.out.new ((New.refl _).drew.trans hn6)
                                obtain ⟨b1, b2⟩ := hM6.pbf
                                have q19 := hM6.cell (p := p) (j := 19) (u := .string y2.val) HAT2.out rfl
                                refine hK.out _ _ ?_ (fun hHeld => ?_)
                                · exact ⟨KO.out _ _ _ hM6, OM.cell (p := p) (j := 2) (u := .slice y2.A y2.ln y2.cp) hM6 HAT2.out rfl⟩
                                clear hK K
                                try (simp only [Act.put, List.setIfInBounds_toArray, set16]; simp only [set4]; simp only [List.set_cons_succ, List.set_cons_zero])
                                refine wpAnyH_take (i := 14) (oi := { dst := some 202, op := Op.indexAddr 28 (Operand.tmp 188) (Operand.tmp 189), type := 0, pos := "law.go:168", after := #[{ on := 0, ground := Ground.data }, { on := 1, ground := Ground.data }, { on := 0, ground := Ground.phase }, { on := 1, ground := Ground.phase }, { on := 2, ground := Ground.textOnly Departure.lateStores }, { on := 3, ground := Ground.textOnly Departure.lateStores }, { on := 4, ground := Ground.phase }, { on := 5, ground := Ground.phase }, { on := 6, ground := Ground.phase }, { on := 7, ground := Ground.phase }, { on := 8, ground := Ground.phase }, { on := 9, ground := Ground.phase }, { on := 10, ground := Ground.phase }, { on := 11, ground := Ground.phase }, { on := 12, ground := Ground.phase }, { on := 13, ground := Ground.phase }], guard := none }) (v := ?_) rfl (by kernel_rfl) (by kernel_rfl) (by kernel_rfl) (fun _ _ _ h => h) (Or.inl ⟨by rfl, ?_⟩) (by assumption) ?_
                                rotate_left
                                · (intro wq hSw; (try dsimp only at hSw); go_simp; first | done | with_reducible rfl)
                                try (simp only [Act.put, List.setIfInBounds_toArray, set16]; simp only [set4]; simp only [List.set_cons_succ, List.set_cons_zero])
                                refine wpAnyH_take (i := 15) (oi := { dst := some 203, op := Op.fieldAddr 36 (Operand.tmp 202) 4, type := 0, pos := "law.go:168", after := #[{ on := 14, ground := Ground.data }, { on := 0, ground := Ground.phase }, { on := 1, ground := Ground.phase }, { on := 2, ground := Ground.textOnly Departure.lateStores }, { on := 3, ground := Ground.textOnly Departure.lateStores }, { on := 4, ground := Ground.phase }, { on := 5, ground := Ground.phase }, { on := 6, ground := Ground.phase }, { on := 7, ground := Ground.phase }, { on := 8, ground := Ground.phase }, { on := 9, ground := Ground.phase }, { on := 10, ground := Ground.phase }, { on := 11, ground := Ground.phase }, { on := 12, ground := Ground.phase }, { on := 13, ground := Ground.phase }], guard := none }) (v := ?_) rfl (by kernel_rfl) (by kernel_rfl) (by kernel_rfl) (fun _ _ _ h => h) (Or.inl ⟨by rfl, ?_⟩) (by assumption) ?_
                                rotate_left
                                · (intro wq hSw; (try dsimp only at hSw); go_simp; first | done | with_reducible rfl)
                                try (simp only [Act.put, List.setIfInBounds_toArray, set16]; simp only [set4]; simp only [List.set_cons_succ, List.set_cons_zero])
                                refine wpAnyH_ready (rs := [16]) (by kernel_rfl) (by simp) ?_
                                refine AllReadyH.cons (o := { dst := none, op := Op.store 9 (Operand.tmp 203) (Operand.tmp 201), type := 0, pos := "law.go:168", after := #[{ on := 15, ground := Ground.data }, { on := 13, ground := Ground.data }, { on := 13, ground := Ground.chain }, { on := 0, ground := Ground.phase }, { on := 1, ground := Ground.phase }, { on := 2, ground := Ground.textOnly Departure.lateStores }, { on := 3, ground := Ground.textOnly Departure.lateStores }, { on := 4, ground := Ground.phase }, { on := 5, ground := Ground.phase }, { on := 6, ground := Ground.phase }, { on := 7, ground := Ground.phase }, { on := 8, ground := Ground.phase }, { on := 9, ground := Ground.phase }, { on := 10, ground := Ground.phase }, { on := 11, ground := Ground.phase }, { on := 12, ground := Ground.phase }, { on := 13, ground := Ground.phase }], guard := none }) rfl (fun K hK => ?_) AllReadyH.nil
                                go_simp
                                have hM7 := hM6.value HAT2.out (bestV xo (s2.pp p).prom)
                                have hat7 : (L2.set p { y2 with val := bestV xo (s2.pp p).prom })[p]? = some { y2 with val := bestV xo (s2.pp p).prom } := by rw [List.getElem?_set, if_pos rfl, if_pos (List.getElem?_eq_some_iff.1 HAT2.out).1]
                                obtain ⟨b3, b4⟩ := hM7.pbf
                                have q20 := hM7.cell (p := p) (j := 20) (u := .bool y2.has) hat7 rfl
                                refine hK.out _ _ ?_ (fun hHeld => ?_)
                                · exact ⟨KO.out _ _ _ hM7, OM.cell (p := p) (j := 2) (u := .slice y2.A y2.ln y2.cp) hM7 hat7 rfl⟩
                                clear hK K
                                try simp only [Act.put, List.setIfInBounds_toArray, List.set_cons_zero, List.set_cons_succ]
                                refine wpAnyH_take (i := 17) (oi := { dst := some 204, op := Op.indexAddr 28 (Operand.tmp 190) (Operand.tmp 191), type := 0, pos := "law.go:168", after := #[{ on := 2, ground := Ground.data }, { on := 3, ground := Ground.data }, { on := 0, ground := Ground.phase }, { on := 1, ground := Ground.phase }, { on := 2, ground := Ground.phase }, { on := 3, ground := Ground.phase }, { on := 4, ground := Ground.phase }, { on := 5, ground := Ground.phase }, { on := 6, ground := Ground.phase }, { on := 7, ground := Ground.phase }, { on := 8, ground := Ground.phase }, { on := 9, ground := Ground.phase }, { on := 10, ground := Ground.phase }, { on := 11, ground := Ground.phase }, { on := 12, ground := Ground.phase }, { on := 13, ground := Ground.phase }, { on := 14, ground := Ground.phase }, { on := 15, ground := Ground.phase }, { on := 16, ground := Ground.phase }], guard := none }) (v := ?_) rfl (by kernel_rfl) (by kernel_rfl) (by kernel_rfl) (fun _ _ _ h => h) (Or.inl ⟨by rfl, ?_⟩) (by assumption) ?_
                                rotate_left
                                · (intro wq hSw; (try dsimp only at hSw); go_simp; first | done | with_reducible rfl)
                                try (simp only [Act.put, List.setIfInBounds_toArray, set16]; simp only [set4]; simp only [List.set_cons_zero])
                                refine wpAnyH_take (i := 18) (oi := { dst := some 205, op := Op.fieldAddr 36 (Operand.tmp 204) 5, type := 0, pos := "law.go:168", after := #[{ on := 17, ground := Ground.data }, { on := 0, ground := Ground.phase }, { on := 1, ground := Ground.phase }, { on := 2, ground := Ground.phase }, { on := 3, ground := Ground.phase }, { on := 4, ground := Ground.phase }, { on := 5, ground := Ground.phase }, { on := 6, ground := Ground.phase }, { on := 7, ground := Ground.phase }, { on := 8, ground := Ground.phase }, { on := 9, ground := Ground.phase }, { on := 10, ground := Ground.phase }, { on := 11, ground := Ground.phase }, { on := 12, ground := Ground.phase }, { on := 13, ground := Ground.phase }, { on := 14, ground := Ground.phase }, { on := 15, ground := Ground.phase }, { on := 16, ground := Ground.phase }], guard := none }) (v := ?_) rfl (by kernel_rfl) (by kernel_rfl) (by kernel_rfl) (fun _ _ _ h => h) (Or.inl ⟨by rfl, ?_⟩) (by assumption) ?_
                                rotate_left
                                · (intro wq hSw; (try dsimp only at hSw); go_simp; first | done | with_reducible rfl)
                                try (simp only [Act.put, List.setIfInBounds_toArray, set16]; simp only [set4]; simp only [List.set_cons_succ, List.set_cons_zero])
                                refine wpAnyH_ready (rs := [19]) (by kernel_rfl) (by simp) ?_
                                refine AllReadyH.cons (o := { dst := none, op := Op.store 4 (Operand.tmp 205) (Operand.const (Value.bool true)), type := 0, pos := "law.go:168", after := #[{ on := 18, ground := Ground.data }, { on := 16, ground := Ground.chain }, { on := 0, ground := Ground.phase }, { on := 1, ground := Ground.phase }, { on := 2, ground := Ground.phase }, { on := 3, ground := Ground.phase }, { on := 4, ground := Ground.phase }, { on := 5, ground := Ground.phase }, { on := 6, ground := Ground.phase }, { on := 7, ground := Ground.phase }, { on := 8, ground := Ground.phase }, { on := 9, ground := Ground.phase }, { on := 10, ground := Ground.phase }, { on := 11, ground := Ground.phase }, { on := 12, ground := Ground.phase }, { on := 13, ground := Ground.phase }, { on := 14, ground := Ground.phase }, { on := 15, ground := Ground.phase }, { on := 16, ground := Ground.phase }], guard := none }) rfl (fun K hK => ?_) AllReadyH.nil
                                go_simp
                                have hM8 := hM6.chosen HAT2.out xo
                                have hat8 : ((L2.set p { y2 with val := bestV xo (s2.pp p).prom }).set p { y2 with val := bestV xo (s2.pp p).prom, has := true })[p]? = some { y2 with val := bestV xo (s2.pp p).prom, has := true } := by rw [List.getElem?_set, if_pos rfl, if_pos (by rw [List.length_set]; exact (List.getElem?_eq_some_iff.1 HAT2.out).1)]
                                refine hK.out _ _ ?_ (fun hHeld => ?_)
                                · exact ⟨KO.out _ _ _ hM8, OM.cell (p := p) (j := 2) (u := .slice y2.A y2.ln y2.cp) hM8 hat8 rfl⟩
                                clear hK K
                                try simp only [Act.put, List.setIfInBounds_toArray, List.set_cons_zero, List.set_cons_succ]
                                refine wpAnyH_done (by kernel_rfl) ?_ _
                                clear hHeld
                                go_wp2_with fail
                                go_roundw
                                case rel => exact ⟨q + 1, by omega, by omega, by go_num, g, _, valS s2 p xo, by rw [show (valS s2 p xo).ch = s.ch from HCH2.out.1], by rw [show (valS s2 p xo).any = s.any from HCH2.out.2], hM8, HV2.out.1, HV2.out.2, by rw [List.length_set, List.length_set]; exact HLL2.out⟩
                                case measure => simp [intOf]; omega
                  | true =>
                    rw [hacc] at e2
                    have cH : wc.cell? ⟨pb, p * 21 + 20, none⟩ = some (.bool y.has) := by have c0 := hMc.cell (p := p) (j := 20) (u := .bool y.has) hy rfl; exact c0
                    cases hhas : y.has with
                    | false =>
                      rw [hhas] at cH
                      as_aux_lemma =>
                        clear hMc hpm hy
                        go_upto_region 35 with fail
                        go_quiet (fail)
                        go_wp2_with fail
                        go_roundw
                        case rel => exact ⟨q + 1, by omega, by omega, by go_num, g, L, s, rfl, rfl, HMc.out.new ((New.refl _).drewN _), HI.out, HSz.out, hLl⟩
                        case measure => simp [intOf]; omega
                    | true =>
                      as_aux_lemma =>
                        rw [hhas] at cH
                        have hvv := hpm.val
                        have HAY := Lib.hid (show ∀ wx, OM w wx k ab pb pc g L s → Calls Try.prog 17 #[.pointer (some ⟨g a, 0, none⟩), .agg #[.int .u64 (y.r : Int), .int .u64 (y.n : Int)], .string y.val] wx (AccPost w k ab pb pc g L s a p (s.pp p).val wx) from fun wx hO => by
                          rw [hpm.r, hpm.n, hvv]; exact acceptO hO hak _)
                        have KA := Lib.hid (show ∀ wx s', OM w wx k ab pb pc g L s' → wx.cell? ⟨pb, p * 21 + 20, none⟩ = some (.bool true) ∧ wx.cell? ⟨pb, p * 21 + 19, none⟩ = some (.string y.val) from fun wx s' hO => ⟨by have c0 := hO.cell (p := p) (j := 20) (u := .bool y.has) hy rfl; rw [hhas] at c0; exact c0, hO.cell (p := p) (j := 19) (u := .string y.val) hy rfl⟩)
                        clear hMc hpm hy hvv
                        go_upto_region 35 with fail
                        go_cut [226] (fun s226 wx => s226 = .bool (decide ((s.ac a).p ≤ p + 1)) ∧ OM w wx k ab pb pc g L (if (s.ac a).p ≤ p + 1 then { s with ac := upd s.ac a ⟨p + 1, some (p, (s.pp p).val)⟩ } else s))
                        case first =>
                          as_aux_lemma =>
                            refine wp_region_held_drew (S := fun w' => (w'.cell? ⟨ab, a, none⟩ = some (.pointer (some ⟨g a, 0, none⟩)) ∧ w'.cell? ⟨pb, p * 21, none⟩ = some (.int .u64 (y.r : Int)) ∧ w'.cell? ⟨pb, p * 21 + 1, none⟩ = some (.int .u64 (y.n : Int))) ∧ w'.cell? ⟨pb, p * 21 + 20, none⟩ = some (.bool true) ∧ w'.cell? ⟨pb, p * 21 + 19, none⟩ = some (.string y.val)) (by kernel_rfl) (⟨KS.out _ _ (OM.new HMc.out (New.refl wc).drew), KA.out _ _ (OM.new HMc.out (New.refl wc).drew)⟩) (fun hHeld => ?_)
                            refine wpAnyH_take (i := 0) (oi := { dst := some 206, op := Op.move (Operand.tmp 10), type := 28, pos := "law.go:173", after := #[], guard := none }) (v := ?_) rfl (by kernel_rfl) (by kernel_rfl) (by kernel_rfl) (fun _ _ _ h => h) (Or.inl ⟨by rfl, ?_⟩) (by assumption) ?_
                            rotate_left
                            · (intro wq hSw; (try dsimp only at hSw); go_simp; first | done | with_reducible rfl)
                            try (simp only [Act.put, List.setIfInBounds_toArray, set16]; simp only [set4]; simp only [List.set_cons_succ, List.set_cons_zero])
                            refine wpAnyH_take (i := 1) (oi := { dst := some 207, op := Op.move (Operand.tmp 16), type := 3, pos := "law.go:173", after := #[], guard := none }) (v := ?_) rfl (by kernel_rfl) (by kernel_rfl) (by kernel_rfl) (fun _ _ _ h => h) (Or.inl ⟨by rfl, ?_⟩) (by assumption) ?_
                            rotate_left
                            · (intro wq hSw; (try dsimp only at hSw); go_simp; first | done | with_reducible rfl)
                            try (simp only [Act.put, List.setIfInBounds_toArray, set16]; simp only [set4]; simp only [List.set_cons_succ, List.set_cons_zero])
                            refine wpAnyH_take (i := 2) (oi := { dst := some 208, op := Op.indexAddr 28 (Operand.tmp 206) (Operand.tmp 207), type := 0, pos := "law.go:173", after := #[{ on := 0, ground := Ground.data }, { on := 1, ground := Ground.data }], guard := none }) (v := ?_) rfl (by kernel_rfl) (by kernel_rfl) (by kernel_rfl) (fun _ _ _ h => h) (Or.inl ⟨by rfl, ?_⟩) (by assumption) ?_
                            rotate_left
                            · (intro wq hSw; (try dsimp only at hSw); go_simp; first | done | with_reducible rfl)
                            try (simp only [Act.put, List.setIfInBounds_toArray, set16]; simp only [List.set_cons_zero])
                            refine wpAnyH_take (i := 3) (oi := { dst := some 209, op := Op.fieldAddr 36 (Operand.tmp 208) 5, type := 0, pos := "law.go:173", after := #[{ on := 2, ground := Ground.data }], guard := none }) (v := ?_) rfl (by kernel_rfl) (by kernel_rfl) (by kernel_rfl) (fun _ _ _ h => h) (Or.inl ⟨by rfl, ?_⟩) (by assumption) ?_
                            rotate_left
                            · (intro wq hSw; (try dsimp only at hSw); go_simp; first | done | with_reducible rfl)
                            try (simp only [Act.put, List.setIfInBounds_toArray, set16]; simp only [List.set_cons_succ, List.set_cons_zero])
                            refine wpAnyH_take (i := 4) (oi := { dst := some 210, op := Op.load 4 (Operand.tmp 209), type := 4, pos := "law.go:173", after := #[{ on := 3, ground := Ground.data }], guard := none }) (v := ?_) rfl (by kernel_rfl) (by kernel_rfl) (by kernel_rfl) (fun _ _ _ h => h) (Or.inl ⟨by rfl, ?_⟩) (by assumption) ?_
                            rotate_left
                            · (intro wq hSw; (try dsimp only at hSw); go_simp; first | done | with_reducible rfl)
                            try (simp only [Act.put, List.setIfInBounds_toArray, set16]; simp only [List.set_cons_succ, List.set_cons_zero])
                            refine wpAnyH_take (i := 5) (oi := { dst := some 211, op := Op.move (Operand.tmp 210), type := 4, pos := "law.go:173", after := #[{ on := 4, ground := Ground.data }], guard := none }) (v := ?_) rfl (by kernel_rfl) (by kernel_rfl) (by kernel_rfl) (fun _ _ _ h => h) (Or.inl ⟨by rfl, ?_⟩) (by assumption) ?_
                            rotate_left
                            · (intro wq hSw; (try dsimp only at hSw); go_simp; first | done | with_reducible rfl)
                            try (simp only [Act.put, List.setIfInBounds_toArray, set16]; simp only [List.set_cons_succ, List.set_cons_zero])
                            refine wpAnyH_take (i := 6) (oi := { dst := some 212, op := Op.move (Operand.tmp 15), type := 3, pos := "law.go:173", after := #[{ on := 5, ground := Ground.guard }], guard := some (5, true) }) (v := ?_) rfl (by kernel_rfl) (by kernel_rfl) (by kernel_rfl) (fun _ _ _ h => h) (Or.inl ⟨by rfl, ?_⟩) (by assumption) ?_
                            rotate_left
                            · (intro wq hSw; (try dsimp only at hSw); go_simp; first | done | with_reducible rfl)
                            try (simp only [Act.put, List.setIfInBounds_toArray, set16]; simp only [set4]; simp only [List.set_cons_zero])
                            refine wpAnyH_take (i := 7) (oi := { dst := some 213, op := Op.indexAddr 25 (Operand.tmp 8) (Operand.tmp 212), type := 0, pos := "law.go:173", after := #[{ on := 6, ground := Ground.data }, { on := 5, ground := Ground.guard }], guard := some (5, true) }) (v := ?_) rfl (by kernel_rfl) (by kernel_rfl) (by kernel_rfl) (fun _ _ _ h => h) (Or.inl ⟨by rfl, ?_⟩) (by assumption) ?_
                            rotate_left
                            · (intro wq hSw; (try dsimp only at hSw); go_simp; first | done | with_reducible rfl)
                            try (simp only [Act.put, List.setIfInBounds_toArray, set16]; simp only [set4]; simp only [List.set_cons_succ, List.set_cons_zero])
                            refine wpAnyH_take (i := 8) (oi := { dst := some 214, op := Op.load 24 (Operand.tmp 213), type := 24, pos := "law.go:173", after := #[{ on := 7, ground := Ground.data }, { on := 5, ground := Ground.guard }], guard := some (5, true) }) (v := ?_) rfl (by kernel_rfl) (by kernel_rfl) (by kernel_rfl) (fun _ _ _ h => h) (Or.inl ⟨by rfl, ?_⟩) (by assumption) ?_
                            rotate_left
                            · (intro wq hSw; (try dsimp only at hSw); go_simp; first | done | with_reducible rfl)
                            try (simp only [Act.put, List.setIfInBounds_toArray, set16]; simp only [set4]; simp only [List.set_cons_succ, List.set_cons_zero])
                            refine wpAnyH_take (i := 9) (oi := { dst := some 215, op := Op.move (Operand.tmp 10), type := 28, pos := "law.go:173", after := #[{ on := 5, ground := Ground.guard }], guard := some (5, true) }) (v := ?_) rfl (by kernel_rfl) (by kernel_rfl) (by kernel_rfl) (fun _ _ _ h => h) (Or.inl ⟨by rfl, ?_⟩) (by assumption) ?_
                            rotate_left
                            · (intro wq hSw; (try dsimp only at hSw); go_simp; first | done | with_reducible rfl)
                            try (simp only [Act.put, List.setIfInBounds_toArray, set16]; simp only [set4]; simp only [List.set_cons_succ, List.set_cons_zero])
                            refine wpAnyH_take (i := 10) (oi := { dst := some 216, op := Op.move (Operand.tmp 16), type := 3, pos := "law.go:173", after := #[{ on := 5, ground := Ground.guard }], guard := some (5, true) }) (v := ?_) rfl (by kernel_rfl) (by kernel_rfl) (by kernel_rfl) (fun _ _ _ h => h) (Or.inl ⟨by rfl, ?_⟩) (by assumption) ?_
                            rotate_left
                            · (intro wq hSw; (try dsimp only at hSw); go_simp; first | done | with_reducible rfl)
                            try (simp only [Act.put, List.setIfInBounds_toArray, set16]; simp only [set4]; simp only [List.set_cons_zero])
                            refine wpAnyH_take (i := 11) (oi := { dst := some 217, op := Op.indexAddr 28 (Operand.tmp 215) (Operand.tmp 216), type := 0, pos := "law.go:173", after := #[{ on := 9, ground := Ground.data }, { on := 10, ground := Ground.data }, { on := 5, ground := Ground.guard }], guard := some (5, true) }) (v := ?_) rfl (by kernel_rfl) (by kernel_rfl) (by kernel_rfl) (fun _ _ _ h => h) (Or.inl ⟨by rfl, ?_⟩) (by assumption) ?_
                            rotate_left
                            · (intro wq hSw; (try dsimp only at hSw); go_simp; first | done | with_reducible rfl)
                            try (simp only [Act.put, List.setIfInBounds_toArray, set16]; simp only [set4]; simp only [List.set_cons_succ, List.set_cons_zero])
                            refine wpAnyH_take (i := 12) (oi := { dst := some 218, op := Op.fieldAddr 36 (Operand.tmp 217) 0, type := 0, pos := "law.go:173", after := #[{ on := 11, ground := Ground.data }, { on := 5, ground := Ground.guard }], guard := some (5, true) }) (v := ?_) rfl (by kernel_rfl) (by kernel_rfl) (by kernel_rfl) (fun _ _ _ h => h) (Or.inl ⟨by rfl, ?_⟩) (by assumption) ?_
                            rotate_left
                            · (intro wq hSw; (try dsimp only at hSw); go_simp; first | done | with_reducible rfl)
                            try (simp only [Act.put, List.setIfInBounds_toArray, set16]; simp only [set4]; simp only [List.set_cons_succ, List.set_cons_zero])
                            refine wpAnyH_take (i := 13) (oi := { dst := some 219, op := Op.load 31 (Operand.tmp 218), type := 31, pos := "law.go:173", after := #[{ on := 12, ground := Ground.data }, { on := 5, ground := Ground.guard }], guard := some (5, true) }) (v := ?_) rfl (by kernel_rfl) (by kernel_rfl) (by kernel_rfl) (fun _ _ _ h => h) (Or.inl ⟨by rfl, ?_⟩) (by assumption) ?_
                            rotate_left
                            · (intro wq hSw; (try dsimp only at hSw); go_simp; first | done | with_reducible rfl)
                            try (simp only [Act.put, List.setIfInBounds_toArray, set16]; simp only [set4]; simp only [List.set_cons_succ, List.set_cons_zero])
                            refine wpAnyH_take (i := 14) (oi := { dst := some 220, op := Op.move (Operand.tmp 10), type := 28, pos := "law.go:173", after := #[{ on := 5, ground := Ground.guard }], guard := some (5, true) }) (v := ?_) rfl (by kernel_rfl) (by kernel_rfl) (by kernel_rfl) (fun _ _ _ h => h) (Or.inl ⟨by rfl, ?_⟩) (by assumption) ?_
                            rotate_left
                            · (intro wq hSw; (try dsimp only at hSw); go_simp; first | done | with_reducible rfl)
                            try (simp only [Act.put, List.setIfInBounds_toArray, set16]; simp only [set4]; simp only [List.set_cons_zero])
                            refine wpAnyH_take (i := 15) (oi := { dst := some 221, op := Op.move (Operand.tmp 16), type := 3, pos := "law.go:173", after := #[{ on := 5, ground := Ground.guard }], guard := some (5, true) }) (v := ?_) rfl (by kernel_rfl) (by kernel_rfl) (by kernel_rfl) (fun _ _ _ h => h) (Or.inl ⟨by rfl, ?_⟩) (by assumption) ?_
                            rotate_left
                            · (intro wq hSw; (try dsimp only at hSw); go_simp; first | done | with_reducible rfl)
                            try (simp only [Act.put, List.setIfInBounds_toArray, set16]; simp only [set4]; simp only [List.set_cons_succ, List.set_cons_zero])
                            refine wpAnyH_take (i := 16) (oi := { dst := some 222, op := Op.indexAddr 28 (Operand.tmp 220) (Operand.tmp 221), type := 0, pos := "law.go:173", after := #[{ on := 14, ground := Ground.data }, { on := 15, ground := Ground.data }, { on := 5, ground := Ground.guard }], guard := some (5, true) }) (v := ?_) rfl (by kernel_rfl) (by kernel_rfl) (by kernel_rfl) (fun _ _ _ h => h) (Or.inl ⟨by rfl, ?_⟩) (by assumption) ?_
                            rotate_left
                            · (intro wq hSw; (try dsimp only at hSw); go_simp; first | done | with_reducible rfl)
                            try (simp only [Act.put, List.setIfInBounds_toArray, set16]; simp only [set4]; simp only [List.set_cons_succ, List.set_cons_zero])
                            refine wpAnyH_take (i := 17) (oi := { dst := some 223, op := Op.fieldAddr 36 (Operand.tmp 222) 4, type := 0, pos := "law.go:173", after := #[{ on := 16, ground := Ground.data }, { on := 5, ground := Ground.guard }], guard := some (5, true) }) (v := ?_) rfl (by kernel_rfl) (by kernel_rfl) (by kernel_rfl) (fun _ _ _ h => h) (Or.inl ⟨by rfl, ?_⟩) (by assumption) ?_
                            rotate_left
                            · (intro wq hSw; (try dsimp only at hSw); go_simp; first | done | with_reducible rfl)
                            try (simp only [Act.put, List.setIfInBounds_toArray, set16]; simp only [set4]; simp only [List.set_cons_succ, List.set_cons_zero])
                            refine wpAnyH_take (i := 18) (oi := { dst := some 224, op := Op.load 9 (Operand.tmp 223), type := 9, pos := "law.go:173", after := #[{ on := 17, ground := Ground.data }, { on := 5, ground := Ground.guard }], guard := some (5, true) }) (v := ?_) rfl (by kernel_rfl) (by kernel_rfl) (by kernel_rfl) (fun _ _ _ h => h) (Or.inl ⟨by rfl, ?_⟩) (by assumption) ?_
                            rotate_left
                            · (intro wq hSw; (try dsimp only at hSw); go_simp; first | done | with_reducible rfl)
                            try (simp only [Act.put, List.setIfInBounds_toArray, set16]; simp only [List.set_cons_zero])
                            refine wpAnyH_ready (rs := [19]) (by kernel_rfl) (by simp) ?_
                            refine AllReadyH.cons (o := { dst := some 225, op := Op.call { callee := Callee.value (Operand.func 17), args := #[Operand.tmp 214, Operand.tmp 219, Operand.tmp 224], argTypes := #[24, 31, 9] }, type := 4, pos := "law.go:173", after := #[{ on := 8, ground := Ground.data }, { on := 13, ground := Ground.data }, { on := 18, ground := Ground.data }, { on := 5, ground := Ground.chain }, { on := 5, ground := Ground.guard }], guard := some (5, true) }) rfl (fun K hK => ?_) AllReadyH.nil
                            go_simp
                            refine (HAY.out _ (OM.new HMc.out (New.refl wc).drew)).mono ?_
                            rintro e w3 ⟨rfl, hM3⟩
                            refine hK.out _ _ ?_ (fun hHeld => ?_)
                            · exact ⟨KS.out _ _ hM3, KA.out _ _ hM3⟩
                            clear hK K
                            try (simp only [Act.put, List.setIfInBounds_toArray, set16]; simp only [List.set_cons_succ, List.set_cons_zero])
                            refine wpAnyH_take (i := 20) (oi := { dst := some 226, op := Op.pick (Operand.tmp 211) (Operand.tmp 225) (Operand.const (Value.bool false)), type := 4, pos := "law.go:173", after := #[{ on := 5, ground := Ground.data }, { on := 19, ground := Ground.data }], guard := none }) (v := ?_) rfl (by kernel_rfl) (by kernel_rfl) (by kernel_rfl) (fun _ _ _ h => h) (Or.inl ⟨by rfl, ?_⟩) (by assumption) ?_
                            rotate_left
                            · (intro wq hSw; (try dsimp only at hSw); go_simp; first | done | with_reducible rfl)
                            try (simp only [Act.put, List.setIfInBounds_toArray, set16]; simp only [List.set_cons_succ, List.set_cons_zero])
                            refine wpAnyH_done (by kernel_rfl) ?_ _
                            clear hHeld
                            go_wp2_with fail
                            go_meet
                            exact ⟨rfl, hM3⟩
                        case rest =>
                          obtain ⟨rfl, hMr⟩ := hcut
                          clear cH eA habl habz hpbl hpbz e0 e1 e2 e3 hbsl KA HAY HPY KS HGA
                          by_cases hle : (s.ac a).p ≤ p + 1
                          rotate_left
                          · rw [if_neg hle] at hMr
                            rw [decide_eq_false hle]
                            have HMR := Lib.hid hMr
                            clear hMr
                            go_wp2_with fail
                            go_roundw
                            case rel => exact ⟨q + 1, by omega, by omega, by go_num, g, L, s, rfl, rfl, HMR.out, HI.out, HSz.out, hLl⟩
                            case measure => simp [intOf]; omega
                          rw [if_pos hle] at hMr
                          rw [decide_eq_true hle]
                          as_aux_lemma =>
                            have hmk := hMr.markBy HY.out HAK.out.2
                            have hta := taken HI.out HSz.out HAK.out.1 HPP.out (by rw [← HPM.out.has]; exact hhas) hle
                            obtain ⟨y3, hy3⟩ : ∃ y3, y3 = ({ y with by_ := upd y.by_ a true } : PM) := ⟨_, rfl⟩
                            rw [← hy3] at hmk
                            have hat3 : (L.set p y3)[p]? = some y3 := by rw [List.getElem?_set, if_pos rfl, if_pos (List.getElem?_eq_some_iff.1 HY.out).1]
                            have hmk3 : OM w (wc.setCell ⟨pb, p * 21 + 11 + a, none⟩ (.bool true)) k ab pb pc g (L.set p y3) (accS s a p) := hmk
                            have hp3 := (hmk3.row p y3 hat3).1
                            have hh3 : ((accS s a p).pp p).has = true := by rw [← hp3.has, hy3]; exact hhas
                            have hby3 := hp3.by_
                            have hv3 := hp3.val
                            have hll3 : (L.set p y3).length = own.length := by rw [List.length_set]; exact hLl
                            have hch3 : (accS s a p).ch = s.ch ∧ (accS s a p).any = s.any := ⟨rfl, rfl⟩
                            have cB : wc.cell? ⟨pb, p * 21 + 11 + a, none⟩ = some (.bool (y.by_ a)) := by have c0 := hMr.cell (p := p) (j := 11 + a) (u := .bool (y.by_ a)) HY.out (pmE_by y HAK.out.2); rw [← Nat.add_assoc] at c0; exact c0
                            obtain ⟨hpb4, hpz4⟩ := hMr.pbf
                            clear hmk hp3 hy3 hMr
                            generalize L.set p y3 = L3 at *
                            generalize accS s a p = s3 at *
                            have HM3 := Lib.hid hmk3
                            have HTA := Lib.hid hta
                            have HAT3 := Lib.hid hat3
                            have HH3 := Lib.hid hh3
                            have HBY3 := Lib.hid hby3
                            have HV3 := Lib.hid hv3
                            have HLL3 := Lib.hid hll3
                            have HCH3 := Lib.hid hch3
                            clear hmk3 hta hat3 hh3 hby3 hv3 hll3 hch3
                            go_upto_region 37 with fail
                            generalize hwm : wc.setCell ⟨pb, p * 21 + 11 + a, none⟩ (.bool true) = wm at HM3 ⊢
                            clear hwm cB hpb4 hpz4
                            have hat3 := HAT3.out
                            have hM3 := HM3.out
                            have hc0 := hM3.cell (p := p) (j := 11) (u := .bool (y3.by_ 0)) hat3 rfl
                            have hc1 := hM3.cell (p := p) (j := 12) (u := .bool (y3.by_ 1)) hat3 rfl
                            have hc2 := hM3.cell (p := p) (j := 13) (u := .bool (y3.by_ 2)) hat3 rfl
                            have hc3 := hM3.cell (p := p) (j := 14) (u := .bool (y3.by_ 3)) hat3 rfl
                            have hc4 := hM3.cell (p := p) (j := 15) (u := .bool (y3.by_ 4)) hat3 rfl
                            have hc5 := hM3.cell (p := p) (j := 16) (u := .bool (y3.by_ 5)) hat3 rfl
                            have hc6 := hM3.cell (p := p) (j := 17) (u := .bool (y3.by_ 6)) hat3 rfl
                            have hc7 := hM3.cell (p := p) (j := 18) (u := .bool (y3.by_ 7)) hat3 rfl
                            obtain ⟨hpb9, hpz9⟩ := hM3.pbf
                            clear hat3 hM3
                            obtain ⟨qn, hqn⟩ : ∃ qn, qn = k / 2 + 1 := ⟨_, rfl⟩
                            have hquo : ∀ wx, Calls Try.prog 15 #[.int .i64 (k : Int)] wx fun e w' => e = .returned (.int .i64 (qn : Int)) ∧ w' = wx := fun wx => (quorum_any (k : Int) wx (by omega) (by omega)).mono fun e w' h => ⟨by rw [h.1, show max (k : Int) 0 / 2 + 1 = (qn : Int) by omega], h.2⟩
                            obtain ⟨cn, hcn⟩ : ∃ cn, cn = cnt y3.by_ 8 := ⟨_, rfl⟩
                            have hcou : ∀ wx, Calls Try.prog 14 #[.agg #[.bool (y3.by_ 0), .bool (y3.by_ 1), .bool (y3.by_ 2), .bool (y3.by_ 3), .bool (y3.by_ 4), .bool (y3.by_ 5), .bool (y3.by_ 6), .bool (y3.by_ 7)]] wx fun e w' => e = .returned (.int .i64 (cn : Int)) ∧ New wx w' := fun wx => by rw [hcn]; exact count8_any y3.by_ wx
                            have HQN := Lib.hid (And.intro hqn hcn)
                            have HCO := Lib.hid hcou
                            have HQU := Lib.hid hquo
                            clear hqn hcn hcou hquo
                            go_wp2_with fail
                            refine (HCO.out _).mono ?_
                            rintro e w5 ⟨rfl, hn5⟩
                            have hM5 := HM3.out.new hn5
                            have HM5 := Lib.hid hM5
                            clear hM5 hn5 HM3 HCO hc0 hc1 hc2 hc3 hc4 hc5 hc6 hc7 hpb9 hpz9
                            go_wp2_with fail
                            refine (HQU.out _).mono ?_
                            rintro e w6 ⟨rfl, rfl⟩
                            clear HQU
                            by_cases hge : qn ≤ cn
                            rotate_left
                            · have hge' : ¬ (qn : Int) ≤ (cn : Int) := by omega
                              go_wp2_with fail
                              go_roundw
                              case rel => exact ⟨q + 1, by omega, by omega, by go_num, g, L3, s3, by rw [HCH3.out.1], by rw [HCH3.out.2], HM5.out, HTA.out.1, HTA.out.2, HLL3.out⟩
                              case measure => simp [intOf]; omega
                            have hge' : (qn : Int) ≤ (cn : Int) := by omega
                            have hqc : k / 2 + 1 ≤ cnt (s3.pp p).by_ 8 := by rw [← HBY3.out, ← HQN.out.1, ← HQN.out.2]; exact hge
                            have HSET := Lib.hid (HTA.out.1.set HH3.out hqc)
                            have hcv : w6.cell? ⟨pb, p * 21 + 19, none⟩ = some (.string y3.val) := HM5.out.cell (p := p) (j := 19) (u := .string y3.val) HAT3.out rfl
                            obtain ⟨hpb9, hpz9⟩ := HM5.out.pbf
                            have HRL := Lib.hid (show OM w w6 k ab pb pc g L3 { s3 with any := true, ch := (s3.pp p).val } ∧ Pax.Inv k { s3 with any := true, ch := (s3.pp p).val } ∧ Sz own.length { s3 with any := true, ch := (s3.pp p).val } from ⟨HM5.out.say _ _, HSET.out, HTA.out.2.say _ _⟩)
                            clear HQN HSET
                            cases hany : s.any with
                            | false =>
                              clear hqc
                              go_wp2_with fail
                              go_roundw
                              case rel => exact ⟨q + 1, by omega, by omega, by go_num, g, L3, _, by rw [HV3.out], rfl, HRL.out.1, HRL.out.2.1, HRL.out.2.2, HLL3.out⟩
                              case measure => simp [intOf]; omega
                            | true =>
                              have hon := HTA.out.1.only (by omega) HH3.out hqc (by rw [HCH3.out.2]; exact hany)
                              have hvc : y3.val = s.ch := by rw [HV3.out, hon]; exact HCH3.out.1
                              have HVC := Lib.hid hvc
                              rw [hvc] at hcv
                              clear hqc hon hvc
                              go_wp2_with fail
                              go_roundw
                              case rel => exact ⟨q + 1, by omega, by omega, by go_num, g, L3, _, by rw [← HV3.out, HVC.out], rfl, HRL.out.1, HRL.out.2.1, HRL.out.2.2, HLL3.out⟩
                              case measure => simp [intOf]; omega
            · have hcase : ¬ (q : Int) < (steps.length : Int) ∨ ((q : Int) < (steps.length : Int) ∧ ¬ (q : Int) < 200) := by omega
              clear hend
              rcases hcase with hlt' | ⟨hlt', hlt8'⟩
              all_goals
                go_wp2_with fail
                go_ret
                exact ⟨rfl, HM.out.nw⟩
end Go.Proofs.Ytghhcjpilcoblaa
