/- Chapter 24 (replica): slices.SortFunc and slices.Reverse of cells. -/
import Derived.Test.YtecniafnihpjmaaGreatDoorRdB
import Derived.Test.YtecniafnihpjmaaGreatDoorSrt
import Derived.Test.YtecniafnihpjmaaGreatDoorShelfS
import Derived.Shelf.SlSortCmp.NoneTotal
namespace Go.Proofs.YtecniafnihpjmaaGreatDoor
open Go.RowKit Go.Lap Go.Sort Go.Shelf
set_option linter.unusedVariables false
set_option linter.unusedSimpArgs false
instance : Inhabited Cel := ⟨⟨⟨#[]⟩, ⟨#[]⟩⟩⟩
def cmpC (x y : Cel) : Int := cmpS x.key y.key
theorem ltC (x y : Cel) : ltOf cmpC x y = lsK x.key y.key := by
  unfold ltOf cmpC cmpS lsK
  cases h1 : Op.bytesLess x.key.toList y.key.toList with
  | true => simp
  | false => cases h2 : Op.bytesLess y.key.toList x.key.toList <;> simp
theorem swoC : SWO (ltOf cmpC) where
  irrefl x := by rw [ltC]; exact lsK_irr _
  trans x y z h1 h2 := by rw [ltC] at *; exact lsK_trans h1 h2
  ntrans x y z h1 h2 := by
    rw [ltC] at *
    cases h : lsK x.key z.key with
    | false => rfl
    | true =>
      exfalso
      by_cases e : y.key = x.key
      · rw [e, h] at h2; cases h2
      · have h3 := lsK_tri h1 (fun e2 => e e2.symm)
        have := lsK_trans h3 h
        rw [h2] at this; cases this
set_option maxHeartbeats 1000000 in
theorem closC (x y : Cel) (W : World) : Calls Tryz.prog 67 #[.agg #[.string x.key, .string x.val], .agg #[.string y.key, .string y.val]] W fun e w' => e = .returned (.int .i64 (cmpC x y)) ∧ ∃ q os', w' = grow (W.drewN q) os' := by
  have hcon := fun W' => compare_any x.key y.key W'
  unfold cmpC
  generalize cmpS x.key y.key = r at hcon ⊢
  go_enter Tryz.func67, Tryz.ntmps67
  go_wp2_with (go_at_call 68; refine (hcon _).mono ?_; rintro e w' ⟨rfl, rfl⟩)
  go_ret
  exact ⟨rfl, 0, _, by rw [alloc_eq_grow, alloc_eq_grow, grow_grow]; rfl⟩
theorem lays_C (blk off size : Nat) (w : World) : CmpLays Tryz.prog 67 #[] celC 2 cmpC blk off size w :=
  fun _ _ _ _ x y => closC x y _
/-- Cells in a block, from its beginning on. -/
structure CRow (w : World) (g n : Nat) (F : Nat → Cel) : Prop where
  lt : g < w.heap.size
  k : ∀ i, i < n → w.cell? ⟨g, i * 2, none⟩ = some (.string (F i).key)
  v : ∀ i, i < n → w.cell? ⟨g, i * 2 + 1, none⟩ = some (.string (F i).val)
  fz : ∀ i, i < n * 2 → w.frozen? ⟨g, i, none⟩ = false
theorem CRow.new {w w' : World} {g n : Nat} {F : Nat → Cel} (h : CRow w g n F) (hn : New w w') : CRow w' g n F :=
  ⟨Nat.lt_of_lt_of_le h.lt hn.size, fun i hi => (hn.cells.1 g _ h.lt).trans (h.k i hi), fun i hi => (hn.cells.1 g _ h.lt).trans (h.v i hi), fun i hi => (hn.cells.2 g _ h.lt).trans (h.fz i hi)⟩
theorem CRow.slIn {w : World} {g n c : Nat} {F : Nat → Cel} (h : CRow w g n F) (hc : n ≤ c) : SlIn w 2 celC (.slice (some ⟨g, 0, none⟩) n c) ((List.range n).map F) := by
  refine ⟨some ⟨g, 0, none⟩, c, by simp, by simpa using hc, .inr ⟨g, 0, rfl, h.lt, fun i x hx j u hu => ?_⟩⟩
  rw [List.getElem?_map] at hx
  obtain ⟨i', hi, rfl⟩ := Option.map_eq_some_iff.1 hx
  obtain ⟨h1, h2⟩ := List.getElem?_eq_some_iff.1 hi
  simp only [List.getElem_range, List.length_range] at h1 h2
  subst h2
  match j, hu with
  | 0, hu => simp [celC] at hu; subst hu; have := h.k i h1; simpa using this
  | 1, hu => simp [celC] at hu; subst hu; have := h.v i h1; simpa using this
  | j + 2, hu => simp [celC] at hu
/-- slices.SortFunc of cells. -/
theorem sort_cel {base : Nat} {v : Value} {l : List Cel} (w : World) (ho : Owns w base 124 2 celC v l) (hl : l.length ≤ 1000000) (hnd : (l.map (·.key)).Nodup) :
    Calls Tryz.prog 66 #[v, .func (.func 67) #[] #[]] w fun e w' => e = .returned (.tuple #[]) ∧ ∃ l', SlIn w' 2 celC v l' ∧ l'.Perm l ∧ SrtD false l' ∧ Upd (fun k => v.ownBlock = some k) w w' ∧
      (l' = [] ∨ ∃ g c, v = .slice (some ⟨g, 0, none⟩) l'.length c ∧ l'.length ≤ c ∧ CRow w' g l'.length (fun i => l'[i]!)) := by
  obtain ⟨A, cp, hv, hcp, hor⟩ := Owns.slIn celOk ho
  subst hv
  by_cases h0 : l = []
  · subst h0
    refine (AnyF.slices_SortFunc_none Tryz.sortC A cp (.func (.func 67) #[] #[]) w).mono ?_
    rintro e w' ⟨rfl, rfl⟩
    exact ⟨rfl, [], Owns.slIn celOk ho, List.Perm.refl _, List.Pairwise.nil, Upd.refl _ _, .inl rfl⟩
  obtain ⟨g, rfl⟩ : ∃ g, A = some ⟨g, 0, none⟩ := by
    rcases ho.2 with h2 | ⟨g, cap, cur, hv, _⟩
    · exact absurd (List.length_eq_zero_iff.1 h2.2) h0
    · cases hv; exact ⟨g, rfl⟩
  have hH := holdsK_of celOk (by decide) ho
  have hb : g < w.heap.size := (ho.lt g rfl).2
  have eg : ∀ args w, (callFunc 67 args).run Tryz.prog w = .ok (.enter 67 args) w := enters_of Tryz.func67 (by kernel_rfl) rfl
  have hcon := AnyQ.slices_SortFunc Tryz.sortC 2 Tryz.isAgg124 Tryz.sizeOf124 celC (fun _ => rfl) (fun x v hv => by simp [celC] at hv; rcases hv with rfl | rfl <;> rfl) cmpC swoC 67 #[] g 0 cp l.toArray w eg (lays_C g 0 _ w) hH hb (by simp; omega)
  refine Calls.mono (show Calls Tryz.prog 66 #[.slice (some ⟨g, 0, none⟩) l.length cp, .func (.func 67) #[] #[]] w _ from hcon) ?_
  rintro e w' ⟨rfl, d', n, os, hp, hs, rfl⟩
  obtain ⟨h1, h2, h3⟩ := rising_of hp hs
  have h1' : d'.toList.Perm l := by simpa using h1
  have hH' : HoldsK celC 2 (sortWorldK celC 2 w g 0 n d' os) g 0 d' :=
    holdsK_grow celC 2 _ os g 0 d' (by show g < (w.heap.modify g _).size; simpa using hb) (holdsK_putRowK celC 2 _ g 0 l.toArray d' (holdsK_ahead celC 2 w n g 0 l.toArray hH) h2)
  refine ⟨rfl, d'.toList, slIn_sortK celOk hb hH h2 (by simpa using hcp), h1', ?_, (upd_sortK w g 0 n d' os).mono fun k _ hk => by rw [hk]; rfl, .inr ⟨g, cp, ?_, ?_, ?_⟩⟩
  · have hnd' : (d'.toList.map (·.key)).Nodup := ((h1'.map _).nodup_iff).2 hnd
    rw [List.nodup_iff_pairwise_ne, List.pairwise_map] at hnd'
    refine (h3.and hnd').imp ?_
    rintro x y ⟨ha, hb⟩
    rw [ltC] at ha
    exact lsK_tri ha (fun e => hb e.symm)
  · have e : d'.toList.length = l.length := by simpa using h2
    rw [e]
  · have e : d'.toList.length = l.length := by simpa using h2
    rw [e]; exact hcp
  · refine ⟨Nat.lt_of_lt_of_le hb (upd_sortK w g 0 n d' os).size, fun i hi => ?_, fun i hi => ?_, fun i hi => ?_⟩
    · have hi' : i < d'.size := by simpa using hi
      have := (hH'.cell hi' (show 0 < 2 by decide)).1
      rw [Nat.zero_add, Nat.add_zero] at this
      rw [this, getElem!_pos d' i hi', getElem!_pos d'.toList i hi]
      rfl
    · have hi' : i < d'.size := by simpa using hi
      have := (hH'.cell hi' (show 1 < 2 by decide)).1
      rw [Nat.zero_add] at this
      rw [this, getElem!_pos d' i hi', getElem!_pos d'.toList i hi]
      rfl
    · have hi' : i / 2 < d'.size := by have : i < d'.size * 2 := by simpa using hi
                                       omega
      have := (hH'.cell hi' (show i % 2 < 2 by omega)).2
      rw [show 0 + i / 2 * 2 + i % 2 = i by omega] at this
      exact this
/-- The first and the last so many have changed places. -/
def revF (F : Nat → Cel) (n k i : Nat) : Cel := if i < k ∨ n ≤ i + k then F (n - 1 - i) else F i
theorem cell_set {w : World} {g i j : Nat} {v u : Value} (h : w.cell? ⟨g, i, none⟩ = some u) : (w.setCell ⟨g, i, none⟩ v).cell? ⟨g, j, none⟩ = if j = i then some v else w.cell? ⟨g, j, none⟩ := by
  by_cases e : j = i
  · subst e; rw [if_pos rfl]; exact World.cell?_setCell_same (h := h) ..
  · rw [if_neg e]; exact World.cell?_setCell_other (h := by intro e2; injection e2 with _ e3; exact e e3.symm) ..
def put2 (w : World) (g i : Nat) (x : Cel) : World := (w.setCell ⟨g, i * 2, none⟩ (.string x.key)).setCell ⟨g, i * 2 + 1, none⟩ (.string x.val)
theorem put2_upd (w : World) (g i : Nat) (x : Cel) : Upd (· = g) w (put2 w g i x) := ((Upd.refl _ w).setIn _ _).setIn _ _
theorem CRow.put {w : World} {g n : Nat} {F : Nat → Cel} (h : CRow w g n F) {i : Nat} (hi : i < n) (x : Cel) : CRow (put2 w g i x) g n (fun j => if j = i then x else F j) := by
  have hk := h.k i hi
  have hv := h.v i hi
  have hv' : (w.setCell ⟨g, i * 2, none⟩ (.string x.key)).cell? ⟨g, i * 2 + 1, none⟩ = some (.string (F i).val) := by rw [cell_set hk, if_neg (by omega)]; exact hv
  refine ⟨Nat.lt_of_lt_of_le h.lt (put2_upd w g i x).size, fun j hj => ?_, fun j hj => ?_, fun j hj => ?_⟩
  · unfold put2
    rw [cell_set hv', if_neg (by omega), cell_set hk]
    by_cases e : j = i
    · subst e; rw [if_pos rfl]; simp
    · rw [if_neg (by omega), h.k j hj]; simp [e]
  · unfold put2
    rw [cell_set hv']
    by_cases e : j = i
    · subst e; rw [if_pos rfl]; simp
    · rw [if_neg (by omega), cell_set hk, if_neg (by omega), h.v j hj]; simp [e]
  · unfold put2
    rw [World.frozen?_setCell, World.frozen?_setCell]
    exact h.fz j hj
theorem CRow.congr {w : World} {g n : Nat} {F G : Nat → Cel} (h : CRow w g n F) (e : ∀ i, i < n → F i = G i) : CRow w g n G :=
  ⟨h.lt, fun i hi => by rw [← e i hi]; exact h.k i hi, fun i hi => by rw [← e i hi]; exact h.v i hi, h.fz⟩
theorem revF_step {F : Nat → Cel} {n k : Nat} (hk : k + k + 1 < n) (i : Nat) (hi : i < n) : (fun j => if j = n - 1 - k then F k else (fun j => if j = k then F (n - 1 - k) else revF F n k j) j) i = revF F n (k + 1) i := by
  dsimp only
  unfold revF
  by_cases h1 : i = n - 1 - k
  · rw [if_pos h1, if_pos (by omega)]; congr 1; omega
  · rw [if_neg h1]
    by_cases h2 : i = k
    · subst h2; rw [if_pos rfl, if_pos (by omega)]
    · rw [if_neg h2]
      by_cases h3 : i < k ∨ n ≤ i + k
      · rw [if_pos h3, if_pos (by omega)]
      · rw [if_neg h3, if_neg (by omega)]
theorem revF_end {F : Nat → Cel} {n k : Nat} (hk : n ≤ k + k + 1) (i : Nat) (hi : i < n) : revF F n k i = F (n - 1 - i) := by
  unfold revF
  by_cases h3 : i < k ∨ n ≤ i + k
  · rw [if_pos h3]
  · rw [if_neg h3]; congr 1; omega
set_option maxRecDepth 100000 in
set_option maxHeartbeats 4000000 in
theorem rev_any {g n c : Nat} {F : Nat → Cel} (w : World) (h : CRow w g n F) (hn : n ≤ 1000000) :
    Calls Tryz.prog 69 #[.slice (some ⟨g, 0, none⟩) n c] w fun e w' => e = .returned (.tuple #[]) ∧ CRow w' g n (fun i => F (n - 1 - i)) ∧ Upd (· = g) w w' := by
  have H0 := Lib.hid (h.congr (G := revF F n 0) (fun i hi => by unfold revF; rw [if_neg (by omega)]))
  clear h
  have w0 : IntKind.i64.wrap ((n : Int) - 1) = (n : Int) - 1 := IntWalk.i64_in _ (by omega)
  go_enter Tryz.func69, Tryz.ntmps69
  go_wp2_with fail
  go_loopw [2, 3] (fun i j wr => ∃ k : Nat, k + k ≤ n + 1 ∧ i = .int .i64 (k : Int) ∧ j = .int .i64 ((n : Int) - 1 - (k : Int)) ∧ CRow wr g n (revF F n k) ∧ Upd (· = g) w wr) (fun i _ _ => n - (intOf i).toNat)
  case atStart => exact ⟨0, by omega, rfl, by simp, H0.out, Upd.refl _ _⟩
  case round =>
    obtain ⟨k, hk, rfl, rfl, hr, hu⟩ := hrel
    have HU := Lib.hid hu
    clear hu H0 w0
    by_cases hlt : k + k + 1 < n
    · have HP := Lib.hid (((hr.put (i := k) (by omega) (F (n - 1 - k))).put (i := n - 1 - k) (by omega) (F k)).congr (revF_step hlt))
      have hk1 := hr.k k (by omega)
      have hv1 := hr.v k (by omega)
      have hk2 := hr.k (n - 1 - k) (by omega)
      have hv2 := hr.v (n - 1 - k) (by omega)
      have e1 : revF F n k k = F k := by unfold revF; rw [if_neg (by omega)]
      have e2 : revF F n k (n - 1 - k) = F (n - 1 - k) := by unfold revF; rw [if_neg (by omega)]
      rw [e1] at hk1 hv1
      rw [e2] at hk2 hv2
      clear e1 e2
      have ej : (n : Int) - 1 - (k : Int) = ((n - 1 - k : Nat) : Int) := by omega
      rw [ej]
      have hsub : ((n - 1 - k : Nat) : Int) - 1 = (n : Int) - 1 - ((k + 1 : Nat) : Int) := by omega
      have HSUB := Lib.hid hsub
      obtain ⟨j, hj⟩ : ∃ j, j = n - 1 - k := ⟨_, rfl⟩
      rw [← hj] at hk2 hv2 HP HSUB ⊢
      have i1 : (0 : Int) ≤ (k : Int) := by omega
      have i2 : (0 : Int) ≤ (j : Int) := by omega
      have i3 : (k : Int) < (n : Int) := by omega
      have i4 : (j : Int) < (n : Int) := by omega
      have i5 : (k : Int) < (j : Int) := by omega
      have f1 := hr.fz (k * 2) (by omega)
      have f2 := hr.fz (k * 2 + 1) (by omega)
      have f3 := hr.fz (j * 2) (by omega)
      have f4 := hr.fz (j * 2 + 1) (by omega)
      have n3 : k ≠ j := by omega
      have w1 : IntKind.i64.wrap ((k : Int) + 1) = ((k + 1 : Nat) : Int) := by rw [IntWalk.i64_in _ (by omega)]; omega
      have w2 : IntKind.i64.wrap ((j : Int) - 1) = (j : Int) - 1 := IntWalk.i64_in _ (by omega)
      have hgl := hr.lt
      have HK := Lib.hid hlt
      clear hj hsub ej hlt hr
      generalize F k = x at *
      generalize F (n - 1 - k) = y at *
      go_upto_region 3 with fail
      go_region
      go_wp2_with fail
      go_roundw
      case rel => exact ⟨k + 1, by have := HK.out; omega, rfl, by rw [HSUB.out], HP.out.new (New.refl _).drew, ((HU.out.trans (put2_upd _ g k _) (fun _ _ h => h)).trans (put2_upd _ g j _) (fun _ _ h => h)).drew⟩
      case measure => have := HK.out; simp [intOf]; omega
    · have hlt2 : ¬ (k : Int) < (n : Int) - 1 - (k : Int) := by omega
      have HP := Lib.hid (hr.congr (revF_end (F := F) (n := n) (k := k) (by omega)))
      clear hr
      go_wp2_with fail
      go_end0
      exact ⟨rfl, HP.out, HU.out⟩
theorem rev_none (A : Option Addr) (c : Nat) (w : World) :
    Calls Tryz.prog 69 #[.slice A 0 c] w fun e w' => e = .returned (.tuple #[]) ∧ w' = w := by
  go_enter Tryz.func69, Tryz.ntmps69
  go_wp2_with fail
  refine wp_loop_rounds 1 ?_
  rw [rounds_succ]
  go_wp2_with fail
  go_end0
  exact ⟨rfl, rfl⟩
theorem list_fn (l : List Cel) : (List.range l.length).map (fun i => l[i]!) = l := by
  refine List.ext_getElem? fun i => ?_
  by_cases hi : i < l.length
  · rw [List.getElem?_map, List.getElem?_range hi]; simp [hi]
  · rw [List.getElem?_eq_none (by simpa using hi), List.getElem?_eq_none (by omega)]
theorem list_rev (l : List Cel) : (List.range l.length).map (fun i => l[l.length - 1 - i]!) = l.reverse := by
  refine List.ext_getElem? fun i => ?_
  by_cases hi : i < l.length
  · rw [List.getElem?_map, List.getElem?_range hi, List.getElem?_reverse hi]
    simp only [Option.map_some]
    rw [getElem!_pos l _ (by omega), List.getElem?_eq_getElem (by omega)]
  · rw [List.getElem?_eq_none (by simpa using hi), List.getElem?_eq_none (by simpa using hi)]
/-- slices.Reverse of a row that was sorted. -/
theorem rev_row {v : Value} {l : List Cel} (w : World) (hs : SlIn w 2 celC v l) (ho : l = [] ∨ ∃ g c, v = .slice (some ⟨g, 0, none⟩) l.length c ∧ l.length ≤ c ∧ CRow w g l.length (fun i => l[i]!)) (hl : l.length ≤ 1000000) :
    Calls Tryz.prog 69 #[v] w fun e w' => e = .returned (.tuple #[]) ∧ SlIn w' 2 celC v l.reverse ∧ Upd (fun k => v.ownBlock = some k) w w' := by
  rcases ho with rfl | ⟨g, c, rfl, hc, hr⟩
  · obtain ⟨A, c, rfl, _, _⟩ := hs
    refine (rev_none A c w).mono ?_
    rintro e w' ⟨rfl, rfl⟩
    exact ⟨rfl, ⟨A, c, rfl, Nat.zero_le _, .inl rfl⟩, Upd.refl _ _⟩
  · refine (rev_any w hr hl).mono ?_
    rintro e w' ⟨rfl, h1, h2⟩
    refine ⟨rfl, ?_, h2.mono fun k _ hk => by rw [hk]; rfl⟩
    have := h1.slIn hc
    rw [list_rev] at this
    exact this
end Go.Proofs.YtecniafnihpjmaaGreatDoor
