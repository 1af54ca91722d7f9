/- The walk of the law CacheLeast (chapter 11): for every input it answers true. -/
import Derived.Test.YtdjnfnhmkfbfmaaLaw11
namespace Go.Proofs.Ytdjnfnhmkfbfmaa
open Go.RowKit Go.Lap
set_option linter.unusedVariables false

theorem ddl_snoc (r : List Int) (x : Int) : ddl (r ++ [x]) = ddS (ddl r) x := by simp [ddl, List.foldl_append]
theorem drop_rev {ids : List Int} {m : Nat} {x : Int} (h : ids[m]? = some x) : (ids.drop m).reverse = (ids.drop (m + 1)).reverse ++ [x] := by
  obtain ⟨hm, rfl⟩ := List.getElem?_eq_some_iff.1 h
  rw [List.drop_eq_getElem_cons hm, List.reverse_cons]
theorem ddl_all {ids : List Int} {m n : Nat} {W : List Int} (hW : W = ddl (ids.drop m).reverse) (hn : W.length ≤ n) (h : m = 0 ∨ W.length = n) : W = (ddl ids.reverse).take n := by
  rcases h with rfl | h
  · rw [List.drop_zero] at hW
    rw [hW, List.take_of_length_le (by rw [← hW]; exact hn)]
  · have hp : W <+: ddl ids.reverse := by
      have he : ids.reverse = (ids.drop m).reverse ++ (ids.take m).reverse := by rw [← List.reverse_append, List.take_append_drop]
      rw [he, hW]
      unfold ddl
      rw [List.foldl_append]
      exact fold_pre _ _
    obtain ⟨t, ht⟩ := hp
    rw [← ht, ← h, List.take_left']
    rfl
theorem puts_step {ids : List Int} {k n : Nat} {E : List Ent} {x : Int} (hE : E.map (·.id) = (ddl (ids.take k).reverse).take (n + 1)) (hx : ids[k]? = some x) (b : ByteArray) (d : Bool) :
    (putE (n + 1) E x b d).map (·.id) = (ddl (ids.take (k + 1)).reverse).take (n + 1) := by
  rw [put_ids hE x b d]
  have : ids.take (k + 1) = ids.take k ++ [x] := by rw [List.take_add_one, hx]; rfl
  rw [this, List.reverse_append]
  rfl
theorem has_step {W : List Int} {k : Nat} {x y : Int} (hy : W[k]? = some y) (h : y = x) : decide (x ∈ W.take (k + 1)) = true := by
  subst h
  rw [List.take_add_one, hy]; simp
theorem has_skip {W : List Int} {k : Nat} {x y : Int} (hy : W[k]? = some y) (h : ¬ y = x) : decide (x ∈ W.take (k + 1)) = decide (x ∈ W.take k) := by
  rw [List.take_add_one, hy]
  simp [List.mem_append]
  exact fun e => absurd e.symm h

set_option maxRecDepth 100000 in
set_option maxHeartbeats 8000000 in
theorem cacheLeast_walk (r : Nat) (ids : List Int) (v : Value) (w : World) (hr : r < 256) (hl : ids.length ≤ maxLen) (hs : SlIn w 1 iE v ids) (hg : ∀ x ∈ ids, (Lit.int .i64 x).wf = true) :
    Calls Try.prog 3 #[.int .u8 (r : Int), v] w fun e w' => e = .returned (.bool true) ∧ New w w' := by
  unfold maxLen at hl
  obtain ⟨n, hn⟩ : ∃ n, n = r % 20 := ⟨r % 20, rfl⟩
  have hn20 : n < 20 := by omega
  have hrr : ((r : Int) % 20) = (n : Int) := by omega
  have hn0 : (0 : Int) ≤ (n : Int) := by omega
  have hn1 : (n : Int) < 20 := by omega
  have hr0 : (0 : Int) ≤ (r : Int) := by omega
  have hr1 : (r : Int) < 256 := by omega
  clear hn
  obtain ⟨A, cp, hv, hcp, hor⟩ := id hs
  subst hv
  go_enter Try.func3, Try.ntmps3
  go_wp2_with fail
  obtain ⟨N, hNN, hN1⟩ : ∃ N : Nat, N = n + 1 ∧ (1 : Int) + (n : Int) = (N : Int) := ⟨n + 1, rfl, by omega⟩
  rw [hN1]
  have HN := Lib.hid hNN
  have hN20 : N ≤ 20 := by omega
  have hNp : 1 ≤ N := by omega
  clear hN1 hNN hrr hn20 hn0 hn1 hr0 hr1 hr
  refine (newC N _ hNp (by omega)).mono ?_
  rintro e w1 ⟨c, rfl, h1, hn1⟩
  have hF1 : ∀ k, Grow (fun _ => False) w w1 k → w.heap.size ≤ k := fun k hk => hk.elim (fun h => h.elim) (fun h => h.1)
  generalize Grow (fun _ => False) w w1 = F1 at h1 hF1
  go_wp2_with fail
  refine (awake11 _).mono ?_
  rintro e w2 ⟨rfl, hn2⟩
  have h2 := h1.new hn2
  have hN2 := hn1.trans hn2
  clear hn1 hn2 h1
  by_cases hbig : 200 < ids.length
  · have hbig' : (200 : Int) < (ids.length : Int) := by omega
    go_wp2_with fail
    refine (awake11 _).mono ?_
    rintro e w3 ⟨rfl, hn3⟩
    go_wp2_with fail
    go_ret
    exact ⟨rfl, hN2.trans hn3⟩
  have hbig' : ¬ (200 : Int) < (ids.length : Int) := by omega
  have HG := Lib.hid hg
  have HS := Lib.hid hs
  clear hg hs
  go_wp2_with fail
  go_loopw [8] (fun i wr => ∃ k : Nat, k ≤ ids.length ∧ i = .int .i64 k ∧ ∃ F E, CSt wr F c N E ∧ (∀ k, F k → w.heap.size ≤ k) ∧ E.map (·.id) = (ddl (ids.take k).reverse).take N ∧ New w wr) (fun i _ => ids.length - (intOf i).toNat)
  case atStart => exact ⟨0, by omega, rfl, F1, [], h2, hF1, by simp [ddl], hN2⟩
  case round =>
    obtain ⟨k, hk, rfl, F, E, hC, hF, hE, hnw⟩ := hrel
    have HF := Lib.hid hF
    have HE := Lib.hid hE
    have HC := Lib.hid hC
    clear hF hE hC
    by_cases hlt : k < ids.length
    · have hlt' : (k : Int) < (ids.length : Int) := by omega
      rcases hor with hor | ⟨b, off, rfl, hb, hc⟩
      · rw [hor] at hlt; simp at hlt
      obtain ⟨x, hx⟩ : ∃ x, ids[k]? = some x := ⟨_, List.getElem?_eq_getElem hlt⟩
      have e1 : wr.cell? ⟨b, off + k, none⟩ = some (.int .i64 x) := (hnw.cells.1 _ _ hb).trans (by have := hc _ x hx 0 _ rfl; simpa using this)
      have hxw := HG.out x (List.mem_of_getElem? hx)
      have HC0 := Lib.hid hc
      have HX := Lib.hid hx
      clear hc hx
      go_wp2_with fail
      refine (put_any _ HC.out x hxw ⟨#[]⟩ false).mono ?_
      rintro e w4 ⟨rfl, h4, hu4⟩
      go_wp2_with fail
      go_roundw
      case rel =>
        refine ⟨k + 1, by omega, by go_num, _, _, h4, fun j hj => hj.elim (HF.out j) (fun h => Nat.le_trans hnw.size h.1), ?_, hnw.upd hu4 HF.out⟩
        have := HE.out
        rw [HN.out] at this ⊢
        exact puts_step this HX.out _ _
      case measure => simp [intOf]; omega
    · have hlt' : ¬ (k : Int) < (ids.length : Int) := by omega
      obtain rfl : k = ids.length := by omega
      have hEl : E.length ≤ N := by obtain ⟨_, _, _, _, _, _, h, _⟩ := HC.out; exact h
      go_wp2_with fail
      refine (listC _ HC.out).mono ?_
      rintro e w5 ⟨u, rfl, ho5, hn5⟩
      obtain ⟨A5, c5, rfl, hl5, hor5⟩ := Owns.slIn entOk ho5
      have hN5 := hnw.trans hn5
      have hall := HE.out
      rw [List.take_length] at hall
      have HA := Lib.hid hall
      clear hall HE HC HF ho5 hn5 hnw
      -- LOOPS
      have ho6 : Owns (w5.alloc (.cells #[] 3)) w5.heap.size 3 1 iE (.slice (some ⟨w5.heap.size, 0, none⟩) 0 0) ([] : List Int) := World.ownsRow_made (base := w5.heap.size) (e := 3) (size := 1) w5 #[] 0 (Nat.le_refl _) (by simp) (by simp)
      go_wp2_with fail
      go_loopw [10, 11, 12, 13] (fun u10 u11 _ _ wr => ∃ (k : Int) (m : Nat) (W : List Int), k = (m : Int) - 1 ∧ m ≤ ids.length ∧ u11 = .int .i64 k ∧ Owns wr w5.heap.size 3 1 iE u10 W ∧ W = ddl (ids.drop m).reverse ∧ W.length ≤ N ∧ New w5 wr) (fun _ u11 _ _ _ => (intOf u11 + 1).toNat)
      case atStart => exact ⟨_, ids.length, [], rfl, Nat.le_refl _, rfl, ho6, by simp [ddl], by simp, (New.refl _).alloc _⟩
      case round =>
        obtain ⟨k, m, W, hk, hm, rfl, ho, hWd, hWn, hnr⟩ := hrel
        obtain ⟨A6, c6, rfl, hl6, hor6⟩ := Owns.slIn iEOk ho
        cases m with
        | zero =>
          obtain rfl : k = -1 := by omega
          clear hk
          have hWW := ddl_all hWd hWn (.inl rfl)
          have hEW : E.map (·.id) = W := by rw [HA.out, ← hWW]
          have hEl : E.length = W.length := by rw [← hEW, List.length_map]
          have hEl' : (E.length : Int) = (W.length : Int) := by omega
          have HEW := Lib.hid hEW
          have HEl := Lib.hid hEl
          clear hEl
          clear hEW hWW hWd ho
          go_wp2_with fail
          obtain ⟨wo, rfl⟩ : ∃ wo, wo = wr := ⟨_, rfl⟩
          go_loopw [14] (fun q wr => ∃ i : Nat, i ≤ E.length ∧ q = .int .i64 i ∧ New wo wr) (fun q _ => E.length - (intOf q).toNat)
          case atStart => exact ⟨0, by omega, rfl, New.refl _⟩
          case round =>
            obtain ⟨i, hi, rfl, hnq⟩ := hrel
            by_cases hil : i < E.length
            · have hil' : (i : Int) < (E.length : Int) := by omega
              have hil'' : (i : Int) < (W.length : Int) := by omega
              have hi0 : (0 : Int) ≤ (i : Int) := by omega
              obtain ⟨y, hy⟩ : ∃ y, E[i]? = some y := ⟨_, List.getElem?_eq_getElem hil⟩
              have hz : W[i]? = some y.id := by rw [← HEW.out, List.getElem?_map, hy]; rfl
              have hb5 := hor5.resolve_left (by intro e; rw [e] at hil; simp at hil)
              obtain ⟨b5, off5, rfl, hbl5, hc5⟩ := hb5
              have hb6 := hor6.resolve_left (by intro e; rw [e] at hil''; simp at hil''; omega)
              obtain ⟨b6, off6, rfl, hbl6, hc6⟩ := hb6
              have f1 : wr.cell? ⟨b5, off5 + i * 3, none⟩ = some (.int .i64 y.id) := ((hnr.trans hnq).cells.1 _ _ hbl5).trans (by have := hc5 _ y hy 0 _ rfl; simpa using this)
              have f2 : wr.cell? ⟨b6, off6 + i, none⟩ = some (.int .i64 y.id) := (hnq.cells.1 _ _ hbl6).trans (by have := hc6 _ y.id hz 0 _ rfl; simpa using this)
              have hbq5 : b5 < wr.heap.size := Nat.lt_of_lt_of_le hbl5 (hnr.trans hnq).size
              have hbq6 : b6 < wr.heap.size := Nat.lt_of_lt_of_le hbl6 hnq.size
              clear hc5 hc6 hy hz
              go_wp2_with fail
              go_quiet (fail)
              go_wp2_with fail
              go_roundw
              case rel => exact ⟨i + 1, by omega, by go_num, hnq.drewN _⟩
              case measure => simp [intOf]; omega
            · have hil' : ¬ (i : Int) < (E.length : Int) := by omega
              go_wp2_with fail
              go_ret
              exact ⟨rfl, (hN5.trans hnr).trans hnq⟩
        | succ m =>
          obtain rfl : k = (m : Int) := by omega
          clear hk
          have hm0 : (0 : Int) ≤ (m : Int) := by omega
          by_cases hful : W.length = N
          · have hful' : ¬ (W.length : Int) < (N : Int) := by omega
            have hWW := ddl_all hWd hWn (.inr hful)
            have hEW : E.map (·.id) = W := by rw [HA.out, ← hWW]
            have hEl : E.length = W.length := by rw [← hEW, List.length_map]
            have hEl' : (E.length : Int) = (W.length : Int) := by omega
            have HEW := Lib.hid hEW
            have HEl := Lib.hid hEl
            clear hEl
            clear hEW hWW hWd ho
            go_wp2_with fail
            obtain ⟨wo, rfl⟩ : ∃ wo, wo = wr := ⟨_, rfl⟩
            go_loopw [14] (fun q wr => ∃ i : Nat, i ≤ E.length ∧ q = .int .i64 i ∧ New wo wr) (fun q _ => E.length - (intOf q).toNat)
            case atStart => exact ⟨0, by omega, rfl, New.refl _⟩
            case round =>
              obtain ⟨i, hi, rfl, hnq⟩ := hrel
              by_cases hil : i < E.length
              · have hil' : (i : Int) < (E.length : Int) := by omega
                have hil'' : (i : Int) < (W.length : Int) := by omega
                have hi0 : (0 : Int) ≤ (i : Int) := by omega
                obtain ⟨y, hy⟩ : ∃ y, E[i]? = some y := ⟨_, List.getElem?_eq_getElem hil⟩
                have hz : W[i]? = some y.id := by rw [← HEW.out, List.getElem?_map, hy]; rfl
                have hb5 := hor5.resolve_left (by intro e; rw [e] at hil; simp at hil)
                obtain ⟨b5, off5, rfl, hbl5, hc5⟩ := hb5
                have hb6 := hor6.resolve_left (by intro e; rw [e] at hil''; simp at hil''; omega)
                obtain ⟨b6, off6, rfl, hbl6, hc6⟩ := hb6
                have f1 : wr.cell? ⟨b5, off5 + i * 3, none⟩ = some (.int .i64 y.id) := ((hnr.trans hnq).cells.1 _ _ hbl5).trans (by have := hc5 _ y hy 0 _ rfl; simpa using this)
                have f2 : wr.cell? ⟨b6, off6 + i, none⟩ = some (.int .i64 y.id) := (hnq.cells.1 _ _ hbl6).trans (by have := hc6 _ y.id hz 0 _ rfl; simpa using this)
                have hbq5 : b5 < wr.heap.size := Nat.lt_of_lt_of_le hbl5 (hnr.trans hnq).size
                have hbq6 : b6 < wr.heap.size := Nat.lt_of_lt_of_le hbl6 hnq.size
                clear hc5 hc6 hy hz
                go_wp2_with fail
                go_quiet (fail)
                go_wp2_with fail
                go_roundw
                case rel => exact ⟨i + 1, by omega, by go_num, hnq.drewN _⟩
                case measure => simp [intOf]; omega
              · have hil' : ¬ (i : Int) < (E.length : Int) := by omega
                go_wp2_with fail
                go_ret
                exact ⟨rfl, (hN5.trans hnr).trans hnq⟩
          · have hful' : (W.length : Int) < (N : Int) := by omega
            have hfulN : W.length < N := by omega
            have hml : (m : Int) < (ids.length : Int) := by omega
            rcases hor with hor | ⟨b, off, rfl, hb, hc⟩
            · rw [hor] at hm; simp at hm
            obtain ⟨x, hx⟩ : ∃ x, ids[m]? = some x := ⟨_, List.getElem?_eq_getElem (by omega)⟩
            have hnwr := (hN5.trans hnr).cells.1
            have e1 : wr.cell? ⟨b, off + m, none⟩ = some (.int .i64 x) := (hnwr _ _ hb).trans (by have := hc _ x hx 0 _ rfl; simpa using this)
            have hbr : b < wr.heap.size := Nat.lt_of_lt_of_le hb (hN5.trans hnr).size
            have HX := Lib.hid hx
            have HO := Lib.hid ho
            have HWD := Lib.hid hWd
            clear hc hx hnwr ho hWd
            go_wp2_with fail
            obtain ⟨wo, rfl⟩ : ∃ wo, wo = wr := ⟨_, rfl⟩
            go_loopw [12, 13] (fun u12 u13 wr => ∃ q : Nat, q ≤ W.length ∧ u13 = .int .i64 q ∧ u12 = .bool (decide (x ∈ W.take q)) ∧ New wo wr) (fun _ u13 _ => W.length - (intOf u13).toNat)
            case atStart => exact ⟨0, by omega, rfl, by simp, New.refl _⟩
            case round =>
              obtain ⟨q, hq, rfl, rfl, hnq⟩ := hrel
              by_cases hql : q < W.length
              · have hql' : (q : Int) < (W.length : Int) := by omega
                have hq0 : (0 : Int) ≤ (q : Int) := by omega
                obtain ⟨y, hy⟩ : ∃ y, W[q]? = some y := ⟨_, List.getElem?_eq_getElem hql⟩
                obtain ⟨b6, off6, rfl, hbl6, hc6⟩ := hor6.resolve_left (by intro e; rw [e] at hql; simp at hql)
                have f1 : wr.cell? ⟨b, off + m, none⟩ = some (.int .i64 x) := (hnq.cells.1 _ _ hbr).trans e1
                have f2 : wr.cell? ⟨b6, off6 + q, none⟩ = some (.int .i64 y) := (hnq.cells.1 _ _ hbl6).trans (by have := hc6 _ y hy 0 _ rfl; simpa using this)
                have hbq : b < wr.heap.size := Nat.lt_of_lt_of_le hbr hnq.size
                have hbq6 : b6 < wr.heap.size := Nat.lt_of_lt_of_le hbl6 hnq.size
                by_cases hyx : y = x
                · have hst := has_step hy hyx
                  subst hyx
                  clear hc6 hy
                  generalize hB : decide (y ∈ W.take q) = B
                  cases B with
                  | true =>
                    go_wp2_with fail
                    go_quiet (fail)
                    go_wp2_with fail
                    go_roundw
                    case rel => exact ⟨q + 1, by omega, by go_num, by rw [hst] <;> simp [hyx], hnq.drewN _⟩
                    case measure => simp [intOf]; omega
                  | false =>
                    go_wp2_with fail
                    go_quiet (fail)
                    go_wp2_with fail
                    go_roundw
                    case rel => exact ⟨q + 1, by omega, by go_num, by rw [hst] <;> simp [hyx], hnq.drewN _⟩
                    case measure => simp [intOf]; omega
                · have hst := has_skip (x := x) hy hyx
                  clear hc6 hy
                  generalize hB : decide (x ∈ W.take q) = B
                  rw [hB] at hst
                  cases B with
                  | true =>
                    go_wp2_with fail
                    go_quiet (fail)
                    go_wp2_with fail
                    go_roundw
                    case rel => exact ⟨q + 1, by omega, by go_num, by rw [hst] <;> simp [hyx], hnq.drewN _⟩
                    case measure => simp [intOf]; omega
                  | false =>
                    go_wp2_with fail
                    go_quiet (fail)
                    go_wp2_with fail
                    go_roundw
                    case rel => exact ⟨q + 1, by omega, by go_num, by rw [hst] <;> simp [hyx], hnq.drewN _⟩
                    case measure => simp [intOf]; omega
              · have hql' : ¬ (q : Int) < (W.length : Int) := by omega
                obtain rfl : q = W.length := by omega
                rw [List.take_length]
                have e2 : wr.cell? ⟨b, off + m, none⟩ = some (.int .i64 x) := (hnq.cells.1 _ _ hbr).trans e1
                have hbq : b < wr.heap.size := Nat.lt_of_lt_of_le hbr hnq.size
                by_cases hin : x ∈ W
                · rw [show decide (x ∈ W) = true by simpa using hin]
                  go_wp2_with fail
                  go_roundw
                  case rel => exact ⟨_, m, W, rfl, by omega, rfl, HO.out.new hnq, by rw [drop_rev HX.out, ddl_snoc, ← HWD.out, ddS, if_pos hin], hWn, hnr.trans hnq⟩
                  case measure => simp [intOf]
                · rw [show decide (x ∈ W) = false by simpa using hin]
                  have HI := Lib.hid hin
                  have hyb := Blk.mk_new wr 3 #[.int .i64 x]
                  have hoy := (HO.out.new hnq).alloc (.cells #[.int .i64 x] 3)
                  have hny := (hnr.trans hnq).alloc (.cells #[.int .i64 x] 3)
                  have HM1 := Lib.hid (show W.length + [x].length ≤ maxLen by unfold maxLen; simp only [List.length_singleton]; omega)
                  have HM2 := Lib.hid (show (W.length + [x].length) * 8 ≤ 140737488355328 by simp only [List.length_singleton]; omega)
                  have HM3 := Lib.hid (show w5.heap.size ≤ (wr.alloc (.cells #[.int .i64 x] 3)).heap.size from hny.size)
                  clear hin
                  go_wp2_with (at_builtin; refine wpList_app iTy iEOk rfl _ _ rfl rfl rfl hoy (SlIn.one (x := x) hyb iEOk rfl) HM1.out HM2.out HM3.out ?_; intro v9 w9 ho9 hg9 hb9; have hN9 := hny.grown hg9 (fun k0 hk0 => hoy.blockGe k0 hk0))
                  go_roundw
                  case rel => exact ⟨_, m, W ++ [x], rfl, by omega, rfl, ho9, by rw [drop_rev HX.out, ddl_snoc, ← HWD.out, ddS, if_neg HI.out], by simp only [List.length_append, List.length_singleton]; omega, hN9⟩
                  case measure => simp [intOf]
end Go.Proofs.Ytdjnfnhmkfbfmaa
