/- The walk of the law DecreeQuiet (chapter 22): for every input it answers true. -/
import Derived.Test.YtghhcjpilcoblaaDcQ
import Derived.Test.YtghhcjpilcoblaaDgK
import Derived.Deep.DeepCutAuto
namespace Go.Proofs.Ytghhcjpilcoblaa
open Go.RowKit Go.Lap
set_option linter.unusedVariables false
section
variable {n i j B : Nat} {g : Gm} {P : List ByteArray}
theorem QSt.zero (n i : Nat) : QSt n i [] 0 1 Gm.zero :=
  ⟨⟨GmOk.zero, fun k _ _ => ⟨rfl, rfl⟩, rfl, fun k t _ h => (nomatch h)⟩, fun k t _ => rfl, fun k t _ _ => rfl, rfl⟩
theorem QSt.propose (h : QSt n i P 0 B g) (hi : i < n) {v : ByteArray} (hv : 1 ≤ v.size ∧ v.size ≤ 64) : QSt n i (P ++ [v]) 0 (B + 1) (g.propose i v) := by
  have hlg : ∀ k, ((g.propose i v).nd k).lg = (g.nd k).lg := fun k => by
    show (set g.nd i { g.nd i with pe := (g.nd i).pe ++ [v] } k).lg = _
    by_cases hk : k = i
    · rw [hk, set_same]
    · rw [set_ne _ _ hk]
  refine ⟨⟨h.ts.ok.propose hi hv, fun k hk hki => ?_, h.ts.bg, fun k t hk hs t' ht' => ?_⟩, fun k t hk => ?_, fun k t hk ht => ?_, ?_⟩
  · show (set g.nd i _ k).pe = [] ∧ (set g.nd i _ k).nw = none
    rw [set_ne _ _ hki]; exact h.ts.idle k hk hki
  · rw [hlg] at hs
    obtain ⟨k', h1, h2⟩ := h.ts.ch k t hk hs t' ht'
    exact ⟨k', h1, by rw [hlg]; exact h2⟩
  · rw [hlg, h.lg k t hk, if_neg (by omega), if_neg (by omega)]
  · rw [← h.ac k t hk ht]
    show (set g.nd i { g.nd i with pe := (g.nd i).pe ++ [v] } k).acr t = _
    by_cases hk : k = i
    · rw [hk, set_same]; rfl
    · rw [set_ne _ _ hk]
  · show (set g.nd i { g.nd i with pe := (g.nd i).pe ++ [v] } i).pe = _
    rw [set_same]
    have := h.pe
    rw [List.drop_zero] at this ⊢
    show (g.nd i).pe ++ [v] = _
    rw [this]
theorem QSt.log (h : QSt n i P j B g) (hj : j ≤ P.length) (hB : B ≤ 1000000000) {k : Nat} (hk : k < n) : (g.nd k).log = P.take j := by
  have hs : (g.nd k).first = j := by
    refine ((h.ts.ok.nd k hk).first hB).1.unique ⟨?_, fun t ht => ?_⟩
    · rw [h.lg k j hk, if_neg (by omega)]
    · rw [h.lg k t hk, if_pos ht, List.getElem?_eq_getElem (by omega)]; rfl
  unfold Nod.log
  rw [hs]
  refine List.ext_getElem? fun t => ?_
  rw [List.getElem?_map, List.getElem?_take]
  by_cases ht : t < j
  · rw [if_pos ht, List.getElem?_range ht, Option.map_some, h.lg k t hk, if_pos ht, List.getElem?_eq_getElem (by omega)]; rfl
  · rw [if_neg ht, List.getElem?_eq_none (by rw [List.length_range]; omega)]; rfl
theorem QSt.pend (h : QSt n i P j B g) (hi : i < n) : pendR n g (i : Int) = ((P.length - j : Nat) : Int) := by
  unfold pendR
  rw [if_pos (show inN n (i : Int) from ⟨by omega, by omega⟩), Int.toNat_natCast, h.pe, List.length_drop]
end
set_option maxRecDepth 100000 in
set_option maxHeartbeats 16000000 in
theorem decreeQuiet_walk (n nd : Int) (l : List ByteArray) (v : Value) (w : World) (hl : l.length ≤ maxLen) (hs : SlIn w 1 sEnc v l) :
    Calls Try.prog 4 #[.int .i64 n, .int .i64 nd, v] w fun e w' => e = .returned (.bool true) ∧ New w w' := by
  unfold maxLen at hl
  obtain ⟨A, cp, hv, hcp, hor⟩ := _root_.id hs
  subst hv
  clear hs
  by_cases hn : 1 ≤ n ∧ n ≤ 7
  · obtain ⟨m, rfl⟩ : ∃ m : Nat, n = (m : Int) := ⟨n.toNat, by omega⟩
    obtain ⟨hm1, hm7⟩ : 1 ≤ m ∧ m ≤ 7 := by omega
    clear hn
    have HN := Lib.hid (st_new m hm1 hm7 w)
    by_cases hl30 : l.length ≤ 30
    · have hl30' : decide ((30 : Int) < (l.length : Int)) = false := decide_eq_false (by omega)
      go_enter Try.func4, Try.ntmps4
      go_wp2_with fail
      refine HN.out.mono ?_
      rintro e w1 ⟨gp, rfl, h1, hn1⟩
      have H1 := Lib.hid h1
      have HN1 := Lib.hid hn1
      clear h1 hn1
      go_wp2_with fail
      refine (awake22 _).mono ?_
      rintro e w2 ⟨rfl, hn2⟩
      have H2 := Lib.hid (H1.out.new hn2)
      have HN2 := Lib.hid (HN1.out.trans hn2)
      clear H1 HN1 hn2 HN
      by_cases hnd : 0 ≤ nd ∧ nd < (m : Int)
      · obtain ⟨i, rfl⟩ : ∃ i : Nat, nd = (i : Int) := ⟨nd.toNat, by omega⟩
        have hi : i < m := by omega
        have hi' : decide ((m : Int) ≤ (i : Int)) = false := decide_eq_false (by omega)
        have hi0 : decide ((i : Int) < 0) = false := decide_eq_false (by omega)
        have hi2 : decide (m ≤ i) = false := decide_eq_false (by omega)
        clear hnd
        go_wp2_with fail
        have HQ0 := Lib.hid (QM.start H2.out HN2.out _ rfl)
        clear H2 HN2
        have Hor := Lib.hid hor
        clear hor
        go_loopw [9, 10, 11, 12] (fun p k _ _ wr => ∃ kk : Nat, kk ≤ l.length ∧ k = .int .i64 (kk : Int) ∧ ∃ P g, QM w wr m (kk + 1) gp p P g ∧ QSt m i P 0 (kk + 1) g ∧ P.length ≤ kk) (fun _ k _ _ _ => l.length - (intOf k).toNat)
        case atStart => exact ⟨0, Nat.zero_le _, rfl, _, _, HQ0.out, QSt.zero m i, Nat.le_refl _⟩
        case round =>
          obtain ⟨kk, hkk, rfl, P, g, hM, hQ, hP⟩ := hrel
          obtain ⟨wo, hwo⟩ : ∃ wo, wo = wr := ⟨_, rfl⟩
          subst hwo
          obtain ⟨pA, pc, rfl⟩ := hM.prow.shape
          have HM := Lib.hid hM
          have HQ := Lib.hid hQ
          have HP := Lib.hid hP
          clear hM hQ hP
          by_cases hlt : kk < l.length
          · have hlt' : (kk : Int) < (l.length : Int) := by omega
            have hk0 : (0 : Int) ≤ (kk : Int) := by omega
            rcases Hor.out with hor | ⟨b, off, rfl, hb, hc⟩
            · rw [hor] at hlt; simp at hlt
            have HC := Lib.hid hc
            have HB := Lib.hid hb
            clear Hor hc
            obtain ⟨x, hx⟩ : ∃ x, l[kk]? = some x := ⟨_, List.getElem?_eq_getElem hlt⟩
            have HX := Lib.hid hx
            have e0 := str_at (w := wo) (fun k x h j u hu => (HM.out.nw.cells.1 _ _ hb).trans (HC.out k x h j u hu)) hx
            have hbl := Nat.lt_of_lt_of_le hb HM.out.nw.size
            clear hx hb
            have HPro := Lib.hid (HM.out.act fun F hF => st_propose hF (by omega) (i : Int) x)
            by_cases hv : 1 ≤ x.size ∧ x.size ≤ 64
            · have hR : proposeR m (i : Int) x = 0 := by unfold proposeR; rw [if_pos (show inN m (i : Int) from ⟨by omega, by omega⟩), if_pos hv]
              have hG : proposeG m g (i : Int) x = g.propose i x := by unfold proposeG; rw [if_pos ⟨(show inN m (i : Int) from ⟨by omega, by omega⟩), hv⟩, Int.toNat_natCast]
              rw [hR, hG] at HPro
              have HQ2 := Lib.hid (HQ.out.propose hi hv)
              have hs1 : decide ((x.size : Int) < 1) = false := decide_eq_false (by omega)
              have hs2 : decide ((64 : Int) < (x.size : Int)) = false := decide_eq_false (by omega)
              have HL1 := Lib.hid (show P.length + [x].length ≤ maxLen by have := HP.out; unfold maxLen; simp; omega)
              have HL2 := Lib.hid (show (P.length + [x].length) * 16 ≤ 140737488355328 by have := HP.out; simp; omega)
              clear hR hG hv
              go_wp2_with fail
              refine HPro.out.mono ?_
              rintro e w5 ⟨rfl, h5⟩
              have H5 := Lib.hid h5
              have e5 := str_at (w := w5) (fun k x h j u hu => (h5.nw.cells.1 _ _ HB.out).trans (HC.out k x h j u hu)) HX.out
              have hbl5 := Nat.lt_of_lt_of_le HB.out h5.nw.size
              clear h5 e0 hbl HPro
              go_wp2_with (at_builtin; refine wpList_appR strTy sEncOk rfl (.tmp 114) (.tmp 119) rfl rfl rfl (H5.out.prow.new ((New.refl _).alloc _)) (SlIn.one (x := x) (Blk.mk_new w5 _ _) sEncOk rfl) HL1.out HL2.out (Nat.le_trans H5.out.nw.size (by rw [World.size_alloc]; omega)) ?_; intro v2 w6 hr2 hg2 hb2)
              go_roundw
              case rel => exact ⟨kk + 1, by omega, by go_num, P ++ [x], _, (H5.out.new ((New.refl _).alloc _)).append hr2 hg2 hb2, HQ2.out, by have := HP.out; simp; omega⟩
              case measure => simp [intOf]; omega
            · have hR : proposeR m (i : Int) x = 222 := by unfold proposeR; rw [if_pos (show inN m (i : Int) from ⟨by omega, by omega⟩), if_neg hv]
              have hG : proposeG m g (i : Int) x = g := by unfold proposeG; rw [if_neg (fun h => hv h.2)]
              rw [hR, hG] at HPro
              have hcs : decide ((x.size : Int) < 1) = true ∨ (decide ((x.size : Int) < 1) = false ∧ decide ((64 : Int) < (x.size : Int)) = true) := by
                by_cases h1 : (x.size : Int) < 1
                · exact .inl (decide_eq_true h1)
                · exact .inr ⟨decide_eq_false h1, decide_eq_true (by omega)⟩
              clear hR hG hv
              go_wp2_with fail
              refine HPro.out.mono ?_
              rintro e w5 ⟨rfl, h5⟩
              have H5 := Lib.hid h5
              have e5 := str_at (w := w5) (fun k x h j u hu => (h5.nw.cells.1 _ _ HB.out).trans (HC.out k x h j u hu)) HX.out
              have hbl5 := Nat.lt_of_lt_of_le HB.out h5.nw.size
              clear h5 e0 hbl HPro
              rcases hcs with hs1 | ⟨hs1, hs2⟩
              · go_wp2_with fail
                go_roundw
                case rel => exact ⟨kk + 1, by omega, by go_num, P, _, H5.out, ⟨⟨HQ.out.ts.ok.mono (Nat.le_succ _), HQ.out.ts.idle, HQ.out.ts.bg, HQ.out.ts.ch⟩, HQ.out.lg, HQ.out.ac, HQ.out.pe⟩, by have := HP.out; omega⟩
                case measure => simp [intOf]; omega
              · go_wp2_with fail
                go_roundw
                case rel => exact ⟨kk + 1, by omega, by go_num, P, _, H5.out, ⟨⟨HQ.out.ts.ok.mono (Nat.le_succ _), HQ.out.ts.idle, HQ.out.ts.bg, HQ.out.ts.ch⟩, HQ.out.lg, HQ.out.ac, HQ.out.pe⟩, by have := HP.out; omega⟩
                case measure => simp [intOf]; omega
          · have hlt' : ¬ (kk : Int) < (l.length : Int) := by omega
            have hPl : P.length ≤ 30 := by have := HP.out; omega
            have HM1 := Lib.hid (HM.out.mono (C := 40) (by omega))
            have HQ1 := Lib.hid (show QSt m i P 0 40 g from ⟨⟨HQ.out.ts.ok.mono (by omega), HQ.out.ts.idle, HQ.out.ts.bg, HQ.out.ts.ch⟩, HQ.out.lg, HQ.out.ac, HQ.out.pe⟩)
            have hpc := (HM1.out.prow.slIn sEncOk).cap_le.1
            clear HM HQ
            go_wp2_with fail
            go_loopw [13, 14] (fun k _ wr => ∃ kk : Nat, kk ≤ P.length ∧ k = .int .i64 (kk : Int) ∧ ∃ g, QM w wr m (40 + 1001 * kk) gp (.slice pA P.length pc) P g ∧ QSt m i P kk (40 + kk) g) (fun k _ _ => P.length - (intOf k).toNat)
            case atStart => exact ⟨0, Nat.zero_le _, rfl, g, HM1.out, HQ1.out⟩
            case round =>
              clear HM1 HQ1 hlt' hlt hkk HP
              obtain ⟨kk, hkk, rfl, g, hM, hQ⟩ := hrel
              obtain ⟨wb, hwb⟩ : ∃ wb, wb = wr := ⟨_, rfl⟩
              subst hwb
              have HM := Lib.hid hM
              have HQ := Lib.hid hQ
              have hpn := hQ.pend hi
              clear hM hQ
              by_cases hlt : kk < P.length
              · have hlt' : (kk : Int) < (P.length : Int) := by omega
                have hk0 : (0 : Int) ≤ (kk : Int) := by omega
                have HPe := Lib.hid (HM.out.pending (i : Int))
                rw [hpn, show ((P.length - kk : Nat) : Int) = (P.length : Int) - (kk : Int) by omega] at HPe
                clear hpn
                have HTi := Lib.hid (HM.out.act fun F hF => st_tick hF hm7 (by omega) (i : Int))
                rw [show tickR m (i : Int) = 0 from if_pos ⟨by omega, by omega⟩, show tickG m g (i : Int) = g.tick m i from (if_pos (show inN m (i : Int) from ⟨by omega, by omega⟩)).trans (by rw [Int.toNat_natCast])] at HTi
                go_wp2_with (first | (go_at_call 24; refine HPe.out.mono ?_; rintro e wq ⟨rfl, hwq⟩; subst wq) | (go_at_call 21; refine HTi.out.mono ?_; rintro e w5 ⟨rfl, h5⟩))
                have HRu := Lib.hid (h5.run hm7 1000 (by omega))
                clear h5 HTi HPe
                refine HRu.out.mono ?_
                rintro e w6 ⟨rfl, h6⟩
                have HM6 := Lib.hid h6
                have HQ6 := Lib.hid (quiet_turn HQ.out hlt hm7 hi (by omega) (f := 1000) (by omega))
                clear h6 HRu
                generalize runG m 1000 (g.tick m i) = g6 at *
                go_wp2_with fail
                go_loopw [14] (fun a wr => ∃ an : Nat, an ≤ m ∧ a = .int .i64 (an : Int) ∧ New w6 wr) (fun a _ => m - (intOf a).toNat)
                case atStart => exact ⟨0, Nat.zero_le _, rfl, New.refl _⟩
                case round =>
                  obtain ⟨an, han, rfl, hnr⟩ := hrel
                  obtain ⟨wc, hwc⟩ : ∃ wc, wc = wr := ⟨_, rfl⟩
                  subst hwc
                  have HNR := Lib.hid hnr
                  clear hnr
                  by_cases ham : an < m
                  · have ham' : (an : Int) < (m : Int) := by omega
                    have HLk := Lib.hid (show ∀ wx, New wc wx → Calls Try.prog 23 #[.pointer (some ⟨gp, 0, none⟩), .int .i64 (an : Int)] wx (LogPost wx (P.take (kk + 1))) from fun wx hx => by
                      have := (HM6.out.new (HNR.out.trans hx)).log (by omega) (an : Int)
                      rwa [logR_nat ham, HQ6.out.log (by omega) (by omega) ham] at this)
                    have HPS := Lib.hid (show ∀ wx, New wc wx → SlIn wx 1 sEnc (.slice pA (kk + 1) pc) (P.take (kk + 1)) from fun wx hx => ((HM6.out.prow.new (HNR.out.trans hx)).slIn sEncOk).take (by omega) (by omega))
                    have HSm := Lib.hid (show (P.take (kk + 1)).length ≤ 1000000000 by rw [List.length_take]; omega)
                    have HW := Lib.hid (show IntKind.i64.wrap ((kk : Int) + 1) = (kk : Int) + 1 from IntWalk.i64_in _ (by omega))
                    have HW2 := Lib.hid (show 0 ≤ (kk : Int) + 1 ∧ (kk : Int) + 1 ≤ (pc : Int) by omega)
                    have HW3 := Lib.hid (show ((kk : Int) + 1).toNat = kk + 1 by omega)
                    go_wp2_with fail
                    refine wp_region_held_drew (S := fun w' => New wc w') (by kernel_rfl) ((New.refl _).drew) (fun hHeld => ?_)
                    refine wpAnyH_take (i := 0) (oi := { dst := some 148, op := Op.move (Operand.tmp 7), type := 53, pos := "law.go:172", after := #[], guard := none }) (v := ?_) rfl (by kernel_rfl) (by kernel_rfl) (by kernel_rfl) (fun _ _ _ h => h) (Or.inl ⟨by rfl, ?_⟩) (by assumption) ?_
                    rotate_left
                    · (intro wq hSw; (try dsimp only at hSw); go_simp; first | done | with_reducible rfl)
                    try simp only [Act.put, List.setIfInBounds_toArray, List.set_cons_zero, List.set_cons_succ]
                    refine wpAnyH_take (i := 1) (oi := { dst := some 149, op := Op.move (Operand.tmp 14), type := 3, pos := "law.go:172", after := #[], guard := none }) (v := ?_) rfl (by kernel_rfl) (by kernel_rfl) (by kernel_rfl) (fun _ _ _ h => h) (Or.inl ⟨by rfl, ?_⟩) (by assumption) ?_
                    rotate_left
                    · (intro wq hSw; (try dsimp only at hSw); go_simp; first | done | with_reducible rfl)
                    try simp only [Act.put, List.setIfInBounds_toArray, List.set_cons_zero, List.set_cons_succ]
                    refine wpAnyH_take (i := 3) (oi := { dst := some 151, op := Op.move (Operand.tmp 9), type := 22, pos := "law.go:172", after := #[], guard := none }) (v := ?_) rfl (by kernel_rfl) (by kernel_rfl) (by kernel_rfl) (fun _ _ _ h => h) (Or.inl ⟨by rfl, ?_⟩) (by assumption) ?_
                    rotate_left
                    · (intro wq hSw; (try dsimp only at hSw); go_simp; first | done | with_reducible rfl)
                    try simp only [Act.put, List.setIfInBounds_toArray, List.set_cons_zero, List.set_cons_succ]
                    refine wpAnyH_take (i := 4) (oi := { dst := some 152, op := Op.move (Operand.tmp 13), type := 3, pos := "law.go:172", after := #[], guard := none }) (v := ?_) rfl (by kernel_rfl) (by kernel_rfl) (by kernel_rfl) (fun _ _ _ h => h) (Or.inl ⟨by rfl, ?_⟩) (by assumption) ?_
                    rotate_left
                    · (intro wq hSw; (try dsimp only at hSw); go_simp; first | done | with_reducible rfl)
                    try simp only [Act.put, List.setIfInBounds_toArray, List.set_cons_zero, List.set_cons_succ]
                    refine wpAnyH_take (i := 5) (oi := { dst := some 153, op := Op.binOp BinOp.add 3 (Operand.tmp 152) (Operand.const (Value.int IntKind.i64 1)) 3, type := 3, pos := "law.go:172", after := #[{ on := 4, ground := Ground.data }], guard := none }) (v := .int .i64 ((kk : Int) + 1)) rfl (by kernel_rfl) (by kernel_rfl) (by kernel_rfl) (fun _ _ _ h => h) (Or.inl ⟨by rfl, ?_⟩) (by assumption) ?_
                    · (intro wq hSw; (try dsimp only at hSw); go_simp; first | done | (rw [HW.out]))
                    try simp only [Act.put, List.setIfInBounds_toArray, List.set_cons_zero, List.set_cons_succ]
                    refine wpAnyH_take (i := 6) (oi := { dst := some 154, op := Op.slice 22 (Operand.tmp 151) none (some (Operand.tmp 153)) none, type := 22, pos := "law.go:172", after := #[{ on := 3, ground := Ground.data }, { on := 5, ground := Ground.data }], guard := none }) (v := .slice pA (kk + 1) pc) rfl (by kernel_rfl) (by kernel_rfl) (by kernel_rfl) (fun _ _ _ h => h) (Or.inl ⟨by rfl, ?_⟩) (by assumption) ?_
                    · (intro wq hSw; (try dsimp only at hSw); go_simp; first | done | (rw [if_pos HW2.out, HW3.out]) | (rw [HW3.out]) | (intro hbad; exact absurd (hbad HW2.out.1) (by have := HW2.out.2; omega)))
                    try simp only [Act.put, List.setIfInBounds_toArray, List.set_cons_zero, List.set_cons_succ]
                    refine wpAnyH_ready (rs := [2]) (by kernel_rfl) (by simp) ?_
                    refine AllReadyH.cons (o := { dst := some 150, op := Op.call { callee := Callee.value (Operand.func 23), args := #[Operand.tmp 148, Operand.tmp 149], argTypes := #[53, 3] }, type := 22, pos := "law.go:172", after := #[{ on := 0, ground := Ground.data }, { on := 1, ground := Ground.data }], guard := none }) rfl (fun K hK => ?_) AllReadyH.nil
                    go_simp
                    refine (HLk.out _ hHeld).mono ?_
                    rintro e w9 ⟨v9, rfl, h9, hn9⟩
                    have HV9 := Lib.hid (h9.slIn sEncOk)
                    refine hK.out _ _ ?_ (fun hHeld => ?_)
                    · exact hHeld.trans hn9
                    clear hK K
                    try simp only [Act.put, List.setIfInBounds_toArray, List.set_cons_zero, List.set_cons_succ]
                    refine wpAnyH_ready (rs := [7]) (by kernel_rfl) (by simp) ?_
                    refine AllReadyH.cons (o := { dst := some 155, op := Op.call { callee := Callee.value (Operand.func 26), args := #[Operand.tmp 150, Operand.tmp 154], argTypes := #[22, 22] }, type := 4, pos := "law.go:172", after := #[{ on := 2, ground := Ground.data }, { on := 6, ground := Ground.data }, { on := 2, ground := Ground.chain }], guard := none }) rfl (fun K hK => ?_) AllReadyH.nil
                    go_simp
                    refine (same22 (a := P.take (kk + 1)) (b := P.take (kk + 1)) HV9.out (HPS.out _ hHeld) HSm.out HSm.out).mono ?_
                    rintro e w10 ⟨rfl, hn10⟩
                    rw [decide_eq_true rfl]
                    refine hK.out _ _ ?_ (fun hHeld => ?_)
                    · exact hHeld.trans hn10
                    clear hK K
                    try simp only [Act.put, List.setIfInBounds_toArray, List.set_cons_zero, List.set_cons_succ]
                    refine wpAnyH_take (i := 8) (oi := { dst := some 156, op := Op.unOp UnOp.not 4 (Operand.tmp 155), type := 4, pos := "law.go:172", after := #[{ on := 7, ground := Ground.data }], guard := none }) (v := ?_) rfl (by kernel_rfl) (by kernel_rfl) (by kernel_rfl) (fun _ _ _ h => h) (Or.inl ⟨by rfl, ?_⟩) (by assumption) ?_
                    rotate_left
                    · (intro wq hSw; (try dsimp only at hSw); go_simp; first | done | with_reducible rfl)
                    try simp only [Act.put, List.setIfInBounds_toArray, List.set_cons_zero, List.set_cons_succ]
                    refine wpAnyH_done (by kernel_rfl) ?_ _
                    have HN25 := Lib.hid hHeld
                    clear hHeld
                    go_wp2_with fail
                    go_roundw
                    case rel => exact ⟨an + 1, by omega, by go_num, HNR.out.trans HN25.out⟩
                    case measure => simp [intOf]; omega
                  · have ham' : ¬ (an : Int) < (m : Int) := by omega
                    go_wp2_with fail
                    go_roundw
                    case rel => exact ⟨kk + 1, by omega, by go_num, g6, (HM6.out.new HNR.out).mono (by omega), HQ6.out⟩
                    case measure => simp [intOf]; omega
              · have hlt' : ¬ (kk : Int) < (P.length : Int) := by omega
                have HPe := Lib.hid (HM.out.pending (i : Int))
                rw [hpn, show ((P.length - kk : Nat) : Int) = 0 by omega] at HPe
                clear hpn
                have HUn := Lib.hid (HM.out.under)
                rw [HQ.out.ts.bg] at HUn
                go_wp2_with (first | (go_at_call 24; refine HPe.out.mono ?_; rintro e wq ⟨rfl, hwq⟩; subst wq) | (go_at_call 27; refine HUn.out.mono ?_; rintro e wq ⟨rfl, hwq⟩; subst wq))
                go_ret
                exact ⟨rfl, HM.out.nw⟩
      · have hno : ¬ inN m nd := hnd
        have HNo := Lib.hid hno
        have hcs : decide (nd < 0) = true ∨ (decide (nd < 0) = false ∧ decide ((m : Int) ≤ nd) = true) := by
          by_cases h1 : nd < 0
          · exact .inl (decide_eq_true h1)
          · exact .inr ⟨decide_eq_false h1, decide_eq_true (by omega)⟩
        clear hnd hno
        rcases hcs with hc1 | ⟨hc1, hc2⟩
        · go_wp2_with fail
          refine (st_propose H2.out (by omega) nd ⟨#[120]⟩).mono ?_
          rintro e w3 ⟨rfl, h3, hu3⟩
          rw [show proposeG m Gm.zero nd ⟨#[120]⟩ = Gm.zero from if_neg (fun h => HNo.out h.1)] at h3
          rw [show proposeR m nd ⟨#[120]⟩ = 221 from if_neg HNo.out]
          have H3 := Lib.hid h3
          have HN3 := Lib.hid (HN2.out.upd hu3 fun _ h => h)
          clear h3 hu3
          go_wp2_with fail
          refine (st_tick H3.out hm7 (by omega) nd).mono ?_
          rintro e w4 ⟨rfl, h4, hu4⟩
          rw [show tickG m Gm.zero nd = Gm.zero from if_neg HNo.out] at h4
          rw [show tickR m nd = 221 from if_neg HNo.out]
          have H4 := Lib.hid h4
          have HN4 := Lib.hid (HN3.out.upd hu4 fun _ h => h)
          clear h4 hu4
          go_wp2_with fail
          refine (st_crash H4.out (by omega) nd).mono ?_
          rintro e w5 ⟨rfl, h5, hu5⟩
          rw [show crashG m Gm.zero nd = Gm.zero from if_neg HNo.out] at h5
          rw [show tickR m nd = 221 from if_neg HNo.out]
          have H5 := Lib.hid h5
          have HN5 := Lib.hid (HN4.out.upd hu5 fun _ h => h)
          clear h5 hu5
          go_wp2_with fail
          have hlg := st_log H5.out (by omega) nd
          rw [show logR m Gm.zero nd = [] from if_neg HNo.out] at hlg
          refine hlg.mono ?_
          rintro e w6 ⟨v6, rfl, h6, hn6⟩
          obtain ⟨A6, c6, rfl⟩ := h6.shape
          have H6 := Lib.hid (H5.out.new hn6)
          have HN6 := Lib.hid (HN5.out.trans hn6)
          clear h6 hn6
          go_wp2_with fail
          have hpd := st_pending H6.out nd
          rw [show pendR m Gm.zero nd = 0 from if_neg HNo.out] at hpd
          refine hpd.mono ?_
          rintro e wq ⟨rfl, hwq⟩
          subst wq
          go_wp2_with fail
          go_ret
          exact ⟨rfl, HN6.out⟩
        · go_wp2_with fail
          refine (st_propose H2.out (by omega) nd ⟨#[120]⟩).mono ?_
          rintro e w3 ⟨rfl, h3, hu3⟩
          rw [show proposeG m Gm.zero nd ⟨#[120]⟩ = Gm.zero from if_neg (fun h => HNo.out h.1)] at h3
          rw [show proposeR m nd ⟨#[120]⟩ = 221 from if_neg HNo.out]
          have H3 := Lib.hid h3
          have HN3 := Lib.hid (HN2.out.upd hu3 fun _ h => h)
          clear h3 hu3
          go_wp2_with fail
          refine (st_tick H3.out hm7 (by omega) nd).mono ?_
          rintro e w4 ⟨rfl, h4, hu4⟩
          rw [show tickG m Gm.zero nd = Gm.zero from if_neg HNo.out] at h4
          rw [show tickR m nd = 221 from if_neg HNo.out]
          have H4 := Lib.hid h4
          have HN4 := Lib.hid (HN3.out.upd hu4 fun _ h => h)
          clear h4 hu4
          go_wp2_with fail
          refine (st_crash H4.out (by omega) nd).mono ?_
          rintro e w5 ⟨rfl, h5, hu5⟩
          rw [show crashG m Gm.zero nd = Gm.zero from if_neg HNo.out] at h5
          rw [show tickR m nd = 221 from if_neg HNo.out]
          have H5 := Lib.hid h5
          have HN5 := Lib.hid (HN4.out.upd hu5 fun _ h => h)
          clear h5 hu5
          go_wp2_with fail
          have hlg := st_log H5.out (by omega) nd
          rw [show logR m Gm.zero nd = [] from if_neg HNo.out] at hlg
          refine hlg.mono ?_
          rintro e w6 ⟨v6, rfl, h6, hn6⟩
          obtain ⟨A6, c6, rfl⟩ := h6.shape
          have H6 := Lib.hid (H5.out.new hn6)
          have HN6 := Lib.hid (HN5.out.trans hn6)
          clear h6 hn6
          go_wp2_with fail
          have hpd := st_pending H6.out nd
          rw [show pendR m Gm.zero nd = 0 from if_neg HNo.out] at hpd
          refine hpd.mono ?_
          rintro e wq ⟨rfl, hwq⟩
          subst wq
          go_wp2_with fail
          go_ret
          exact ⟨rfl, HN6.out⟩
    · have hl30' : (30 : Int) < (l.length : Int) := by omega
      go_enter Try.func4, Try.ntmps4
      go_wp2_with fail
      refine HN.out.mono ?_
      rintro e w1 ⟨gp, rfl, h1, hn1⟩
      have HN1 := Lib.hid hn1
      clear h1 hn1
      go_wp2_with fail
      refine (awake22 _).mono ?_
      rintro e w2 ⟨rfl, hn2⟩
      have HN2 := Lib.hid (HN1.out.trans hn2)
      clear hn2
      go_wp2_with fail
      refine (awake22 _).mono ?_
      rintro e w3 ⟨rfl, hn3⟩
      have HN3 := Lib.hid (HN2.out.trans hn3)
      clear hn3
      go_wp2_with fail
      go_ret
      exact ⟨rfl, HN3.out⟩
  · have HN := Lib.hid (gnew_no n hn w)
    clear hn
    go_enter Try.func4, Try.ntmps4
    go_wp2_with fail
    refine HN.out.mono ?_
    rintro e w1 ⟨rfl, hw1⟩
    subst hw1
    go_wp2_with fail
    refine (awake22 _).mono ?_
    rintro e w2 ⟨rfl, hn2⟩
    have HN2 := Lib.hid hn2
    clear hn2
    go_wp2_with fail
    refine (awake22 _).mono ?_
    rintro e w3 ⟨rfl, hn3⟩
    have HN3 := Lib.hid (HN2.out.trans hn3)
    clear hn3
    go_wp2_with fail
    go_ret
    exact ⟨rfl, HN3.out⟩
end Go.Proofs.Ytghhcjpilcoblaa
