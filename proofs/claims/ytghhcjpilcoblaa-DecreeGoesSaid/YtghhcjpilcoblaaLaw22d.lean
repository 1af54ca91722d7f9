/- The walk of the law DecreeGoes (chapter 22): for every input it answers true. -/
import Derived.Test.YtghhcjpilcoblaaDcG
import Derived.Test.YtghhcjpilcoblaaDgK
import Derived.Deep.DeepCutAuto
import Derived.Deep.CutBlock
namespace Go.Proofs.Ytghhcjpilcoblaa
open Go.RowKit Go.Lap
set_option linter.unusedVariables false
theorem da_atG {w : World} {acts : List DAct} {b off : Nat} (hc : ∀ k x, acts[k]? = some x → ∀ j u, (daE x)[j]? = some u → w.cell? ⟨b, off + k * 5 + j, none⟩ = some u) {k : Nat} {x : DAct} (hx : acts[k]? = some x) :
    w.cell? ⟨b, off + k * 5, none⟩ = some (.int .i64 x.k) ∧ w.cell? ⟨b, off + k * 5 + 1, none⟩ = some (.int .i64 x.i) ∧ w.cell? ⟨b, off + k * 5 + 2, none⟩ = some (.int .i64 x.a) ∧ w.cell? ⟨b, off + k * 5 + 3, none⟩ = some (.int .i64 x.t) ∧ w.cell? ⟨b, off + k * 5 + 4, none⟩ = some (.string x.v) :=
  ⟨by have := hc _ x hx 0 _ rfl; simpa using this, by have := hc _ x hx 1 _ rfl; simpa using this, by have := hc _ x hx 2 _ rfl; simpa using this, by have := hc _ x hx 3 _ rfl; simpa using this, by have := hc _ x hx 4 _ rfl; simpa using this⟩
theorem tickG_nat {n : Nat} {g : Gm} {i : Nat} (hi : i < n) : tickG n g (i : Int) = g.tick n i := (if_pos (show inN n (i : Int) from ⟨by omega, by omega⟩)).trans (by rw [Int.toNat_natCast])
theorem tickR_nat {n i : Nat} (hi : i < n) : tickR n (i : Int) = 0 := if_pos ⟨by omega, by omega⟩
theorem pendR_nat {n : Nat} {g : Gm} {i : Nat} (hi : i < n) : pendR n g (i : Int) = ((g.nd i).pe.length : Int) := (if_pos (show inN n (i : Int) from ⟨by omega, by omega⟩)).trans (by rw [Int.toNat_natCast])
theorem mem_log {x : Nod} {t : Nat} {v : ByteArray} (ht : t < x.first) (hv : x.lg t = some v) : v ∈ x.log := List.mem_map.2 ⟨t, List.mem_range.2 ht, by rw [hv]; rfl⟩
theorem log_get {x : Nod} (hx : IsFirst x.lg x.first) {t : Nat} (ht : t < x.first) : x.lg t = x.log[t]? := by
  obtain ⟨v, hv⟩ := isSome_get (hx.yes t ht)
  unfold Nod.log
  rw [List.getElem?_map, List.getElem?_range ht, Option.map_some, hv]; rfl
set_option maxRecDepth 100000 in
set_option maxHeartbeats 16000000 in
theorem decreeGoes_walk (n : Int) (acts : List DAct) (last : List ByteArray) (v v2 : Value) (w : World) (hl : acts.length ≤ maxLen) (hl2 : last.length ≤ maxLen) (hs : SlIn w 5 daE v acts) (hs2 : SlIn w 1 sEnc v2 last) :
    Calls Try.prog 6 #[.int .i64 n, v, v2] w fun e w' => e = .returned (.bool true) ∧ New w w' := by
  unfold maxLen at hl hl2
  obtain ⟨A, cp, hv, hcp, hor⟩ := _root_.id hs
  subst hv
  obtain ⟨A2, cp2, hv2, hcp2, hor2⟩ := _root_.id hs2
  subst hv2
  have Hor := Lib.hid hor
  have Hor2 := Lib.hid hor2
  clear hs hs2 hor hor2
  by_cases hn : 1 ≤ n ∧ n ≤ 7
  · obtain ⟨m, rfl⟩ : ∃ m : Nat, n = (m : Int) := ⟨n.toNat, by omega⟩
    obtain ⟨hm1, hm7⟩ : 1 ≤ m ∧ m ≤ 7 := by omega
    clear hn
    have HN := Lib.hid (st_new m hm1 hm7 w)
    go_enter Try.func6, Try.ntmps6
    go_wp2_with fail
    refine HN.out.mono ?_
    rintro e w1 ⟨gp, rfl, h1, hn1⟩
    have H1 := Lib.hid h1
    have HN1 := Lib.hid hn1
    clear h1 hn1
    go_wp2_with fail
    refine (awake22 _).mono ?_
    rintro e w2 ⟨rfl, hn2⟩
    have H2 := Lib.hid (H1.out.new hn2)
    have HN2 := Lib.hid (HN1.out.trans hn2)
    clear H1 HN1 hn2 HN
    go_upto_block 0 with fail
    -- the acts ahead
    go_cut [9] (fun s9 wx => ∃ g, GSt (fun j => w.heap.size ≤ j) wx m 102 gp g ∧ PH m 102 100 g ∧ New w wx)
    case first =>
      go_wp2_with fail
      go_loopw [9] (fun i wr => ∃ k : Nat, k ≤ acts.length ∧ k ≤ 100 ∧ i = .int .i64 (k : Int) ∧ ∃ g, GSt (fun j => w.heap.size ≤ j) wr m (k + 1) gp g ∧ PH m (k + 1) k g ∧ New w wr) (fun i _ => acts.length - (intOf i).toNat)
      case atStart => exact ⟨0, by omega, by omega, rfl, _, H2.out, PH.zero, HN2.out⟩
      case round =>
        clear H2 HN2
        obtain ⟨k, hk, hk1, rfl, g, hG, hP, hnw⟩ := hrel
        obtain ⟨wo, hwo⟩ : ∃ wo, wo = wr := ⟨_, rfl⟩
        subst hwo
        have HG := Lib.hid hG
        have HP := Lib.hid hP
        have HNW := Lib.hid hnw
        clear hG hP hnw
        by_cases hlt : k < acts.length ∧ k < 100
        · obtain ⟨hlt, hlt2⟩ := hlt
          have hlt' : (k : Int) < (acts.length : Int) := by omega
          have hlt2' : (k : Int) < 100 := by omega
          have hk0 : (0 : Int) ≤ (k : Int) := by omega
          rcases Hor.out with hor | ⟨b, off, rfl, hb, hc⟩
          · rw [hor] at hlt; simp at hlt
          obtain ⟨x, hx⟩ : ∃ x, acts[k]? = some x := ⟨_, List.getElem?_eq_getElem hlt⟩
          obtain ⟨e0, e1, e2, e3, e4⟩ := da_atG (w := wo) (fun k x h j u hu => (HNW.out.cells.1 _ _ hb).trans (hc k x h j u hu)) hx
          have hbl := Nat.lt_of_lt_of_le hb HNW.out.size
          have HDO := Lib.hid (do22 HG.out hm7 (by omega) (by omega) x)
          clear hc hx hb
          go_wp2_with fail
          refine HDO.out.mono ?_
          rintro e w5 ⟨rfl, h5, hu5⟩
          have H5 := Lib.hid h5
          have HP5 := Lib.hid (HP.out.do22 hm7 (by omega) x h5.ok)
          have HN5 := Lib.hid (HNW.out.upd hu5 fun _ h => h)
          clear h5 hu5
          go_wp2_with fail
          go_roundw
          case rel => exact ⟨k + 1, by omega, by omega, by go_num, _, H5.out, HP5.out, HN5.out⟩
          case measure => simp [intOf]; omega
        · have hcs : ¬ (k : Int) < (acts.length : Int) ∨ ((k : Int) < (acts.length : Int) ∧ ¬ (k : Int) < 100) := by omega
          have HP1 := Lib.hid (show ∃ g, GSt (fun j => w.heap.size ≤ j) wo m 102 gp g ∧ PH m 102 100 g ∧ New w wo from ⟨g, HG.out.mono (by omega), ⟨HG.out.ok.mono (by omega), HP.out.dj, HP.out.ci, by obtain ⟨Kl, q1, q2⟩ := HP.out.ki; exact ⟨Kl, q1, by omega⟩⟩, HNW.out⟩)
          clear hlt HP HG
          rcases hcs with hcs | ⟨hcs, hcs2⟩
          · go_wp2_with fail
            go_meet
            exact HP1.out
          · go_wp2_with fail
            go_meet
            exact HP1.out
    case rest =>
      clear H2 HN2
      obtain ⟨g, hG, hP, hnw⟩ := hcut
      have HG := Lib.hid hG
      have HNW := Lib.hid hnw
      have HLo := Lib.hid (st_lose hG (-1) (-1))
      have HCR := Lib.hid hP.lose
      clear hG hP hnw
      go_wp2_with fail
      refine HLo.out.mono ?_
      rintro e w5 ⟨rfl, h5, hu5⟩
      have H5 := Lib.hid h5
      have HN5 := Lib.hid (HNW.out.upd hu5 fun _ h => h)
      clear h5 hu5 HLo HG HNW
      go_upto_block 2 with fail
      go_cut [10] (fun s10 wx => ∃ g, GSt (fun j => w.heap.size ≤ j) wx m 200 gp g ∧ CR m 200 100 m g ∧ New w wx)
      case first =>
        go_wp2_with fail
        go_loopw [10] (fun i wr => ∃ c : Nat, 1 ≤ c ∧ c ≤ m ∧ i = .int .i64 (c : Int) ∧ ∃ g, GSt (fun j => w.heap.size ≤ j) wr m (102 + c) gp g ∧ CR m (102 + c) 100 c g ∧ New w wr) (fun i _ => m - (intOf i).toNat)
        case atStart => exact ⟨1, by omega, by omega, rfl, _, H5.out, HCR.out, HN5.out⟩
        case round =>
          clear H5 HCR HN5
          obtain ⟨c, hc1, hcm, rfl, g, hG, hC, hnw⟩ := hrel
          obtain ⟨wo, hwo⟩ : ∃ wo, wo = wr := ⟨_, rfl⟩
          subst hwo
          have HG := Lib.hid hG
          have HC := Lib.hid hC
          have HNW := Lib.hid hnw
          clear hG hC hnw
          by_cases hlt : c < m
          · have hlt' : (c : Int) < (m : Int) := by omega
            have HDO := Lib.hid (st_crash HG.out (by omega) (c : Int))
            rw [show crashG m g (c : Int) = g.crash c from (if_pos (show inN m (c : Int) from ⟨by omega, by omega⟩)).trans (by rw [Int.toNat_natCast])] at HDO
            go_wp2_with fail
            refine HDO.out.mono ?_
            rintro e w5 ⟨rfl, h5, hu5⟩
            have H5 := Lib.hid h5
            have HN5 := Lib.hid (HNW.out.upd hu5 fun _ h => h)
            clear h5 hu5
            go_wp2_with fail
            go_roundw
            case rel => exact ⟨c + 1, by omega, by omega, by go_num, _, H5.out, HC.out.crash hm7 hlt hc1 (by omega), HN5.out⟩
            case measure => simp [intOf]; omega
          · have hlt' : ¬ (c : Int) < (m : Int) := by omega
            have hcm' : c = m := by omega
            have HE := Lib.hid (show ∃ g, GSt (fun j => w.heap.size ≤ j) wo m 200 gp g ∧ CR m 200 100 m g ∧ New w wo from ⟨g, HG.out.mono (by omega), by have h := HC.out; rw [hcm'] at h; exact { h with ok := h.ok.mono (by omega) }, HNW.out⟩)
            clear hcm'
            go_wp2_with fail
            go_meet
            exact HE.out
      case rest =>
        clear H5 HCR HN5
        obtain ⟨g, hG, hC, hnw⟩ := hcut
        have HQ := Lib.hid (QM.start hG hnw _ rfl)
        have HLA := Lib.hid (show LA m 200 100 [] g from ⟨hC, fun v hv => (nomatch hv)⟩)
        clear hG hC hnw
        go_upto_block 4 with fail
        go_cut [11, 12] (fun s11 s12 wx => ∃ P g, QM w wx m 400 gp s11 P g ∧ LA m 400 105 P g ∧ P.length ≤ 5)
        case first =>
          go_wp2_with fail
          go_loopw [11, 12] (fun p i wr => ∃ k : Nat, k ≤ last.length ∧ k ≤ 5 ∧ i = .int .i64 (k : Int) ∧ ∃ P g, QM w wr m (200 + k) gp p P g ∧ LA m (200 + k) (100 + k) P g ∧ P.length ≤ k) (fun _ i _ => last.length - (intOf i).toNat)
          case atStart => exact ⟨0, by omega, by omega, rfl, _, _, HQ.out, HLA.out, Nat.le_refl _⟩
          case round =>
            clear HQ HLA
            obtain ⟨k, hk, hk5, rfl, P, g, hM, hL, hP⟩ := hrel
            obtain ⟨wo, hwo⟩ : ∃ wo, wo = wr := ⟨_, rfl⟩
            subst hwo
            obtain ⟨pA, pc, rfl⟩ := hM.prow.shape
            have HM := Lib.hid hM
            have HL := Lib.hid hL
            have HP := Lib.hid hP
            clear hM hL hP
            by_cases hlt : k < last.length ∧ k < 5
            · obtain ⟨hlt, hlt2⟩ := hlt
              have hlt' : (k : Int) < (last.length : Int) := by omega
              have hlt2' : (k : Int) < 5 := by omega
              have hk0 : (0 : Int) ≤ (k : Int) := by omega
              rcases Hor2.out with hor | ⟨b, off, rfl, hb, hc⟩
              · rw [hor] at hlt; simp at hlt
              have HC := Lib.hid hc
              have HB := Lib.hid hb
              clear hc
              obtain ⟨x, hx⟩ : ∃ x, last[k]? = some x := ⟨_, List.getElem?_eq_getElem hlt⟩
              have HX := Lib.hid hx
              have e0 := str_at (w := wo) (fun k x h j u hu => (HM.out.nw.cells.1 _ _ hb).trans (HC.out k x h j u hu)) hx
              have hbl := Nat.lt_of_lt_of_le hb HM.out.nw.size
              clear hx hb
              have HPro := Lib.hid (HM.out.act fun F hF => st_propose hF (by omega) (0 : Int) x)
              have h00 : inN m 0 := ⟨by omega, by omega⟩
              by_cases hv : 1 ≤ x.size ∧ x.size ≤ 64
              · have hR : proposeR m (0 : Int) x = 0 := by unfold proposeR; rw [if_pos h00, if_pos hv]
                have hG : proposeG m g (0 : Int) x = g.propose 0 x := by unfold proposeG; rw [if_pos ⟨h00, hv⟩]; rfl
                rw [hR, hG] at HPro
                have HL2 := Lib.hid (HL.out.propose hm7 (by omega) hv)
                have HM1 := Lib.hid (show P.length + [x].length ≤ maxLen by have := HP.out; unfold maxLen; simp; omega)
                have HM2 := Lib.hid (show (P.length + [x].length) * 16 ≤ 140737488355328 by have := HP.out; simp; omega)
                clear hR hG hv h00
                go_wp2_with fail
                refine HPro.out.mono ?_
                rintro e w5 ⟨rfl, h5⟩
                have H5 := Lib.hid h5
                have e5 := str_at (w := w5) (fun k x h j u hu => (h5.nw.cells.1 _ _ HB.out).trans (HC.out k x h j u hu)) HX.out
                have hbl5 := Nat.lt_of_lt_of_le HB.out h5.nw.size
                clear h5 e0 hbl HPro
                go_wp2_with (at_builtin; refine wpList_appR strTy sEncOk rfl (.tmp 83) (.tmp 88) rfl rfl rfl (H5.out.prow.new ((New.refl _).alloc _)) (SlIn.one (x := x) (Blk.mk_new w5 _ _) sEncOk rfl) HM1.out HM2.out (Nat.le_trans H5.out.nw.size (by rw [World.size_alloc]; omega)) ?_; intro v2 w6 hr2 hg2 hb2)
                go_roundw
                case rel => exact ⟨k + 1, by omega, by omega, by go_num, P ++ [x], _, (H5.out.new ((New.refl _).alloc _)).append hr2 hg2 hb2, HL2.out, by have := HP.out; simp; omega⟩
                case measure => simp [intOf]; omega
              · have hR : proposeR m (0 : Int) x = 222 := by unfold proposeR; rw [if_pos h00, if_neg hv]
                have hG : proposeG m g (0 : Int) x = g := by unfold proposeG; rw [if_neg (fun h => hv h.2)]
                rw [hR, hG] at HPro
                clear hR hG hv h00
                go_wp2_with fail
                refine HPro.out.mono ?_
                rintro e w5 ⟨rfl, h5⟩
                have H5 := Lib.hid h5
                clear h5 e0 hbl HPro
                go_wp2_with fail
                go_roundw
                case rel => exact ⟨k + 1, by omega, by omega, by go_num, P, _, H5.out, HL.out.mono (by omega) (by omega), by have := HP.out; omega⟩
                case measure => simp [intOf]; omega
            · have hcs : ¬ (k : Int) < (last.length : Int) ∨ ((k : Int) < (last.length : Int) ∧ ¬ (k : Int) < 5) := by omega
              have HE := Lib.hid (show ∃ P' g, QM w wo m 400 gp (.slice pA P.length pc) P' g ∧ LA m 400 105 P' g ∧ P'.length ≤ 5 from ⟨P, g, HM.out.mono (by omega), HL.out.mono (by omega) (by omega), by have := HP.out; omega⟩)
              clear hlt HM HL HP
              rcases hcs with hcs | ⟨hcs, hcs2⟩
              · go_wp2_with fail
                go_meet
                exact HE.out
              · go_wp2_with fail
                go_meet
                exact HE.out
        case rest =>
          clear HQ HLA
          obtain ⟨P, g, hM, hL, hP5⟩ := hcut
          obtain ⟨pA, pc, rfl⟩ := hM.prow.shape
          have HM := Lib.hid hM
          obtain ⟨Kl, Kl2, hGI, hK2, hNU⟩ := hL.start (Nat.le_refl _)
          have HGI := Lib.hid hGI
          have HK2 := Lib.hid hK2
          have HNU := Lib.hid hNU
          have HP5 := Lib.hid hP5
          clear hM hL hGI hK2 hNU hP5
          go_upto_block 6 with fail
          go_cut [13] (fun s13 wx => ∃ g Kl2 Kl, QM w wx m 1000000 gp (.slice pA P.length pc) P g ∧ GI m 1000000 (fun _ => True) P Kl Kl2 g ∧ Kl2.length ≤ 526 ∧ (g.nd 0).pe = [])
          case first =>
            go_wp2_with fail
            go_loopw [13] (fun i wr => ∃ t : Nat, t ≤ 421 ∧ i = .int .i64 (t : Int) ∧ ∃ g Kl2 Kl, QM w wr m (400 + 501 * t) gp (.slice pA P.length pc) P g ∧ GI m (400 + t) (fun _ => True) P Kl Kl2 g ∧ Kl2.length ≤ 105 + t ∧ NU m Kl g (421 - t)) (fun i _ => 421 - (intOf i).toNat)
            case atStart => exact ⟨0, by omega, rfl, _, _, _, HM.out, HGI.out, HK2.out, HNU.out⟩
            case round =>
              clear HM HGI HK2 HNU
              obtain ⟨t, ht, rfl, g, Kl2, Kl, hM, hG, hK, hN⟩ := hrel
              obtain ⟨wo, hwo⟩ : ∃ wo, wo = wr := ⟨_, rfl⟩
              subst hwo
              have HM := Lib.hid hM
              have HG := Lib.hid hG
              have HK := Lib.hid hK
              have HN := Lib.hid hN
              have ht' : (t : Int) < 500 := by omega
              have HPe := Lib.hid (hM.pending 0)
              rw [show pendR m g 0 = ((g.nd 0).pe.length : Int) from pendR_nat (i := 0) (by omega)] at HPe
              clear hM hG hK hN
              by_cases hpe : (g.nd 0).pe = []
              · have HE := Lib.hid (show ∃ g Kl2 Kl, QM w wo m 1000000 gp (.slice pA P.length pc) P g ∧ GI m 1000000 (fun _ => True) P Kl Kl2 g ∧ Kl2.length ≤ 526 ∧ (g.nd 0).pe = [] from ⟨g, Kl2, Kl, HM.out.mono (by omega), { HG.out with ts := { HG.out.ts with ok := HG.out.ts.ok.mono (by omega) } }, by have := HK.out; omega, hpe⟩)
                have hl0 : ((g.nd 0).pe.length : Int) = 0 := by rw [hpe]; rfl
                rw [hl0] at HPe
                clear hpe hl0 HM HG HK HN
                go_wp2_with (go_at_call 24; refine HPe.out.mono ?_; rintro e wq ⟨rfl, hwq⟩; subst wq)
                go_meet
                exact HE.out
              · have hpos := HN.out.pos hpe
                have ht2 : t < 421 := by omega
                have hlp : (0 : Int) < ((g.nd 0).pe.length : Int) := by have := List.length_pos_iff.2 hpe; omega
                obtain ⟨L, hL⟩ : ∃ L : Int, ((g.nd 0).pe.length : Int) = L := ⟨_, rfl⟩
                rw [hL] at HPe hlp
                have HTi := Lib.hid (HM.out.act fun F hF => st_tick hF hm7 (by omega) 0)
                rw [show tickR m 0 = 0 from tickR_nat (i := 0) (by omega), show tickG m g 0 = g.tick m 0 from tickG_nat (i := 0) (by omega)] at HTi
                have HTu := Lib.hid (HG.out.turn hm7 (by omega) (by omega) hpe (N := 421 - (t + 1)) (by have := HN.out; rwa [show 421 - t = 421 - (t + 1) + 1 by omega] at this))
                clear hL hpe hpos
                go_wp2_with (go_at_call 24; refine HPe.out.mono ?_; rintro e wq ⟨rfl, hwq⟩; subst wq)
                refine HTi.out.mono ?_
                rintro e w5 ⟨rfl, h5⟩
                have HRu := Lib.hid (h5.run hm7 500 (by omega))
                clear h5
                go_wp2_with fail
                refine HRu.out.mono ?_
                rintro e w6 ⟨rfl, h6⟩
                have H6 := Lib.hid h6
                clear h6 HRu
                have HE := Lib.hid (show ∃ g Kl2 Kl, QM w w6 m (400 + 501 * (t + 1)) gp (.slice pA P.length pc) P g ∧ GI m (400 + (t + 1)) (fun _ => True) P Kl Kl2 g ∧ Kl2.length ≤ 105 + (t + 1) ∧ NU m Kl g (421 - (t + 1)) from by
                  obtain ⟨Kl', q1, q2⟩ := HTu.out
                  exact ⟨_, _, Kl', H6.out.mono (by omega), q1, by have := HK.out; rw [List.length_cons]; omega, q2⟩)
                clear H6 HTu HM HG HK HN
                go_wp2_with fail
                go_roundw
                case rel => exact ⟨t + 1, by omega, by go_num, HE.out⟩
                case measure => simp [intOf]; omega
          case rest =>
            clear HM HGI HK2 HNU
            obtain ⟨g, Kl2, Kl, hM, hG, hK, hpe⟩ := hcut
            have HM := Lib.hid hM
            have HG := Lib.hid hG
            have HLg := Lib.hid (hM.log (by omega) 0)
            have HN := Lib.hid (show (g.nd 0).first ≤ 1000 by have := hG.first_le (by omega) (by omega); omega)
            have hf := ((hG.ts.ok.nd 0 (by omega)).first (B := 1000000) (by omega)).1
            have HF := Lib.hid hf
            have HMi := Lib.hid (show ∀ v ∈ P, v ∈ (g.nd 0).log from fun v hv => by
              rcases hG.hm v hv with h | ⟨t, ht, h⟩
              · rw [hpe] at h; cases h
              · exact mem_log ht h)
            have HAI := Lib.hid (hG.all hpe)
            have HPd := Lib.hid (show pendR m g 0 = 0 from (pendR_nat (i := 0) (by omega)).trans (by rw [hpe]; rfl))
            rw [show logR m g 0 = (g.nd 0).log from logR_nat (i := 0) (by omega)] at HLg
            clear hM hG hK hpe hf
            go_wp2_with fail
            refine HLg.out.mono ?_
            rintro e w5 ⟨v5, rfl, h5, hn5⟩
            obtain ⟨l, hl⟩ : ∃ l, (g.nd 0).log = l := ⟨_, rfl⟩
            have HLo := Lib.hid hl
            have HLl := Lib.hid (show l.length = (g.nd 0).first by rw [← hl]; exact log_len _)
            rw [hl] at h5 HMi
            have HM5 := Lib.hid (HM.out.new hn5)
            have HML := Lib.hid (HM.out.take hn5 h5)
            clear hl hn5 HLg HM
            obtain ⟨lA, lc, rfl⟩ := h5.shape
            clear h5
            go_upto_block 8 with fail
            go_cut [15] (fun s15 wx => New w5 wx)
            case first =>
              go_wp2_with fail
              go_loopw [15] (fun i wr => ∃ k : Nat, k ≤ P.length ∧ i = .int .i64 (k : Int) ∧ New w5 wr) (fun i _ => P.length - (intOf i).toNat)
              case atStart => exact ⟨0, Nat.zero_le _, rfl, New.refl _⟩
              case round =>
                obtain ⟨k, hk, rfl, hnr⟩ := hrel
                obtain ⟨wo, hwo⟩ : ∃ wo, wo = wr := ⟨_, rfl⟩
                subst hwo
                have HNR := Lib.hid hnr
                clear hnr
                by_cases hlt : k < P.length
                · have hlt' : (k : Int) < (P.length : Int) := by omega
                  have hk0 : (0 : Int) ≤ (k : Int) := by omega
                  have hsm : (k : Int) < 1000000000 := by have := HP5.out; omega
                  have hsl := (HM5.out.prow.new HNR.out).slIn sEncOk
                  obtain ⟨B2, c2, hv2, hlc2, hor2⟩ := hsl
                  injection hv2 with q1 q2 q3
                  subst q1
                  subst q3
                  clear q2
                  rcases hor2 with hor2 | ⟨b5, off5, rfl, hb5, hc5⟩
                  · rw [hor2] at hlt; simp at hlt
                  obtain ⟨y, hy⟩ : ∃ y, P[k]? = some y := ⟨_, List.getElem?_eq_getElem hlt⟩
                  have e5 := str_at (w := wo) hc5 hy
                  have HY := Lib.hid (show hasL l y = true from hasL_iff.2 (HMi.out y (List.mem_of_getElem? hy)))
                  clear hy hc5
                  go_wp2_with fail
                  refine (has22 (l := l) ((HML.out.prow.new HNR.out).slIn sEncOk) y (by have := HLl.out; have := HN.out; omega)).mono ?_
                  rintro e w8 ⟨rfl, hn8⟩
                  rw [HY.out]
                  have HN8 := Lib.hid (HNR.out.trans hn8)
                  clear hn8
                  go_wp2_with fail
                  go_roundw
                  case rel => exact ⟨k + 1, by omega, by go_num, HN8.out⟩
                  case measure => simp [intOf]; omega
                · have hlt' : ¬ (k : Int) < (P.length : Int) := by omega
                  go_wp2_with fail
                  go_meet
                  exact HNR.out
            case rest =>
              have HNc := Lib.hid hcut
              clear hcut
              have HPe := Lib.hid ((HML.out.new HNc.out).pending 0)
              rw [HPd.out] at HPe
              have HOT := Lib.hid (OT.start HAI.out HG.out.dj)
              have HQ := Lib.hid (HML.out.new HNc.out)
              clear HM5 HML HNc HMi
              go_upto_block 10 with (go_at_call 24; refine HPe.out.mono ?_; rintro e wq ⟨rfl, hwq⟩; subst wq)
              go_cut [16, 17] (fun s16 s17 wx => ∃ g', QM w wx m 2000000 gp (.slice lA l.length lc) l g' ∧ OT m 2000000 (g.nd 0).first 200 1 g' ∧ LgUp g g')
              case first =>
                go_wp2_with fail
                go_loopw [16, 17] (fun i _ wr => ∃ t : Nat, t ≤ 200 ∧ i = .int .i64 (t : Int) ∧ ∃ g', QM w wr m (1000000 + 3507 * t) gp (.slice lA l.length lc) l g' ∧ OT m (1000000 + 7 * t) (g.nd 0).first t 1 g' ∧ LgUp g g') (fun i _ _ => 200 - (intOf i).toNat)
                case atStart => exact ⟨0, by omega, rfl, g, HQ.out, HOT.out, LgUp.refl g⟩
                case round =>
                  clear HQ HOT
                  obtain ⟨t, ht, rfl, g', hM, hO, hu⟩ := hrel
                  obtain ⟨wo, hwo⟩ : ∃ wo, wo = wr := ⟨_, rfl⟩
                  subst hwo
                  have HM := Lib.hid hM
                  have HO := Lib.hid hO
                  have HU := Lib.hid hu
                  clear hM hO hu
                  by_cases hlt : t < 200
                  · have hlt' : (t : Int) < 200 := by omega
                    go_wp2_with fail
                    go_loopw [17] (fun i wr => ∃ c : Nat, 1 ≤ c ∧ c ≤ m ∧ i = .int .i64 (c : Int) ∧ ∃ g', QM w wr m (1000000 + 3507 * t + 501 * c) gp (.slice lA l.length lc) l g' ∧ OT m (1000000 + 7 * t + c) (g.nd 0).first t c g' ∧ LgUp g g') (fun i _ => m - (intOf i).toNat)
                    case atStart => exact ⟨1, by omega, by omega, rfl, g', HM.out.mono (by omega), HO.out.mono (by omega), HU.out⟩
                    case round =>
                      clear HM HO HU
                      obtain ⟨c, hc1, hcm, rfl, g', hM, hO, hu⟩ := hrel
                      obtain ⟨wb, hwb⟩ : ∃ wb, wb = wr := ⟨_, rfl⟩
                      subst hwb
                      have HM := Lib.hid hM
                      have HO := Lib.hid hO
                      have HU := Lib.hid hu
                      clear hM hO hu
                      by_cases hcl : c < m
                      · have hcl' : (c : Int) < (m : Int) := by omega
                        have HTi := Lib.hid (HM.out.act fun F hF => st_tick hF hm7 (by omega) (c : Int))
                        rw [tickR_nat hcl, tickG_nat hcl] at HTi
                        have HO2 := Lib.hid (HO.out.turn hm7 hc1 hcl (by omega) (f := 500) (by omega))
                        have HU2 := Lib.hid (HU.out.trans ((LgUp.tick g' m c).trans (runG_lg m 500 _)))
                        go_wp2_with fail
                        refine HTi.out.mono ?_
                        rintro e w6 ⟨rfl, h6⟩
                        have HRu := Lib.hid (h6.run hm7 500 (by omega))
                        clear h6
                        go_wp2_with fail
                        refine HRu.out.mono ?_
                        rintro e w7 ⟨rfl, h7⟩
                        have H7 := Lib.hid h7
                        clear h7 HRu HTi HM HO HU
                        go_wp2_with fail
                        go_roundw
                        case rel => exact ⟨c + 1, by omega, by omega, by go_num, _, H7.out.mono (by omega), HO2.out.mono (by omega), HU2.out⟩
                        case measure => simp [intOf]; omega
                      · have hcl' : ¬ (c : Int) < (m : Int) := by omega
                        have HE := Lib.hid (show QM w wb m (1000000 + 3507 * (t + 1)) gp (.slice lA l.length lc) l g' ∧ OT m (1000000 + 7 * (t + 1)) (g.nd 0).first (t + 1) 1 g' ∧ LgUp g g' from ⟨HM.out.mono (by omega), by
                          have hcm' : c = m := by omega
                          have h := HO.out
                          rw [hcm'] at h
                          exact h.next.mono (by omega), HU.out⟩)
                        clear HM HO HU
                        go_wp2_with fail
                        go_roundw
                        case rel => exact ⟨t + 1, by omega, by go_num, _, HE.out⟩
                        case measure => simp [intOf]; omega
                  · have hlt' : ¬ (t : Int) < 200 := by omega
                    have HE := Lib.hid (show ∃ g', QM w wo m 2000000 gp (.slice lA l.length lc) l g' ∧ OT m 2000000 (g.nd 0).first 200 1 g' ∧ LgUp g g' from ⟨g', HM.out.mono (by omega), by
                      have ht2 : t = 200 := by omega
                      have h := HO.out
                      rw [ht2] at h
                      exact h.mono (by omega), HU.out⟩)
                    clear HM HO HU
                    go_wp2_with fail
                    go_meet
                    exact HE.out
              case rest =>
                clear HQ HOT
                obtain ⟨g', hM, hO, hu⟩ := hcut
                have HM := Lib.hid hM
                have HPf := Lib.hid (show ∀ k, k < m → 1 ≤ k → l <+: (g'.nd k).log from fun k hk hk1 => hO.prefix_ (by omega) (by omega) (by have := HN.out; omega) HLl.out (fun t ht => by
                  have h1 := log_get HF.out ht
                  obtain ⟨y, hy⟩ := isSome_get (HF.out.yes t ht)
                  rw [hu 0 t y hy, ← hy, h1, HLo.out]) hk hk1)
                have HLs := Lib.hid (show ∀ k, k < m → (g'.nd k).log.length ≤ 1000000000 from fun k hk => by have := log_small hO.ai.ok (by omega) hk; omega)
                clear hM hO hu
                go_wp2_with fail
                go_loopw [18] (fun i wr => ∃ c : Nat, 1 ≤ c ∧ c ≤ m ∧ i = .int .i64 (c : Int) ∧ New wc wr) (fun i _ => m - (intOf i).toNat)
                case atStart => exact ⟨1, by omega, by omega, rfl, New.refl _⟩
                case round =>
                  obtain ⟨c, hc1, hcm, rfl, hnr⟩ := hrel
                  obtain ⟨wo, hwo⟩ : ∃ wo, wo = wr := ⟨_, rfl⟩
                  subst hwo
                  have HNR := Lib.hid hnr
                  clear hnr
                  by_cases hcl : c < m
                  · have hcl' : (c : Int) < (m : Int) := by omega
                    have HLk := Lib.hid ((HM.out.new HNR.out).log (by omega) (c : Int))
                    rw [logR_nat hcl] at HLk
                    have HPc := Lib.hid (HPf.out c hcl hc1)
                    have HLc := Lib.hid (HLs.out c hcl)
                    go_wp2_with fail
                    refine HLk.out.mono ?_
                    rintro e w6 ⟨v6, rfl, h6, hn6⟩
                    have H6 := Lib.hid (h6.slIn sEncOk)
                    have HN6 := Lib.hid (HNR.out.trans hn6)
                    clear h6 hn6
                    go_wp2_with fail
                    refine (prefix22 (a := l) (b := (g'.nd c).log) ((HM.out.prow.new HN6.out).slIn sEncOk) H6.out (by have := HLl.out; have := HN.out; omega) HLc.out).mono ?_
                    rintro e w7 ⟨rfl, hn7⟩
                    rw [decide_eq_true HPc.out]
                    have HN7 := Lib.hid (HN6.out.trans hn7)
                    clear hn7
                    go_wp2_with fail
                    go_roundw
                    case rel => exact ⟨c + 1, by omega, by omega, by go_num, HN7.out⟩
                    case measure => simp [intOf]; omega
                  · have hcl' : ¬ (c : Int) < (m : Int) := by omega
                    go_wp2_with fail
                    go_ret
                    exact ⟨rfl, HM.out.nw.trans HNR.out⟩
  · have HN := Lib.hid (gnew_no n hn w)
    clear hn
    go_enter Try.func6, Try.ntmps6
    go_wp2_with fail
    refine HN.out.mono ?_
    rintro e w1 ⟨rfl, hw1⟩
    subst w1
    go_wp2_with fail
    refine (awake22 _).mono ?_
    rintro e w2 ⟨rfl, hn2⟩
    have HN2 := Lib.hid hn2
    clear hn2
    go_wp2_with fail
    refine (awake22 _).mono ?_
    rintro e w3 ⟨rfl, hn3⟩
    have HN3 := Lib.hid (HN2.out.trans hn3)
    clear hn3
    go_wp2_with fail
    go_ret
    exact ⟨rfl, HN3.out⟩
end Go.Proofs.Ytghhcjpilcoblaa
