/- Chapter 24's reference: Scan. -/
import Derived.Test.YtecniafnihpjmaaGreatDoorRdC
namespace Go.Proofs.YtecniafnihpjmaaGreatDoor
open Go.RowKit Go.Lap C
set_option linter.unusedVariables false
set_option linter.unusedSimpArgs false
def keysP (P : List (Nat × Wri)) : List ByteArray := P.map fun p => p.2.key
theorem keysP_snoc (P : List (Nat × Wri)) (t : Nat) (y : Wri) : keysP (P ++ [(t, y)]) = keysP P ++ [y.key] := by unfold keysP; rw [List.map_append]; rfl
def RScanPost (w : World) (P : List (Nat × Wri)) (x : Rng) (e : Ending) (w' : World) : Prop := ∃ v, e = .returned v ∧ SlIn w' 2 celC v (docScan P x) ∧ New w w'
section
variable {w w' W : World}
theorem Row.celAt {w : World} {base : Nat} {v : Value} {l : List Cel} {i : Nat} {y : Cel} (h : Row w base 124 2 celC v l) (hy : l[i]? = some y) :
    ∃ g off c, v = .slice (some ⟨g, off, none⟩) l.length c ∧ w.cell? ⟨g, off + i * 2, none⟩ = some (.string y.key) ∧ w.cell? ⟨g, off + i * 2 + 1, none⟩ = some (.string y.val) ∧ g < w.heap.size ∧ l.length ≤ c := by
  obtain ⟨g, off, c, hv, _, hr⟩ := h.at_ (by intro e; rw [e] at hy; simp at hy)
  exact ⟨g, off, c, hv, hr.cell celOk hy (j := 0) rfl, hr.cell celOk hy (j := 1) rfl, hr.lt, hr.len.1⟩
/-- One more round of the search for a key's place: on, or it is found. -/
theorem posD_next {bk : Bool} {k : ByteArray} {out : List Cel} {i : Nat} (hi : i ≤ posD bk out k) : (i < posD bk out k ∧ ∃ y, out[i]? = some y ∧ lsD bk y.key k = true) ∨ (i = posD bk out k ∧ (i = out.length ∨ ∃ y, out[i]? = some y ∧ lsD bk y.key k = false)) := by
  have hp := posD_le bk out k
  by_cases h : i < posD bk out k
  · obtain ⟨y, hy⟩ : ∃ y, out[i]? = some y := ⟨_, List.getElem?_eq_getElem (by omega)⟩
    exact .inl ⟨h, y, hy, posD_lt h hy⟩
  · have e : i = posD bk out k := by omega
    refine .inr ⟨e, ?_⟩
    by_cases h2 : i = out.length
    · exact .inl h2
    · obtain ⟨y, hy⟩ : ∃ y, out[i]? = some y := ⟨_, List.getElem?_eq_getElem (by omega)⟩
      refine .inr ⟨y, hy, ?_⟩
      rw [e] at hy
      exact posD_at hy
theorem rowBase {α : Type} {w : World} {base e size : Nat} {enc : α → List Value} {A : Option Addr} {n c : Nat} {l : List α} (h : Row w base e size enc (.slice A n c) l) : (A = none ∧ n = 0 ∧ c = 0 ∧ l = []) ∨ ∃ g off, A = some ⟨g, off, none⟩ := by
  rcases h with ⟨hv, rfl⟩ | ⟨g, off, cap, cur, hv, _⟩
  · cases hv; exact .inl ⟨rfl, rfl, rfl, rfl⟩
  · cases hv; exact .inr ⟨g, off, rfl⟩
theorem addAt (g off k : Nat) : ((some ⟨g, off, none⟩ : Option Addr).map (·.add k)) = some ⟨g, off + k, none⟩ := by
  simp only [Option.map, Addr.add]
  split
  · rename_i hz; rw [hz]; rfl
  · rfl
theorem gt_facts {a b : ByteArray} (h : lsK b a = true) : Op.bytesLess a.toList b.toList = false ∧ (a.toList == b.toList) = false := by
  have h1 := le_or a b
  have h2 : Op.bytesLess b.toList a.toList = true := h
  rw [h2] at h1
  simpa using h1
theorem ngt_facts {a b : ByteArray} (h : lsK b a = false) : Op.bytesLess a.toList b.toList = true ∨ (Op.bytesLess a.toList b.toList = false ∧ (a.toList == b.toList) = true) := by
  have h1 := le_or a b
  have h2 : Op.bytesLess b.toList a.toList = false := h
  rw [h2] at h1
  cases h3 : Op.bytesLess a.toList b.toList with
  | true => exact .inl rfl
  | false => rw [h3] at h1; exact .inr ⟨rfl, by simpa using h1⟩
theorem insD_some {P : List (Nat × Wri)} {x : Rng} {out : List Cel} {k s : ByteArray} (hv : valR P x k = some s) (hf : freeD x.bk out k = true) :
    insD P x out k = out.take (posD x.bk out k) ++ [⟨k, s⟩] ++ out.drop (posD x.bk out k) := by
  unfold insD; rw [hv]; dsimp only; rw [if_pos hf]; simp
theorem insD_none {P : List (Nat × Wri)} {x : Rng} {out : List Cel} {k : ByteArray} (hv : valR P x k = none) : insD P x out k = out := by
  unfold insD; rw [hv]
theorem insD_full {P : List (Nat × Wri)} {x : Rng} {out : List Cel} {k : ByteArray} (hf : freeD x.bk out k = false) : insD P x out k = out := by
  unfold insD; split
  · rw [if_neg (by rw [hf]; simp)]
  · rfl
set_option maxRecDepth 100000 in
set_option maxHeartbeats 16000000 in
theorem refScan {v : Value} {l : List Btc} {x : Rng} (h : BtRow w 0 v l) (hl : l.length ≤ 1000) (hok : ∀ b ∈ l, b.l.length ≤ 1000) :
    Calls Tryz.prog 35 #[v, .agg (rngC x)] w (RScanPost w (wsUp l l.length) x) := by
  obtain ⟨A0, n0, rfl⟩ := h.shape
  have H := Lib.hid h
  have HOK := Lib.hid hok
  have HGX := Lib.hid ((Blk.mk_new w 77 (rngC x)).alloc (.cells #[] 124))
  have hrow := ((Row.empty (w.alloc (.cells (rngC x) 77)) 124 2 celC)).lower (b' := w.heap.size) (by rw [World.size_alloc]; omega)
  rw [World.size_alloc] at hrow
  have HROW := Lib.hid hrow
  have HN0 := Lib.hid (((New.refl w).alloc (.cells (rngC x) 77)).alloc (.cells #[] 124))
  clear h hok hrow
  obtain ⟨P, hP⟩ : ∃ P, P = wsUp l l.length := ⟨_, rfl⟩
  have HP := Lib.hid hP
  rw [← hP]
  clear hP
  unfold rngC at HGX HROW HN0 ⊢
  go_enter Tryz.func35, Tryz.ntmps35
  go_upto_region 2 with fail
  generalize (w.alloc (.cells #[.string x.fr, .string x.te, .bool x.op, .bool x.bk, .int .i64 x.lim] 77)).alloc (.cells #[] 124) = W at *
  go_wp2_with fail
  go_loopw [5, 6, 7, 8, 9, 10, 11, 12] (fun v i _ _ _ _ _ _ wr => ∃ k : Nat, k ≤ l.length ∧ i = .int .i64 (k : Int) ∧ Row wr w.heap.size 124 2 celC v (scanD P x (keysP (wsUp l k))) ∧ New W wr) (fun _ i _ _ _ _ _ _ _ => l.length - (intOf i).toNat)
  case atStart => exact ⟨0, by omega, rfl, HROW.out, New.refl _⟩
  case round =>
    obtain ⟨k, hk, rfl, hr, hn⟩ := hrel
    have HR := Lib.hid hr
    have HN := Lib.hid hn
    by_cases hlt : k < l.length
    · obtain ⟨b, hb⟩ : ∃ b, l[k]? = some b := ⟨_, List.getElem?_eq_getElem hlt⟩
      obtain ⟨g, off, cap, A, cp, hvv, hcap, hba, e0, e1, e2, e3', hg⟩ := H.out.at_ hb
      cases hvv
      have HBL := Lib.hid (HOK.out b (List.mem_of_getElem? hb))
      have HUP := Lib.hid (wsUp_next hb)
      have HKL : Hid (k < l.length ∧ l.length ≤ 1000 ∧ (wsUp l k).length ≤ k * 1000) := Lib.hid ⟨hlt, hl, wsUp_len (fun b hb => HOK.out b hb) k⟩
      obtain ⟨bc, br, bs, bl⟩ := b
      dsimp only at e0 e1 e2 e3' hba
      have HBA := Lib.hid hba
      have HE3 := Lib.hid (And.intro e3' hg)
      have i1 : (k : Int) < (l.length : Int) := by omega
      have i2 : (0 : Int) ≤ (k : Int) := by omega
      obtain ⟨vA, vn, vc, rfl⟩ := hr.shp
      clear hb hba e0 e1 e2 hr hn e3'
      go_wp2_with fail
      obtain ⟨wo, rfl⟩ : ∃ wo, wo = wr := ⟨_, rfl⟩
      go_loopw [5, 7, 8, 9, 10, 11, 12] (fun v i _ _ _ _ _ wr => ∃ j : Nat, j ≤ bl.length ∧ i = .int .i64 (j : Int) ∧ Row wr w.heap.size 124 2 celC v (scanD P x (keysP (wsUp l k ++ (bl.take j).map fun x => (k + 1, x)))) ∧ New W wr) (fun _ i _ _ _ _ _ _ => bl.length - (intOf i).toNat)
      case atStart => exact ⟨0, by omega, rfl, by rw [List.take_zero, List.map_nil, List.append_nil]; exact HR.out, HN.out⟩
      case round =>
        clear HR
        obtain ⟨j, hj, rfl, hr, hn⟩ := hrel
        have hNw := HN0.out.trans hn
        have c3 : wr.cell? ⟨g, off + k * 4 + 3, none⟩ = some (.slice A bl.length cp) := (hNw.cells.1 g _ HE3.out.2).trans HE3.out.1
        by_cases hjl : j < bl.length
        · obtain ⟨y, hy⟩ : ∃ y, bl[j]? = some y := ⟨_, List.getElem?_eq_getElem hjl⟩
          obtain ⟨A', cp', hv', _, hh⟩ := (HBA.out.new hNw).sl
          cases hv'
          rcases hh with h0 | ⟨gb, ob, cs, rfl, hbb, hc⟩
          · dsimp only at h0; rw [h0] at hjl; simp at hjl
          have hbl1 : bl.length ≤ 1000 := HBL.out
          have hj2 : (j : Int) < (bl.length : Int) := by omega
          have hj0 : (0 : Int) ≤ (j : Int) := by omega
          obtain ⟨d0, d1, d2⟩ := SlIn.three (fun k x h j u hu => (hbb.cell _).trans (hc k x h j u hu)) hy
          have HTK : Hid ((wsUp l k ++ (bl.take j).map fun x => (k + 1, x)) ++ [(k + 1, y)] = wsUp l k ++ (bl.take (j + 1)).map fun x => (k + 1, x)) := Lib.hid (by rw [take_snocW hy, List.map_append, List.append_assoc]; rfl)
          have HST : Hid (scanD P x (keysP (wsUp l k ++ (bl.take (j + 1)).map fun x => (k + 1, x))) = insD P x (scanD P x (keysP (wsUp l k ++ (bl.take j).map fun x => (k + 1, x)))) y.key) := Lib.hid (by rw [← HTK.out, keysP_snoc, scanD_snoc])
          have HOL : Hid ((scanD P x (keysP (wsUp l k ++ (bl.take j).map fun x => (k + 1, x)))).length ≤ 1001000) := Lib.hid (by
            have h0 := scanD_len P x (keysP (wsUp l k ++ (bl.take j).map fun x => (k + 1, x)))
            have h1 := HKL.out
            have h2 := HBL.out
            (try dsimp only at h2)
            unfold keysP at h0
            rw [List.length_map, List.length_append, List.length_map, List.length_take] at h0
            unfold keysP
            omega)
          generalize hout : scanD P x (keysP (wsUp l k ++ (bl.take j).map fun x => (k + 1, x))) = out at hr HST HOL
          obtain ⟨vA, vc, rfl⟩ := hr.shape
          have HR := Lib.hid hr
          have HN1 := Lib.hid hn
          obtain ⟨yk, yv, yg⟩ := y
          dsimp only at d0 d1 d2 HST
          clear hy hbb hc hr hn hout HTK
          have hval := refValue (H.out.new hNw) yk hl HOK.out
          rw [← HP.out] at hval
          go_wp2_with fail
          refine hval.mono ?_
          rintro e w5 ⟨rfl, hn5⟩
          have HN5 := Lib.hid hn5
          have HR5 := Lib.hid (HR.out.new hn5)
          have HN15 := Lib.hid (HN1.out.trans hn5)
          clear hval hn5 hNw c3 d0 d1 d2
          obtain ⟨x0, x1, x2, x3, x4, x5, xz⟩ := Blk5C (HGX.out.new HN15.out)
          have HBQ := Lib.hid (show w.heap.size ≤ w5.heap.size from Nat.le_trans HN0.out.size HN15.out.size)
          generalize hV : valP P yk = vo
          have HV := Lib.hid hV
          have hol := HOL.out
          clear hV
          go_wp2_with fail
          obtain ⟨wp, rfl⟩ : ∃ wp, wp = wr := ⟨_, rfl⟩
          go_loopw [11] (fun a wq => ∃ i : Nat, i ≤ posD x.bk out yk ∧ a = .int .i64 (i : Int) ∧ wq = w5) (fun a _ => out.length - (intOf a).toNat)
          case atStart => exact ⟨0, by omega, rfl, rfl⟩
          case round =>
            obtain ⟨i, hi, rfl, hw⟩ := hrel
            obtain ⟨wq, hwq⟩ : ∃ wq, wq = wr := ⟨_, rfl⟩
            have hw2 : w5 = wq := by rw [hwq, hw]
            clear hw
            subst hwq
            subst hw2
            have HRq := HR5
            have HNq := HN15
            have hpl := posD_le x.bk out yk
            have hvc := (show out.length ≤ vc from by obtain ⟨A_, c_, h1, h2, _⟩ := HRq.out.slIn celOk; cases h1; exact h2)
            have i0 : (0 : Int) ≤ (i : Int) := by omega
            have i9 : (i : Int) ≤ (vc : Int) := by omega
            have i8 : (i : Int) ≤ (out.length : Int) := by omega
            rcases posD_next hi with ⟨hlt', z, hz, hls⟩ | ⟨heq, hend⟩
            · obtain ⟨go, oo, co, hvo, z0, z1, hgo, hco⟩ := Row.celAt HRq.out hz
              cases hvo
              have i7 : (i : Int) < (out.length : Int) := by omega
              have HLT' := Lib.hid hlt'
              clear hz z1 hlt' hi
              rcases (show x.bk = false ∨ x.bk = true by cases x.bk <;> simp) with hbk | hbk
              · rw [hbk] at x4 hls
                have q0 : Op.bytesLess z.key.toList yk.toList = true := hls
                clear hls hbk
                go_wp2_with fail
                go_roundw
                case rel => exact ⟨i + 1, by have := HLT'.out; omega, by go_num, by first | trivial | rfl⟩
                case measure => simp [intOf]; omega
              · rw [hbk] at x4 hls
                obtain ⟨q0, q1⟩ := gt_facts (show lsK yk z.key = true from hls)
                clear hls hbk
                go_wp2_with fail
                go_roundw
                case rel => exact ⟨i + 1, by have := HLT'.out; omega, by go_num, by first | trivial | rfl⟩
                case measure => simp [intOf]; omega
            · have HPE := Lib.hid heq
              clear heq hi
              rcases hend with hend | ⟨z, hz, hls⟩
              · subst hend
                have i7 : ¬ (out.length : Int) < (out.length : Int) := by omega
                have i6 : ((out.length : Int) == (out.length : Int)) = true := by simp
                have hpe : posD x.bk out yk = out.length := HPE.out.symm
                have HFD := Lib.hid (show freeD x.bk out yk = true by unfold freeD; rw [hpe, List.getElem?_eq_none (by omega)])
                cases vo with
                | none =>
                  have HF := Lib.hid (insD_none (out := out) (show valR P x yk = none by unfold valR; rw [HV.out]; split <;> rfl))
                  clear hpe
                  go_wp2_with fail
                  go_roundw
                  case rel => exact ⟨j + 1, by omega, by go_num, by rw [HST.out, HF.out]; exact HRq.out, HNq.out⟩
                  case measure => simp [intOf]; omega
                | some s =>
                  cases hlo : lsK yk x.fr with
                  | true =>
                    have hlo2 : Op.bytesLess yk.toList x.fr.toList = true := hlo
                    have HF := Lib.hid (insD_none (out := out) (show valR P x yk = none by unfold valR Rng.has; rw [hlo]; rfl))
                    clear hlo hpe
                    go_wp2_with fail
                    go_roundw
                    case rel => exact ⟨j + 1, by omega, by go_num, by rw [HST.out, HF.out]; exact HRq.out, HNq.out⟩
                    case measure => simp [intOf]; omega
                  | false =>
                    have hlo2 : Op.bytesLess yk.toList x.fr.toList = false := hlo
                    rcases (show x.op = true ∨ x.op = false by cases x.op <;> simp) with hop | hop
                    · skip
                      have HVR := Lib.hid (show valR P x yk = some s by unfold valR Rng.has; rw [hlo, hop]; exact HV.out)
                      rw [hop] at x3
                      have HF := Lib.hid (insD_some HVR.out HFD.out)
                      rw [hpe] at HF
                      clear hlo hop hpe
                      rw [List.drop_length] at HF
                      rcases rowBase HRq.out with ⟨hA, hn, hc, ho⟩ | ⟨go, oo, hA⟩
                      · subst hA hc ho
                        have HE0 := Lib.hid (Row.empty w5 124 2 celC)
                        have HN0q := Lib.hid ((New.refl w5).alloc (.cells #[] 124))
                        have HS1 : Hid (SlIn (w5.alloc (.cells #[] 124)) 2 celC (.slice none 0 0) ([] : List Cel)) := Lib.hid ⟨none, 0, rfl, Nat.le_refl _, .inl rfl⟩
                        have HLT := Lib.hid (show ([] : List Cel).length ≤ 1001000 by decide)
                        have HLD := Lib.hid (show ([] : List Cel).length ≤ 1001000 by decide)
                        have HM1 := Lib.hid (show ([] : List Cel).length + ([] : List Cel).length ≤ maxLen by have := HLT.out; unfold maxLen; simp only [List.length_nil]; omega)
                        have HM2 := Lib.hid (show (([] : List Cel).length + ([] : List Cel).length) * 32 ≤ 140737488355328 by have := HLT.out; simp only [List.length_nil]; omega)
                        have HM3 := Lib.hid (show ([] ++ ([] : List Cel) : List Cel).length + [(⟨yk, s⟩ : Cel)].length ≤ maxLen by have := HLT.out; unfold maxLen; rw [List.nil_append, List.length_singleton]; omega)
                        have HM4 := Lib.hid (show (([] ++ ([] : List Cel) : List Cel).length + [(⟨yk, s⟩ : Cel)].length) * 32 ≤ 140737488355328 by have := HLT.out; rw [List.nil_append, List.length_singleton]; omega)
                        have HM5 := Lib.hid (show (([] ++ ([] : List Cel) : List Cel) ++ [(⟨yk, s⟩ : Cel)]).length + ([] : List Cel).length ≤ maxLen by have := HLT.out; have := HLD.out; unfold maxLen; rw [List.nil_append, List.length_append, List.length_singleton]; omega)
                        have HM6 := Lib.hid (show ((([] ++ ([] : List Cel) : List Cel) ++ [(⟨yk, s⟩ : Cel)]).length + ([] : List Cel).length) * 32 ≤ 140737488355328 by have := HLT.out; have := HLD.out; rw [List.nil_append, List.length_append, List.length_singleton]; omega)
                        have HBS := Lib.hid (show w5.heap.size ≤ (w5.alloc (.cells #[] 124)).heap.size by rw [World.size_alloc]; omega)
                        go_wp2_with (first
                          | (at_builtin; refine wpList_appR celTy celOk rfl (.tmp 110) (.tmp 113) rfl rfl rfl HE0.out HS1.out HM1.out HM2.out HBS.out ?_; intro v7 w7 ho7 hg7 hb7; obtain ⟨A7, n7, c7, hv7⟩ := ho7.shp; subst hv7; have HO7 := Lib.hid ho7; have HN7 := Lib.hid (HN0q.out.grown hg7 (fun q hq => (HE0.out.lt q hq).1)); have HNC := Lib.hid ((New.refl w7).alloc (.cells #[.string yk, .string s] 124)); have HS2 := Lib.hid (SlIn.one (x := (⟨yk, s⟩ : Cel)) (Blk.mk_new w7 124 #[.string yk, .string s]) celOk rfl); clear ho7 hg7 hb7)
                          | (at_builtin; refine wpList_appR celTy celOk rfl (.tmp 114) (.tmp 118) rfl rfl rfl (HO7.out.new HNC.out) HS2.out HM3.out HM4.out (Nat.le_trans HN7.out.size HNC.out.size) ?_; intro v8 w8 ho8 hg8 hb8; obtain ⟨A8, n8, c8, hv8⟩ := ho8.shp; subst hv8; have HO8 := Lib.hid ho8; have HN8 := Lib.hid ((HN7.out.trans HNC.out).grown hg8 (fun q hq => (HO7.out.lt q hq).1)); clear ho8 hg8 hb8)
                          | (at_builtin; refine wpList_appR (m := ([] : List Cel)) celTy celOk rfl (.tmp 120) (.tmp 123) rfl rfl rfl HO8.out ⟨_, _, rfl, Nat.zero_le _, .inl rfl⟩ HM5.out HM6.out HN8.out.size ?_; intro v9 w9 ho9 hg9 hb9; obtain ⟨A9, n9, c9, hv9⟩ := ho9.shp; subst hv9; have HO9 := Lib.hid ho9; have HN9 := Lib.hid (HN8.out.grown hg9 (fun q hq => (HO8.out.lt q hq).1)); clear ho9 hg9 hb9))
                        go_roundw
                        case rel =>
                          refine ⟨j + 1, by omega, by go_num, ?_, HNq.out.trans HN9.out⟩
                          have := HO9.out.lower HBQ.out
                          rw [show (([] ++ ([] : List Cel) : List Cel) ++ [(⟨yk, s⟩ : Cel)]) ++ ([] : List Cel) = _ from (show _ = insD P x [] yk by rw [HF.out]; simp).trans HST.out.symm] at this
                          exact this
                        case measure => simp [intOf]; omega
                      · subst hA
                        by_cases hck : vc = out.length
                        · subst hck
                          have HE0 := Lib.hid (Row.empty w5 124 2 celC)
                          have HN0q := Lib.hid ((New.refl w5).alloc (.cells #[] 124))
                          have HTKR := Lib.hid (Row.take (k := out.length) (c' := out.length) celOk HRq.out (Nat.le_refl _) hvc (Nat.le_refl _))
                          have HS1 := Lib.hid ((HTKR.out.new HN0q.out).slIn celOk)
                          have HLT := Lib.hid (show (out.take out.length).length ≤ 1001000 by rw [List.length_take]; have := HOL.out; omega)
                          have HLD := Lib.hid (show ([] : List Cel).length ≤ 1001000 by decide)
                          have HM1 := Lib.hid (show ([] : List Cel).length + (out.take out.length).length ≤ maxLen by have := HLT.out; unfold maxLen; simp only [List.length_nil]; omega)
                          have HM2 := Lib.hid (show (([] : List Cel).length + (out.take out.length).length) * 32 ≤ 140737488355328 by have := HLT.out; simp only [List.length_nil]; omega)
                          have HM3 := Lib.hid (show ([] ++ (out.take out.length) : List Cel).length + [(⟨yk, s⟩ : Cel)].length ≤ maxLen by have := HLT.out; unfold maxLen; rw [List.nil_append, List.length_singleton]; omega)
                          have HM4 := Lib.hid (show (([] ++ (out.take out.length) : List Cel).length + [(⟨yk, s⟩ : Cel)].length) * 32 ≤ 140737488355328 by have := HLT.out; rw [List.nil_append, List.length_singleton]; omega)
                          have HM5 := Lib.hid (show (([] ++ (out.take out.length) : List Cel) ++ [(⟨yk, s⟩ : Cel)]).length + ([] : List Cel).length ≤ maxLen by have := HLT.out; have := HLD.out; unfold maxLen; rw [List.nil_append, List.length_append, List.length_singleton]; omega)
                          have HM6 := Lib.hid (show ((([] ++ (out.take out.length) : List Cel) ++ [(⟨yk, s⟩ : Cel)]).length + ([] : List Cel).length) * 32 ≤ 140737488355328 by have := HLT.out; have := HLD.out; rw [List.nil_append, List.length_append, List.length_singleton]; omega)
                          have HBS := Lib.hid (show w5.heap.size ≤ (w5.alloc (.cells #[] 124)).heap.size by rw [World.size_alloc]; omega)
                          go_wp2_with (first
                            | (at_builtin; refine wpList_appR celTy celOk rfl (.tmp 110) (.tmp 113) rfl rfl rfl HE0.out HS1.out HM1.out HM2.out HBS.out ?_; intro v7 w7 ho7 hg7 hb7; obtain ⟨A7, n7, c7, hv7⟩ := ho7.shp; subst hv7; have HO7 := Lib.hid ho7; have HN7 := Lib.hid (HN0q.out.grown hg7 (fun q hq => (HE0.out.lt q hq).1)); have HNC := Lib.hid ((New.refl w7).alloc (.cells #[.string yk, .string s] 124)); have HS2 := Lib.hid (SlIn.one (x := (⟨yk, s⟩ : Cel)) (Blk.mk_new w7 124 #[.string yk, .string s]) celOk rfl); clear ho7 hg7 hb7)
                            | (at_builtin; refine wpList_appR celTy celOk rfl (.tmp 114) (.tmp 118) rfl rfl rfl (HO7.out.new HNC.out) HS2.out HM3.out HM4.out (Nat.le_trans HN7.out.size HNC.out.size) ?_; intro v8 w8 ho8 hg8 hb8; obtain ⟨A8, n8, c8, hv8⟩ := ho8.shp; subst hv8; have HO8 := Lib.hid ho8; have HN8 := Lib.hid ((HN7.out.trans HNC.out).grown hg8 (fun q hq => (HO7.out.lt q hq).1)); clear ho8 hg8 hb8)
                            | (at_builtin; refine wpList_appR (m := ([] : List Cel)) celTy celOk rfl (.tmp 120) (.tmp 123) rfl rfl rfl HO8.out ⟨_, _, rfl, Nat.zero_le _, .inl rfl⟩ HM5.out HM6.out HN8.out.size ?_; intro v9 w9 ho9 hg9 hb9; obtain ⟨A9, n9, c9, hv9⟩ := ho9.shp; subst hv9; have HO9 := Lib.hid ho9; have HN9 := Lib.hid (HN8.out.grown hg9 (fun q hq => (HO8.out.lt q hq).1)); clear ho9 hg9 hb9))
                          go_roundw
                          case rel =>
                            refine ⟨j + 1, by omega, by go_num, ?_, HNq.out.trans HN9.out⟩
                            have := HO9.out.lower HBQ.out
                            rw [show (([] ++ (out.take out.length) : List Cel) ++ [(⟨yk, s⟩ : Cel)]) ++ ([] : List Cel) = _ from (show _ = insD P x out yk by rw [HF.out]; simp).trans HST.out.symm] at this
                            exact this
                          case measure => simp [intOf]; omega
                        · have hck2 : ¬ vc - out.length = 0 := by omega
                          have HE0 := Lib.hid (Row.empty w5 124 2 celC)
                          have HN0q := Lib.hid ((New.refl w5).alloc (.cells #[] 124))
                          have HTKR := Lib.hid (Row.take (k := out.length) (c' := vc) celOk HRq.out (Nat.le_refl _) hvc (Nat.le_refl _))
                          have HS1 := Lib.hid ((HTKR.out.new HN0q.out).slIn celOk)
                          have HLT := Lib.hid (show (out.take out.length).length ≤ 1001000 by rw [List.length_take]; have := HOL.out; omega)
                          have HLD := Lib.hid (show ([] : List Cel).length ≤ 1001000 by decide)
                          have HM1 := Lib.hid (show ([] : List Cel).length + (out.take out.length).length ≤ maxLen by have := HLT.out; unfold maxLen; simp only [List.length_nil]; omega)
                          have HM2 := Lib.hid (show (([] : List Cel).length + (out.take out.length).length) * 32 ≤ 140737488355328 by have := HLT.out; simp only [List.length_nil]; omega)
                          have HM3 := Lib.hid (show ([] ++ (out.take out.length) : List Cel).length + [(⟨yk, s⟩ : Cel)].length ≤ maxLen by have := HLT.out; unfold maxLen; rw [List.nil_append, List.length_singleton]; omega)
                          have HM4 := Lib.hid (show (([] ++ (out.take out.length) : List Cel).length + [(⟨yk, s⟩ : Cel)].length) * 32 ≤ 140737488355328 by have := HLT.out; rw [List.nil_append, List.length_singleton]; omega)
                          have HM5 := Lib.hid (show (([] ++ (out.take out.length) : List Cel) ++ [(⟨yk, s⟩ : Cel)]).length + ([] : List Cel).length ≤ maxLen by have := HLT.out; have := HLD.out; unfold maxLen; rw [List.nil_append, List.length_append, List.length_singleton]; omega)
                          have HM6 := Lib.hid (show ((([] ++ (out.take out.length) : List Cel) ++ [(⟨yk, s⟩ : Cel)]).length + ([] : List Cel).length) * 32 ≤ 140737488355328 by have := HLT.out; have := HLD.out; rw [List.nil_append, List.length_append, List.length_singleton]; omega)
                          have HBS := Lib.hid (show w5.heap.size ≤ (w5.alloc (.cells #[] 124)).heap.size by rw [World.size_alloc]; omega)
                          go_wp2_with (first
                            | (at_builtin; refine wpList_appR celTy celOk rfl (.tmp 110) (.tmp 113) rfl rfl rfl HE0.out HS1.out HM1.out HM2.out HBS.out ?_; intro v7 w7 ho7 hg7 hb7; obtain ⟨A7, n7, c7, hv7⟩ := ho7.shp; subst hv7; have HO7 := Lib.hid ho7; have HN7 := Lib.hid (HN0q.out.grown hg7 (fun q hq => (HE0.out.lt q hq).1)); have HNC := Lib.hid ((New.refl w7).alloc (.cells #[.string yk, .string s] 124)); have HS2 := Lib.hid (SlIn.one (x := (⟨yk, s⟩ : Cel)) (Blk.mk_new w7 124 #[.string yk, .string s]) celOk rfl); clear ho7 hg7 hb7)
                            | (at_builtin; refine wpList_appR celTy celOk rfl (.tmp 114) (.tmp 118) rfl rfl rfl (HO7.out.new HNC.out) HS2.out HM3.out HM4.out (Nat.le_trans HN7.out.size HNC.out.size) ?_; intro v8 w8 ho8 hg8 hb8; obtain ⟨A8, n8, c8, hv8⟩ := ho8.shp; subst hv8; have HO8 := Lib.hid ho8; have HN8 := Lib.hid ((HN7.out.trans HNC.out).grown hg8 (fun q hq => (HO7.out.lt q hq).1)); clear ho8 hg8 hb8)
                            | (at_builtin; refine wpList_appR (m := ([] : List Cel)) celTy celOk rfl (.tmp 120) (.tmp 123) rfl rfl rfl HO8.out ⟨_, _, rfl, Nat.zero_le _, .inl rfl⟩ HM5.out HM6.out HN8.out.size ?_; intro v9 w9 ho9 hg9 hb9; obtain ⟨A9, n9, c9, hv9⟩ := ho9.shp; subst hv9; have HO9 := Lib.hid ho9; have HN9 := Lib.hid (HN8.out.grown hg9 (fun q hq => (HO8.out.lt q hq).1)); clear ho9 hg9 hb9))
                          go_roundw
                          case rel =>
                            refine ⟨j + 1, by omega, by go_num, ?_, HNq.out.trans HN9.out⟩
                            have := HO9.out.lower HBQ.out
                            rw [show (([] ++ (out.take out.length) : List Cel) ++ [(⟨yk, s⟩ : Cel)]) ++ ([] : List Cel) = _ from (show _ = insD P x out yk by rw [HF.out]; simp).trans HST.out.symm] at this
                            exact this
                          case measure => simp [intOf]; omega
                    · skip
                      cases hto : lsK yk x.te with
                      | true =>
                        have hto2 : Op.bytesLess yk.toList x.te.toList = true := hto
                        have HVR := Lib.hid (show valR P x yk = some s by unfold valR Rng.has; rw [hlo, hop, hto]; exact HV.out)
                        rw [hop] at x3
                        have HF := Lib.hid (insD_some HVR.out HFD.out)
                        rw [hpe] at HF
                        clear hlo hop hto hpe
                        rw [List.drop_length] at HF
                        rcases rowBase HRq.out with ⟨hA, hn, hc, ho⟩ | ⟨go, oo, hA⟩
                        · subst hA hc ho
                          have HE0 := Lib.hid (Row.empty w5 124 2 celC)
                          have HN0q := Lib.hid ((New.refl w5).alloc (.cells #[] 124))
                          have HS1 : Hid (SlIn (w5.alloc (.cells #[] 124)) 2 celC (.slice none 0 0) ([] : List Cel)) := Lib.hid ⟨none, 0, rfl, Nat.le_refl _, .inl rfl⟩
                          have HLT := Lib.hid (show ([] : List Cel).length ≤ 1001000 by decide)
                          have HLD := Lib.hid (show ([] : List Cel).length ≤ 1001000 by decide)
                          have HM1 := Lib.hid (show ([] : List Cel).length + ([] : List Cel).length ≤ maxLen by have := HLT.out; unfold maxLen; simp only [List.length_nil]; omega)
                          have HM2 := Lib.hid (show (([] : List Cel).length + ([] : List Cel).length) * 32 ≤ 140737488355328 by have := HLT.out; simp only [List.length_nil]; omega)
                          have HM3 := Lib.hid (show ([] ++ ([] : List Cel) : List Cel).length + [(⟨yk, s⟩ : Cel)].length ≤ maxLen by have := HLT.out; unfold maxLen; rw [List.nil_append, List.length_singleton]; omega)
                          have HM4 := Lib.hid (show (([] ++ ([] : List Cel) : List Cel).length + [(⟨yk, s⟩ : Cel)].length) * 32 ≤ 140737488355328 by have := HLT.out; rw [List.nil_append, List.length_singleton]; omega)
                          have HM5 := Lib.hid (show (([] ++ ([] : List Cel) : List Cel) ++ [(⟨yk, s⟩ : Cel)]).length + ([] : List Cel).length ≤ maxLen by have := HLT.out; have := HLD.out; unfold maxLen; rw [List.nil_append, List.length_append, List.length_singleton]; omega)
                          have HM6 := Lib.hid (show ((([] ++ ([] : List Cel) : List Cel) ++ [(⟨yk, s⟩ : Cel)]).length + ([] : List Cel).length) * 32 ≤ 140737488355328 by have := HLT.out; have := HLD.out; rw [List.nil_append, List.length_append, List.length_singleton]; omega)
                          have HBS := Lib.hid (show w5.heap.size ≤ (w5.alloc (.cells #[] 124)).heap.size by rw [World.size_alloc]; omega)
                          go_wp2_with (first
                            | (at_builtin; refine wpList_appR celTy celOk rfl (.tmp 110) (.tmp 113) rfl rfl rfl HE0.out HS1.out HM1.out HM2.out HBS.out ?_; intro v7 w7 ho7 hg7 hb7; obtain ⟨A7, n7, c7, hv7⟩ := ho7.shp; subst hv7; have HO7 := Lib.hid ho7; have HN7 := Lib.hid (HN0q.out.grown hg7 (fun q hq => (HE0.out.lt q hq).1)); have HNC := Lib.hid ((New.refl w7).alloc (.cells #[.string yk, .string s] 124)); have HS2 := Lib.hid (SlIn.one (x := (⟨yk, s⟩ : Cel)) (Blk.mk_new w7 124 #[.string yk, .string s]) celOk rfl); clear ho7 hg7 hb7)
                            | (at_builtin; refine wpList_appR celTy celOk rfl (.tmp 114) (.tmp 118) rfl rfl rfl (HO7.out.new HNC.out) HS2.out HM3.out HM4.out (Nat.le_trans HN7.out.size HNC.out.size) ?_; intro v8 w8 ho8 hg8 hb8; obtain ⟨A8, n8, c8, hv8⟩ := ho8.shp; subst hv8; have HO8 := Lib.hid ho8; have HN8 := Lib.hid ((HN7.out.trans HNC.out).grown hg8 (fun q hq => (HO7.out.lt q hq).1)); clear ho8 hg8 hb8)
                            | (at_builtin; refine wpList_appR (m := ([] : List Cel)) celTy celOk rfl (.tmp 120) (.tmp 123) rfl rfl rfl HO8.out ⟨_, _, rfl, Nat.zero_le _, .inl rfl⟩ HM5.out HM6.out HN8.out.size ?_; intro v9 w9 ho9 hg9 hb9; obtain ⟨A9, n9, c9, hv9⟩ := ho9.shp; subst hv9; have HO9 := Lib.hid ho9; have HN9 := Lib.hid (HN8.out.grown hg9 (fun q hq => (HO8.out.lt q hq).1)); clear ho9 hg9 hb9))
                          go_roundw
                          case rel =>
                            refine ⟨j + 1, by omega, by go_num, ?_, HNq.out.trans HN9.out⟩
                            have := HO9.out.lower HBQ.out
                            rw [show (([] ++ ([] : List Cel) : List Cel) ++ [(⟨yk, s⟩ : Cel)]) ++ ([] : List Cel) = _ from (show _ = insD P x [] yk by rw [HF.out]; simp).trans HST.out.symm] at this
                            exact this
                          case measure => simp [intOf]; omega
                        · subst hA
                          by_cases hck : vc = out.length
                          · subst hck
                            have HE0 := Lib.hid (Row.empty w5 124 2 celC)
                            have HN0q := Lib.hid ((New.refl w5).alloc (.cells #[] 124))
                            have HTKR := Lib.hid (Row.take (k := out.length) (c' := out.length) celOk HRq.out (Nat.le_refl _) hvc (Nat.le_refl _))
                            have HS1 := Lib.hid ((HTKR.out.new HN0q.out).slIn celOk)
                            have HLT := Lib.hid (show (out.take out.length).length ≤ 1001000 by rw [List.length_take]; have := HOL.out; omega)
                            have HLD := Lib.hid (show ([] : List Cel).length ≤ 1001000 by decide)
                            have HM1 := Lib.hid (show ([] : List Cel).length + (out.take out.length).length ≤ maxLen by have := HLT.out; unfold maxLen; simp only [List.length_nil]; omega)
                            have HM2 := Lib.hid (show (([] : List Cel).length + (out.take out.length).length) * 32 ≤ 140737488355328 by have := HLT.out; simp only [List.length_nil]; omega)
                            have HM3 := Lib.hid (show ([] ++ (out.take out.length) : List Cel).length + [(⟨yk, s⟩ : Cel)].length ≤ maxLen by have := HLT.out; unfold maxLen; rw [List.nil_append, List.length_singleton]; omega)
                            have HM4 := Lib.hid (show (([] ++ (out.take out.length) : List Cel).length + [(⟨yk, s⟩ : Cel)].length) * 32 ≤ 140737488355328 by have := HLT.out; rw [List.nil_append, List.length_singleton]; omega)
                            have HM5 := Lib.hid (show (([] ++ (out.take out.length) : List Cel) ++ [(⟨yk, s⟩ : Cel)]).length + ([] : List Cel).length ≤ maxLen by have := HLT.out; have := HLD.out; unfold maxLen; rw [List.nil_append, List.length_append, List.length_singleton]; omega)
                            have HM6 := Lib.hid (show ((([] ++ (out.take out.length) : List Cel) ++ [(⟨yk, s⟩ : Cel)]).length + ([] : List Cel).length) * 32 ≤ 140737488355328 by have := HLT.out; have := HLD.out; rw [List.nil_append, List.length_append, List.length_singleton]; omega)
                            have HBS := Lib.hid (show w5.heap.size ≤ (w5.alloc (.cells #[] 124)).heap.size by rw [World.size_alloc]; omega)
                            go_wp2_with (first
                              | (at_builtin; refine wpList_appR celTy celOk rfl (.tmp 110) (.tmp 113) rfl rfl rfl HE0.out HS1.out HM1.out HM2.out HBS.out ?_; intro v7 w7 ho7 hg7 hb7; obtain ⟨A7, n7, c7, hv7⟩ := ho7.shp; subst hv7; have HO7 := Lib.hid ho7; have HN7 := Lib.hid (HN0q.out.grown hg7 (fun q hq => (HE0.out.lt q hq).1)); have HNC := Lib.hid ((New.refl w7).alloc (.cells #[.string yk, .string s] 124)); have HS2 := Lib.hid (SlIn.one (x := (⟨yk, s⟩ : Cel)) (Blk.mk_new w7 124 #[.string yk, .string s]) celOk rfl); clear ho7 hg7 hb7)
                              | (at_builtin; refine wpList_appR celTy celOk rfl (.tmp 114) (.tmp 118) rfl rfl rfl (HO7.out.new HNC.out) HS2.out HM3.out HM4.out (Nat.le_trans HN7.out.size HNC.out.size) ?_; intro v8 w8 ho8 hg8 hb8; obtain ⟨A8, n8, c8, hv8⟩ := ho8.shp; subst hv8; have HO8 := Lib.hid ho8; have HN8 := Lib.hid ((HN7.out.trans HNC.out).grown hg8 (fun q hq => (HO7.out.lt q hq).1)); clear ho8 hg8 hb8)
                              | (at_builtin; refine wpList_appR (m := ([] : List Cel)) celTy celOk rfl (.tmp 120) (.tmp 123) rfl rfl rfl HO8.out ⟨_, _, rfl, Nat.zero_le _, .inl rfl⟩ HM5.out HM6.out HN8.out.size ?_; intro v9 w9 ho9 hg9 hb9; obtain ⟨A9, n9, c9, hv9⟩ := ho9.shp; subst hv9; have HO9 := Lib.hid ho9; have HN9 := Lib.hid (HN8.out.grown hg9 (fun q hq => (HO8.out.lt q hq).1)); clear ho9 hg9 hb9))
                            go_roundw
                            case rel =>
                              refine ⟨j + 1, by omega, by go_num, ?_, HNq.out.trans HN9.out⟩
                              have := HO9.out.lower HBQ.out
                              rw [show (([] ++ (out.take out.length) : List Cel) ++ [(⟨yk, s⟩ : Cel)]) ++ ([] : List Cel) = _ from (show _ = insD P x out yk by rw [HF.out]; simp).trans HST.out.symm] at this
                              exact this
                            case measure => simp [intOf]; omega
                          · have hck2 : ¬ vc - out.length = 0 := by omega
                            have HE0 := Lib.hid (Row.empty w5 124 2 celC)
                            have HN0q := Lib.hid ((New.refl w5).alloc (.cells #[] 124))
                            have HTKR := Lib.hid (Row.take (k := out.length) (c' := vc) celOk HRq.out (Nat.le_refl _) hvc (Nat.le_refl _))
                            have HS1 := Lib.hid ((HTKR.out.new HN0q.out).slIn celOk)
                            have HLT := Lib.hid (show (out.take out.length).length ≤ 1001000 by rw [List.length_take]; have := HOL.out; omega)
                            have HLD := Lib.hid (show ([] : List Cel).length ≤ 1001000 by decide)
                            have HM1 := Lib.hid (show ([] : List Cel).length + (out.take out.length).length ≤ maxLen by have := HLT.out; unfold maxLen; simp only [List.length_nil]; omega)
                            have HM2 := Lib.hid (show (([] : List Cel).length + (out.take out.length).length) * 32 ≤ 140737488355328 by have := HLT.out; simp only [List.length_nil]; omega)
                            have HM3 := Lib.hid (show ([] ++ (out.take out.length) : List Cel).length + [(⟨yk, s⟩ : Cel)].length ≤ maxLen by have := HLT.out; unfold maxLen; rw [List.nil_append, List.length_singleton]; omega)
                            have HM4 := Lib.hid (show (([] ++ (out.take out.length) : List Cel).length + [(⟨yk, s⟩ : Cel)].length) * 32 ≤ 140737488355328 by have := HLT.out; rw [List.nil_append, List.length_singleton]; omega)
                            have HM5 := Lib.hid (show (([] ++ (out.take out.length) : List Cel) ++ [(⟨yk, s⟩ : Cel)]).length + ([] : List Cel).length ≤ maxLen by have := HLT.out; have := HLD.out; unfold maxLen; rw [List.nil_append, List.length_append, List.length_singleton]; omega)
                            have HM6 := Lib.hid (show ((([] ++ (out.take out.length) : List Cel) ++ [(⟨yk, s⟩ : Cel)]).length + ([] : List Cel).length) * 32 ≤ 140737488355328 by have := HLT.out; have := HLD.out; rw [List.nil_append, List.length_append, List.length_singleton]; omega)
                            have HBS := Lib.hid (show w5.heap.size ≤ (w5.alloc (.cells #[] 124)).heap.size by rw [World.size_alloc]; omega)
                            go_wp2_with (first
                              | (at_builtin; refine wpList_appR celTy celOk rfl (.tmp 110) (.tmp 113) rfl rfl rfl HE0.out HS1.out HM1.out HM2.out HBS.out ?_; intro v7 w7 ho7 hg7 hb7; obtain ⟨A7, n7, c7, hv7⟩ := ho7.shp; subst hv7; have HO7 := Lib.hid ho7; have HN7 := Lib.hid (HN0q.out.grown hg7 (fun q hq => (HE0.out.lt q hq).1)); have HNC := Lib.hid ((New.refl w7).alloc (.cells #[.string yk, .string s] 124)); have HS2 := Lib.hid (SlIn.one (x := (⟨yk, s⟩ : Cel)) (Blk.mk_new w7 124 #[.string yk, .string s]) celOk rfl); clear ho7 hg7 hb7)
                              | (at_builtin; refine wpList_appR celTy celOk rfl (.tmp 114) (.tmp 118) rfl rfl rfl (HO7.out.new HNC.out) HS2.out HM3.out HM4.out (Nat.le_trans HN7.out.size HNC.out.size) ?_; intro v8 w8 ho8 hg8 hb8; obtain ⟨A8, n8, c8, hv8⟩ := ho8.shp; subst hv8; have HO8 := Lib.hid ho8; have HN8 := Lib.hid ((HN7.out.trans HNC.out).grown hg8 (fun q hq => (HO7.out.lt q hq).1)); clear ho8 hg8 hb8)
                              | (at_builtin; refine wpList_appR (m := ([] : List Cel)) celTy celOk rfl (.tmp 120) (.tmp 123) rfl rfl rfl HO8.out ⟨_, _, rfl, Nat.zero_le _, .inl rfl⟩ HM5.out HM6.out HN8.out.size ?_; intro v9 w9 ho9 hg9 hb9; obtain ⟨A9, n9, c9, hv9⟩ := ho9.shp; subst hv9; have HO9 := Lib.hid ho9; have HN9 := Lib.hid (HN8.out.grown hg9 (fun q hq => (HO8.out.lt q hq).1)); clear ho9 hg9 hb9))
                            go_roundw
                            case rel =>
                              refine ⟨j + 1, by omega, by go_num, ?_, HNq.out.trans HN9.out⟩
                              have := HO9.out.lower HBQ.out
                              rw [show (([] ++ (out.take out.length) : List Cel) ++ [(⟨yk, s⟩ : Cel)]) ++ ([] : List Cel) = _ from (show _ = insD P x out yk by rw [HF.out]; simp).trans HST.out.symm] at this
                              exact this
                            case measure => simp [intOf]; omega
                      | false =>
                        have hto2 : Op.bytesLess yk.toList x.te.toList = false := hto
                        rw [hop] at x3
                        have HF := Lib.hid (insD_none (out := out) (show valR P x yk = none by unfold valR Rng.has; rw [hlo, hop, hto]; rfl))
                        clear hlo hop hto hpe
                        go_wp2_with fail
                        go_roundw
                        case rel => exact ⟨j + 1, by omega, by go_num, by rw [HST.out, HF.out]; exact HRq.out, HNq.out⟩
                        case measure => simp [intOf]; omega
              · obtain ⟨go, oo, co, hvo, z0, z1, hgo, hco⟩ := Row.celAt HRq.out hz
                cases hvo
                have HZ := Lib.hid hz
                have hil : i < out.length := (List.getElem?_eq_some_iff.1 hz).1
                have i7 : (i : Int) < (out.length : Int) := by omega
                have i6 : ((i : Int) == (out.length : Int)) = false := by simpa using (show ¬ (i : Int) = (out.length : Int) by omega)
                have n7 : ¬ (i : Int) = (out.length : Int) := by omega
                clear hz z1
                rcases (show x.bk = false ∨ x.bk = true by cases x.bk <;> simp) with hbk | hbk
                · have hls' := hls
                  rw [hbk] at x4 hls'
                  have q0 : Op.bytesLess z.key.toList yk.toList = false := hls'
                  clear hls hls' hbk
                  by_cases hzk : z.key = yk
                  · have HNE := Lib.hid hzk
                    have q3 : (z.key.toList != yk.toList) = false := by rw [hzk]; simp
                    have q4 : z.key.toList = yk.toList := by rw [hzk]
                    have q5 := less_irr yk.toList
                    clear hzk
                    have hpe : posD x.bk out yk = i := HPE.out.symm
                    have HFD := Lib.hid (show freeD x.bk out yk = false by unfold freeD; rw [hpe, HZ.out]; simp [HNE.out])
                    cases vo with
                    | none =>
                      have HF := Lib.hid (insD_none (out := out) (show valR P x yk = none by unfold valR; rw [HV.out]; split <;> rfl))
                      clear hpe
                      go_wp2_with fail
                      go_roundw
                      case rel => exact ⟨j + 1, by omega, by go_num, by rw [HST.out, HF.out]; exact HRq.out, HNq.out⟩
                      case measure => simp [intOf]; omega
                    | some s =>
                      cases hlo : lsK yk x.fr with
                      | true =>
                        have hlo2 : Op.bytesLess yk.toList x.fr.toList = true := hlo
                        have HF := Lib.hid (insD_none (out := out) (show valR P x yk = none by unfold valR Rng.has; rw [hlo]; rfl))
                        clear hlo hpe
                        go_wp2_with fail
                        go_roundw
                        case rel => exact ⟨j + 1, by omega, by go_num, by rw [HST.out, HF.out]; exact HRq.out, HNq.out⟩
                        case measure => simp [intOf]; omega
                      | false =>
                        have hlo2 : Op.bytesLess yk.toList x.fr.toList = false := hlo
                        rcases (show x.op = true ∨ x.op = false by cases x.op <;> simp) with hop | hop
                        · skip
                          have HVR := Lib.hid (show valR P x yk = some s by unfold valR Rng.has; rw [hlo, hop]; exact HV.out)
                          rw [hop] at x3
                          have HF := Lib.hid (insD_full (P := P) HFD.out)
                          clear hlo hop hpe
                          go_wp2_with fail
                          go_roundw
                          case rel => exact ⟨j + 1, by omega, by go_num, by rw [HST.out, HF.out]; exact HRq.out, HNq.out⟩
                          case measure => simp [intOf]; omega
                        · skip
                          cases hto : lsK yk x.te with
                          | true =>
                            have hto2 : Op.bytesLess yk.toList x.te.toList = true := hto
                            have HVR := Lib.hid (show valR P x yk = some s by unfold valR Rng.has; rw [hlo, hop, hto]; exact HV.out)
                            rw [hop] at x3
                            have HF := Lib.hid (insD_full (P := P) HFD.out)
                            clear hlo hop hto hpe
                            go_wp2_with fail
                            go_roundw
                            case rel => exact ⟨j + 1, by omega, by go_num, by rw [HST.out, HF.out]; exact HRq.out, HNq.out⟩
                            case measure => simp [intOf]; omega
                          | false =>
                            have hto2 : Op.bytesLess yk.toList x.te.toList = false := hto
                            rw [hop] at x3
                            have HF := Lib.hid (insD_none (out := out) (show valR P x yk = none by unfold valR Rng.has; rw [hlo, hop, hto]; rfl))
                            clear hlo hop hto hpe
                            go_wp2_with fail
                            go_roundw
                            case rel => exact ⟨j + 1, by omega, by go_num, by rw [HST.out, HF.out]; exact HRq.out, HNq.out⟩
                            case measure => simp [intOf]; omega
                  · have HNE := Lib.hid hzk
                    have q4 : ¬ z.key.toList = yk.toList := fun e => hzk (bytes_inj e)
                    have q3 : (z.key.toList != yk.toList) = true := by simpa using q4
                    have q6 : (z.key.toList == yk.toList) = false := by simpa using q4
                    clear hzk
                    have hpe : posD x.bk out yk = i := HPE.out.symm
                    have HFD := Lib.hid (show freeD x.bk out yk = true by unfold freeD; rw [hpe, HZ.out]; simp [HNE.out])
                    cases vo with
                    | none =>
                      have HF := Lib.hid (insD_none (out := out) (show valR P x yk = none by unfold valR; rw [HV.out]; split <;> rfl))
                      clear hpe
                      go_wp2_with fail
                      go_roundw
                      case rel => exact ⟨j + 1, by omega, by go_num, by rw [HST.out, HF.out]; exact HRq.out, HNq.out⟩
                      case measure => simp [intOf]; omega
                    | some s =>
                      cases hlo : lsK yk x.fr with
                      | true =>
                        have hlo2 : Op.bytesLess yk.toList x.fr.toList = true := hlo
                        have HF := Lib.hid (insD_none (out := out) (show valR P x yk = none by unfold valR Rng.has; rw [hlo]; rfl))
                        clear hlo hpe
                        go_wp2_with fail
                        go_roundw
                        case rel => exact ⟨j + 1, by omega, by go_num, by rw [HST.out, HF.out]; exact HRq.out, HNq.out⟩
                        case measure => simp [intOf]; omega
                      | false =>
                        have hlo2 : Op.bytesLess yk.toList x.fr.toList = false := hlo
                        rcases (show x.op = true ∨ x.op = false by cases x.op <;> simp) with hop | hop
                        · skip
                          have HVR := Lib.hid (show valR P x yk = some s by unfold valR Rng.has; rw [hlo, hop]; exact HV.out)
                          rw [hop] at x3
                          have HF := Lib.hid (insD_some HVR.out HFD.out)
                          rw [hpe] at HF
                          clear hlo hop hpe
                          have HE0 := Lib.hid (Row.empty w5 124 2 celC)
                          have HN0q := Lib.hid ((New.refl w5).alloc (.cells #[] 124))
                          have HTKR := Lib.hid (Row.take (k := i) (c' := vc) celOk HRq.out (by omega) (by omega) (Nat.le_refl _))
                          have HS1 := Lib.hid ((HTKR.out.new HN0q.out).slIn celOk)
                          have hdr := Row.drop (k := i) celOk HRq.out (by omega)
                          rw [if_neg (by omega), addAt] at hdr
                          have HDR := Lib.hid hdr
                          clear hdr
                          have HLT := Lib.hid (show (out.take i).length ≤ 1001000 by rw [List.length_take]; have := HOL.out; omega)
                          have HLD := Lib.hid (show (out.drop i).length ≤ 1001000 by rw [List.length_drop]; have := HOL.out; omega)
                          have HM1 := Lib.hid (show ([] : List Cel).length + (out.take i).length ≤ maxLen by have := HLT.out; unfold maxLen; simp only [List.length_nil]; omega)
                          have HM2 := Lib.hid (show (([] : List Cel).length + (out.take i).length) * 32 ≤ 140737488355328 by have := HLT.out; simp only [List.length_nil]; omega)
                          have HM3 := Lib.hid (show ([] ++ (out.take i) : List Cel).length + [(⟨yk, s⟩ : Cel)].length ≤ maxLen by have := HLT.out; unfold maxLen; rw [List.nil_append, List.length_singleton]; omega)
                          have HM4 := Lib.hid (show (([] ++ (out.take i) : List Cel).length + [(⟨yk, s⟩ : Cel)].length) * 32 ≤ 140737488355328 by have := HLT.out; rw [List.nil_append, List.length_singleton]; omega)
                          have HM5 := Lib.hid (show (([] ++ (out.take i) : List Cel) ++ [(⟨yk, s⟩ : Cel)]).length + (out.drop i).length ≤ maxLen by have := HLT.out; have := HLD.out; unfold maxLen; rw [List.nil_append, List.length_append, List.length_singleton]; omega)
                          have HM6 := Lib.hid (show ((([] ++ (out.take i) : List Cel) ++ [(⟨yk, s⟩ : Cel)]).length + (out.drop i).length) * 32 ≤ 140737488355328 by have := HLT.out; have := HLD.out; rw [List.nil_append, List.length_append, List.length_singleton]; omega)
                          have HBS := Lib.hid (show w5.heap.size ≤ (w5.alloc (.cells #[] 124)).heap.size by rw [World.size_alloc]; omega)
                          go_wp2_with (first
                            | (at_builtin; refine wpList_appR celTy celOk rfl (.tmp 110) (.tmp 113) rfl rfl rfl HE0.out HS1.out HM1.out HM2.out HBS.out ?_; intro v7 w7 ho7 hg7 hb7; obtain ⟨A7, n7, c7, hv7⟩ := ho7.shp; subst hv7; have HO7 := Lib.hid ho7; have HN7 := Lib.hid (HN0q.out.grown hg7 (fun q hq => (HE0.out.lt q hq).1)); have HNC := Lib.hid ((New.refl w7).alloc (.cells #[.string yk, .string s] 124)); have HS2 := Lib.hid (SlIn.one (x := (⟨yk, s⟩ : Cel)) (Blk.mk_new w7 124 #[.string yk, .string s]) celOk rfl); clear ho7 hg7 hb7)
                            | (at_builtin; refine wpList_appR celTy celOk rfl (.tmp 114) (.tmp 118) rfl rfl rfl (HO7.out.new HNC.out) HS2.out HM3.out HM4.out (Nat.le_trans HN7.out.size HNC.out.size) ?_; intro v8 w8 ho8 hg8 hb8; obtain ⟨A8, n8, c8, hv8⟩ := ho8.shp; subst hv8; have HO8 := Lib.hid ho8; have HN8 := Lib.hid ((HN7.out.trans HNC.out).grown hg8 (fun q hq => (HO7.out.lt q hq).1)); have HS3 := Lib.hid ((HDR.out.new HN8.out).slIn celOk); clear ho8 hg8 hb8)
                            | (at_builtin; refine wpList_appR (m := (out.drop i)) celTy celOk rfl (.tmp 120) (.tmp 123) rfl rfl rfl HO8.out HS3.out HM5.out HM6.out HN8.out.size ?_; intro v9 w9 ho9 hg9 hb9; obtain ⟨A9, n9, c9, hv9⟩ := ho9.shp; subst hv9; have HO9 := Lib.hid ho9; have HN9 := Lib.hid (HN8.out.grown hg9 (fun q hq => (HO8.out.lt q hq).1)); clear ho9 hg9 hb9))
                          go_roundw
                          case rel =>
                            refine ⟨j + 1, by omega, by go_num, ?_, HNq.out.trans HN9.out⟩
                            have := HO9.out.lower HBQ.out
                            rw [show (([] ++ (out.take i) : List Cel) ++ [(⟨yk, s⟩ : Cel)]) ++ (out.drop i) = _ from (show _ = insD P x out yk by rw [HF.out]; simp).trans HST.out.symm] at this
                            exact this
                          case measure => simp [intOf]; omega
                        · skip
                          cases hto : lsK yk x.te with
                          | true =>
                            have hto2 : Op.bytesLess yk.toList x.te.toList = true := hto
                            have HVR := Lib.hid (show valR P x yk = some s by unfold valR Rng.has; rw [hlo, hop, hto]; exact HV.out)
                            rw [hop] at x3
                            have HF := Lib.hid (insD_some HVR.out HFD.out)
                            rw [hpe] at HF
                            clear hlo hop hto hpe
                            have HE0 := Lib.hid (Row.empty w5 124 2 celC)
                            have HN0q := Lib.hid ((New.refl w5).alloc (.cells #[] 124))
                            have HTKR := Lib.hid (Row.take (k := i) (c' := vc) celOk HRq.out (by omega) (by omega) (Nat.le_refl _))
                            have HS1 := Lib.hid ((HTKR.out.new HN0q.out).slIn celOk)
                            have hdr := Row.drop (k := i) celOk HRq.out (by omega)
                            rw [if_neg (by omega), addAt] at hdr
                            have HDR := Lib.hid hdr
                            clear hdr
                            have HLT := Lib.hid (show (out.take i).length ≤ 1001000 by rw [List.length_take]; have := HOL.out; omega)
                            have HLD := Lib.hid (show (out.drop i).length ≤ 1001000 by rw [List.length_drop]; have := HOL.out; omega)
                            have HM1 := Lib.hid (show ([] : List Cel).length + (out.take i).length ≤ maxLen by have := HLT.out; unfold maxLen; simp only [List.length_nil]; omega)
                            have HM2 := Lib.hid (show (([] : List Cel).length + (out.take i).length) * 32 ≤ 140737488355328 by have := HLT.out; simp only [List.length_nil]; omega)
                            have HM3 := Lib.hid (show ([] ++ (out.take i) : List Cel).length + [(⟨yk, s⟩ : Cel)].length ≤ maxLen by have := HLT.out; unfold maxLen; rw [List.nil_append, List.length_singleton]; omega)
                            have HM4 := Lib.hid (show (([] ++ (out.take i) : List Cel).length + [(⟨yk, s⟩ : Cel)].length) * 32 ≤ 140737488355328 by have := HLT.out; rw [List.nil_append, List.length_singleton]; omega)
                            have HM5 := Lib.hid (show (([] ++ (out.take i) : List Cel) ++ [(⟨yk, s⟩ : Cel)]).length + (out.drop i).length ≤ maxLen by have := HLT.out; have := HLD.out; unfold maxLen; rw [List.nil_append, List.length_append, List.length_singleton]; omega)
                            have HM6 := Lib.hid (show ((([] ++ (out.take i) : List Cel) ++ [(⟨yk, s⟩ : Cel)]).length + (out.drop i).length) * 32 ≤ 140737488355328 by have := HLT.out; have := HLD.out; rw [List.nil_append, List.length_append, List.length_singleton]; omega)
                            have HBS := Lib.hid (show w5.heap.size ≤ (w5.alloc (.cells #[] 124)).heap.size by rw [World.size_alloc]; omega)
                            go_wp2_with (first
                              | (at_builtin; refine wpList_appR celTy celOk rfl (.tmp 110) (.tmp 113) rfl rfl rfl HE0.out HS1.out HM1.out HM2.out HBS.out ?_; intro v7 w7 ho7 hg7 hb7; obtain ⟨A7, n7, c7, hv7⟩ := ho7.shp; subst hv7; have HO7 := Lib.hid ho7; have HN7 := Lib.hid (HN0q.out.grown hg7 (fun q hq => (HE0.out.lt q hq).1)); have HNC := Lib.hid ((New.refl w7).alloc (.cells #[.string yk, .string s] 124)); have HS2 := Lib.hid (SlIn.one (x := (⟨yk, s⟩ : Cel)) (Blk.mk_new w7 124 #[.string yk, .string s]) celOk rfl); clear ho7 hg7 hb7)
                              | (at_builtin; refine wpList_appR celTy celOk rfl (.tmp 114) (.tmp 118) rfl rfl rfl (HO7.out.new HNC.out) HS2.out HM3.out HM4.out (Nat.le_trans HN7.out.size HNC.out.size) ?_; intro v8 w8 ho8 hg8 hb8; obtain ⟨A8, n8, c8, hv8⟩ := ho8.shp; subst hv8; have HO8 := Lib.hid ho8; have HN8 := Lib.hid ((HN7.out.trans HNC.out).grown hg8 (fun q hq => (HO7.out.lt q hq).1)); have HS3 := Lib.hid ((HDR.out.new HN8.out).slIn celOk); clear ho8 hg8 hb8)
                              | (at_builtin; refine wpList_appR (m := (out.drop i)) celTy celOk rfl (.tmp 120) (.tmp 123) rfl rfl rfl HO8.out HS3.out HM5.out HM6.out HN8.out.size ?_; intro v9 w9 ho9 hg9 hb9; obtain ⟨A9, n9, c9, hv9⟩ := ho9.shp; subst hv9; have HO9 := Lib.hid ho9; have HN9 := Lib.hid (HN8.out.grown hg9 (fun q hq => (HO8.out.lt q hq).1)); clear ho9 hg9 hb9))
                            go_roundw
                            case rel =>
                              refine ⟨j + 1, by omega, by go_num, ?_, HNq.out.trans HN9.out⟩
                              have := HO9.out.lower HBQ.out
                              rw [show (([] ++ (out.take i) : List Cel) ++ [(⟨yk, s⟩ : Cel)]) ++ (out.drop i) = _ from (show _ = insD P x out yk by rw [HF.out]; simp).trans HST.out.symm] at this
                              exact this
                            case measure => simp [intOf]; omega
                          | false =>
                            have hto2 : Op.bytesLess yk.toList x.te.toList = false := hto
                            rw [hop] at x3
                            have HF := Lib.hid (insD_none (out := out) (show valR P x yk = none by unfold valR Rng.has; rw [hlo, hop, hto]; rfl))
                            clear hlo hop hto hpe
                            go_wp2_with fail
                            go_roundw
                            case rel => exact ⟨j + 1, by omega, by go_num, by rw [HST.out, HF.out]; exact HRq.out, HNq.out⟩
                            case measure => simp [intOf]; omega
                · have hls' := hls
                  rw [hbk] at x4 hls'
                  rcases ngt_facts (show lsK yk z.key = false from hls') with q0 | ⟨q0, q1⟩
                  · clear hls hls' hbk
                    have hzk : ¬ z.key = yk := fun e => by rw [e, less_irr] at q0; cases q0
                    have HNE := Lib.hid hzk
                    have q4 : ¬ z.key.toList = yk.toList := fun e => hzk (bytes_inj e)
                    have q3 : (z.key.toList != yk.toList) = true := by simpa using q4
                    have q6 : (z.key.toList == yk.toList) = false := by simpa using q4
                    clear hzk
                    have hpe : posD x.bk out yk = i := HPE.out.symm
                    have HFD := Lib.hid (show freeD x.bk out yk = true by unfold freeD; rw [hpe, HZ.out]; simp [HNE.out])
                    cases vo with
                    | none =>
                      have HF := Lib.hid (insD_none (out := out) (show valR P x yk = none by unfold valR; rw [HV.out]; split <;> rfl))
                      clear hpe
                      go_wp2_with fail
                      go_roundw
                      case rel => exact ⟨j + 1, by omega, by go_num, by rw [HST.out, HF.out]; exact HRq.out, HNq.out⟩
                      case measure => simp [intOf]; omega
                    | some s =>
                      cases hlo : lsK yk x.fr with
                      | true =>
                        have hlo2 : Op.bytesLess yk.toList x.fr.toList = true := hlo
                        have HF := Lib.hid (insD_none (out := out) (show valR P x yk = none by unfold valR Rng.has; rw [hlo]; rfl))
                        clear hlo hpe
                        go_wp2_with fail
                        go_roundw
                        case rel => exact ⟨j + 1, by omega, by go_num, by rw [HST.out, HF.out]; exact HRq.out, HNq.out⟩
                        case measure => simp [intOf]; omega
                      | false =>
                        have hlo2 : Op.bytesLess yk.toList x.fr.toList = false := hlo
                        rcases (show x.op = true ∨ x.op = false by cases x.op <;> simp) with hop | hop
                        · skip
                          have HVR := Lib.hid (show valR P x yk = some s by unfold valR Rng.has; rw [hlo, hop]; exact HV.out)
                          rw [hop] at x3
                          have HF := Lib.hid (insD_some HVR.out HFD.out)
                          rw [hpe] at HF
                          clear hlo hop hpe
                          have HE0 := Lib.hid (Row.empty w5 124 2 celC)
                          have HN0q := Lib.hid ((New.refl w5).alloc (.cells #[] 124))
                          have HTKR := Lib.hid (Row.take (k := i) (c' := vc) celOk HRq.out (by omega) (by omega) (Nat.le_refl _))
                          have HS1 := Lib.hid ((HTKR.out.new HN0q.out).slIn celOk)
                          have hdr := Row.drop (k := i) celOk HRq.out (by omega)
                          rw [if_neg (by omega), addAt] at hdr
                          have HDR := Lib.hid hdr
                          clear hdr
                          have HLT := Lib.hid (show (out.take i).length ≤ 1001000 by rw [List.length_take]; have := HOL.out; omega)
                          have HLD := Lib.hid (show (out.drop i).length ≤ 1001000 by rw [List.length_drop]; have := HOL.out; omega)
                          have HM1 := Lib.hid (show ([] : List Cel).length + (out.take i).length ≤ maxLen by have := HLT.out; unfold maxLen; simp only [List.length_nil]; omega)
                          have HM2 := Lib.hid (show (([] : List Cel).length + (out.take i).length) * 32 ≤ 140737488355328 by have := HLT.out; simp only [List.length_nil]; omega)
                          have HM3 := Lib.hid (show ([] ++ (out.take i) : List Cel).length + [(⟨yk, s⟩ : Cel)].length ≤ maxLen by have := HLT.out; unfold maxLen; rw [List.nil_append, List.length_singleton]; omega)
                          have HM4 := Lib.hid (show (([] ++ (out.take i) : List Cel).length + [(⟨yk, s⟩ : Cel)].length) * 32 ≤ 140737488355328 by have := HLT.out; rw [List.nil_append, List.length_singleton]; omega)
                          have HM5 := Lib.hid (show (([] ++ (out.take i) : List Cel) ++ [(⟨yk, s⟩ : Cel)]).length + (out.drop i).length ≤ maxLen by have := HLT.out; have := HLD.out; unfold maxLen; rw [List.nil_append, List.length_append, List.length_singleton]; omega)
                          have HM6 := Lib.hid (show ((([] ++ (out.take i) : List Cel) ++ [(⟨yk, s⟩ : Cel)]).length + (out.drop i).length) * 32 ≤ 140737488355328 by have := HLT.out; have := HLD.out; rw [List.nil_append, List.length_append, List.length_singleton]; omega)
                          have HBS := Lib.hid (show w5.heap.size ≤ (w5.alloc (.cells #[] 124)).heap.size by rw [World.size_alloc]; omega)
                          go_wp2_with (first
                            | (at_builtin; refine wpList_appR celTy celOk rfl (.tmp 110) (.tmp 113) rfl rfl rfl HE0.out HS1.out HM1.out HM2.out HBS.out ?_; intro v7 w7 ho7 hg7 hb7; obtain ⟨A7, n7, c7, hv7⟩ := ho7.shp; subst hv7; have HO7 := Lib.hid ho7; have HN7 := Lib.hid (HN0q.out.grown hg7 (fun q hq => (HE0.out.lt q hq).1)); have HNC := Lib.hid ((New.refl w7).alloc (.cells #[.string yk, .string s] 124)); have HS2 := Lib.hid (SlIn.one (x := (⟨yk, s⟩ : Cel)) (Blk.mk_new w7 124 #[.string yk, .string s]) celOk rfl); clear ho7 hg7 hb7)
                            | (at_builtin; refine wpList_appR celTy celOk rfl (.tmp 114) (.tmp 118) rfl rfl rfl (HO7.out.new HNC.out) HS2.out HM3.out HM4.out (Nat.le_trans HN7.out.size HNC.out.size) ?_; intro v8 w8 ho8 hg8 hb8; obtain ⟨A8, n8, c8, hv8⟩ := ho8.shp; subst hv8; have HO8 := Lib.hid ho8; have HN8 := Lib.hid ((HN7.out.trans HNC.out).grown hg8 (fun q hq => (HO7.out.lt q hq).1)); have HS3 := Lib.hid ((HDR.out.new HN8.out).slIn celOk); clear ho8 hg8 hb8)
                            | (at_builtin; refine wpList_appR (m := (out.drop i)) celTy celOk rfl (.tmp 120) (.tmp 123) rfl rfl rfl HO8.out HS3.out HM5.out HM6.out HN8.out.size ?_; intro v9 w9 ho9 hg9 hb9; obtain ⟨A9, n9, c9, hv9⟩ := ho9.shp; subst hv9; have HO9 := Lib.hid ho9; have HN9 := Lib.hid (HN8.out.grown hg9 (fun q hq => (HO8.out.lt q hq).1)); clear ho9 hg9 hb9))
                          go_roundw
                          case rel =>
                            refine ⟨j + 1, by omega, by go_num, ?_, HNq.out.trans HN9.out⟩
                            have := HO9.out.lower HBQ.out
                            rw [show (([] ++ (out.take i) : List Cel) ++ [(⟨yk, s⟩ : Cel)]) ++ (out.drop i) = _ from (show _ = insD P x out yk by rw [HF.out]; simp).trans HST.out.symm] at this
                            exact this
                          case measure => simp [intOf]; omega
                        · skip
                          cases hto : lsK yk x.te with
                          | true =>
                            have hto2 : Op.bytesLess yk.toList x.te.toList = true := hto
                            have HVR := Lib.hid (show valR P x yk = some s by unfold valR Rng.has; rw [hlo, hop, hto]; exact HV.out)
                            rw [hop] at x3
                            have HF := Lib.hid (insD_some HVR.out HFD.out)
                            rw [hpe] at HF
                            clear hlo hop hto hpe
                            have HE0 := Lib.hid (Row.empty w5 124 2 celC)
                            have HN0q := Lib.hid ((New.refl w5).alloc (.cells #[] 124))
                            have HTKR := Lib.hid (Row.take (k := i) (c' := vc) celOk HRq.out (by omega) (by omega) (Nat.le_refl _))
                            have HS1 := Lib.hid ((HTKR.out.new HN0q.out).slIn celOk)
                            have hdr := Row.drop (k := i) celOk HRq.out (by omega)
                            rw [if_neg (by omega), addAt] at hdr
                            have HDR := Lib.hid hdr
                            clear hdr
                            have HLT := Lib.hid (show (out.take i).length ≤ 1001000 by rw [List.length_take]; have := HOL.out; omega)
                            have HLD := Lib.hid (show (out.drop i).length ≤ 1001000 by rw [List.length_drop]; have := HOL.out; omega)
                            have HM1 := Lib.hid (show ([] : List Cel).length + (out.take i).length ≤ maxLen by have := HLT.out; unfold maxLen; simp only [List.length_nil]; omega)
                            have HM2 := Lib.hid (show (([] : List Cel).length + (out.take i).length) * 32 ≤ 140737488355328 by have := HLT.out; simp only [List.length_nil]; omega)
                            have HM3 := Lib.hid (show ([] ++ (out.take i) : List Cel).length + [(⟨yk, s⟩ : Cel)].length ≤ maxLen by have := HLT.out; unfold maxLen; rw [List.nil_append, List.length_singleton]; omega)
                            have HM4 := Lib.hid (show (([] ++ (out.take i) : List Cel).length + [(⟨yk, s⟩ : Cel)].length) * 32 ≤ 140737488355328 by have := HLT.out; rw [List.nil_append, List.length_singleton]; omega)
                            have HM5 := Lib.hid (show (([] ++ (out.take i) : List Cel) ++ [(⟨yk, s⟩ : Cel)]).length + (out.drop i).length ≤ maxLen by have := HLT.out; have := HLD.out; unfold maxLen; rw [List.nil_append, List.length_append, List.length_singleton]; omega)
                            have HM6 := Lib.hid (show ((([] ++ (out.take i) : List Cel) ++ [(⟨yk, s⟩ : Cel)]).length + (out.drop i).length) * 32 ≤ 140737488355328 by have := HLT.out; have := HLD.out; rw [List.nil_append, List.length_append, List.length_singleton]; omega)
                            have HBS := Lib.hid (show w5.heap.size ≤ (w5.alloc (.cells #[] 124)).heap.size by rw [World.size_alloc]; omega)
                            go_wp2_with (first
                              | (at_builtin; refine wpList_appR celTy celOk rfl (.tmp 110) (.tmp 113) rfl rfl rfl HE0.out HS1.out HM1.out HM2.out HBS.out ?_; intro v7 w7 ho7 hg7 hb7; obtain ⟨A7, n7, c7, hv7⟩ := ho7.shp; subst hv7; have HO7 := Lib.hid ho7; have HN7 := Lib.hid (HN0q.out.grown hg7 (fun q hq => (HE0.out.lt q hq).1)); have HNC := Lib.hid ((New.refl w7).alloc (.cells #[.string yk, .string s] 124)); have HS2 := Lib.hid (SlIn.one (x := (⟨yk, s⟩ : Cel)) (Blk.mk_new w7 124 #[.string yk, .string s]) celOk rfl); clear ho7 hg7 hb7)
                              | (at_builtin; refine wpList_appR celTy celOk rfl (.tmp 114) (.tmp 118) rfl rfl rfl (HO7.out.new HNC.out) HS2.out HM3.out HM4.out (Nat.le_trans HN7.out.size HNC.out.size) ?_; intro v8 w8 ho8 hg8 hb8; obtain ⟨A8, n8, c8, hv8⟩ := ho8.shp; subst hv8; have HO8 := Lib.hid ho8; have HN8 := Lib.hid ((HN7.out.trans HNC.out).grown hg8 (fun q hq => (HO7.out.lt q hq).1)); have HS3 := Lib.hid ((HDR.out.new HN8.out).slIn celOk); clear ho8 hg8 hb8)
                              | (at_builtin; refine wpList_appR (m := (out.drop i)) celTy celOk rfl (.tmp 120) (.tmp 123) rfl rfl rfl HO8.out HS3.out HM5.out HM6.out HN8.out.size ?_; intro v9 w9 ho9 hg9 hb9; obtain ⟨A9, n9, c9, hv9⟩ := ho9.shp; subst hv9; have HO9 := Lib.hid ho9; have HN9 := Lib.hid (HN8.out.grown hg9 (fun q hq => (HO8.out.lt q hq).1)); clear ho9 hg9 hb9))
                            go_roundw
                            case rel =>
                              refine ⟨j + 1, by omega, by go_num, ?_, HNq.out.trans HN9.out⟩
                              have := HO9.out.lower HBQ.out
                              rw [show (([] ++ (out.take i) : List Cel) ++ [(⟨yk, s⟩ : Cel)]) ++ (out.drop i) = _ from (show _ = insD P x out yk by rw [HF.out]; simp).trans HST.out.symm] at this
                              exact this
                            case measure => simp [intOf]; omega
                          | false =>
                            have hto2 : Op.bytesLess yk.toList x.te.toList = false := hto
                            rw [hop] at x3
                            have HF := Lib.hid (insD_none (out := out) (show valR P x yk = none by unfold valR Rng.has; rw [hlo, hop, hto]; rfl))
                            clear hlo hop hto hpe
                            go_wp2_with fail
                            go_roundw
                            case rel => exact ⟨j + 1, by omega, by go_num, by rw [HST.out, HF.out]; exact HRq.out, HNq.out⟩
                            case measure => simp [intOf]; omega
                  · clear hls hls' hbk
                    have q4 : z.key.toList = yk.toList := by simpa using q1
                    have q5 := less_irr yk.toList
                    have hzk : z.key = yk := bytes_inj q4
                    have HNE := Lib.hid hzk
                    have q3 : (z.key.toList != yk.toList) = false := by rw [hzk]; simp
                    clear hzk
                    have hpe : posD x.bk out yk = i := HPE.out.symm
                    have HFD := Lib.hid (show freeD x.bk out yk = false by unfold freeD; rw [hpe, HZ.out]; simp [HNE.out])
                    cases vo with
                    | none =>
                      have HF := Lib.hid (insD_none (out := out) (show valR P x yk = none by unfold valR; rw [HV.out]; split <;> rfl))
                      clear hpe
                      go_wp2_with fail
                      go_roundw
                      case rel => exact ⟨j + 1, by omega, by go_num, by rw [HST.out, HF.out]; exact HRq.out, HNq.out⟩
                      case measure => simp [intOf]; omega
                    | some s =>
                      cases hlo : lsK yk x.fr with
                      | true =>
                        have hlo2 : Op.bytesLess yk.toList x.fr.toList = true := hlo
                        have HF := Lib.hid (insD_none (out := out) (show valR P x yk = none by unfold valR Rng.has; rw [hlo]; rfl))
                        clear hlo hpe
                        go_wp2_with fail
                        go_roundw
                        case rel => exact ⟨j + 1, by omega, by go_num, by rw [HST.out, HF.out]; exact HRq.out, HNq.out⟩
                        case measure => simp [intOf]; omega
                      | false =>
                        have hlo2 : Op.bytesLess yk.toList x.fr.toList = false := hlo
                        rcases (show x.op = true ∨ x.op = false by cases x.op <;> simp) with hop | hop
                        · skip
                          have HVR := Lib.hid (show valR P x yk = some s by unfold valR Rng.has; rw [hlo, hop]; exact HV.out)
                          rw [hop] at x3
                          have HF := Lib.hid (insD_full (P := P) HFD.out)
                          clear hlo hop hpe
                          go_wp2_with fail
                          go_roundw
                          case rel => exact ⟨j + 1, by omega, by go_num, by rw [HST.out, HF.out]; exact HRq.out, HNq.out⟩
                          case measure => simp [intOf]; omega
                        · skip
                          cases hto : lsK yk x.te with
                          | true =>
                            have hto2 : Op.bytesLess yk.toList x.te.toList = true := hto
                            have HVR := Lib.hid (show valR P x yk = some s by unfold valR Rng.has; rw [hlo, hop, hto]; exact HV.out)
                            rw [hop] at x3
                            have HF := Lib.hid (insD_full (P := P) HFD.out)
                            clear hlo hop hto hpe
                            go_wp2_with fail
                            go_roundw
                            case rel => exact ⟨j + 1, by omega, by go_num, by rw [HST.out, HF.out]; exact HRq.out, HNq.out⟩
                            case measure => simp [intOf]; omega
                          | false =>
                            have hto2 : Op.bytesLess yk.toList x.te.toList = false := hto
                            rw [hop] at x3
                            have HF := Lib.hid (insD_none (out := out) (show valR P x yk = none by unfold valR Rng.has; rw [hlo, hop, hto]; rfl))
                            clear hlo hop hto hpe
                            go_wp2_with fail
                            go_roundw
                            case rel => exact ⟨j + 1, by omega, by go_num, by rw [HST.out, HF.out]; exact HRq.out, HNq.out⟩
                            case measure => simp [intOf]; omega
        · obtain rfl : j = bl.length := by omega
          have hj2 : ¬ (bl.length : Int) < (bl.length : Int) := by omega
          have HD : Hid (Row wr w.heap.size 124 2 celC _ (scanD P x (keysP (wsUp l (k + 1))))) := Lib.hid (by rw [HUP.out]; rw [List.take_length] at hr; exact hr)
          have HN2 := Lib.hid hn
          clear hr hn
          go_wp2_with fail
          go_roundw
          case rel => exact ⟨k + 1, by have := HKL.out; omega, by go_num, HD.out, HN2.out⟩
          case measure => have := HKL.out; simp [intOf]; omega
    · obtain rfl : k = l.length := by omega
      have i1 : ¬ (l.length : Int) < (l.length : Int) := by omega
      rw [← HP.out] at HR
      have HDS := Lib.hid (show docScan P x = limC x.lim (scanD P x (keysP P)) from rfl)
      have HOL : Hid ((scanD P x (keysP P)).length ≤ 1000000) := Lib.hid (by
        have h0 := scanD_len P x (keysP P)
        have h2 := wsUp_len (fun b hb => HOK.out b hb) l.length
        have h3 : l.length * 1000 ≤ 1000 * 1000 := Nat.mul_le_mul_right _ hl
        unfold keysP at h0
        rw [List.length_map] at h0
        rw [← HP.out] at h2
        unfold keysP
        omega)
      generalize scanD P x (keysP P) = out at HR HDS HOL
      obtain ⟨vA, vc, rfl⟩ := HR.out.shape
      obtain ⟨x0, x1, x2, x3, x4, x5, xz⟩ := Blk5C (HGX.out.new HN.out)
      have hvc := (show out.length ≤ vc from by obtain ⟨A_, c_, h1, h2, _⟩ := HR.out.slIn celOk; cases h1; exact h2)
      clear hr hn hlt hk
      by_cases hneg : x.lim < 0
      · have HLC := Lib.hid (show docScan P x = out by rw [HDS.out]; unfold limC; rw [if_neg (by omega)])
        have i2 : ¬ (0 : Int) ≤ x.lim := by omega
        clear hneg
        go_wp2_with fail
        go_ret
        exact ⟨_, rfl, by rw [HLC.out]; exact HR.out.slIn celOk, HN0.out.trans HN.out⟩
      · obtain ⟨m, hm⟩ : ∃ m : Nat, x.lim = (m : Int) := ⟨x.lim.toNat, by omega⟩
        have HMX := Lib.hid hm
        rw [hm] at x5
        have i2 : (0 : Int) ≤ (m : Int) := by omega
        by_cases hlm : (m : Int) < (out.length : Int)
        · have HLC := Lib.hid (show docScan P x = out.take m by rw [HDS.out]; unfold limC; rw [HMX.out, if_pos ⟨by omega, hlm⟩]; rfl)
          have i3 : (m : Int) ≤ (vc : Int) := by omega
          have HTR := Lib.hid ((Row.take (k := m) (c' := vc) celOk HR.out (by omega) (by omega) (Nat.le_refl _)).slIn celOk)
          clear hneg hm
          go_wp2_with fail
          go_ret
          exact ⟨_, rfl, by rw [HLC.out]; exact HTR.out, HN0.out.trans HN.out⟩
        · have HLC := Lib.hid (show docScan P x = out by rw [HDS.out]; unfold limC; rw [HMX.out, if_neg (by omega)])
          clear hneg hm
          go_wp2_with fail
          go_ret
          exact ⟨_, rfl, by rw [HLC.out]; exact HR.out.slIn celOk, HN0.out.trans HN.out⟩
end
end Go.Proofs.YtecniafnihpjmaaGreatDoor
