/- The parts RpJ, RpJ2, RpJ3, joined. -/
import Derived.Test.YtecniafnihpjmaaGreatDoorTk
import Derived.Test.YtecniafnihpjmaaGreatDoorMg5
import Derived.Deep.RegionHeld3
import Derived.Deep.DeepCutAuto
import Derived.Deep.CutBlock
import Derived.Laws.EntriesVeiled
/- Chapter 19 (judge): Last, New, written, commit, Say, Load. Printed by genRpJ.py. -/
namespace Go.Proofs.YtecniafnihpjmaaGreatDoor
open Go.RowKit Go.Lap C
set_option linter.unusedVariables false
theorem chk1_key {x : Wri} (h : chk1 x = 0) : x.key.size ≤ 64 := by
  unfold chk1 at h
  split at h
  · cases h
  · omega
theorem chkFrom_key : ∀ {p : Option ByteArray} {l : List Wri}, chkFrom p l = 0 → ∀ x ∈ l, chk1 x = 0
  | _, [], _, x, hx => by cases hx
  | p, y :: l, h, x, hx => by
    unfold chkFrom at h
    split at h
    · rename_i hy; exact absurd h hy
    · rename_i hy
      split at h
      · cases h
      · rcases List.mem_cons.1 hx with rfl | hx
        · exact Decidable.byContradiction hy
        · exact chkFrom_key h x hx
theorem chk_key {l : List Wri} (h : chk l = 0) : l.length ≤ 8 ∧ ∀ x ∈ l, x.key.size ≤ maxLen := by
  unfold chk at h
  split at h
  · cases h
  · split at h
    · cases h
    · exact ⟨by omega, fun x hx => Nat.le_trans (chk1_key (chkFrom_key h x hx)) (by decide)⟩
theorem Blk3J {w : World} {g t : Nat} {a b c : Value} (h : Blk w g t #[a, b, c]) : g < w.heap.size ∧ w.cell? ⟨g, 0, none⟩ = some a ∧ w.cell? ⟨g, 1, none⟩ = some b ∧ w.cell? ⟨g, 2, none⟩ = some c ∧ (∀ i, w.frozen? ⟨g, i, none⟩ = false) := ⟨h.lt, h.cell 0, h.cell 1, h.cell 2, h.frozen⟩
theorem zeroUJ (w : World) : (zeroValue 22).run Tryz.prog w = .ok (.int .u64 0) w := by kernel_rfl
theorem mpGetR {P : Program} {kt t e b m : Nat} {κ : Type} [DecidableEq κ] {val : κ → Value} {lit : κ → Lit} {ok : κ → Prop} {w : World} {f : κ → Option Value} (B : KeyB P kt val lit ok) (h : MpAt P kt lit ok w b m f) (ht : P.underlying t = some (.map kt e)) {z : Value} (hz : (zeroValue e).run P w = .ok z w) (k : κ) (hk : ok k) :
    (Instr.lookup t (.map (some b)) (val k) false).run P w = .ok ((f k).getD z) w := by
  obtain ⟨D, h1, h2, h3, h4⟩ := id h
  obtain ⟨v, ps, hrun, hv⟩ := h1.lookup B.keyed ht hz (zd := .held z) (zp := []) rfl (B.read k hk)
  rw [h.value (h4 k hk) hv] at hrun
  exact hrun
theorem mpGetOkR {P : Program} {kt t e b m : Nat} {κ : Type} [DecidableEq κ] {val : κ → Value} {lit : κ → Lit} {ok : κ → Prop} {w : World} {f : κ → Option Value} (B : KeyB P kt val lit ok) (h : MpAt P kt lit ok w b m f) (ht : P.underlying t = some (.map kt e)) {z : Value} (hz : (zeroValue e).run P w = .ok z w) (k : κ) (hk : ok k) :
    (Instr.lookup t (.map (some b)) (val k) true).run P w = .ok (.tuple #[(f k).getD z, .bool (f k).isSome]) w := by
  obtain ⟨D, h1, h2, h3, h4⟩ := id h
  obtain ⟨v, ps, hrun, hv⟩ := h1.look_ok B.keyed ht hz (zd := .held z) (zp := []) rfl (B.read k hk)
  rw [h.value (h4 k hk) hv, (h4 k hk).1] at hrun
  exact hrun
theorem growR {w w' : World} {b : Nat} (hg : w.grownBy w' (some b)) : Upd (· = b) w w' := ⟨hg.os, hg.tape, hg.output, hg.size, fun k hk hn => hg.block k hk (fun e => hn (by injection e))⟩
theorem mpPutR {P : Program} {kt t e b m : Nat} {κ : Type} [DecidableEq κ] {val : κ → Value} {lit : κ → Lit} {ok : κ → Prop} {w : World} {f : κ → Option Value} (B : KeyB P kt val lit ok) (h : MpAt P kt lit ok w b m f) (ht : P.underlying t = some (.map kt e)) (hmx : m < maxLen) (k : κ) (hk : ok k) (v : Value) :
    ∃ w', (Instr.mapUpdate t (.map (some b)) (val k) v).run P w = .ok () w' ∧ MpAt P kt lit ok w' b (if (f k).isSome then m else m + 1) (fun j => if j = k then some v else f j) ∧ Upd (· = b) w w' := by
  obtain ⟨D, h1, h2, h3, h4⟩ := id h
  obtain ⟨w', hrun, h1', hg'⟩ := h1.update B.keyed ht hmx (B.read k hk) (val := v) (d := .held v) (ps := []) rfl
  exact ⟨w', hrun, h.put_of B hk v h2 h3 h4 h1', growR hg'⟩
section
variable {w w' : World} {S : Nat → Prop} {B : Nat} {L : JdL} {j : Jd} {x : BtV}
theorem whV_get (f : ByteArray → Option Nat) (k : ByteArray) : (whV f k).getD (.int .u64 0) = .int .u64 (((f k).getD 0 : Nat) : Int) := by unfold whV; cases f k <;> rfl
set_option maxHeartbeats 1000000 in
theorem jlast (h : JdAt w B L j) : Calls Tryz.prog 48 #[.pointer (some ⟨L.jb, 0, none⟩)] w fun e w' => e = .returned (.int .u64 (j.la : Int)) ∧ w' = w := by
  obtain ⟨g0, c0, c1, c2, cz⟩ := Blk3J h.blk
  clear h
  go_enter Tryz.func48, Tryz.ntmps48
  go_wp2_with fail
  go_ret
  exact ⟨rfl, rfl⟩
/-- From the k-th write on. -/
def WrRel (j : Jd) (s : Nat) (l : List Wri) (k : Nat) : Prop := (l.any fun x => decide (s < j.when_ x.key)) = ((l.drop k).any fun x => decide (s < j.when_ x.key))
theorem any_at {j : Jd} {s : Nat} {l : List Wri} {k : Nat} {y : Wri} (h : l[k]? = some y) : ((l.drop k).any fun x => decide (s < j.when_ x.key)) = (decide (s < j.when_ y.key) || ((l.drop (k + 1)).any fun x => decide (s < j.when_ x.key))) := by
  obtain ⟨hk, hx⟩ := List.getElem?_eq_some_iff.1 h
  rw [List.drop_eq_getElem_cons hk, hx]
  rfl
set_option maxRecDepth 100000 in
set_option maxHeartbeats 4000000 in
theorem jwritten (h : JdAt w B L j) (hb : BtAt w x) (hkey : ∀ y ∈ x.b.l, y.key.size ≤ maxLen) :
    Calls Tryz.prog 84 #[.pointer (some ⟨L.jb, 0, none⟩), x.val] w fun e w' => e = .returned (.bool (j.written x.b)) ∧ New w w' := by
  obtain ⟨⟨c, r, s, l⟩, A, cap⟩ := x
  obtain ⟨hsl, hok⟩ := hb
  obtain ⟨hoc, hor, hos, hol⟩ := hok
  obtain ⟨m, hm, hmp⟩ := h.wh
  obtain ⟨A', cap', hv, hlc, hh⟩ := hsl
  dsimp only [BtV.val, BtV.sl, batV] at hv hkey hlc hh hoc hor hos hol ⊢
  cases hv
  have hBk := Blk.mk_new w 40 #[.int .u64 (c : Int), .int .u64 (r : Int), .int .u64 (s : Int), .slice A l.length cap]
  have hN0 := (New.refl w).alloc (.cells #[.int .u64 (c : Int), .int .u64 (r : Int), .int .u64 (s : Int), .slice A l.length cap] 40)
  have HB := Lib.hid hBk
  have HN := Lib.hid hN0
  have HJ := Lib.hid h.blk
  have HM := Lib.hid hmp
  have HKEY := Lib.hid hkey
  have hW : j.written ⟨c, r, s, l⟩ = (l.any fun x => decide (s < j.when_ x.key)) := rfl
  rw [hW]
  clear hW hkey h hmp hm
  obtain ⟨p0, p1, p2, p3, p4, pz⟩ := Blk4F hBk
  clear hBk
  go_enter Tryz.func84, Tryz.ntmps84
  go_wp2_with fail
  go_loopw [6, 10] (fun _ i wr => ∃ k : Nat, k ≤ l.length ∧ i = .int .i64 k ∧ WrRel j s l k ∧ New (w.alloc (.cells #[.int .u64 (c : Int), .int .u64 (r : Int), .int .u64 (s : Int), .slice A l.length cap] 40)) wr) (fun _ i _ => l.length - (intOf i).toNat)
  case atStart => exact ⟨0, by omega, rfl, rfl, New.refl _⟩
  case round =>
    obtain ⟨k, hk, rfl, hfr, hn⟩ := hrel
    have HFR := Lib.hid hfr
    clear hfr
    have hCo := HN.out.trans hn
    by_cases hlt : k < l.length
    · obtain ⟨q0, q1, q2, q3, q4, qz⟩ := Blk4F (HB.out.new hn)
      have hlt2 : (k : Int) < (l.length : Int) := by omega
      have hk0 : (0 : Int) ≤ (k : Int) := by omega
      rcases hh with rfl | ⟨b, off, cs, rfl, hbb, hc⟩
      · simp at hlt
      obtain ⟨y, hy⟩ : ∃ y, l[k]? = some y := ⟨_, List.getElem?_eq_getElem hlt⟩
      have hyk := HKEY.out y (List.mem_of_getElem? hy)
      have hbbr := hbb.new hCo
      obtain ⟨e0, e1, e2⟩ := SlIn.three (fun k x h j u hu => (hbbr.cell _).trans (hc k x h j u hu)) hy
      have HFX := Lib.hid (HFR.out.trans (any_at hy))
      have hnx := hCo.alloc (.cells #[.string y.key, .string y.val, .bool y.gone] 97)
      have HNX := Lib.hid (hn.alloc (.cells #[.string y.key, .string y.val, .bool y.gone] 97))
      have HNW := Lib.hid hnx
      obtain ⟨f0, f1, f2, f3, fz⟩ := Blk3J (HJ.out.new hnx)
      obtain ⟨d0, d1, d2, d3, dz⟩ := Blk3J (Blk.mk_new wr 97 #[.string y.key, .string y.val, .bool y.gone])
      have hlk : (Instr.lookup 135 (.map (some L.wm)) (.string y.key) false).run Tryz.prog (wr.alloc (.cells #[.string y.key, .string y.val, .bool y.gone] 97)).drew = .ok (.int .u64 ((j.when_ y.key : Nat) : Int)) (wr.alloc (.cells #[.string y.key, .string y.val, .bool y.gone] 97)).drew := by
        have := mpGetR keyS.toKeyB (HM.out.new hnx.drew) Tryz.underlying135 (zeroUJ _) y.key hyk
        rw [whV_get] at this
        exact this
      clear hy hc hbb hbbr hyk hnx
      by_cases hw : s < j.when_ y.key
      · have hw3 : decide (s < j.when_ y.key) = true := decide_eq_true hw
        have HF2 := Lib.hid (show (l.any fun x => decide (s < j.when_ x.key)) = true by rw [HFX.out, decide_eq_true hw]; rfl)
        clear hw
        go_upto_region 4 with fail
        refine wp_region_held_drew (S := fun w' => w' = (wr.alloc (.cells #[.string y.key, .string y.val, .bool y.gone] 97)).drew) (by kernel_rfl) (rfl) (fun hHeld => ?_)
        refine tkN (i := 0) rfl ?_
        try simp only [Act.put, sA, sZ, sS]
        refine tkN (i := 1) rfl ?_
        try simp only [Act.put, sA, sZ, sS]
        refine tkN (i := 2) rfl ?_
        try simp only [Act.put, sA, sZ, sS]
        refine tkN (i := 3) rfl ?_
        try simp only [Act.put, sA, sZ, sS]
        refine tkN (i := 4) rfl ?_
        try simp only [Act.put, sA, sZ, sS]
        refine tkN (i := 5) rfl ?_
        try simp only [Act.put, sA, sZ, sS]
        refine tkN (i := 6) rfl ?_
        try simp only [Act.put, sA, sZ, sS]
        refine tkN (i := 7) rfl ?_
        try simp only [Act.put, sA, sZ, sS]
        refine tkN (i := 8) rfl ?_
        try simp only [Act.put, sA, sZ, sS]
        refine tkN (i := 9) rfl ?_
        try simp only [Act.put, sA, sZ, sS]
        refine wpAnyH_done (by kernel_rfl) ?_ _
        clear hHeld hlk
        go_wp2_with fail
        go_ret
        exact ⟨ret_bool (a := true) HF2.out.symm, HNW.out.drew⟩
      · have hw3 : decide (s < j.when_ y.key) = false := decide_eq_false hw
        have HF2 := Lib.hid (show WrRel j s l (k + 1) by unfold WrRel; rw [HFX.out, decide_eq_false hw]; rfl)
        clear hw
        go_upto_region 4 with fail
        refine wp_region_held_drew (S := fun w' => w' = (wr.alloc (.cells #[.string y.key, .string y.val, .bool y.gone] 97)).drew) (by kernel_rfl) (rfl) (fun hHeld => ?_)
        refine tkN (i := 0) rfl ?_
        try simp only [Act.put, sA, sZ, sS]
        refine tkN (i := 1) rfl ?_
        try simp only [Act.put, sA, sZ, sS]
        refine tkN (i := 2) rfl ?_
        try simp only [Act.put, sA, sZ, sS]
        refine tkN (i := 3) rfl ?_
        try simp only [Act.put, sA, sZ, sS]
        refine tkN (i := 4) rfl ?_
        try simp only [Act.put, sA, sZ, sS]
        refine tkN (i := 5) rfl ?_
        try simp only [Act.put, sA, sZ, sS]
        refine tkN (i := 6) rfl ?_
        try simp only [Act.put, sA, sZ, sS]
        refine tkN (i := 7) rfl ?_
        try simp only [Act.put, sA, sZ, sS]
        refine tkN (i := 8) rfl ?_
        try simp only [Act.put, sA, sZ, sS]
        refine tkN (i := 9) rfl ?_
        try simp only [Act.put, sA, sZ, sS]
        refine wpAnyH_done (by kernel_rfl) ?_ _
        clear hHeld hlk
        go_wp2_with fail
        go_roundw
        case rel => exact ⟨k + 1, by omega, by go_num, HF2.out, HNX.out.drew⟩
        case measure => simp [intOf]; omega
    · have hlt2 : ¬ (k : Int) < (l.length : Int) := by omega
      have HF2 := Lib.hid (show (l.any fun x => decide (s < j.when_ x.key)) = false by rw [HFR.out, List.drop_eq_nil_of_le (by omega)]; rfl)
      go_wp2_with fail
      go_ret
      exact ⟨ret_bool (a := false) HF2.out.symm, hCo⟩
theorem JdAt.setWh (h : JdAt w B L j) {k : ByteArray} (hk : okS k) (t : Nat) : ∃ m, m ≤ B ∧ MpAt Tryz.prog 9 litS okS w L.wm m (whV j.wh) ∧
    ∀ w6, MpAt Tryz.prog 9 litS okS w6 L.wm (if (whV j.wh k).isSome then m else m + 1) (fun i => if i = k then some (.int .u64 (t : Int)) else whV j.wh i) → Upd (· = L.wm) w w6 → JdAt w6 (B + 1) L { j with wh := setD j.wh k (some t) } := by
  obtain ⟨m, h1, h2⟩ := h.wh
  refine ⟨m, h1, h2, fun w6 h6 hu => ?_⟩
  obtain ⟨n, h3, h4⟩ := h.sn
  refine ⟨h.blk.upd hu (fun e => Blk.ne_map h.blk h2 e), ⟨_, ?_, h6.congr fun i hi => ?_⟩, ⟨n, by omega, h4.upd hu (fun e => h.ne e.symm)⟩, h.ne, by have := h.la; show j.la ≤ _; omega⟩
  · split <;> omega
  · show _ = whV (setD j.wh k (some t)) i
    unfold whV setD
    split <;> rfl
theorem JdAt.setSn (h : JdAt w B L j) {c : Nat} (hc : okU c) (q : Nat) (v : Vd) : ∃ m, m ≤ B ∧ MpAt Tryz.prog 22 litU okU w L.sm m (snV j.sn) ∧
    ∀ w6, MpAt Tryz.prog 22 litU okU w6 L.sm (if (snV j.sn c).isSome then m else m + 1) (fun i => if i = c then some (.agg #[.int .u64 (q : Int), .int .u64 (v.t : Int), .int .i64 v.e]) else snV j.sn i) → Upd (· = L.sm) w w6 → JdAt w6 (B + 1) L { j with sn := setD j.sn c (some (q, v)) } := by
  obtain ⟨n, h3, h4⟩ := h.sn
  refine ⟨n, h3, h4, fun w6 h6 hu => ?_⟩
  obtain ⟨m, h1, h2⟩ := h.wh
  refine ⟨h.blk.upd hu (fun e => Blk.ne_map h.blk h4 e), ⟨m, by omega, h2.upd hu (fun e => h.ne e)⟩, ⟨_, ?_, h6.congr fun i hi => ?_⟩, h.ne, by have := h.la; show j.la ≤ _; omega⟩
  · split <;> omega
  · show _ = snV (setD j.sn c (some (q, v))) i
    unfold snV setD
    split <;> rfl
def whT (j : Jd) (l : List Wri) (k : Nat) : Jd := { j with la := j.la + 1, wh := (l.take k).foldl (fun f x => setD f x.key (some (j.la + 1))) j.wh }
theorem whT_next {j : Jd} {l : List Wri} {k : Nat} {y : Wri} (h : l[k]? = some y) : { whT j l k with wh := setD (whT j l k).wh y.key (some (j.la + 1)) } = whT j l (k + 1) := by
  unfold whT
  rw [take_snoc h, List.foldl_append]
  rfl
theorem JdAt.setLa (h : JdAt w B L j) {t : Nat} (ht : t ≤ B + 1) : JdAt (w.setCell ⟨L.jb, 0, none⟩ (.int .u64 (t : Int))) (B + 1) L { j with la := t } := by
  have hu : Upd (· = L.jb) w (w.setCell ⟨L.jb, 0, none⟩ (.int .u64 (t : Int))) := (Upd.refl _ w).setIn 0 _
  obtain ⟨m, h1, h2⟩ := h.wh
  obtain ⟨n, h3, h4⟩ := h.sn
  exact ⟨h.blk.set_ 0 _, ⟨m, by omega, h2.upd hu (fun e => Blk.ne_map h.blk h2 e.symm)⟩, ⟨n, by omega, h4.upd hu (fun e => Blk.ne_map h.blk h4 e.symm)⟩, h.ne, ht⟩
set_option maxRecDepth 100000 in
set_option maxHeartbeats 4000000 in
theorem jcommit (h : JdAt w B L j) (hb : BtAt w x) (hkey : x.b.l.length ≤ 8 ∧ ∀ y ∈ x.b.l, y.key.size ≤ maxLen) (hB : B ≤ 1000000000) :
    Calls Tryz.prog 74 #[.pointer (some ⟨L.jb, 0, none⟩), x.val] w fun e w' => e = .returned (.int .u64 ((j.la + 1 : Nat) : Int)) ∧ JdAt w' (B + 9) L (j.commit x.b) ∧ Upd (JdF L) w w' := by
  obtain ⟨⟨c, r, s, l⟩, A, cap⟩ := x
  obtain ⟨hsl, hok⟩ := hb
  obtain ⟨A', cap', hv, hlc, hh⟩ := hsl
  obtain ⟨hl8, hkey⟩ := hkey
  dsimp only [BtV.val, BtV.sl, batV] at hv hkey hlc hh hl8 ⊢
  cases hv
  clear hok
  have hBk := Blk.mk_new w 40 #[.int .u64 (c : Int), .int .u64 (r : Int), .int .u64 (s : Int), .slice A l.length cap]
  have hN0 := (New.refl w).alloc (.cells #[.int .u64 (c : Int), .int .u64 (r : Int), .int .u64 (s : Int), .slice A l.length cap] 40)
  have HN := Lib.hid hN0
  have HLT := Lib.hid h.lt
  have HOFF1 : Hid (∀ b cs, Blk w b 97 cs → ¬ b = L.jb) := Lib.hid (Off.blk h.blk (by decide))
  have HOFF2 : Hid (∀ b cs, Blk w b 97 cs → ¬ JdF L b) := Lib.hid (h.off (by decide))
  have HKEY := Lib.hid hkey
  have HLA := Lib.hid h.la
  have h1 := h.new hN0
  have HJ := Lib.hid h1
  obtain ⟨p0, p1, p2, p3, p4, pz⟩ := Blk4F hBk
  obtain ⟨f0, f1, f2, f3, fz⟩ := Blk3J h1.blk
  have hjne : ¬ L.jb = w.heap.size := by have := h.blk.lt; omega
  have hwr : IntKind.u64.wrap ((j.la : Int) + 1) = (j.la : Int) + 1 := IntWalk.u64_in _ (by have := h.la; omega)
  have HBk := Lib.hid hBk
  clear hkey h h1 hBk hN0
  have HWS : Hid ((w.alloc (.cells #[.int .u64 (c : Int), .int .u64 (r : Int), .int .u64 (s : Int), .slice A l.length cap] 40)).heap.size = w.heap.size + 1) := Lib.hid (by simp)
  go_enter Tryz.func74, Tryz.ntmps74
  go_upto_region 1 with fail
  generalize w.alloc (.cells #[.int .u64 (c : Int), .int .u64 (r : Int), .int .u64 (s : Int), .slice A l.length cap] 40) = W at *
  have hcast : ((j.la + 1 : Nat) : Int) = (j.la : Int) + 1 := by omega
  have hS1 := HJ.out.setLa (t := j.la + 1) (by have := HLA.out; omega)
  rw [hcast] at hS1
  have hUW : Upd (· = L.jb) W (W.setCell ⟨L.jb, 0, none⟩ (.int .u64 ((j.la : Int) + 1))) := (Upd.refl _ W).setIn 0 _
  have hbx1 := HBk.out.upd hUW (fun e => hjne e.symm)
  have HS1 := Lib.hid hS1
  have HUW := Lib.hid hUW
  have HBX1 := Lib.hid hbx1
  obtain ⟨P0, P1, P2, P3, P4, PZ⟩ := Blk4F hbx1
  clear hS1 hUW hbx1
  go_upto_region 2 with fail
  clear f0 f1 f2 f3 fz p0 p1 p2 p3 p4 pz hwr
  generalize W.setCell ⟨L.jb, 0, none⟩ (.int .u64 ((j.la : Int) + 1)) = W2 at *
  have HCST := Lib.hid hcast
  clear hcast
  have HWZ : Hid (W.heap.size ≤ W2.heap.size) := Lib.hid HUW.out.size
  go_wp2_with fail
  go_loopw [6, 17] (fun _ i wr => ∃ k : Nat, k ≤ l.length ∧ i = .int .i64 k ∧ JdAt wr (B + 1 + k) L (whT j l k) ∧ Upd (JdF L) W2 wr) (fun _ i _ => l.length - (intOf i).toNat)
  case atStart => exact ⟨0, by omega, rfl, HS1.out, Upd.refl _ _⟩
  case round =>
    obtain ⟨k, hk, rfl, hj, hu⟩ := hrel
    have hbx := HBX1.out.upd hu (fun hk => by have := HLT.out _ hk; omega)
    have hWr : w.heap.size < wr.heap.size := hbx.lt
    have HUR := Lib.hid hu
    by_cases hlt : k < l.length
    · obtain ⟨q0, q1, q2, q3, q4, qz⟩ := Blk4F hbx
      have hlt2 : (k : Int) < (l.length : Int) := by omega
      have hk0 : (0 : Int) ≤ (k : Int) := by omega
      rcases hh with rfl | ⟨b, off, cs, rfl, hbb, hc⟩
      · simp at hlt
      obtain ⟨y, hy⟩ : ∃ y, l[k]? = some y := ⟨_, List.getElem?_eq_getElem hlt⟩
      have hyk := HKEY.out y (List.mem_of_getElem? hy)
      have hbbr : Blk wr b 97 cs := (((hbb.new HN.out).upd HUW.out (HOFF1.out b cs hbb))).upd hu (HOFF2.out b cs hbb)
      obtain ⟨e0, e1, e2⟩ := SlIn.three (fun k x h j u hu => (hbbr.cell _).trans (hc k x h j u hu)) hy
      have hnx := (New.refl wr).alloc (.cells #[.string y.key, .string y.val, .bool y.gone] 97)
      have HNX := Lib.hid hnx
      have hj2 := hj.new hnx
      have HJ2 := Lib.hid hj2
      have HJL := Lib.hid hj.lt
      have hbbl : b < wr.heap.size := hbbr.lt
      obtain ⟨f0, f1, f2, f3, fz⟩ := Blk3J hj2.blk
      obtain ⟨d0, d1, d2, d3, dz⟩ := Blk3J (Blk.mk_new wr 97 #[.string y.key, .string y.val, .bool y.gone])
      have HY := Lib.hid hy
      have HKY := Lib.hid hyk
      clear hy hc hbb hbbr hyk hnx hj hj2 hbx hu
      go_upto_region 5 with fail
      generalize hWX : wr.alloc (.cells #[.string y.key, .string y.val, .bool y.gone] 97) = wx at *
      obtain ⟨m, hm, hmp, hnext⟩ := (HJ2.out.new (New.refl wx).drew).setWh HKY.out (j.la + 1)
      obtain ⟨w6, hrun, hm6, hu6⟩ := mpPutR keyS.toKeyB hmp Tryz.underlying135 (by unfold maxLen; omega) y.key HKY.out (.int .u64 ((j.la + 1 : Nat) : Int))
      have HN6 := Lib.hid (hnext w6 hm6 hu6)
      have HU6 := Lib.hid hu6
      have hcast := HCST.out
      rw [hcast] at hrun
      have hla1 : (whT j l k).la = j.la + 1 := rfl
      rw [hla1, hcast] at f1
      have hwl := hmp.lt
      have k1 := keepR hu6 (show L.jb < wx.drew.heap.size from f0) (fun e => Blk.ne_map (HJ2.out.new (New.refl wx).drew).blk hmp e)
      have k2 := keepR hu6 (show wr.heap.size < wx.drew.heap.size from d0) (fun e => by have := HJL.out _ (.inr (.inl rfl)); omega)
      clear hm hmp hnext hm6 hu6 hla1 hwl
      refine wp_region_held_drew (S := fun w' => (∀ o, w'.cell? ⟨L.jb, o, none⟩ = wx.cell? ⟨L.jb, o, none⟩) ∧ (∀ o, w'.cell? ⟨wr.heap.size, o, none⟩ = wx.cell? ⟨wr.heap.size, o, none⟩)) (by kernel_rfl) (⟨fun _ => rfl, fun _ => rfl⟩) (fun hHeld => ?_)
      refine tkN (i := 0) rfl ?_
      try simp only [Act.put, sA, sZ, sS]
      refine tkN (i := 1) rfl ?_
      try simp only [Act.put, sA, sZ, sS]
      refine tkN (i := 2) rfl ?_
      try simp only [Act.put, sA, sZ, sS]
      refine tkN (i := 3) rfl ?_
      try simp only [Act.put, sA, sZ, sS]
      refine tkN (i := 4) rfl ?_
      try simp only [Act.put, sA, sZ, sS]
      refine tkN (i := 5) rfl ?_
      try simp only [Act.put, sA, sZ, sS]
      refine tkN (i := 6) rfl ?_
      try simp only [Act.put, sA, sZ, sS]
      refine tkN (i := 7) rfl ?_
      try simp only [Act.put, sA, sZ, sS]
      refine tkN (i := 8) rfl ?_
      try simp only [Act.put, sA, sZ, sS]
      refine tkN (i := 9) rfl ?_
      try simp only [Act.put, sA, sZ, sS]
      refine stN (i := 10) rfl (fun K hK => ?_)
      go_simp
      refine hK.out _ _ ?_ (fun hHeld => ?_)
      · exact ⟨k1, k2⟩
      clear hK K
      try simp only [Act.put, sA, sZ, sS]
      refine wpAnyH_done (by kernel_rfl) ?_ _
      clear hHeld hrun k1 k2
      go_wp2_with fail
      go_roundw
      case rel =>
        refine ⟨k + 1, by omega, by go_num, ?_, HUR.out.trans (Upd.trans (Upd.new (S := JdF L) HNX.out.drew) HU6.out (fun i _ hi => .inr (.inl hi))) (fun _ _ hi => hi)⟩
        have := HN6.out
        rw [whT_next HY.out] at this
        exact this
      case measure => simp [intOf]; omega
    · have hlt2 : ¬ (k : Int) < (l.length : Int) := by omega
      obtain rfl : k = l.length := by omega
      obtain ⟨f0, f1, f2, f3, fz⟩ := Blk3J hj.blk
      have hfin : JdAt wr (B + 9) L (j.commit ⟨c, r, s, l⟩) := by
        have e : whT j l l.length = j.commit ⟨c, r, s, l⟩ := by unfold whT Jd.commit; rw [List.take_length]
        rw [← e]
        exact hj.mono (by omega)
      have HF := Lib.hid hfin
      clear hfin hj hbx hu
      go_wp2_with fail
      go_ret
      exact ⟨rfl, HF.out, (Upd.new (S := JdF L) HN.out).trans ((HUW.out.mono (fun _ _ h => .inl h)).trans HUR.out (fun _ _ h => h)) (fun _ _ h => h)⟩
end
end Go.Proofs.YtecniafnihpjmaaGreatDoor

/- Chapter 19 (judge): Say. Printed by genRpJ2.py. -/
namespace Go.Proofs.YtecniafnihpjmaaGreatDoor
open Go.RowKit Go.Lap C
set_option linter.unusedVariables false
theorem Blk1J {w : World} {g t : Nat} {a : Value} (h : Blk w g t #[a]) : g < w.heap.size ∧ w.cell? ⟨g, 0, none⟩ = some a ∧ (∀ i, w.frozen? ⟨g, i, none⟩ = false) := ⟨h.lt, h.cell 0, h.frozen⟩
theorem Blk2J {w : World} {g t : Nat} {a b : Value} (h : Blk w g t #[a, b]) : g < w.heap.size ∧ w.cell? ⟨g, 0, none⟩ = some a ∧ w.cell? ⟨g, 1, none⟩ = some b ∧ (∀ i, w.frozen? ⟨g, i, none⟩ = false) := ⟨h.lt, h.cell 0, h.cell 1, h.frozen⟩
section
variable {w w' W wa : World} {S : Nat → Prop} {B a a6 a7 c r s q : Nat} {L : JdL} {j : Jd} {x : BtV} {sl : Value}
/-- The boxes of Say. -/
structure SyM (W : World) (a : Nat) (jb c r s : Nat) (sl : Value) : Prop where
  b0 : Blk W a 101 #[.pointer (some ⟨jb, 0, none⟩)]
  b1 : Blk W (a + 1) 40 #[.int .u64 (c : Int), .int .u64 (r : Int), .int .u64 (s : Int), sl]
  b2 : Blk W (a + 1 + 1) 49 #[.int .u64 0, .int .i64 0]
theorem SyM.upd {jb : Nat} (h : SyM W a jb c r s sl) (hu : Upd S W wa) (hS : ∀ k, S k → k < a ∨ a + 2 < k) : SyM wa a jb c r s sl :=
  ⟨h.b0.upd hu (fun hk => by have := hS _ hk; omega), h.b1.upd hu (fun hk => by have := hS _ hk; omega), h.b2.upd hu (fun hk => by have := hS _ hk; omega)⟩
theorem SyM.new {jb : Nat} (h : SyM W a jb c r s sl) (hn : New W wa) : SyM wa a jb c r s sl := ⟨h.b0.new hn, h.b1.new hn, h.b2.new hn⟩
theorem SyM.drewS {jb : Nat} (h : SyM W a jb c r s sl) : SyM W.drew a jb c r s sl := h.new (New.refl W).drew
def toldV (p : Option (Nat × Vd)) : Array Value := match p with | none => #[.int .u64 0, .int .u64 0, .int .i64 0] | some (q, v) => #[.int .u64 (q : Int), .int .u64 (v.t : Int), .int .i64 v.e]
theorem snV_get (f : Nat → Option (Nat × Vd)) (c : Nat) : (snV f c).getD (.agg #[.int .u64 0, .int .u64 0, .int .i64 0]) = .agg (toldV (f c)) := by unfold snV toldV; cases f c <;> rfl
theorem snV_some (f : Nat → Option (Nat × Vd)) (c : Nat) : (snV f c).isSome = (f c).isSome := by unfold snV; cases f c <;> rfl
theorem zeroTold (w : World) : (zeroValue 141).run Tryz.prog w = .ok (.agg #[.int .u64 0, .int .u64 0, .int .i64 0]) w := by kernel_rfl
/-- Behind the lookup. -/
def AftL (W : World) (p : Option (Nat × Vd)) (s6 s7 : Value) (wx : World) : Prop :=
  ∃ a6 a7, s6 = .pointer (some ⟨a6, 0, none⟩) ∧ s7 = .pointer (some ⟨a7, 0, none⟩) ∧ a6 ≠ a7 ∧ W.heap.size ≤ a6 ∧ W.heap.size ≤ a7 ∧ Blk wx a6 141 (toldV p) ∧ Blk wx a7 4 #[.bool p.isSome] ∧ New W wx
theorem told_lit (p : Option (Nat × Vd)) : ∃ (t0 t1 : Nat) (t2 : Int), toldV p = #[.int .u64 (t0 : Int), .int .u64 (t1 : Int), .int .i64 t2] := by
  cases p with
  | none => exact ⟨0, 0, 0, rfl⟩
  | some p => exact ⟨_, _, _, rfl⟩
theorem blk_two (w : World) (o : Obj) (t : TypeId) (cs : Array Value) : Blk ((w.alloc o).alloc (.cells cs t)).drew (w.heap.size + 1) t cs := by
  have := Blk.mk_new (w.alloc o) t cs
  rw [World.size_alloc] at this
  exact this
def SayPost (w : World) (B : Nat) (L : JdL) (r : Jd × Vd) (e : Ending) (w' : World) : Prop := e = .returned (.agg #[.int .u64 (r.2.t : Int), .int .i64 r.2.e]) ∧ JdAt w' (B + 10) L r.1 ∧ Upd (JdF L) w w'
theorem SayPost.fin {j' : Jd} {C t : Nat} {e : Int} {u v : Value} (hj : JdAt wa C L j') (hC : C ≤ B + 10) (hu : Upd (JdF L) w wa) (hlt : ∀ k, JdF L k → k < w.heap.size) : SayPost w B L (j', ⟨t, e⟩) (.returned (.agg #[.int .u64 (t : Int), .int .i64 e])) ((wa.setCell ⟨w.heap.size + 1 + 1, 0, none⟩ u).setCell ⟨w.heap.size + 1 + 1, 1, none⟩ v) := by
  have hu2 : Upd (· = w.heap.size + 1 + 1) wa ((wa.setCell ⟨w.heap.size + 1 + 1, 0, none⟩ u).setCell ⟨w.heap.size + 1 + 1, 1, none⟩ v) := ((Upd.refl _ wa).setIn 0 u).setIn 1 v
  exact ⟨rfl, (hj.upd hu2 (fun k hk e => by have := hlt k hk; omega)).mono hC, hu.trans hu2 (fun i hi e => by omega)⟩
theorem askAt (f0 f1 f2 e0 e1 e2 : Value) (w : World) :
    (Instr.index 151 (.agg #[f0, e0, f1, e1, f2, e2]) (.int .i64 0)).run Tryz.prog w = .ok (.agg #[f0, e0]) w ∧ (Instr.index 151 (.agg #[f0, e0, f1, e1, f2, e2]) (.int .i64 1)).run Tryz.prog w = .ok (.agg #[f1, e1]) w ∧
    (Instr.index 151 (.agg #[f0, e0, f1, e1, f2, e2]) (.int .i64 2)).run Tryz.prog w = .ok (.agg #[f2, e2]) w := by
  refine ⟨?_, ?_, ?_⟩ <;> kernel_rfl
set_option maxHeartbeats 1000000 in
theorem sayF1 {was : Bool} {a7 a6 ab q : Nat} {u v : Value} (h7 : Blk W a7 4 #[.bool was]) (hb : Blk W ab 40 #[.int .u64 (c : Int), .int .u64 (r : Int), .int .u64 (s : Int), sl]) (h6 : Blk W a6 141 #[.int .u64 (q : Int), u, v]) :
    Calls Tryz.prog 81 #[.pointer (some ⟨a7, 0, none⟩), .pointer (some ⟨ab, 0, none⟩), .pointer (some ⟨a6, 0, none⟩)] W fun e w' => e = .returned (.bool (was && decide (r < q))) ∧ New W w' := by
  obtain ⟨b0, b1, bz⟩ := Blk1J h7
  obtain ⟨q0, q1, q2, q3, q4, qz⟩ := Blk4F hb
  obtain ⟨u0, u1, u2, u3, uz⟩ := Blk3J h6
  clear h7 hb h6
  cases was with
  | false =>
    go_enter Tryz.func81, Tryz.ntmps81
    go_wp2_with fail
    go_ret
    exact ⟨rfl, New.refl _⟩
  | true =>
    go_enter Tryz.func81, Tryz.ntmps81
    go_wp2_with fail
    go_ret
    exact ⟨rfl, New.refl _⟩
set_option maxHeartbeats 1000000 in
theorem sayF2 {jb ab aj la : Nat} {u v : Value} (hj : Blk W aj 101 #[.pointer (some ⟨jb, 0, none⟩)]) (hb : Blk W ab 40 #[.int .u64 (c : Int), .int .u64 (r : Int), .int .u64 (s : Int), sl]) (h6 : Blk W jb 138 #[.int .u64 (la : Int), u, v]) :
    Calls Tryz.prog 82 #[.pointer (some ⟨ab, 0, none⟩), .pointer (some ⟨aj, 0, none⟩)] W fun e w' => e = .returned (.bool (decide (la < s))) ∧ New W w' := by
  obtain ⟨b0, b1, bz⟩ := Blk1J hj
  obtain ⟨q0, q1, q2, q3, q4, qz⟩ := Blk4F hb
  obtain ⟨u0, u1, u2, u3, uz⟩ := Blk3J h6
  clear hj hb h6
  go_enter Tryz.func82, Tryz.ntmps82
  go_wp2_with fail
  go_quiet (fail)
  go_wp2_with fail
  go_ret
  exact ⟨by simp, (New.refl _).drewN _⟩
set_option maxHeartbeats 1000000 in
theorem sayF3 {jb aj la : Nat} {u v : Value} (hj : Blk W aj 101 #[.pointer (some ⟨jb, 0, none⟩)]) (h6 : Blk W jb 138 #[.int .u64 (la : Int), u, v]) (hla : la < 9223372036854775807) :
    Calls Tryz.prog 83 #[.pointer (some ⟨aj, 0, none⟩)] W fun e w' => e = .returned (.bool false) ∧ New W w' := by
  obtain ⟨b0, b1, bz⟩ := Blk1J hj
  obtain ⟨u0, u1, u2, u3, uz⟩ := Blk3J h6
  have hl2 : ¬ (9223372036854775807 : Int) ≤ (la : Int) := by omega
  have hl3 : ¬ 9223372036854775807 ≤ la := by omega
  clear hj h6
  go_enter Tryz.func83, Tryz.ntmps83
  go_wp2_with fail
  go_ret
  exact ⟨by simp, New.refl _⟩
set_option maxRecDepth 100000 in
set_option maxHeartbeats 8000000 in
theorem jsay (h : JdAt w B L j) (hb : BtAt w x) (hB : B ≤ 100000000) :
    Calls Tryz.prog 47 #[.pointer (some ⟨L.jb, 0, none⟩), x.val] w (SayPost w B L (j.say x.b)) := by
  obtain ⟨⟨c, r, s, l⟩, A, cap⟩ := x
  have HBT := Lib.hid hb
  obtain ⟨hsl, hoc, hor, hos, hol⟩ := hb
  dsimp only [BtV.val, BtV.sl, batV] at hsl hoc hor hos hol ⊢
  have hN := (((New.refl w).alloc (.cells #[.pointer (some ⟨L.jb, 0, none⟩)] 101)).alloc (.cells #[.int .u64 (c : Int), .int .u64 (r : Int), .int .u64 (s : Int), .slice A l.length cap] 40)).alloc (.cells #[.int .u64 0, .int .i64 0] 49)
  have hM : SyM (((w.alloc (.cells #[.pointer (some ⟨L.jb, 0, none⟩)] 101)).alloc (.cells #[.int .u64 (c : Int), .int .u64 (r : Int), .int .u64 (s : Int), .slice A l.length cap] 40)).alloc (.cells #[.int .u64 0, .int .i64 0] 49)) w.heap.size L.jb c r s (.slice A l.length cap) := by
    refine ⟨((Blk.mk_new _ _ _).alloc _).alloc _, ?_, ?_⟩
    · have := (Blk.mk_new (w.alloc (.cells #[.pointer (some ⟨L.jb, 0, none⟩)] 101)) 40 #[.int .u64 (c : Int), .int .u64 (r : Int), .int .u64 (s : Int), .slice A l.length cap]).alloc (.cells #[.int .u64 0, .int .i64 0] 49)
      rw [World.size_alloc] at this
      exact this
    · have := Blk.mk_new ((w.alloc (.cells #[.pointer (some ⟨L.jb, 0, none⟩)] 101)).alloc (.cells #[.int .u64 (c : Int), .int .u64 (r : Int), .int .u64 (s : Int), .slice A l.length cap] 40)) 49 #[.int .u64 0, .int .i64 0]
      rw [World.size_alloc, World.size_alloc] at this
      exact this
  have hla := h.la
  have hjlt := h.blk.lt
  have HJ := Lib.hid h
  have HN := Lib.hid hN
  have HM := Lib.hid hM
  have HSL := Lib.hid (hsl.slIn.new hN)
  obtain ⟨p0, p1, pz⟩ := Blk1J hM.b0
  obtain ⟨q0, q1, q2, q3, q4, qz⟩ := Blk4F hM.b1
  obtain ⟨r0, r1, r2, rz⟩ := Blk2J hM.b2
  have HLT := Lib.hid h.lt
  clear h hN hM hsl
  go_enter Tryz.func47, Tryz.ntmps47
  go_upto_region 1 with fail
  generalize (((w.alloc (.cells #[.pointer (some ⟨L.jb, 0, none⟩)] 101)).alloc (.cells #[.int .u64 (c : Int), .int .u64 (r : Int), .int .u64 (s : Int), .slice A l.length cap] 40)).alloc (.cells #[.int .u64 0, .int .i64 0] 49)) = W at *
  go_wp2_with fail
  refine (check_any c r s _ l W (by omega) HSL.out).mono ?_
  rintro e4 w4 ⟨rfl, hn4⟩
  have HN4 := Lib.hid (HN.out.trans hn4)
  have HM4 := Lib.hid (HM.out.new hn4)
  have HMW : Hid (w.heap.size + 1 + 1 < w4.heap.size) := Lib.hid HM4.out.b2.lt
  have HJ4 := Lib.hid (HJ.out.new HN4.out)
  clear p0 p1 pz q0 q1 q2 q3 q4 qz r0 r1 r2 rz hn4 HN HM
  obtain ⟨p0, p1, pz⟩ := Blk1J HM4.out.b0
  obtain ⟨q0, q1, q2, q3, q4, qz⟩ := Blk4F HM4.out.b1
  obtain ⟨r0, r1, r2, rz⟩ := Blk2J HM4.out.b2
  by_cases hck : chk l = 0
  case neg =>
    have hF : j.say ⟨c, r, s, l⟩ = (j, ⟨0, chk l⟩) := by unfold Jd.say; rw [if_pos hck]
    have HF := Lib.hid hF
    clear hF
    go_wp2_with fail
    rw [HF.out]
    exact bodyPost_ret (v := .agg #[.int .u64 0, .int .i64 (chk l)]) (by simp [results, Tryz.results47, go_sem, r1, r2]) rfl (SayPost.fin (t := 0) HJ4.out (by omega) (Upd.new HN4.out) HLT.out)
  case pos =>
    have hky := chk_key hck
    have HKY := Lib.hid hky
    have HCK := Lib.hid hck
    obtain ⟨m, hm, hmp⟩ := HJ4.out.sn
    have HMP := Lib.hid hmp
    obtain ⟨f0, f1, f2, f3, fz⟩ := Blk3J HJ4.out.blk
    have HLK : Hid (∀ wq, New w4 wq → (Instr.lookup 136 (.map (some L.sm)) (.int .u64 (c : Int)) true).run Tryz.prog wq = .ok (.tuple #[.agg (toldV (j.sn c)), .bool (j.sn c).isSome]) wq) := Lib.hid fun wq hq => by
      have := mpGetOkR keyU64.toKeyB (HMP.out.new hq) Tryz.underlying136 (zeroTold _) c (okU_lt hoc)
      rw [snV_get, snV_some] at this
      exact this
    clear hm hmp hky
    rw [hck]
    go_upto_region 4 with fail
    go_cut [6, 7] (fun s6 s7 wx => AftL w4 (j.sn c) s6 s7 wx)
    case first =>
      obtain ⟨t0, t1, t2, hT⟩ := told_lit (j.sn c)
      have HT := Lib.hid hT
      rw [hT] at HLK
      have hlk0 := HLK.out w4.drew (New.refl w4).drew
      clear hT
      refine wp_region_held_drew (S := fun w' => Held w4 w' ∧ (Instr.lookup 136 (.map (some L.sm)) (.int .u64 (c : Int)) true).run Tryz.prog w' = .ok (.tuple #[.agg #[.int .u64 (t0 : Int), .int .u64 (t1 : Int), .int .i64 t2], .bool (j.sn c).isSome]) w') (by kernel_rfl) (⟨Held.of (New.refl w4).drew, hlk0⟩) (fun hHeld => ?_)
      refine tkN (i := 0) rfl ?_
      try simp only [Act.put, sA, sZ, sS]
      refine tkN (i := 1) rfl ?_
      try simp only [Act.put, sA, sZ, sS]
      refine tkN (i := 2) rfl ?_
      try simp only [Act.put, sA, sZ, sS]
      refine tkN (i := 3) rfl ?_
      try simp only [Act.put, sA, sZ, sS]
      refine tkN (i := 4) rfl ?_
      try simp only [Act.put, sA, sZ, sS]
      refine tkN (i := 5) rfl ?_
      try simp only [Act.put, sA, sZ, sS]
      refine tkN (i := 6) rfl ?_
      try simp only [Act.put, sA, sZ, sS]
      refine tkN (i := 7) rfl ?_
      try simp only [Act.put, sA, sZ, sS]
      refine tkN (i := 8) rfl ?_
      try simp only [Act.put, sA, sZ, sS]
      refine tkN (i := 9) rfl ?_
      try simp only [Act.put, sA, sZ, sS]
      refine wpAnyH_ready (rs := [10, 11]) (by kernel_rfl) (by simp) ?_
      refine rdN rfl (fun K hK => ?_) (rdN rfl (fun K hK => ?_) AllReadyH.nil)
      · go_simp
        refine hK.out _ _ ?_ (fun hHeld => ?_)
        · exact ⟨Held.of (((New.refl w4).alloc _).drew), HLK.out _ (((New.refl w4).alloc _).drew)⟩
        clear hK K
        try simp only [Act.put, sA, sZ, sS]
        refine stN (i := 11) rfl (fun K hK => ?_)
        go_simp
        refine hK.out _ _ ?_ (fun hHeld => ?_)
        · exact ⟨Held.of ((((New.refl w4).alloc _).alloc _).drew), HLK.out _ ((((New.refl w4).alloc _).alloc _).drew)⟩
        clear hK K
        try simp only [Act.put, sA, sZ, sS]
        refine stN (i := 12) rfl (fun K hK => ?_)
        go_simp
        refine hK.out _ _ ?_ (fun hHeld => ?_)
        · exact ⟨Held.of ((((New.refl w4).alloc _).alloc _).drew), HLK.out _ ((((New.refl w4).alloc _).alloc _).drew)⟩
        clear hK K
        try simp only [Act.put, sA, sZ, sS]
        refine stN (i := 13) rfl (fun K hK => ?_)
        go_simp
        refine hK.out _ _ ?_ (fun hHeld => ?_)
        · exact ⟨Held.of ((((New.refl w4).alloc _).alloc _).drew), HLK.out _ ((((New.refl w4).alloc _).alloc _).drew)⟩
        clear hK K
        try simp only [Act.put, sA, sZ, sS]
        refine wpAnyH_done (by kernel_rfl) ?_ _
        clear hHeld
        go_wp2_with fail
        go_meet
        exact ⟨w4.heap.size, (w4.heap.size + 1), rfl, rfl, by omega, by omega, by omega, by rw [HT.out]; exact ((Blk.mk_new w4 141 #[.int .u64 (t0 : Int), .int .u64 (t1 : Int), .int .i64 t2]).alloc (.cells #[.bool (j.sn c).isSome] 4)).drew, blk_two w4 (.cells #[.int .u64 (t0 : Int), .int .u64 (t1 : Int), .int .i64 t2] 141) 4 #[.bool (j.sn c).isSome], (((New.refl w4).alloc _).alloc _).drew⟩
      · go_simp
        refine hK.out _ _ ?_ (fun hHeld => ?_)
        · exact ⟨Held.of (((New.refl w4).alloc _).drew), HLK.out _ (((New.refl w4).alloc _).drew)⟩
        clear hK K
        try simp only [Act.put, sA, sZ, sS]
        refine stN (i := 10) rfl (fun K hK => ?_)
        go_simp
        refine hK.out _ _ ?_ (fun hHeld => ?_)
        · exact ⟨Held.of ((((New.refl w4).alloc _).alloc _).drew), HLK.out _ ((((New.refl w4).alloc _).alloc _).drew)⟩
        clear hK K
        try simp only [Act.put, sA, sZ, sS]
        refine stN (i := 12) rfl (fun K hK => ?_)
        go_simp
        refine hK.out _ _ ?_ (fun hHeld => ?_)
        · exact ⟨Held.of ((((New.refl w4).alloc _).alloc _).drew), HLK.out _ ((((New.refl w4).alloc _).alloc _).drew)⟩
        clear hK K
        try simp only [Act.put, sA, sZ, sS]
        refine stN (i := 13) rfl (fun K hK => ?_)
        go_simp
        refine hK.out _ _ ?_ (fun hHeld => ?_)
        · exact ⟨Held.of ((((New.refl w4).alloc _).alloc _).drew), HLK.out _ ((((New.refl w4).alloc _).alloc _).drew)⟩
        clear hK K
        try simp only [Act.put, sA, sZ, sS]
        refine wpAnyH_done (by kernel_rfl) ?_ _
        clear hHeld
        go_wp2_with fail
        go_meet
        exact ⟨(w4.heap.size + 1), w4.heap.size, rfl, rfl, by omega, by omega, by omega, by rw [HT.out]; exact blk_two w4 (.cells #[.bool (j.sn c).isSome] 4) 141 #[.int .u64 (t0 : Int), .int .u64 (t1 : Int), .int .i64 t2], ((Blk.mk_new w4 4 #[.bool (j.sn c).isSome]).alloc (.cells #[.int .u64 (t0 : Int), .int .u64 (t1 : Int), .int .i64 t2] 141)).drew, (((New.refl w4).alloc _).alloc _).drew⟩
    case rest =>
      obtain ⟨a6, a7, rfl, rfl, hne, hl6, hl7, hB6, hB7, hnc⟩ := hcut
      have HNC := Lib.hid (HN4.out.trans hnc)
      have HMC := Lib.hid (HM4.out.new hnc)
      have HJC := Lib.hid (HJ4.out.new hnc)
      have HBC := Lib.hid ((HBT.out).new HNC.out)
      have HB6 := Lib.hid hB6
      have HB7 := Lib.hid hB7
      clear hnc
      clear p0 p1 pz q0 q1 q2 q3 q4 qz r0 r1 r2 rz f0 f1 f2 f3 fz HLK HMP HM4 HJ4 HBT
      obtain ⟨p0, p1, pz⟩ := Blk1J HMC.out.b0
      obtain ⟨q0, q1, q2, q3, q4, qz⟩ := Blk4F HMC.out.b1
      obtain ⟨r0, r1, r2, rz⟩ := Blk2J HMC.out.b2
      obtain ⟨b0, b1, bz⟩ := Blk1J hB7
      have hlw : w.heap.size + 2 < w4.heap.size := by have := HMW.out; omega
      cases hsn : j.sn c with
      | some qv =>
        obtain ⟨qn, vd⟩ := qv
        rw [hsn] at hB6 b1
        obtain ⟨u0, u1, u2, u3, uz⟩ := Blk3J hB6
        dsimp only [Option.isSome] at b1
        have HSN := Lib.hid hsn
        have HB6L := Lib.hid hB6
        have HB7L : Hid (Blk wc a7 4 #[.bool true]) := Lib.hid (by have := HB7.out; rw [hsn] at this; exact this)
        clear hB6 hB7
        by_cases hqr : qn = r
        · subst hqr
          have hF : j.say ⟨c, qn, s, l⟩ = (j, vd) := by unfold Jd.say; dsimp only; rw [if_neg (by rw [HCK.out]; decide), hsn]; dsimp only; rw [if_pos rfl]
          have HF := Lib.hid hF
          clear hF hsn
          go_wp2_with fail
          rw [HF.out]
          exact bodyPost_ret (v := .agg #[.int .u64 (vd.t : Int), .int .i64 vd.e]) (by simp [results, Tryz.results47, go_sem, r1, r2]) rfl (SayPost.fin HJC.out (by omega) (Upd.new HNC.out) HLT.out)
        · by_cases hlt : r < qn
          · have hF : j.say ⟨c, r, s, l⟩ = (j, ⟨0, 193⟩) := by unfold Jd.say; dsimp only; rw [if_neg (by rw [HCK.out]; decide), hsn]; dsimp only; rw [if_neg hqr, if_pos hlt]
            have HF := Lib.hid hF
            have hqr2 : decide (qn = r) = false := decide_eq_false hqr
            have hqr4 : ((qn : Int) == (r : Int)) = false := beq_eq_false_iff_ne.2 (fun e => hqr (by omega))
            have hlt2 : decide (r < qn) = true := decide_eq_true hlt
            clear hF hsn hqr hlt
            go_wp2_with fail
            go_loopw [9, 44] (fun _ i wr => i = .int .i64 0 ∧ wr = wc) (fun _ _ _ => 0)
            case atStart => exact ⟨rfl, rfl⟩
            case round =>
              obtain ⟨rfl, rfl⟩ := hrel
              have hask0 := fun f0 f1 f2 e0 e1 e2 w => (askAt f0 f1 f2 e0 e1 e2 w).1
              go_wp2_with fail
              refine (sayF1 (was := true) (q := qn) (HB7L.out.alloc _) (HMC.out.b1.alloc _) (HB6L.out.alloc _)).mono ?_
              rintro e w5 ⟨rfl, hn5⟩
              have HN5 := Lib.hid (((New.refl wr).alloc (.cells #[.func (.func 81) #[] #[.pointer (some ⟨a7, 0, none⟩), .pointer (some ⟨w.heap.size + 1, 0, none⟩), .pointer (some ⟨a6, 0, none⟩)], .int .i64 193] 150)).trans hn5)
              have hask5 := (Blk.mk_new wr 150 #[.func (.func 81) #[] #[.pointer (some ⟨a7, 0, none⟩), .pointer (some ⟨w.heap.size + 1, 0, none⟩), .pointer (some ⟨a6, 0, none⟩)], .int .i64 193]).new hn5
              obtain ⟨y0, y1, y2, yz⟩ := Blk2J hask5
              obtain ⟨z0, z1, z2, zz⟩ := Blk2J ((HMC.out.b2.alloc _).new hn5)
              clear hn5 hask5
              go_wp2_with fail
              rw [HF.out]
              exact bodyPost_ret (v := .agg #[.int .u64 0, .int .i64 193]) (by simp [results, Tryz.results47, go_sem, z1, z2]) rfl (SayPost.fin (t := 0) (HJC.out.new HN5.out) (by omega) (Upd.new (HNC.out.trans HN5.out)) HLT.out)
          · have hF : j.say ⟨c, r, s, l⟩ = j.new_ ⟨c, r, s, l⟩ := by unfold Jd.say; dsimp only; rw [if_neg (by rw [HCK.out]; decide), hsn]; dsimp only; rw [if_neg hqr, if_neg hlt]
            have HS1 := Lib.hid hF
            have hqr2 : decide (qn = r) = false := decide_eq_false hqr
            have hqr4 : ((qn : Int) == (r : Int)) = false := beq_eq_false_iff_ne.2 (fun e => hqr (by omega))
            have hlt2 : decide (r < qn) = false := decide_eq_false hlt
            clear hF hsn hqr hlt
            have hmx : ¬ maxT ≤ j.la := by unfold maxT; omega
            by_cases hs1 : j.la < s
            · have hF : j.say ⟨c, r, s, l⟩ = (j, ⟨0, 190⟩) := by rw [HS1.out]; unfold Jd.new_; dsimp only; rw [if_pos hs1]
              have HF := Lib.hid hF
              have hs2 : decide (j.la < s) = true := decide_eq_true hs1
              clear hF hs1
              have hask0 := fun f0 f1 f2 e0 e1 e2 w => (askAt f0 f1 f2 e0 e1 e2 w).1
              have hask1 := fun f0 f1 f2 e0 e1 e2 w => (askAt f0 f1 f2 e0 e1 e2 w).2.1
              have hask2 := fun f0 f1 f2 e0 e1 e2 w => (askAt f0 f1 f2 e0 e1 e2 w).2.2
              go_wp2_with fail
              go_loopw [9, 44] (fun _ i wr => ∃ k : Nat, k ≤ 1 ∧ i = .int .i64 (k : Int) ∧ New wc wr) (fun _ i _ => 3 - (intOf i).toNat)
              case atStart => exact ⟨0, by omega, rfl, New.refl _⟩
              case round =>
                obtain ⟨k, hk, rfl, hn⟩ := hrel
                have HNR := Lib.hid hn
                have hB7r := HB7L.out.new hn
                have hB6r := HB6L.out.new hn
                have hM := HMC.out.new hn
                have hJr := (HJC.out.new hn).blk
                have HJR := Lib.hid (HJC.out.new hn)
                have HMR := Lib.hid hM
                have HB7R := Lib.hid hB7r
                have HB6R := Lib.hid hB6r
                have HJB := Lib.hid hJr
                clear p0 p1 pz q0 q1 q2 q3 q4 qz r0 r1 r2 rz b0 b1 bz
                obtain ⟨r0, r1, r2, rz⟩ := Blk2J hM.b2
                clear hn hB7r hB6r hM hJr
                obtain hk0 | hk1 | hk2 | hk3 : k = 0 ∨ k = 1 ∨ k = 2 ∨ k = 3 := by omega
                · subst hk0
                  have hr0 := HMR.out.b2.lt
                  go_wp2_with fail
                  refine (sayF1 (was := true) (q := qn) (HB7R.out.alloc _) (HMR.out.b1.alloc _) (HB6R.out.alloc _)).mono ?_
                  rintro e w5 ⟨rfl, hn5⟩
                  have HN5 := Lib.hid (((New.refl wr).alloc (.cells #[.func (.func 81) #[] #[.pointer (some ⟨a7, 0, none⟩), .pointer (some ⟨w.heap.size + 1, 0, none⟩), .pointer (some ⟨a6, 0, none⟩)], .int .i64 193] 150)).trans hn5)
                  have hask5 := (Blk.mk_new wr 150 #[.func (.func 81) #[] #[.pointer (some ⟨a7, 0, none⟩), .pointer (some ⟨w.heap.size + 1, 0, none⟩), .pointer (some ⟨a6, 0, none⟩)], .int .i64 193]).new hn5
                  obtain ⟨y0, y1, y2, yz⟩ := Blk2J hask5
                  obtain ⟨z0, z1, z2, zz⟩ := Blk2J ((HMR.out.b2.alloc _).new hn5)
                  clear hn5 hask5
                  go_wp2_with fail
                  go_roundw
                  case rel => exact ⟨1, by omega, rfl, HNR.out.trans HN5.out⟩
                  case measure => simp [intOf]
                · subst hk1
                  have hr0 := HMR.out.b2.lt
                  go_wp2_with fail
                  refine (sayF2 (HMR.out.b0.alloc _) (HMR.out.b1.alloc _) (HJB.out.alloc _)).mono ?_
                  rintro e w5 ⟨rfl, hn5⟩
                  have HN5 := Lib.hid (((New.refl wr).alloc (.cells #[.func (.func 82) #[] #[.pointer (some ⟨w.heap.size + 1, 0, none⟩), .pointer (some ⟨w.heap.size, 0, none⟩)], .int .i64 190] 150)).trans hn5)
                  have hask5 := (Blk.mk_new wr 150 #[.func (.func 82) #[] #[.pointer (some ⟨w.heap.size + 1, 0, none⟩), .pointer (some ⟨w.heap.size, 0, none⟩)], .int .i64 190]).new hn5
                  obtain ⟨y0, y1, y2, yz⟩ := Blk2J hask5
                  obtain ⟨z0, z1, z2, zz⟩ := Blk2J ((HMR.out.b2.alloc _).new hn5)
                  clear hn5 hask5
                  rw [hs2]
                  go_wp2_with fail
                  rw [HF.out]
                  exact bodyPost_ret (v := .agg #[.int .u64 0, .int .i64 190]) (by simp [results, Tryz.results47, go_sem, z1, z2]) rfl (SayPost.fin (t := 0) (HJR.out.new HN5.out) (by omega) (Upd.new ((HNC.out.trans HNR.out).trans HN5.out)) HLT.out)
                · omega
                · omega
            · have hs2 : decide (j.la < s) = false := decide_eq_false hs1
              have hask0 := fun f0 f1 f2 e0 e1 e2 w => (askAt f0 f1 f2 e0 e1 e2 w).1
              have hask1 := fun f0 f1 f2 e0 e1 e2 w => (askAt f0 f1 f2 e0 e1 e2 w).2.1
              have hask2 := fun f0 f1 f2 e0 e1 e2 w => (askAt f0 f1 f2 e0 e1 e2 w).2.2
              go_wp2_with fail
              go_loopw [9, 44] (fun _ i wr => ∃ k : Nat, k ≤ 3 ∧ i = .int .i64 (k : Int) ∧ New wc wr) (fun _ i _ => 3 - (intOf i).toNat)
              case atStart => exact ⟨0, by omega, rfl, New.refl _⟩
              case round =>
                obtain ⟨k, hk, rfl, hn⟩ := hrel
                have HNR := Lib.hid hn
                have hB7r := HB7L.out.new hn
                have hB6r := HB6L.out.new hn
                have hM := HMC.out.new hn
                have hJr := (HJC.out.new hn).blk
                have HJR := Lib.hid (HJC.out.new hn)
                have HMR := Lib.hid hM
                have HB7R := Lib.hid hB7r
                have HB6R := Lib.hid hB6r
                have HJB := Lib.hid hJr
                clear p0 p1 pz q0 q1 q2 q3 q4 qz r0 r1 r2 rz b0 b1 bz
                obtain ⟨r0, r1, r2, rz⟩ := Blk2J hM.b2
                clear hn hB7r hB6r hM hJr
                obtain hk0 | hk1 | hk2 | hk3 : k = 0 ∨ k = 1 ∨ k = 2 ∨ k = 3 := by omega
                · subst hk0
                  have hr0 := HMR.out.b2.lt
                  go_wp2_with fail
                  refine (sayF1 (was := true) (q := qn) (HB7R.out.alloc _) (HMR.out.b1.alloc _) (HB6R.out.alloc _)).mono ?_
                  rintro e w5 ⟨rfl, hn5⟩
                  have HN5 := Lib.hid (((New.refl wr).alloc (.cells #[.func (.func 81) #[] #[.pointer (some ⟨a7, 0, none⟩), .pointer (some ⟨w.heap.size + 1, 0, none⟩), .pointer (some ⟨a6, 0, none⟩)], .int .i64 193] 150)).trans hn5)
                  have hask5 := (Blk.mk_new wr 150 #[.func (.func 81) #[] #[.pointer (some ⟨a7, 0, none⟩), .pointer (some ⟨w.heap.size + 1, 0, none⟩), .pointer (some ⟨a6, 0, none⟩)], .int .i64 193]).new hn5
                  obtain ⟨y0, y1, y2, yz⟩ := Blk2J hask5
                  obtain ⟨z0, z1, z2, zz⟩ := Blk2J ((HMR.out.b2.alloc _).new hn5)
                  clear hn5 hask5
                  go_wp2_with fail
                  go_roundw
                  case rel => exact ⟨1, by omega, rfl, HNR.out.trans HN5.out⟩
                  case measure => simp [intOf]
                · subst hk1
                  have hr0 := HMR.out.b2.lt
                  go_wp2_with fail
                  refine (sayF2 (HMR.out.b0.alloc _) (HMR.out.b1.alloc _) (HJB.out.alloc _)).mono ?_
                  rintro e w5 ⟨rfl, hn5⟩
                  have HN5 := Lib.hid (((New.refl wr).alloc (.cells #[.func (.func 82) #[] #[.pointer (some ⟨w.heap.size + 1, 0, none⟩), .pointer (some ⟨w.heap.size, 0, none⟩)], .int .i64 190] 150)).trans hn5)
                  have hask5 := (Blk.mk_new wr 150 #[.func (.func 82) #[] #[.pointer (some ⟨w.heap.size + 1, 0, none⟩), .pointer (some ⟨w.heap.size, 0, none⟩)], .int .i64 190]).new hn5
                  obtain ⟨y0, y1, y2, yz⟩ := Blk2J hask5
                  obtain ⟨z0, z1, z2, zz⟩ := Blk2J ((HMR.out.b2.alloc _).new hn5)
                  clear hn5 hask5
                  go_wp2_with fail
                  go_roundw
                  case rel => exact ⟨2, by omega, rfl, HNR.out.trans HN5.out⟩
                  case measure => simp [intOf]
                · subst hk2
                  have hr0 := HMR.out.b2.lt
                  go_wp2_with fail
                  refine (sayF3 (HMR.out.b0.alloc _) (HJB.out.alloc _) (by omega)).mono ?_
                  rintro e w5 ⟨rfl, hn5⟩
                  have HN5 := Lib.hid (((New.refl wr).alloc (.cells #[.func (.func 83) #[] #[.pointer (some ⟨w.heap.size, 0, none⟩)], .int .i64 192] 150)).trans hn5)
                  have hask5 := (Blk.mk_new wr 150 #[.func (.func 83) #[] #[.pointer (some ⟨w.heap.size, 0, none⟩)], .int .i64 192]).new hn5
                  obtain ⟨y0, y1, y2, yz⟩ := Blk2J hask5
                  obtain ⟨z0, z1, z2, zz⟩ := Blk2J ((HMR.out.b2.alloc _).new hn5)
                  clear hn5 hask5
                  go_wp2_with fail
                  go_roundw
                  case rel => exact ⟨3, by omega, rfl, HNR.out.trans HN5.out⟩
                  case measure => simp [intOf]
                · subst hk3
                  have hr0 := HMR.out.b2.lt
                  have HNCR : Hid (w.heap.size + 1 + 1 < wr.heap.size) := Lib.hid hr0
                  have HN5 := Lib.hid ((New.refl wr).alloc (.cells #[.int .u64 0, .int .i64 191] 49))
                  have HG5 := Lib.hid (Blk.mk_new wr 49 #[.int .u64 0, .int .i64 191])
                  go_upto_region 14 with fail
                  generalize wr.alloc (.cells #[.int .u64 0, .int .i64 191] 49) = w5 at *
                  have HM5 := Lib.hid (HMR.out.new HN5.out)
                  have HJ5 := Lib.hid (HJR.out.new HN5.out)
                  have HB5 := Lib.hid (HBC.out.new (HNR.out.trans HN5.out))
                  clear r0 r1 r2 rz
                  obtain ⟨p0, p1, pz⟩ := Blk1J HM5.out.b0
                  obtain ⟨q0, q1, q2, q3, q4, qz⟩ := Blk4F HM5.out.b1
                  go_wp2_with fail
                  refine (jwritten HJ5.out HB5.out HKY.out.2).mono ?_
                  rintro e w6 ⟨rfl, hn6⟩
                  have HM6 := Lib.hid (HM5.out.new hn6)
                  have HJ6 := Lib.hid (HJ5.out.new hn6)
                  have HB6 := Lib.hid (HB5.out.new hn6)
                  have HG6 := Lib.hid (HG5.out.new hn6)
                  have HU6 : Hid (Upd (JdF L) w w6) := Lib.hid (Upd.new (((HNC.out.trans HNR.out).trans HN5.out).trans hn6))
                  clear p0 p1 pz q0 q1 q2 q3 q4 qz hn6
                  cases hw : j.written ⟨c, r, s, l⟩ with
                  | true =>
                    have hF : j.say ⟨c, r, s, l⟩ = ({ j with sn := setD j.sn c (some (r, ⟨0, 191⟩)) }, ⟨0, 191⟩) := by rw [HS1.out]; unfold Jd.new_; dsimp only; rw [if_neg hs1, if_neg hmx, if_pos hw]
                    have HF := Lib.hid hF
                    have HJX := HJ6
                    have HMX := HM6
                    have HGX := HG6
                    have HUX := HU6
                    clear hF hw
                    obtain ⟨m, hm, hmp, hnext⟩ := (HJX.out.new (New.refl w6).drew).setSn (okU_lt hoc) r ⟨0, 191⟩
                    obtain ⟨w9, hrun, hm9, hu9⟩ := mpPutR keyU64.toKeyB hmp Tryz.underlying136 (by unfold maxLen; omega) c (okU_lt hoc) (.agg #[.int .u64 (r : Int), .int .u64 (0 : Int), .int .i64 191])
                    have HJ9 := Lib.hid (hnext w9 hm9 hu9)
                    have hsm : L.sm < w.heap.size := HLT.out _ (.inr (.inr rfl))
                    have k1 := keepR hu9 (show L.jb < w6.drew.heap.size from HJX.out.blk.lt) (fun e => Blk.ne_map (HJX.out.new (New.refl w6).drew).blk hmp e)
                    have k2 := keepR hu9 (show w.heap.size < w6.drew.heap.size from HMX.out.b0.lt) (fun e => by omega)
                    have k3 := keepR hu9 (show w.heap.size + 1 < w6.drew.heap.size from HMX.out.b1.lt) (fun e => by omega)
                    have k4 := keepR hu9 (show wr.heap.size < w6.drew.heap.size from HGX.out.lt) (fun e => by have := HNCR.out; omega)
                    have HM9 := Lib.hid (HMX.out.drewS.upd hu9 (fun k e => by omega))
                    have HG9 := Lib.hid ((HGX.out.drew).upd hu9 (fun e => by have := HNCR.out; omega))
                    have HU9 := Lib.hid (HUX.out.trans ((Upd.refl (JdF L) w6).drew.trans hu9 (fun i _ e => .inr (.inr e))) (fun _ _ h => h))
                    obtain ⟨f0, f1, f2, f3, fz⟩ := Blk3J HJX.out.blk
                    obtain ⟨p0, p1, pz⟩ := Blk1J HMX.out.b0
                    obtain ⟨q0, q1, q2, q3, q4, qz⟩ := Blk4F HMX.out.b1
                    obtain ⟨g0, g1, g2, gz⟩ := Blk2J HGX.out
                    clear hm hmp hnext hm9 hu9 hsm
                    go_upto_region 16 with fail
                    refine wp_region_held_drew (S := fun w' => (∀ o, w'.cell? ⟨L.jb, o, none⟩ = w6.cell? ⟨L.jb, o, none⟩) ∧ (∀ o, w'.cell? ⟨w.heap.size, o, none⟩ = w6.cell? ⟨w.heap.size, o, none⟩) ∧ (∀ o, w'.cell? ⟨w.heap.size + 1, o, none⟩ = w6.cell? ⟨w.heap.size + 1, o, none⟩) ∧ (∀ o, w'.cell? ⟨wr.heap.size, o, none⟩ = w6.cell? ⟨wr.heap.size, o, none⟩)) (by kernel_rfl) (⟨fun _ => rfl, fun _ => rfl, fun _ => rfl, fun _ => rfl⟩) (fun hHeld => ?_)
                    refine tkN (i := 0) rfl ?_
                    try simp only [Act.put, sA, sZ, sS]
                    refine tkN (i := 1) rfl ?_
                    try simp only [Act.put, sA, sZ, sS]
                    refine tkN (i := 2) rfl ?_
                    try simp only [Act.put, sA, sZ, sS]
                    refine tkN (i := 3) rfl ?_
                    try simp only [Act.put, sA, sZ, sS]
                    refine tkN (i := 4) rfl ?_
                    try simp only [Act.put, sA, sZ, sS]
                    refine tkN (i := 5) rfl ?_
                    try simp only [Act.put, sA, sZ, sS]
                    refine tkN (i := 6) rfl ?_
                    try simp only [Act.put, sA, sZ, sS]
                    refine tkN (i := 7) rfl ?_
                    try simp only [Act.put, sA, sZ, sS]
                    refine tkN (i := 8) rfl ?_
                    try simp only [Act.put, sA, sZ, sS]
                    refine tkN (i := 9) rfl ?_
                    try simp only [Act.put, sA, sZ, sS]
                    refine stN (i := 10) rfl (fun K hK => ?_)
                    go_simp
                    refine hK.out _ _ ?_ (fun hHeld => ?_)
                    · exact ⟨k1, k2, k3, k4⟩
                    clear hK K
                    try simp only [Act.put, sA, sZ, sS]
                    refine wpAnyH_done (by kernel_rfl) ?_ _
                    clear hHeld hrun k1 k2 k3 k4 f0 f1 f2 f3 fz p0 p1 pz q0 q1 q2 q3 q4 qz g0 g1 g2 gz
                    obtain ⟨g0, g1, g2, gz⟩ := Blk2J HG9.out
                    obtain ⟨s0, s1, s2, sz⟩ := Blk2J HM9.out.b2
                    go_wp2_with fail
                    rw [HF.out]
                    exact bodyPost_ret (v := .agg #[.int .u64 (0 : Int), .int .i64 191]) (by simp [results, Tryz.results47, go_sem, s1, s2]) rfl (SayPost.fin HJ9.out (by omega) HU9.out HLT.out)
                  | false =>
                    obtain ⟨t, ht⟩ : ∃ t, t = j.la + 1 := ⟨_, rfl⟩
                    have hF : j.say ⟨c, r, s, l⟩ = ({ j.commit ⟨c, r, s, l⟩ with sn := setD (j.commit ⟨c, r, s, l⟩).sn c (some (r, ⟨t, 0⟩)) }, ⟨t, 0⟩) := by rw [HS1.out, ht]; unfold Jd.new_; dsimp only; rw [if_neg hs1, if_neg hmx, if_neg (by rw [hw]; decide)]; rfl
                    have HF := Lib.hid hF
                    have hcm := jcommit HJ6.out HB6.out HKY.out (by omega)
                    rw [← ht] at hcm
                    clear hF hw ht
                    obtain ⟨p0, p1, pz⟩ := Blk1J HM6.out.b0
                    obtain ⟨q0, q1, q2, q3, q4, qz⟩ := Blk4F HM6.out.b1
                    go_wp2_with fail
                    refine hcm.mono ?_
                    rintro e w7 ⟨rfl, hj7, hu7⟩
                    have hlt7 : ∀ k, JdF L k → k < w.heap.size := HLT.out
                    have hm7 := HM6.out.upd hu7 (fun k hk => by have := hlt7 k hk; omega)
                    have hg7 := HG6.out.upd hu7 (fun hk => by have := hlt7 _ hk; have := HNCR.out; omega)
                    have hu8 : Upd (· = wr.heap.size) w7 ((w7.setCell ⟨wr.heap.size, 0, none⟩ (.int .u64 (t : Int))).setCell ⟨wr.heap.size, 1, none⟩ (.int .i64 0)) := ((Upd.refl _ w7).setIn 0 _).setIn 1 _
                    have HJX := Lib.hid (hj7.upd hu8 (fun k hk e => by have := hlt7 k hk; have := HNCR.out; omega))
                    have HMX := Lib.hid (hm7.upd hu8 (fun k e => by have := HNCR.out; omega))
                    have HGX := Lib.hid ((hg7.set_ 0 (.int .u64 (t : Int))).set_ 1 (.int .i64 0))
                    have HUX : Hid (Upd (JdF L) w ((w7.setCell ⟨wr.heap.size, 0, none⟩ (.int .u64 (t : Int))).setCell ⟨wr.heap.size, 1, none⟩ (.int .i64 0))) := Lib.hid ((HU6.out.trans hu7 (fun _ _ h => h)).trans hu8 (fun i hi e => by have := HNCR.out; omega))
                    obtain ⟨g0, g1, g2, gz⟩ := Blk2J hg7
                    clear hcm p0 p1 pz q0 q1 q2 q3 q4 qz hlt7 hm7 hg7 hu8 hj7 hu7
                    go_upto_region 16 with fail
                    clear g0 g1 g2 gz
                    generalize (w7.setCell ⟨wr.heap.size, 0, none⟩ (.int .u64 (t : Int))).setCell ⟨wr.heap.size, 1, none⟩ (.int .i64 0) = w8 at *
                    obtain ⟨m, hm, hmp, hnext⟩ := (HJX.out.new (New.refl w8).drew).setSn (okU_lt hoc) r ⟨t, 0⟩
                    obtain ⟨w9, hrun, hm9, hu9⟩ := mpPutR keyU64.toKeyB hmp Tryz.underlying136 (by unfold maxLen; omega) c (okU_lt hoc) (.agg #[.int .u64 (r : Int), .int .u64 (t : Int), .int .i64 0])
                    have HJ9 := Lib.hid (hnext w9 hm9 hu9)
                    have hsm : L.sm < w.heap.size := HLT.out _ (.inr (.inr rfl))
                    have k1 := keepR hu9 (show L.jb < w8.drew.heap.size from HJX.out.blk.lt) (fun e => Blk.ne_map (HJX.out.new (New.refl w8).drew).blk hmp e)
                    have k2 := keepR hu9 (show w.heap.size < w8.drew.heap.size from HMX.out.b0.lt) (fun e => by omega)
                    have k3 := keepR hu9 (show w.heap.size + 1 < w8.drew.heap.size from HMX.out.b1.lt) (fun e => by omega)
                    have k4 := keepR hu9 (show wr.heap.size < w8.drew.heap.size from HGX.out.lt) (fun e => by have := HNCR.out; omega)
                    have HM9 := Lib.hid (HMX.out.drewS.upd hu9 (fun k e => by omega))
                    have HG9 := Lib.hid ((HGX.out.drew).upd hu9 (fun e => by have := HNCR.out; omega))
                    have HU9 := Lib.hid (HUX.out.trans ((Upd.refl (JdF L) w8).drew.trans hu9 (fun i _ e => .inr (.inr e))) (fun _ _ h => h))
                    obtain ⟨f0, f1, f2, f3, fz⟩ := Blk3J HJX.out.blk
                    obtain ⟨p0, p1, pz⟩ := Blk1J HMX.out.b0
                    obtain ⟨q0, q1, q2, q3, q4, qz⟩ := Blk4F HMX.out.b1
                    obtain ⟨g0, g1, g2, gz⟩ := Blk2J HGX.out
                    clear hm hmp hnext hm9 hu9 hsm
                    refine wp_region_held_drew (S := fun w' => (∀ o, w'.cell? ⟨L.jb, o, none⟩ = w8.cell? ⟨L.jb, o, none⟩) ∧ (∀ o, w'.cell? ⟨w.heap.size, o, none⟩ = w8.cell? ⟨w.heap.size, o, none⟩) ∧ (∀ o, w'.cell? ⟨w.heap.size + 1, o, none⟩ = w8.cell? ⟨w.heap.size + 1, o, none⟩) ∧ (∀ o, w'.cell? ⟨wr.heap.size, o, none⟩ = w8.cell? ⟨wr.heap.size, o, none⟩)) (by kernel_rfl) (⟨fun _ => rfl, fun _ => rfl, fun _ => rfl, fun _ => rfl⟩) (fun hHeld => ?_)
                    refine tkN (i := 0) rfl ?_
                    try simp only [Act.put, sA, sZ, sS]
                    refine tkN (i := 1) rfl ?_
                    try simp only [Act.put, sA, sZ, sS]
                    refine tkN (i := 2) rfl ?_
                    try simp only [Act.put, sA, sZ, sS]
                    refine tkN (i := 3) rfl ?_
                    try simp only [Act.put, sA, sZ, sS]
                    refine tkN (i := 4) rfl ?_
                    try simp only [Act.put, sA, sZ, sS]
                    refine tkN (i := 5) rfl ?_
                    try simp only [Act.put, sA, sZ, sS]
                    refine tkN (i := 6) rfl ?_
                    try simp only [Act.put, sA, sZ, sS]
                    refine tkN (i := 7) rfl ?_
                    try simp only [Act.put, sA, sZ, sS]
                    refine tkN (i := 8) rfl ?_
                    try simp only [Act.put, sA, sZ, sS]
                    refine tkN (i := 9) rfl ?_
                    try simp only [Act.put, sA, sZ, sS]
                    refine stN (i := 10) rfl (fun K hK => ?_)
                    go_simp
                    refine hK.out _ _ ?_ (fun hHeld => ?_)
                    · exact ⟨k1, k2, k3, k4⟩
                    clear hK K
                    try simp only [Act.put, sA, sZ, sS]
                    refine wpAnyH_done (by kernel_rfl) ?_ _
                    clear hHeld hrun k1 k2 k3 k4 f0 f1 f2 f3 fz p0 p1 pz q0 q1 q2 q3 q4 qz g0 g1 g2 gz
                    obtain ⟨g0, g1, g2, gz⟩ := Blk2J HG9.out
                    obtain ⟨s0, s1, s2, sz⟩ := Blk2J HM9.out.b2
                    go_wp2_with fail
                    rw [HF.out]
                    exact bodyPost_ret (v := .agg #[.int .u64 (t : Int), .int .i64 0]) (by simp [results, Tryz.results47, go_sem, s1, s2]) rfl (SayPost.fin HJ9.out (by omega) HU9.out HLT.out)
      | none =>
        rw [hsn] at hB6 b1
        obtain ⟨u0, u1, u2, u3, uz⟩ := Blk3J hB6
        dsimp only [Option.isSome] at b1
        have HB6L : Hid (Blk wc a6 141 #[.int .u64 ((0 : Nat) : Int), .int .u64 0, .int .i64 0]) := Lib.hid hB6
        have HB7L : Hid (Blk wc a7 4 #[.bool false]) := Lib.hid (by have := HB7.out; rw [hsn] at this; exact this)
        have hF : j.say ⟨c, r, s, l⟩ = j.new_ ⟨c, r, s, l⟩ := by unfold Jd.say; dsimp only; rw [if_neg (by rw [HCK.out]; decide), hsn]
        have HS1 := Lib.hid hF
        clear hF hsn hB6 hB7
        have hmx : ¬ maxT ≤ j.la := by unfold maxT; omega
        by_cases hs1 : j.la < s
        · have hF : j.say ⟨c, r, s, l⟩ = (j, ⟨0, 190⟩) := by rw [HS1.out]; unfold Jd.new_; dsimp only; rw [if_pos hs1]
          have HF := Lib.hid hF
          have hs2 : decide (j.la < s) = true := decide_eq_true hs1
          clear hF hs1
          have hask0 := fun f0 f1 f2 e0 e1 e2 w => (askAt f0 f1 f2 e0 e1 e2 w).1
          have hask1 := fun f0 f1 f2 e0 e1 e2 w => (askAt f0 f1 f2 e0 e1 e2 w).2.1
          have hask2 := fun f0 f1 f2 e0 e1 e2 w => (askAt f0 f1 f2 e0 e1 e2 w).2.2
          go_wp2_with fail
          go_loopw [9, 44] (fun _ i wr => ∃ k : Nat, k ≤ 1 ∧ i = .int .i64 (k : Int) ∧ New wc wr) (fun _ i _ => 3 - (intOf i).toNat)
          case atStart => exact ⟨0, by omega, rfl, New.refl _⟩
          case round =>
            obtain ⟨k, hk, rfl, hn⟩ := hrel
            have HNR := Lib.hid hn
            have hB7r := HB7L.out.new hn
            have hB6r := HB6L.out.new hn
            have hM := HMC.out.new hn
            have hJr := (HJC.out.new hn).blk
            have HJR := Lib.hid (HJC.out.new hn)
            have HMR := Lib.hid hM
            have HB7R := Lib.hid hB7r
            have HB6R := Lib.hid hB6r
            have HJB := Lib.hid hJr
            clear p0 p1 pz q0 q1 q2 q3 q4 qz r0 r1 r2 rz b0 b1 bz
            obtain ⟨r0, r1, r2, rz⟩ := Blk2J hM.b2
            clear hn hB7r hB6r hM hJr
            obtain hk0 | hk1 | hk2 | hk3 : k = 0 ∨ k = 1 ∨ k = 2 ∨ k = 3 := by omega
            · subst hk0
              have hr0 := HMR.out.b2.lt
              go_wp2_with fail
              refine (sayF1 (was := false) (q := 0) (HB7R.out.alloc _) (HMR.out.b1.alloc _) (HB6R.out.alloc _)).mono ?_
              rintro e w5 ⟨rfl, hn5⟩
              have HN5 := Lib.hid (((New.refl wr).alloc (.cells #[.func (.func 81) #[] #[.pointer (some ⟨a7, 0, none⟩), .pointer (some ⟨w.heap.size + 1, 0, none⟩), .pointer (some ⟨a6, 0, none⟩)], .int .i64 193] 150)).trans hn5)
              have hask5 := (Blk.mk_new wr 150 #[.func (.func 81) #[] #[.pointer (some ⟨a7, 0, none⟩), .pointer (some ⟨w.heap.size + 1, 0, none⟩), .pointer (some ⟨a6, 0, none⟩)], .int .i64 193]).new hn5
              obtain ⟨y0, y1, y2, yz⟩ := Blk2J hask5
              obtain ⟨z0, z1, z2, zz⟩ := Blk2J ((HMR.out.b2.alloc _).new hn5)
              clear hn5 hask5
              go_wp2_with fail
              go_roundw
              case rel => exact ⟨1, by omega, rfl, HNR.out.trans HN5.out⟩
              case measure => simp [intOf]
            · subst hk1
              have hr0 := HMR.out.b2.lt
              go_wp2_with fail
              refine (sayF2 (HMR.out.b0.alloc _) (HMR.out.b1.alloc _) (HJB.out.alloc _)).mono ?_
              rintro e w5 ⟨rfl, hn5⟩
              have HN5 := Lib.hid (((New.refl wr).alloc (.cells #[.func (.func 82) #[] #[.pointer (some ⟨w.heap.size + 1, 0, none⟩), .pointer (some ⟨w.heap.size, 0, none⟩)], .int .i64 190] 150)).trans hn5)
              have hask5 := (Blk.mk_new wr 150 #[.func (.func 82) #[] #[.pointer (some ⟨w.heap.size + 1, 0, none⟩), .pointer (some ⟨w.heap.size, 0, none⟩)], .int .i64 190]).new hn5
              obtain ⟨y0, y1, y2, yz⟩ := Blk2J hask5
              obtain ⟨z0, z1, z2, zz⟩ := Blk2J ((HMR.out.b2.alloc _).new hn5)
              clear hn5 hask5
              rw [hs2]
              go_wp2_with fail
              rw [HF.out]
              exact bodyPost_ret (v := .agg #[.int .u64 0, .int .i64 190]) (by simp [results, Tryz.results47, go_sem, z1, z2]) rfl (SayPost.fin (t := 0) (HJR.out.new HN5.out) (by omega) (Upd.new ((HNC.out.trans HNR.out).trans HN5.out)) HLT.out)
            · omega
            · omega
        · have hs2 : decide (j.la < s) = false := decide_eq_false hs1
          have hask0 := fun f0 f1 f2 e0 e1 e2 w => (askAt f0 f1 f2 e0 e1 e2 w).1
          have hask1 := fun f0 f1 f2 e0 e1 e2 w => (askAt f0 f1 f2 e0 e1 e2 w).2.1
          have hask2 := fun f0 f1 f2 e0 e1 e2 w => (askAt f0 f1 f2 e0 e1 e2 w).2.2
          go_wp2_with fail
          go_loopw [9, 44] (fun _ i wr => ∃ k : Nat, k ≤ 3 ∧ i = .int .i64 (k : Int) ∧ New wc wr) (fun _ i _ => 3 - (intOf i).toNat)
          case atStart => exact ⟨0, by omega, rfl, New.refl _⟩
          case round =>
            obtain ⟨k, hk, rfl, hn⟩ := hrel
            have HNR := Lib.hid hn
            have hB7r := HB7L.out.new hn
            have hB6r := HB6L.out.new hn
            have hM := HMC.out.new hn
            have hJr := (HJC.out.new hn).blk
            have HJR := Lib.hid (HJC.out.new hn)
            have HMR := Lib.hid hM
            have HB7R := Lib.hid hB7r
            have HB6R := Lib.hid hB6r
            have HJB := Lib.hid hJr
            clear p0 p1 pz q0 q1 q2 q3 q4 qz r0 r1 r2 rz b0 b1 bz
            obtain ⟨r0, r1, r2, rz⟩ := Blk2J hM.b2
            clear hn hB7r hB6r hM hJr
            obtain hk0 | hk1 | hk2 | hk3 : k = 0 ∨ k = 1 ∨ k = 2 ∨ k = 3 := by omega
            · subst hk0
              have hr0 := HMR.out.b2.lt
              go_wp2_with fail
              refine (sayF1 (was := false) (q := 0) (HB7R.out.alloc _) (HMR.out.b1.alloc _) (HB6R.out.alloc _)).mono ?_
              rintro e w5 ⟨rfl, hn5⟩
              have HN5 := Lib.hid (((New.refl wr).alloc (.cells #[.func (.func 81) #[] #[.pointer (some ⟨a7, 0, none⟩), .pointer (some ⟨w.heap.size + 1, 0, none⟩), .pointer (some ⟨a6, 0, none⟩)], .int .i64 193] 150)).trans hn5)
              have hask5 := (Blk.mk_new wr 150 #[.func (.func 81) #[] #[.pointer (some ⟨a7, 0, none⟩), .pointer (some ⟨w.heap.size + 1, 0, none⟩), .pointer (some ⟨a6, 0, none⟩)], .int .i64 193]).new hn5
              obtain ⟨y0, y1, y2, yz⟩ := Blk2J hask5
              obtain ⟨z0, z1, z2, zz⟩ := Blk2J ((HMR.out.b2.alloc _).new hn5)
              clear hn5 hask5
              go_wp2_with fail
              go_roundw
              case rel => exact ⟨1, by omega, rfl, HNR.out.trans HN5.out⟩
              case measure => simp [intOf]
            · subst hk1
              have hr0 := HMR.out.b2.lt
              go_wp2_with fail
              refine (sayF2 (HMR.out.b0.alloc _) (HMR.out.b1.alloc _) (HJB.out.alloc _)).mono ?_
              rintro e w5 ⟨rfl, hn5⟩
              have HN5 := Lib.hid (((New.refl wr).alloc (.cells #[.func (.func 82) #[] #[.pointer (some ⟨w.heap.size + 1, 0, none⟩), .pointer (some ⟨w.heap.size, 0, none⟩)], .int .i64 190] 150)).trans hn5)
              have hask5 := (Blk.mk_new wr 150 #[.func (.func 82) #[] #[.pointer (some ⟨w.heap.size + 1, 0, none⟩), .pointer (some ⟨w.heap.size, 0, none⟩)], .int .i64 190]).new hn5
              obtain ⟨y0, y1, y2, yz⟩ := Blk2J hask5
              obtain ⟨z0, z1, z2, zz⟩ := Blk2J ((HMR.out.b2.alloc _).new hn5)
              clear hn5 hask5
              go_wp2_with fail
              go_roundw
              case rel => exact ⟨2, by omega, rfl, HNR.out.trans HN5.out⟩
              case measure => simp [intOf]
            · subst hk2
              have hr0 := HMR.out.b2.lt
              go_wp2_with fail
              refine (sayF3 (HMR.out.b0.alloc _) (HJB.out.alloc _) (by omega)).mono ?_
              rintro e w5 ⟨rfl, hn5⟩
              have HN5 := Lib.hid (((New.refl wr).alloc (.cells #[.func (.func 83) #[] #[.pointer (some ⟨w.heap.size, 0, none⟩)], .int .i64 192] 150)).trans hn5)
              have hask5 := (Blk.mk_new wr 150 #[.func (.func 83) #[] #[.pointer (some ⟨w.heap.size, 0, none⟩)], .int .i64 192]).new hn5
              obtain ⟨y0, y1, y2, yz⟩ := Blk2J hask5
              obtain ⟨z0, z1, z2, zz⟩ := Blk2J ((HMR.out.b2.alloc _).new hn5)
              clear hn5 hask5
              go_wp2_with fail
              go_roundw
              case rel => exact ⟨3, by omega, rfl, HNR.out.trans HN5.out⟩
              case measure => simp [intOf]
            · subst hk3
              have hr0 := HMR.out.b2.lt
              have HNCR : Hid (w.heap.size + 1 + 1 < wr.heap.size) := Lib.hid hr0
              have HN5 := Lib.hid ((New.refl wr).alloc (.cells #[.int .u64 0, .int .i64 191] 49))
              have HG5 := Lib.hid (Blk.mk_new wr 49 #[.int .u64 0, .int .i64 191])
              go_upto_region 14 with fail
              generalize wr.alloc (.cells #[.int .u64 0, .int .i64 191] 49) = w5 at *
              have HM5 := Lib.hid (HMR.out.new HN5.out)
              have HJ5 := Lib.hid (HJR.out.new HN5.out)
              have HB5 := Lib.hid (HBC.out.new (HNR.out.trans HN5.out))
              clear r0 r1 r2 rz
              obtain ⟨p0, p1, pz⟩ := Blk1J HM5.out.b0
              obtain ⟨q0, q1, q2, q3, q4, qz⟩ := Blk4F HM5.out.b1
              go_wp2_with fail
              refine (jwritten HJ5.out HB5.out HKY.out.2).mono ?_
              rintro e w6 ⟨rfl, hn6⟩
              have HM6 := Lib.hid (HM5.out.new hn6)
              have HJ6 := Lib.hid (HJ5.out.new hn6)
              have HB6 := Lib.hid (HB5.out.new hn6)
              have HG6 := Lib.hid (HG5.out.new hn6)
              have HU6 : Hid (Upd (JdF L) w w6) := Lib.hid (Upd.new (((HNC.out.trans HNR.out).trans HN5.out).trans hn6))
              clear p0 p1 pz q0 q1 q2 q3 q4 qz hn6
              cases hw : j.written ⟨c, r, s, l⟩ with
              | true =>
                have hF : j.say ⟨c, r, s, l⟩ = ({ j with sn := setD j.sn c (some (r, ⟨0, 191⟩)) }, ⟨0, 191⟩) := by rw [HS1.out]; unfold Jd.new_; dsimp only; rw [if_neg hs1, if_neg hmx, if_pos hw]
                have HF := Lib.hid hF
                have HJX := HJ6
                have HMX := HM6
                have HGX := HG6
                have HUX := HU6
                clear hF hw
                obtain ⟨m, hm, hmp, hnext⟩ := (HJX.out.new (New.refl w6).drew).setSn (okU_lt hoc) r ⟨0, 191⟩
                obtain ⟨w9, hrun, hm9, hu9⟩ := mpPutR keyU64.toKeyB hmp Tryz.underlying136 (by unfold maxLen; omega) c (okU_lt hoc) (.agg #[.int .u64 (r : Int), .int .u64 (0 : Int), .int .i64 191])
                have HJ9 := Lib.hid (hnext w9 hm9 hu9)
                have hsm : L.sm < w.heap.size := HLT.out _ (.inr (.inr rfl))
                have k1 := keepR hu9 (show L.jb < w6.drew.heap.size from HJX.out.blk.lt) (fun e => Blk.ne_map (HJX.out.new (New.refl w6).drew).blk hmp e)
                have k2 := keepR hu9 (show w.heap.size < w6.drew.heap.size from HMX.out.b0.lt) (fun e => by omega)
                have k3 := keepR hu9 (show w.heap.size + 1 < w6.drew.heap.size from HMX.out.b1.lt) (fun e => by omega)
                have k4 := keepR hu9 (show wr.heap.size < w6.drew.heap.size from HGX.out.lt) (fun e => by have := HNCR.out; omega)
                have HM9 := Lib.hid (HMX.out.drewS.upd hu9 (fun k e => by omega))
                have HG9 := Lib.hid ((HGX.out.drew).upd hu9 (fun e => by have := HNCR.out; omega))
                have HU9 := Lib.hid (HUX.out.trans ((Upd.refl (JdF L) w6).drew.trans hu9 (fun i _ e => .inr (.inr e))) (fun _ _ h => h))
                obtain ⟨f0, f1, f2, f3, fz⟩ := Blk3J HJX.out.blk
                obtain ⟨p0, p1, pz⟩ := Blk1J HMX.out.b0
                obtain ⟨q0, q1, q2, q3, q4, qz⟩ := Blk4F HMX.out.b1
                obtain ⟨g0, g1, g2, gz⟩ := Blk2J HGX.out
                clear hm hmp hnext hm9 hu9 hsm
                go_upto_region 16 with fail
                refine wp_region_held_drew (S := fun w' => (∀ o, w'.cell? ⟨L.jb, o, none⟩ = w6.cell? ⟨L.jb, o, none⟩) ∧ (∀ o, w'.cell? ⟨w.heap.size, o, none⟩ = w6.cell? ⟨w.heap.size, o, none⟩) ∧ (∀ o, w'.cell? ⟨w.heap.size + 1, o, none⟩ = w6.cell? ⟨w.heap.size + 1, o, none⟩) ∧ (∀ o, w'.cell? ⟨wr.heap.size, o, none⟩ = w6.cell? ⟨wr.heap.size, o, none⟩)) (by kernel_rfl) (⟨fun _ => rfl, fun _ => rfl, fun _ => rfl, fun _ => rfl⟩) (fun hHeld => ?_)
                refine tkN (i := 0) rfl ?_
                try simp only [Act.put, sA, sZ, sS]
                refine tkN (i := 1) rfl ?_
                try simp only [Act.put, sA, sZ, sS]
                refine tkN (i := 2) rfl ?_
                try simp only [Act.put, sA, sZ, sS]
                refine tkN (i := 3) rfl ?_
                try simp only [Act.put, sA, sZ, sS]
                refine tkN (i := 4) rfl ?_
                try simp only [Act.put, sA, sZ, sS]
                refine tkN (i := 5) rfl ?_
                try simp only [Act.put, sA, sZ, sS]
                refine tkN (i := 6) rfl ?_
                try simp only [Act.put, sA, sZ, sS]
                refine tkN (i := 7) rfl ?_
                try simp only [Act.put, sA, sZ, sS]
                refine tkN (i := 8) rfl ?_
                try simp only [Act.put, sA, sZ, sS]
                refine tkN (i := 9) rfl ?_
                try simp only [Act.put, sA, sZ, sS]
                refine stN (i := 10) rfl (fun K hK => ?_)
                go_simp
                refine hK.out _ _ ?_ (fun hHeld => ?_)
                · exact ⟨k1, k2, k3, k4⟩
                clear hK K
                try simp only [Act.put, sA, sZ, sS]
                refine wpAnyH_done (by kernel_rfl) ?_ _
                clear hHeld hrun k1 k2 k3 k4 f0 f1 f2 f3 fz p0 p1 pz q0 q1 q2 q3 q4 qz g0 g1 g2 gz
                obtain ⟨g0, g1, g2, gz⟩ := Blk2J HG9.out
                obtain ⟨s0, s1, s2, sz⟩ := Blk2J HM9.out.b2
                go_wp2_with fail
                rw [HF.out]
                exact bodyPost_ret (v := .agg #[.int .u64 (0 : Int), .int .i64 191]) (by simp [results, Tryz.results47, go_sem, s1, s2]) rfl (SayPost.fin HJ9.out (by omega) HU9.out HLT.out)
              | false =>
                obtain ⟨t, ht⟩ : ∃ t, t = j.la + 1 := ⟨_, rfl⟩
                have hF : j.say ⟨c, r, s, l⟩ = ({ j.commit ⟨c, r, s, l⟩ with sn := setD (j.commit ⟨c, r, s, l⟩).sn c (some (r, ⟨t, 0⟩)) }, ⟨t, 0⟩) := by rw [HS1.out, ht]; unfold Jd.new_; dsimp only; rw [if_neg hs1, if_neg hmx, if_neg (by rw [hw]; decide)]; rfl
                have HF := Lib.hid hF
                have hcm := jcommit HJ6.out HB6.out HKY.out (by omega)
                rw [← ht] at hcm
                clear hF hw ht
                obtain ⟨p0, p1, pz⟩ := Blk1J HM6.out.b0
                obtain ⟨q0, q1, q2, q3, q4, qz⟩ := Blk4F HM6.out.b1
                go_wp2_with fail
                refine hcm.mono ?_
                rintro e w7 ⟨rfl, hj7, hu7⟩
                have hlt7 : ∀ k, JdF L k → k < w.heap.size := HLT.out
                have hm7 := HM6.out.upd hu7 (fun k hk => by have := hlt7 k hk; omega)
                have hg7 := HG6.out.upd hu7 (fun hk => by have := hlt7 _ hk; have := HNCR.out; omega)
                have hu8 : Upd (· = wr.heap.size) w7 ((w7.setCell ⟨wr.heap.size, 0, none⟩ (.int .u64 (t : Int))).setCell ⟨wr.heap.size, 1, none⟩ (.int .i64 0)) := ((Upd.refl _ w7).setIn 0 _).setIn 1 _
                have HJX := Lib.hid (hj7.upd hu8 (fun k hk e => by have := hlt7 k hk; have := HNCR.out; omega))
                have HMX := Lib.hid (hm7.upd hu8 (fun k e => by have := HNCR.out; omega))
                have HGX := Lib.hid ((hg7.set_ 0 (.int .u64 (t : Int))).set_ 1 (.int .i64 0))
                have HUX : Hid (Upd (JdF L) w ((w7.setCell ⟨wr.heap.size, 0, none⟩ (.int .u64 (t : Int))).setCell ⟨wr.heap.size, 1, none⟩ (.int .i64 0))) := Lib.hid ((HU6.out.trans hu7 (fun _ _ h => h)).trans hu8 (fun i hi e => by have := HNCR.out; omega))
                obtain ⟨g0, g1, g2, gz⟩ := Blk2J hg7
                clear hcm p0 p1 pz q0 q1 q2 q3 q4 qz hlt7 hm7 hg7 hu8 hj7 hu7
                go_upto_region 16 with fail
                clear g0 g1 g2 gz
                generalize (w7.setCell ⟨wr.heap.size, 0, none⟩ (.int .u64 (t : Int))).setCell ⟨wr.heap.size, 1, none⟩ (.int .i64 0) = w8 at *
                obtain ⟨m, hm, hmp, hnext⟩ := (HJX.out.new (New.refl w8).drew).setSn (okU_lt hoc) r ⟨t, 0⟩
                obtain ⟨w9, hrun, hm9, hu9⟩ := mpPutR keyU64.toKeyB hmp Tryz.underlying136 (by unfold maxLen; omega) c (okU_lt hoc) (.agg #[.int .u64 (r : Int), .int .u64 (t : Int), .int .i64 0])
                have HJ9 := Lib.hid (hnext w9 hm9 hu9)
                have hsm : L.sm < w.heap.size := HLT.out _ (.inr (.inr rfl))
                have k1 := keepR hu9 (show L.jb < w8.drew.heap.size from HJX.out.blk.lt) (fun e => Blk.ne_map (HJX.out.new (New.refl w8).drew).blk hmp e)
                have k2 := keepR hu9 (show w.heap.size < w8.drew.heap.size from HMX.out.b0.lt) (fun e => by omega)
                have k3 := keepR hu9 (show w.heap.size + 1 < w8.drew.heap.size from HMX.out.b1.lt) (fun e => by omega)
                have k4 := keepR hu9 (show wr.heap.size < w8.drew.heap.size from HGX.out.lt) (fun e => by have := HNCR.out; omega)
                have HM9 := Lib.hid (HMX.out.drewS.upd hu9 (fun k e => by omega))
                have HG9 := Lib.hid ((HGX.out.drew).upd hu9 (fun e => by have := HNCR.out; omega))
                have HU9 := Lib.hid (HUX.out.trans ((Upd.refl (JdF L) w8).drew.trans hu9 (fun i _ e => .inr (.inr e))) (fun _ _ h => h))
                obtain ⟨f0, f1, f2, f3, fz⟩ := Blk3J HJX.out.blk
                obtain ⟨p0, p1, pz⟩ := Blk1J HMX.out.b0
                obtain ⟨q0, q1, q2, q3, q4, qz⟩ := Blk4F HMX.out.b1
                obtain ⟨g0, g1, g2, gz⟩ := Blk2J HGX.out
                clear hm hmp hnext hm9 hu9 hsm
                refine wp_region_held_drew (S := fun w' => (∀ o, w'.cell? ⟨L.jb, o, none⟩ = w8.cell? ⟨L.jb, o, none⟩) ∧ (∀ o, w'.cell? ⟨w.heap.size, o, none⟩ = w8.cell? ⟨w.heap.size, o, none⟩) ∧ (∀ o, w'.cell? ⟨w.heap.size + 1, o, none⟩ = w8.cell? ⟨w.heap.size + 1, o, none⟩) ∧ (∀ o, w'.cell? ⟨wr.heap.size, o, none⟩ = w8.cell? ⟨wr.heap.size, o, none⟩)) (by kernel_rfl) (⟨fun _ => rfl, fun _ => rfl, fun _ => rfl, fun _ => rfl⟩) (fun hHeld => ?_)
                refine tkN (i := 0) rfl ?_
                try simp only [Act.put, sA, sZ, sS]
                refine tkN (i := 1) rfl ?_
                try simp only [Act.put, sA, sZ, sS]
                refine tkN (i := 2) rfl ?_
                try simp only [Act.put, sA, sZ, sS]
                refine tkN (i := 3) rfl ?_
                try simp only [Act.put, sA, sZ, sS]
                refine tkN (i := 4) rfl ?_
                try simp only [Act.put, sA, sZ, sS]
                refine tkN (i := 5) rfl ?_
                try simp only [Act.put, sA, sZ, sS]
                refine tkN (i := 6) rfl ?_
                try simp only [Act.put, sA, sZ, sS]
                refine tkN (i := 7) rfl ?_
                try simp only [Act.put, sA, sZ, sS]
                refine tkN (i := 8) rfl ?_
                try simp only [Act.put, sA, sZ, sS]
                refine tkN (i := 9) rfl ?_
                try simp only [Act.put, sA, sZ, sS]
                refine stN (i := 10) rfl (fun K hK => ?_)
                go_simp
                refine hK.out _ _ ?_ (fun hHeld => ?_)
                · exact ⟨k1, k2, k3, k4⟩
                clear hK K
                try simp only [Act.put, sA, sZ, sS]
                refine wpAnyH_done (by kernel_rfl) ?_ _
                clear hHeld hrun k1 k2 k3 k4 f0 f1 f2 f3 fz p0 p1 pz q0 q1 q2 q3 q4 qz g0 g1 g2 gz
                obtain ⟨g0, g1, g2, gz⟩ := Blk2J HG9.out
                obtain ⟨s0, s1, s2, sz⟩ := Blk2J HM9.out.b2
                go_wp2_with fail
                rw [HF.out]
                exact bodyPost_ret (v := .agg #[.int .u64 (t : Int), .int .i64 0]) (by simp [results, Tryz.results47, go_sem, s1, s2]) rfl (SayPost.fin HJ9.out (by omega) HU9.out HLT.out)
end
end Go.Proofs.YtecniafnihpjmaaGreatDoor

/- Chapter 19 (judge): Load, New. Printed by genRpJ3.py. -/
namespace Go.Proofs.YtecniafnihpjmaaGreatDoor
open Go.RowKit Go.Lap C
set_option linter.unusedVariables false
section
variable {w w' W wa : World} {S : Nat → Prop} {B a c r s q : Nat} {L : JdL} {j : Jd} {x : BtV} {sl : Value}
def LoadPost (w : World) (B : Nat) (L : JdL) (j : Jd) (b : Btc) (e : Ending) (w' : World) : Prop := e = .returned (.tuple #[.int .u64 (((if chk b.l = 0 then j.la + 1 else 0 : Nat)) : Int), .int .i64 (j.load b).2]) ∧ JdAt w' (B + 10) L (j.load b).1 ∧ Upd (JdF L) w w'
theorem load_bad {b : Btc} (h : chk b.l ≠ 0) : j.load b = (j, chk b.l) := by unfold Jd.load; rw [if_pos h]
set_option maxRecDepth 100000 in
set_option maxHeartbeats 8000000 in
theorem jload (h : JdAt w B L j) (hb : BtAt w x) (hB : B ≤ 100000000) :
    Calls Tryz.prog 40 #[.pointer (some ⟨L.jb, 0, none⟩), x.val] w (LoadPost w B L j x.b) := by
  obtain ⟨⟨c, r, s, l⟩, A, cap⟩ := x
  have HBT := Lib.hid hb
  obtain ⟨hsl, hoc, hor, hos, hol⟩ := hb
  dsimp only [BtV.val, BtV.sl, batV] at hsl hoc hor hos hol ⊢
  have hN := (New.refl w).alloc (.cells #[.int .u64 (c : Int), .int .u64 (r : Int), .int .u64 (s : Int), .slice A l.length cap] 40)
  have hM := Blk.mk_new w 40 #[.int .u64 (c : Int), .int .u64 (r : Int), .int .u64 (s : Int), .slice A l.length cap]
  have hla := h.la
  have hjlt := h.blk.lt
  have HJ := Lib.hid h
  have HN := Lib.hid hN
  have HM := Lib.hid hM
  have HSL := Lib.hid (hsl.slIn.new hN)
  obtain ⟨q0, q1, q2, q3, q4, qz⟩ := Blk4F hM
  have HLT := Lib.hid h.lt
  clear h hN hM hsl
  go_enter Tryz.func40, Tryz.ntmps40
  go_upto_region 1 with fail
  generalize w.alloc (.cells #[.int .u64 (c : Int), .int .u64 (r : Int), .int .u64 (s : Int), .slice A l.length cap] 40) = W at *
  go_wp2_with fail
  refine (check_any c r s _ l W (by omega) HSL.out).mono ?_
  rintro e4 w4 ⟨rfl, hn4⟩
  have HN4 := Lib.hid (HN.out.trans hn4)
  have HM4 := Lib.hid (HM.out.new hn4)
  have HJ4 := Lib.hid (HJ.out.new HN4.out)
  have HB4 := Lib.hid (HBT.out.new HN4.out)
  clear q0 q1 q2 q3 q4 qz hn4 HN HM
  obtain ⟨q0, q1, q2, q3, q4, qz⟩ := Blk4F HM4.out
  by_cases hck : chk l = 0
  case neg =>
    have HF := Lib.hid (load_bad (j := j) (b := ⟨c, r, s, l⟩) hck)
    have HCK : Hid (¬ chk l = 0) := Lib.hid hck
    go_wp2_with fail
    go_ret2
    refine ⟨?_, ?_, Upd.new HN4.out⟩
    · rw [HF.out, if_neg HCK.out]; rfl
    · rw [HF.out]; exact HJ4.out.mono (by omega)
  case pos =>
    have hky := chk_key hck
    have HKY := Lib.hid hky
    have HCK := Lib.hid hck
    obtain ⟨f0, f1, f2, f3, fz⟩ := Blk3J HJ4.out.blk
    obtain ⟨y, hy⟩ : ∃ y, y = j.la := ⟨_, rfl⟩
    have hl3 : decide (9223372036854775807 ≤ y) = false := decide_eq_false (by omega)
    have hl4 : decide ((9223372036854775807 : Int) ≤ (y : Int)) = false := decide_eq_false (by omega)
    obtain ⟨t, ht⟩ : ∃ t, t = j.la + 1 := ⟨_, rfl⟩
    have hcm := jcommit HJ4.out HB4.out HKY.out (by omega)
    rw [← ht] at hcm
    have HT := Lib.hid ht
    clear hky ht
    rw [hck]
    have HB0 : Hid (B ≤ 100000000 ∧ j.la ≤ B) := Lib.hid ⟨hB, hla⟩
    rw [← hy] at f1
    clear hB hla hy
    go_wp2_with fail
    obtain ⟨hB, hla⟩ := HB0.out
    refine hcm.mono ?_
    rintro e w7 ⟨rfl, hj7, hu7⟩
    have hm7 := HM4.out.upd hu7 (fun hk => by have := HLT.out _ hk; omega)
    have HJ7 := Lib.hid hj7
    have HM7 := Lib.hid hm7
    have HU7 : Hid (Upd (JdF L) w w7) := Lib.hid ((Upd.new (S := JdF L) HN4.out).trans hu7 (fun _ _ h => h))
    clear q0 q1 q2 q3 q4 qz f0 f1 f2 f3 fz hcm hu7 hl3 hl4
    obtain ⟨q0, q1, q2, q3, q4, qz⟩ := Blk4F hm7
    obtain ⟨f0, f1, f2, f3, fz⟩ := Blk3J hj7.blk
    obtain ⟨m, hm, hmp⟩ := HJ7.out.sn
    have HMP := Lib.hid hmp
    have HSNE : Hid ((j.commit ⟨c, r, s, l⟩).sn = j.sn) := Lib.hid rfl
    have HLK : Hid (∀ wq, New w7 wq → (Instr.lookup 136 (.map (some L.sm)) (.int .u64 (c : Int)) true).run Tryz.prog wq = .ok (.tuple #[.agg (toldV (j.sn c)), .bool (j.sn c).isSome]) wq) := Lib.hid fun wq hq => by
      have := mpGetOkR keyU64.toKeyB (HMP.out.new hq) Tryz.underlying136 (zeroTold _) c (okU_lt hoc)
      rw [snV_get, snV_some] at this
      exact this
    clear hm7 hj7 hm hmp
    go_upto_region 7 with fail
    go_cut [8, 9] (fun s8 s9 wx => ∃ a8, s8 = .pointer (some ⟨a8, 0, none⟩) ∧ s9 = .bool (j.sn c).isSome ∧ w7.heap.size ≤ a8 ∧ Blk wx a8 141 (toldV (j.sn c)) ∧ New w7 wx)
    case first =>
      obtain ⟨t0, t1, t2, hT⟩ := told_lit (j.sn c)
      have HTT := Lib.hid hT
      rw [hT] at HLK
      have hlk0 := HLK.out w7.drew (New.refl w7).drew
      clear hT
      refine wp_region_held_drew (S := fun w' => Held w7 w' ∧ (Instr.lookup 136 (.map (some L.sm)) (.int .u64 (c : Int)) true).run Tryz.prog w' = .ok (.tuple #[.agg #[.int .u64 (t0 : Int), .int .u64 (t1 : Int), .int .i64 t2], .bool (j.sn c).isSome]) w') (by kernel_rfl) (⟨Held.of (New.refl w7).drew, hlk0⟩) (fun hHeld => ?_)
      refine tkN (i := 0) rfl ?_
      try simp only [Act.put, sA, sZ, sS]
      refine tkN (i := 1) rfl ?_
      try simp only [Act.put, sA, sZ, sS]
      refine tkN (i := 2) rfl ?_
      try simp only [Act.put, sA, sZ, sS]
      refine tkN (i := 3) rfl ?_
      try simp only [Act.put, sA, sZ, sS]
      refine tkN (i := 4) rfl ?_
      try simp only [Act.put, sA, sZ, sS]
      refine tkN (i := 5) rfl ?_
      try simp only [Act.put, sA, sZ, sS]
      refine tkN (i := 6) rfl ?_
      try simp only [Act.put, sA, sZ, sS]
      refine tkN (i := 7) rfl ?_
      try simp only [Act.put, sA, sZ, sS]
      refine tkN (i := 8) rfl ?_
      try simp only [Act.put, sA, sZ, sS]
      refine tkN (i := 9) rfl ?_
      try simp only [Act.put, sA, sZ, sS]
      refine stN (i := 10) rfl (fun K hK => ?_)
      go_simp
      refine hK.out _ _ ?_ (fun hHeld => ?_)
      · exact ⟨Held.of (((New.refl w7).alloc _).drew), HLK.out _ (((New.refl w7).alloc _).drew)⟩
      clear hK K
      try simp only [Act.put, sA, sZ, sS]
      refine stN (i := 11) rfl (fun K hK => ?_)
      go_simp
      refine hK.out _ _ ?_ (fun hHeld => ?_)
      · exact ⟨Held.of (((New.refl w7).alloc _).drew), HLK.out _ (((New.refl w7).alloc _).drew)⟩
      clear hK K
      try simp only [Act.put, sA, sZ, sS]
      refine tkN (i := 12) rfl ?_
      try simp only [Act.put, sA, sZ, sS]
      refine wpAnyH_done (by kernel_rfl) ?_ _
      clear hHeld
      go_wp2_with fail
      go_meet
      exact ⟨w7.heap.size, rfl, rfl, Nat.le_refl _, by rw [HTT.out]; exact (Blk.mk_new w7 141 #[.int .u64 (t0 : Int), .int .u64 (t1 : Int), .int .i64 t2]).drew, (((New.refl w7).alloc _).drew)⟩
    case rest =>
      obtain ⟨a8, rfl, rfl, hl8, hB8, hnc⟩ := hcut
      have HMC := Lib.hid (HM7.out.new hnc)
      have HJC := Lib.hid (HJ7.out.new hnc)
      have HUC : Hid (Upd (JdF L) w wc) := Lib.hid (HU7.out.transNew hnc)
      clear q0 q1 q2 q3 q4 qz f0 f1 f2 f3 fz HLK HMP HM4 HJ4 HSL HBT HM7 HJ7 hnc
      obtain ⟨q0, q1, q2, q3, q4, qz⟩ := Blk4F HMC.out
      have hlw : w.heap.size < wc.heap.size := q0
      cases hsn : j.sn c with
      | none =>
        rw [hsn] at hB8
        have HB8 := Lib.hid hB8
        obtain ⟨u0, u1, u2, u3, uz⟩ := Blk3J hB8
        dsimp only [Option.isSome]
        have hF : j.load ⟨c, r, s, l⟩ = ({ j.commit ⟨c, r, s, l⟩ with sn := setD (j.commit ⟨c, r, s, l⟩).sn c (some (r, ⟨t, 0⟩)) }, 0) := by
          unfold Jd.load
          dsimp only
          rw [if_neg (by rw [HCK.out]; decide), if_neg (by unfold maxT; omega), hsn, HT.out]
          rfl
        have HF := Lib.hid hF
        clear hF hsn hB8
        obtain ⟨m, hm, hmp, hnext⟩ := (HJC.out.new (New.refl wc).drew).setSn (okU_lt hoc) r ⟨t, 0⟩
        obtain ⟨w9, hrun, hm9, hu9⟩ := mpPutR keyU64.toKeyB hmp Tryz.underlying136 (by unfold maxLen; omega) c (okU_lt hoc) (.agg #[.int .u64 (r : Int), .int .u64 (t : Int), .int .i64 0])
        have HJ9 := Lib.hid (hnext w9 hm9 hu9)
        have hsm : L.sm < w.heap.size := HLT.out _ (.inr (.inr rfl))
        have k1 := keepR hu9 (show L.jb < wc.drew.heap.size from HJC.out.blk.lt) (fun e => Blk.ne_map (HJC.out.new (New.refl wc).drew).blk hmp e)
        have k2 := keepR hu9 (show w.heap.size < wc.drew.heap.size from hlw) (fun e => by omega)
        have HU9 : Hid (Upd (JdF L) w w9) := Lib.hid (HUC.out.trans ((Upd.refl (JdF L) wc).drew.trans hu9 (fun i _ e => .inr (.inr e))) (fun _ _ h => h))
        obtain ⟨f0, f1, f2, f3, fz⟩ := Blk3J HJC.out.blk
        clear hm hmp hnext hm9 hu9 hsm
        go_upto_region 9 with fail
        refine wp_region_held_drew (S := fun w' => (∀ o, w'.cell? ⟨L.jb, o, none⟩ = wc.cell? ⟨L.jb, o, none⟩) ∧ (∀ o, w'.cell? ⟨w.heap.size, o, none⟩ = wc.cell? ⟨w.heap.size, o, none⟩)) (by kernel_rfl) (⟨fun _ => rfl, fun _ => rfl⟩) (fun hHeld => ?_)
        refine tkN (i := 0) rfl ?_
        try simp only [Act.put, sA, sZ, sS]
        refine tkN (i := 1) rfl ?_
        try simp only [Act.put, sA, sZ, sS]
        refine tkN (i := 2) rfl ?_
        try simp only [Act.put, sA, sZ, sS]
        refine tkN (i := 3) rfl ?_
        try simp only [Act.put, sA, sZ, sS]
        refine tkN (i := 4) rfl ?_
        try simp only [Act.put, sA, sZ, sS]
        refine tkN (i := 5) rfl ?_
        try simp only [Act.put, sA, sZ, sS]
        refine tkN (i := 6) rfl ?_
        try simp only [Act.put, sA, sZ, sS]
        refine tkN (i := 7) rfl ?_
        try simp only [Act.put, sA, sZ, sS]
        refine tkN (i := 8) rfl ?_
        try simp only [Act.put, sA, sZ, sS]
        refine tkN (i := 9) rfl ?_
        try simp only [Act.put, sA, sZ, sS]
        refine tkN (i := 10) rfl ?_
        try simp only [Act.put, sA, sZ, sS]
        refine stN (i := 11) rfl (fun K hK => ?_)
        go_simp
        refine hK.out _ _ ?_ (fun hHeld => ?_)
        · exact ⟨k1, k2⟩
        clear hK K
        try simp only [Act.put, sA, sZ, sS]
        refine wpAnyH_done (by kernel_rfl) ?_ _
        clear hHeld hrun k1 k2
        go_wp2_with fail
        go_ret2
        refine ⟨?_, ?_, HU9.out⟩
        · rw [HF.out, if_pos HCK.out, ← HT.out]
          try rfl
        · rw [HF.out]; exact HJ9.out.mono (by omega)
      | some qv =>
        obtain ⟨qn, vd⟩ := qv
        rw [hsn] at hB8
        have HB8 := Lib.hid hB8
        obtain ⟨u0, u1, u2, u3, uz⟩ := Blk3J hB8
        dsimp only [Option.isSome]
        by_cases hlt : r < qn
        · have hF : j.load ⟨c, r, s, l⟩ = (j.commit ⟨c, r, s, l⟩, 0) := by
            unfold Jd.load
            dsimp only
            rw [if_neg (by rw [HCK.out]; decide), if_neg (by unfold maxT; omega), hsn]
            dsimp only
            rw [if_pos hlt]
          have HF := Lib.hid hF
          have hge : decide (qn ≤ r) = false := decide_eq_false (by omega)
          clear hF hsn hB8 hlt
          go_wp2_with fail
          go_ret2
          refine ⟨?_, ?_, HUC.out⟩
          · rw [HF.out, if_pos HCK.out, ← HT.out]
            try rfl
          · rw [HF.out]; exact HJC.out.mono (by omega)
        · have hF : j.load ⟨c, r, s, l⟩ = ({ j.commit ⟨c, r, s, l⟩ with sn := setD (j.commit ⟨c, r, s, l⟩).sn c (some (r, ⟨t, 0⟩)) }, 0) := by
            unfold Jd.load
            dsimp only
            rw [if_neg (by rw [HCK.out]; decide), if_neg (by unfold maxT; omega), hsn, HT.out]
            dsimp only
            rw [if_neg hlt]
            rfl
          have HF := Lib.hid hF
          have hge : decide (qn ≤ r) = true := decide_eq_true (by omega)
          clear hF hsn hB8 hlt
          obtain ⟨m, hm, hmp, hnext⟩ := (HJC.out.new (New.refl wc).drew).setSn (okU_lt hoc) r ⟨t, 0⟩
          obtain ⟨w9, hrun, hm9, hu9⟩ := mpPutR keyU64.toKeyB hmp Tryz.underlying136 (by unfold maxLen; omega) c (okU_lt hoc) (.agg #[.int .u64 (r : Int), .int .u64 (t : Int), .int .i64 0])
          have HJ9 := Lib.hid (hnext w9 hm9 hu9)
          have hsm : L.sm < w.heap.size := HLT.out _ (.inr (.inr rfl))
          have k1 := keepR hu9 (show L.jb < wc.drew.heap.size from HJC.out.blk.lt) (fun e => Blk.ne_map (HJC.out.new (New.refl wc).drew).blk hmp e)
          have k2 := keepR hu9 (show w.heap.size < wc.drew.heap.size from hlw) (fun e => by omega)
          have HU9 : Hid (Upd (JdF L) w w9) := Lib.hid (HUC.out.trans ((Upd.refl (JdF L) wc).drew.trans hu9 (fun i _ e => .inr (.inr e))) (fun _ _ h => h))
          obtain ⟨f0, f1, f2, f3, fz⟩ := Blk3J HJC.out.blk
          clear hm hmp hnext hm9 hu9 hsm
          go_upto_region 9 with fail
          refine wp_region_held_drew (S := fun w' => (∀ o, w'.cell? ⟨L.jb, o, none⟩ = wc.cell? ⟨L.jb, o, none⟩) ∧ (∀ o, w'.cell? ⟨w.heap.size, o, none⟩ = wc.cell? ⟨w.heap.size, o, none⟩)) (by kernel_rfl) (⟨fun _ => rfl, fun _ => rfl⟩) (fun hHeld => ?_)
          refine tkN (i := 0) rfl ?_
          try simp only [Act.put, sA, sZ, sS]
          refine tkN (i := 1) rfl ?_
          try simp only [Act.put, sA, sZ, sS]
          refine tkN (i := 2) rfl ?_
          try simp only [Act.put, sA, sZ, sS]
          refine tkN (i := 3) rfl ?_
          try simp only [Act.put, sA, sZ, sS]
          refine tkN (i := 4) rfl ?_
          try simp only [Act.put, sA, sZ, sS]
          refine tkN (i := 5) rfl ?_
          try simp only [Act.put, sA, sZ, sS]
          refine tkN (i := 6) rfl ?_
          try simp only [Act.put, sA, sZ, sS]
          refine tkN (i := 7) rfl ?_
          try simp only [Act.put, sA, sZ, sS]
          refine tkN (i := 8) rfl ?_
          try simp only [Act.put, sA, sZ, sS]
          refine tkN (i := 9) rfl ?_
          try simp only [Act.put, sA, sZ, sS]
          refine tkN (i := 10) rfl ?_
          try simp only [Act.put, sA, sZ, sS]
          refine stN (i := 11) rfl (fun K hK => ?_)
          go_simp
          refine hK.out _ _ ?_ (fun hHeld => ?_)
          · exact ⟨k1, k2⟩
          clear hK K
          try simp only [Act.put, sA, sZ, sS]
          refine wpAnyH_done (by kernel_rfl) ?_ _
          clear hHeld hrun k1 k2
          go_wp2_with fail
          go_ret2
          refine ⟨?_, ?_, HU9.out⟩
          · rw [HF.out, if_pos HCK.out, ← HT.out]
            try rfl
          · rw [HF.out]; exact HJ9.out.mono (by omega)
theorem zeroMaps (w : World) : True := trivial
def JNewPost (w : World) (e : Ending) (w' : World) : Prop := ∃ L : JdL, e = .returned (.pointer (some ⟨L.jb, 0, none⟩)) ∧ JdAt w' 0 L Jd.zero ∧ (∀ k, JdF L k → w.heap.size ≤ k) ∧ New w w'
set_option maxHeartbeats 2000000 in
theorem jnew (w : World) : Calls Tryz.prog 58 #[.int .u64 0] w (JNewPost w) := by
  have hmk := @run_makeMap Tryz.prog
  have hw0 := MpAt.made Tryz.prog 9 litS okS w
  have hN1 := (New.refl w).alloc (.map #[] 0)
  have hs0 := MpAt.made Tryz.prog 22 litU okU (w.alloc (.map #[] 0))
  rw [World.size_alloc] at hs0
  have hN2 := hN1.alloc (.map #[] 0)
  have hw1 := hw0.new ((New.refl _).alloc (.map #[] 0))
  have HN2 := Lib.hid hN2
  have HW1 := Lib.hid hw1
  have HS0 := Lib.hid hs0
  clear hw0 hN1 hs0 hN2 hw1
  go_enter Tryz.func58, Tryz.ntmps58
  go_wp2_with fail
  go_ret
  refine ⟨⟨w.heap.size + 1 + 1, w.heap.size, w.heap.size + 1⟩, rfl, ?_, ?_, HN2.out.alloc _⟩
  · have hb := Blk.mk_new ((w.alloc (.map #[] 0)).alloc (.map #[] 0)) 138 #[.int .u64 0, .map (some w.heap.size), .map (some (w.heap.size + 1))]
    rw [World.size_alloc, World.size_alloc] at hb
    have hn := (New.refl ((w.alloc (.map #[] 0)).alloc (.map #[] 0))).alloc (.cells #[.int .u64 0, .map (some w.heap.size), .map (some (w.heap.size + 1))] 138)
    exact ⟨hb, ⟨0, Nat.le_refl _, HW1.out.new hn⟩, ⟨0, Nat.le_refl _, HS0.out.new hn⟩, (by dsimp only; omega), Nat.le_refl _⟩
  · rintro k (rfl | rfl | rfl) <;> dsimp only <;> omega
end
end Go.Proofs.YtecniafnihpjmaaGreatDoor
