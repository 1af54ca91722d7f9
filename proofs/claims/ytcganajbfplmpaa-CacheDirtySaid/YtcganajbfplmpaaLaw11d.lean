/- The walk of the law CacheDirty (chapter 11): for every input it answers true. Printed by genLaw11d.py. -/
import Derived.Test.YtcganajbfplmpaaAct11
import Derived.Test.YtcganajbfplmpaaCaD
import Derived.Deep.QuietTactic
import Derived.BigQuiet
namespace Go.Proofs.Ytcganajbfplmpaa
open Go.RowKit Go.Lap
set_option linter.unusedVariables false

theorem zeroIn (w : World) : (zeroValue 3).run Try.prog w = .ok (.int .i64 0) w := by kernel_rfl
abbrev MpI (w : World) (mb cnt : Nat) (g : Int → Option Int) : Prop := MpAt Try.prog 3 (fun n : Int => Lit.int .i64 n) (fun n => (Lit.int .i64 n).wf = true) w mb cnt (valG g)
theorem mpI_put {w' : World} {mb cnt : Nat} {g : Int → Option Int} {k v : Int} (h : MpAt Try.prog 3 (fun n : Int => Lit.int .i64 n) (fun n => (Lit.int .i64 n).wf = true) w' mb cnt (fun j => if j = k then some (Value.int .i64 v) else valG g j)) : MpI w' mb cnt (updG g k v) := by
  unfold MpI
  rw [← valG_upd]; exact h
theorem mpI_get {w : World} {mb cnt : Nat} {g : Int → Option Int} (h : MpI w mb cnt g) (k : Int) (hk : (Lit.int .i64 k).wf = true) : ∀ n, (Instr.lookup 52 (.map (some mb)) (.int .i64 k) false).run Try.prog (w.drewN n) = .ok (.int .i64 ((g k).getD 0)) (w.drewN n) := fun n => by
  have := mpGet keyInt (h.new ((New.refl w).drewN n)) Try.underlying52 (zeroIn _) k hk
  rw [valG_get] at this
  exact this
theorem mpI_get0 {w : World} {mb cnt : Nat} {g : Int → Option Int} (h : MpI w mb cnt g) (k : Int) (hk : (Lit.int .i64 k).wf = true) : (Instr.lookup 52 (.map (some mb)) (.int .i64 k) false).run Try.prog w = .ok (.int .i64 ((g k).getD 0)) w := by
  have := mpGet keyInt h Try.underlying52 (zeroIn _) k hk
  rw [valG_get] at this
  exact this
theorem ent_wf {E : List Ent} (h : ∀ e ∈ E, (Lit.int .i64 e.id).wf = true) {x : Int} (hx : (Lit.int .i64 x).wf = true) {b : ByteArray} {d : Bool} {N : Nat} {z : Ent} (hz : (frontE E x b d)[N]? = some z) : (Lit.int .i64 z.id).wf = true := by
  have hm := List.mem_of_getElem? hz
  rw [frontE_eq] at hm
  rcases List.mem_cons.1 hm with rfl | hm
  · exact hx
  · exact h z (List.mem_of_mem_eraseIdx hm)

set_option maxRecDepth 100000 in
set_option maxHeartbeats 16000000 in
theorem cacheDirty_walk (r : Nat) (acts : List CAct) (v : Value) (w : World) (hr : r < 256) (hl : acts.length ≤ maxLen) (hs : SlIn w 5 caE v acts) (hg : ∀ x ∈ acts, x.good) :
    Calls Try.prog 5 #[.int .u8 (r : Int), v] w fun e w' => e = .returned (.bool true) ∧ New w w' := by
  unfold maxLen at hl
  obtain ⟨n, hn⟩ : ∃ n, n = r % 20 := ⟨r % 20, rfl⟩
  have hn20 : n < 20 := by omega
  have hrr : ((r : Int) % 20) = (n : Int) := by omega
  have hq0 : (0 : Int) ≤ (n : Int) := by omega
  have hq1 : (n : Int) < 20 := by omega
  have hr0 : (0 : Int) ≤ (r : Int) := by omega
  have hr1 : (r : Int) < 256 := by omega
  clear hn
  have hmk := @run_makeMap Try.prog
  obtain ⟨A, cp, hv, hcp, hor⟩ := id hs
  subst hv
  obtain ⟨N, hNN, hN1⟩ : ∃ N : Nat, N = n + 1 ∧ (1 : Int) + (n : Int) = (N : Int) := ⟨n + 1, rfl, by omega⟩
  have hN20 : N ≤ 20 := by omega
  have hNp : 1 ≤ N := by omega
  have HNN := Lib.hid hNN
  clear hNN
  go_enter Try.func5, Try.ntmps5
  go_wp2_with fail
  refine (newC N _ hNp (by omega)).mono ?_
  rintro e w1 ⟨c, rfl, h1, hn1⟩
  have hF1 : ∀ k, Grow (fun _ => False) w w1 k → w.heap.size ≤ k := fun k hk => hk.elim (fun h => h.elim) (fun h => h.1)
  generalize Grow (fun _ => False) w w1 = F1 at h1 hF1
  go_wp2_with fail
  refine (awake11 _).mono ?_
  rintro e w2 ⟨rfl, hn2⟩
  have h2 := h1.new hn2
  have hN2 := hn1.trans hn2
  have HG := Lib.hid hg
  clear hn1 hn2 h1 hg hs hN1 hrr hn20 hq0 hq1 hr0 hr1 hr
  have hm0 := MpAt.made Try.prog 3 (fun n : Int => Lit.int .i64 n) (fun n => (Lit.int .i64 n).wf = true) w2
  have hn3 := (New.refl w2).alloc (.map #[] 0)
  have h3 := h2.ltG.new hn3
  have hN3 := hN2.trans hn3
  have hF3 : ∀ k, (F1 k ∧ k < w2.heap.size) → w.heap.size ≤ k ∧ k ≠ w2.heap.size := fun k hk => ⟨hF1 k hk.1, by omega⟩
  have HW2S := Lib.hid hN2.size
  clear h2 hF1 hn3 hN2
  go_wp2_with fail
  go_loopw [8, 9, 10, 11, 12, 13] (fun i _ _ _ _ _ wr => ∃ k : Nat, k ≤ acts.length ∧ k ≤ 80 ∧ i = .int .i64 k ∧ ∃ (F : Nat → Prop) (E : List Ent) (g : Int → Option Int) (cnt : Nat), CSt wr F c N E ∧ (∀ k, F k → w.heap.size ≤ k ∧ k ≠ w2.heap.size) ∧ New w wr ∧ MpI wr w2.heap.size cnt g ∧ cnt ≤ 30 * k ∧ DInv E g) (fun i _ _ _ _ _ _ => acts.length - (intOf i).toNat)
  case atStart => exact ⟨0, by omega, by omega, rfl, _, [], fun _ => none, 0, h3, hF3, hN3, hm0, by omega, dinv_nil⟩
  case round =>
    clear h3 hF3 hN3 hm0
    obtain ⟨k, hk, hk80, rfl, F, E, g, cnt, hC, hF, hnw, hm, hcnt, hI⟩ := hrel
    have HF := Lib.hid hF
    have HC := Lib.hid hC
    have HW := Lib.hid hnw
    have HM := Lib.hid hm
    have HIN := Lib.hid hI
    have HFM : Hid (¬ F w2.heap.size) := Lib.hid (fun h => (hF _ h).2 rfl)
    have HMB := Lib.hid hm.lt
    have HWM := HW2S
    have HWS := Lib.hid hnw.size
    clear hF hC hnw hm hI
    by_cases hlt : k < acts.length
    · have hlt' : (k : Int) < (acts.length : Int) := by omega
      by_cases hlt8 : k < 80
      · have hlt8' : (k : Int) < 80 := by omega
        rcases hor with hor | ⟨b, off, rfl, hb, hc⟩
        · rw [hor] at hlt; simp at hlt
        obtain ⟨x, hx⟩ : ∃ x, acts[k]? = some x := ⟨_, List.getElem?_eq_getElem hlt⟩
        have hcells := HW.out.cells.1
        have e0 : wr.cell? ⟨b, off + k * 5, none⟩ = some (.int .i64 x.kind) := (hcells _ _ hb).trans (by have := hc _ x hx 0 _ rfl; simpa using this)
        have e1 : wr.cell? ⟨b, off + k * 5 + 1, none⟩ = some (.int .i64 x.id) := (hcells _ _ hb).trans (by have := hc _ x hx 1 _ rfl; simpa using this)
        have e2 : wr.cell? ⟨b, off + k * 5 + 2, none⟩ = some (.int .i64 x.more) := (hcells _ _ hb).trans (by have := hc _ x hx 2 _ rfl; simpa using this)
        have e3 : wr.cell? ⟨b, off + k * 5 + 3, none⟩ = some (.string x.b) := (hcells _ _ hb).trans (by have := hc _ x hx 3 _ rfl; simpa using this)
        have e4 : wr.cell? ⟨b, off + k * 5 + 4, none⟩ = some (.bool x.d) := (hcells _ _ hb).trans (by have := hc _ x hx 4 _ rfl; simpa using this)
        have hgx := HG.out x (List.mem_of_getElem? hx)
        have HC0 := Lib.hid hc
        obtain ⟨K, xi, xm, xb, xd⟩ := x
        have HGX := Lib.hid (show (Lit.int .i64 xi).wf = true from hgx.2.1)
        clear hc hx hcells hgx
        have hBz := Blk.mk_new wr 30 #[.int .i64 0, .int .i64 0, .int .i64 0, .string ⟨#[]⟩, .bool false]
        obtain ⟨z0, z1, z2, z3, z4, z5, zz⟩ := Blk5A hBz
        have hB := Blk.mk_new wr 30 #[.int .i64 K, .int .i64 xi, .int .i64 xm, .string xb, .bool xd]
        have hn4 := (New.refl wr).alloc (.cells #[.int .i64 K, .int .i64 xi, .int .i64 xm, .string xb, .bool xd] 30)
        have HC4 := Lib.hid (HC.out.ltG.new hn4)
        have HW4 := Lib.hid (HW.out.trans hn4)
        have HM4 := Lib.hid (HM.out.new hn4)
        have HB4 := Lib.hid hB
        have HZ := Lib.hid hn4.size
        obtain ⟨p0, p1, p2, p3, p4, p5, pz⟩ := Blk5A hB
        have HIDS := Lib.hid HC.out.ids
        have HLEN := Lib.hid HC.out.len.1
        have HEWF := Lib.hid HC.out.wf
        have HMX := Lib.hid (show cnt + 1000 < maxLen by unfold maxLen; omega)
        clear hBz hB hn4
        have hkind : K = 0 ∨ K = 1 ∨ K = 2 ∨ K = 3 ∨ (K ≠ 0 ∧ K ≠ 1 ∧ K ≠ 2 ∧ K ≠ 3) := by omega
        rcases hkind with rfl | rfl | rfl | rfl | ⟨hk0, hk1, hk2, hk3⟩
        · have HW2 := HWM
          cases xd with
          | true =>
            go_wp2_with (at_mapUpdate; refine wpList_mp_put keyInt rfl _ _ _ 52 3 rfl Try.underlying52 rfl HM4.out (by have := HMX.out; omega) xi HGX.out rfl _ rfl ?_; intro w5 hm5 hg5; have hU5 := growC hg5; have hC5 := HC4.out.upd hU5 (fun j hj e => (HF.out j hj.1).2 e); have hB5 := HB4.out.upd hU5 (fun e => by have := HMB.out; omega); have hN5 := HW4.out.upd hU5 (fun j e => by have := HW2.out; omega); obtain ⟨q0, q1, q2, q3, q4, q5, qz⟩ := Blk5A hB5)
            obtain ⟨cn5, hcn5, hm5⟩ : ∃ cn, cn ≤ cnt + 1 ∧ MpI w5 w2.heap.size cn (updG g xi ((k : Int) + 1)) := ⟨_, by split <;> omega, mpI_put (g := g) (v := (k : Int) + 1) hm5⟩
            refine (put_any _ hC5 xi HGX.out xb true).mono ?_
            rintro e w6 ⟨rfl, hC6, hu6⟩
            have hB6 := hB5.upd hu6 (fun hk => Nat.lt_irrefl _ hk.2)
            have hm6 := hm5.upd hu6 (fun hk => HFM.out hk.1)
            have hN6 := hN5.upd hu6 (fun j hj => (HF.out j hj.1).1)
            have HF9 : Hid (∀ j, Grow (fun j => F j ∧ j < wr.heap.size) _ w6 j → w.heap.size ≤ j ∧ j ≠ w2.heap.size) := Lib.hid (fun j hj => hj.elim (fun h => HF.out j h.1) (fun h => ⟨Nat.le_trans hN5.size h.1, fun e => by have := hm5.lt; omega⟩))
            generalize Grow (fun j => F j ∧ j < wr.heap.size) _ w6 = F9 at hC6 HF9
            have HZ6 := Lib.hid hm6.lt
            clear hu6 hC5 hm5 hB5 hN5
            clear q0 q1 q2 q3 q4 q5 qz
            clear p0 p1 p2 p3 p4 p5 pz e0 e1 e2 e3 e4 z0 z1 z2 z3 z4 z5 zz
            have hBy := Blk.mk_new w6 32 #[.int .i64 0, .string ⟨#[]⟩, .bool false]
            obtain ⟨y0, y1, y2, y3, yz⟩ := Blk3G hBy
            cases hzz : (frontE E xi xb true)[N]? with
            | none =>
              have hn7 := (New.refl w6).alloc (.cells #[.int .i64 0, .string ⟨#[]⟩, .bool false] 32)
              have HC9 := Lib.hid (hC6.new hn7)
              have HN9 := Lib.hid (hN6.trans hn7)
              have HM9 := Lib.hid (hm6.new hn7)
              have HI9 : Hid (DInv (putE N E xi xb true) (updG g xi ((k : Int) + 1))) := Lib.hid (HIN.out.put_none HIDS.out HLEN.out (v := (k : Int) + 1) (by omega) hzz)
              clear hC6 hN6 hm6 hn7 hBy hB6 hzz
              dsimp only [retE]
              go_wp2_with fail
              go_roundw
              case rel => exact ⟨k + 1, by omega, by omega, by go_num, _, _, _, _, HC9.out, HF9.out, HN9.out, HM9.out, by omega, HI9.out⟩
              case measure => simp [intOf]; omega
            | some z =>
              have hzw := ent_wf HEWF.out HGX.out hzz
              obtain ⟨hdz, hi9⟩ := HIN.out.put_some HIDS.out HLEN.out (v := (k : Int) + 1) (by omega) hzz
              replace hi9 : DInv (putE N E xi xb true) (updG (updG g xi ((k : Int) + 1)) z.id 0) := hi9
              replace hdz : decide (0 < ((updG g xi ((k : Int) + 1)) z.id).getD 0) = z.d := hdz
              obtain ⟨zi, zb, zd⟩ := z
              have hn7 := (New.refl w6).alloc (.cells #[.int .i64 zi, .string zb, .bool zd] 32)
              have hBg := Blk.mk_new w6 32 #[.int .i64 zi, .string zb, .bool zd]
              obtain ⟨g0, g1, g2, g3, gfz⟩ := Blk3G hBg
              have hC7 := hC6.new hn7
              have hN7 := hN6.trans hn7
              have hm7 := hm6.new hn7
              have hlk := mpI_get0 hm7 zi hzw
              have HI9 := Lib.hid hi9
              have HC7 := Lib.hid hC7
              have HN7 := Lib.hid hN7
              have HZW := Lib.hid hzw
              have HM7 := Lib.hid hm7
              have HBG := Lib.hid hBg
              clear hC6 hN6 hm6 hn7 hBy hB6 hzz hi9 hC7 hN7 hzw hBg hm7
              simp only at hdz
              generalize hgz : ((updG g xi ((k : Int) + 1)) zi).getD 0 = gz at hdz hlk
              clear hgz
              dsimp only [retE]
              cases zd with
              | true =>
                have hz1 : (0 : Int) < gz := by simpa using hdz
                clear hdz
                go_wp2_with (at_mapUpdate; refine wpList_mp_put keyInt rfl _ _ _ 52 3 rfl Try.underlying52 rfl HM7.out (by have := HMX.out; omega) zi HZW.out rfl _ rfl ?_; intro w8 hm8 hg8; have hU8 := growC hg8; have HC9 := Lib.hid (HC7.out.upd hU8 (fun j hj e => (HF9.out j hj).2 e)); have HN9 := Lib.hid (HN7.out.upd hU8 (fun j e => by have := HW2.out; omega)))
                have HM9 := Lib.hid (mpI_put (g := (updG g xi ((k : Int) + 1))) (v := 0) hm8)
                go_roundw
                case rel => exact ⟨k + 1, by omega, by omega, by go_num, _, _, _, _, HC9.out, HF9.out, HN9.out, HM9.out, by split <;> omega, HI9.out⟩
                case measure => simp [intOf]; omega
              | false =>
                have hz1 : ¬ (0 : Int) < gz := by simpa using hdz
                clear hdz
                go_wp2_with (at_mapUpdate; refine wpList_mp_put keyInt rfl _ _ _ 52 3 rfl Try.underlying52 rfl HM7.out (by have := HMX.out; omega) zi HZW.out rfl _ rfl ?_; intro w8 hm8 hg8; have hU8 := growC hg8; have HC9 := Lib.hid (HC7.out.upd hU8 (fun j hj e => (HF9.out j hj).2 e)); have HN9 := Lib.hid (HN7.out.upd hU8 (fun j e => by have := HW2.out; omega)))
                have HM9 := Lib.hid (mpI_put (g := (updG g xi ((k : Int) + 1))) (v := 0) hm8)
                go_roundw
                case rel => exact ⟨k + 1, by omega, by omega, by go_num, _, _, _, _, HC9.out, HF9.out, HN9.out, HM9.out, by split <;> omega, HI9.out⟩
                case measure => simp [intOf]; omega
          | false =>
            go_wp2_with fail
            have hC5 := HC4.out
            have hB5 := HB4.out
            have hN5 := HW4.out
            have hm5 := HM4.out
            refine (put_any _ hC5 xi HGX.out xb false).mono ?_
            rintro e w6 ⟨rfl, hC6, hu6⟩
            have hB6 := hB5.upd hu6 (fun hk => Nat.lt_irrefl _ hk.2)
            have hm6 := hm5.upd hu6 (fun hk => HFM.out hk.1)
            have hN6 := hN5.upd hu6 (fun j hj => (HF.out j hj.1).1)
            have HF9 : Hid (∀ j, Grow (fun j => F j ∧ j < wr.heap.size) _ w6 j → w.heap.size ≤ j ∧ j ≠ w2.heap.size) := Lib.hid (fun j hj => hj.elim (fun h => HF.out j h.1) (fun h => ⟨Nat.le_trans hN5.size h.1, fun e => by have := hm5.lt; omega⟩))
            generalize Grow (fun j => F j ∧ j < wr.heap.size) _ w6 = F9 at hC6 HF9
            have HZ6 := Lib.hid hm6.lt
            clear hu6 hC5 hm5 hB5 hN5
            clear p0 p1 p2 p3 p4 p5 pz e0 e1 e2 e3 e4 z0 z1 z2 z3 z4 z5 zz
            have hBy := Blk.mk_new w6 32 #[.int .i64 0, .string ⟨#[]⟩, .bool false]
            obtain ⟨y0, y1, y2, y3, yz⟩ := Blk3G hBy
            cases hzz : (frontE E xi xb false)[N]? with
            | none =>
              have hn7 := (New.refl w6).alloc (.cells #[.int .i64 0, .string ⟨#[]⟩, .bool false] 32)
              have HC9 := Lib.hid (hC6.new hn7)
              have HN9 := Lib.hid (hN6.trans hn7)
              have HM9 := Lib.hid (hm6.new hn7)
              have HI9 : Hid (DInv (putE N E xi xb false) g) := Lib.hid (HIN.out.put_none HIDS.out HLEN.out (v := (k : Int) + 1) (by omega) hzz)
              clear hC6 hN6 hm6 hn7 hBy hB6 hzz
              dsimp only [retE]
              go_wp2_with fail
              go_roundw
              case rel => exact ⟨k + 1, by omega, by omega, by go_num, _, _, _, _, HC9.out, HF9.out, HN9.out, HM9.out, by omega, HI9.out⟩
              case measure => simp [intOf]; omega
            | some z =>
              have hzw := ent_wf HEWF.out HGX.out hzz
              obtain ⟨hdz, hi9⟩ := HIN.out.put_some HIDS.out HLEN.out (v := (k : Int) + 1) (by omega) hzz
              replace hi9 : DInv (putE N E xi xb false) (updG g z.id 0) := hi9
              replace hdz : decide (0 < (g z.id).getD 0) = z.d := hdz
              obtain ⟨zi, zb, zd⟩ := z
              have hn7 := (New.refl w6).alloc (.cells #[.int .i64 zi, .string zb, .bool zd] 32)
              have hBg := Blk.mk_new w6 32 #[.int .i64 zi, .string zb, .bool zd]
              obtain ⟨g0, g1, g2, g3, gfz⟩ := Blk3G hBg
              have hC7 := hC6.new hn7
              have hN7 := hN6.trans hn7
              have hm7 := hm6.new hn7
              have hlk := mpI_get0 hm7 zi hzw
              have HI9 := Lib.hid hi9
              have HC7 := Lib.hid hC7
              have HN7 := Lib.hid hN7
              have HZW := Lib.hid hzw
              have HM7 := Lib.hid hm7
              have HBG := Lib.hid hBg
              clear hC6 hN6 hm6 hn7 hBy hB6 hzz hi9 hC7 hN7 hzw hBg hm7
              simp only at hdz
              generalize hgz : (g zi).getD 0 = gz at hdz hlk
              clear hgz
              dsimp only [retE]
              cases zd with
              | true =>
                have hz1 : (0 : Int) < gz := by simpa using hdz
                clear hdz
                go_wp2_with (at_mapUpdate; refine wpList_mp_put keyInt rfl _ _ _ 52 3 rfl Try.underlying52 rfl HM7.out (by have := HMX.out; omega) zi HZW.out rfl _ rfl ?_; intro w8 hm8 hg8; have hU8 := growC hg8; have HC9 := Lib.hid (HC7.out.upd hU8 (fun j hj e => (HF9.out j hj).2 e)); have HN9 := Lib.hid (HN7.out.upd hU8 (fun j e => by have := HW2.out; omega)))
                have HM9 := Lib.hid (mpI_put (g := g) (v := 0) hm8)
                go_roundw
                case rel => exact ⟨k + 1, by omega, by omega, by go_num, _, _, _, _, HC9.out, HF9.out, HN9.out, HM9.out, by split <;> omega, HI9.out⟩
                case measure => simp [intOf]; omega
              | false =>
                have hz1 : ¬ (0 : Int) < gz := by simpa using hdz
                clear hdz
                go_wp2_with (at_mapUpdate; refine wpList_mp_put keyInt rfl _ _ _ 52 3 rfl Try.underlying52 rfl HM7.out (by have := HMX.out; omega) zi HZW.out rfl _ rfl ?_; intro w8 hm8 hg8; have hU8 := growC hg8; have HC9 := Lib.hid (HC7.out.upd hU8 (fun j hj e => (HF9.out j hj).2 e)); have HN9 := Lib.hid (HN7.out.upd hU8 (fun j e => by have := HW2.out; omega)))
                have HM9 := Lib.hid (mpI_put (g := g) (v := 0) hm8)
                go_roundw
                case rel => exact ⟨k + 1, by omega, by omega, by go_num, _, _, _, _, HC9.out, HF9.out, HN9.out, HM9.out, by split <;> omega, HI9.out⟩
                case measure => simp [intOf]; omega
        · go_wp2_with fail
          refine (get_c _ HC4.out xi HGX.out).mono ?_
          rintro e w5 ⟨rfl, hC9, hu5⟩
          have HC9 := Lib.hid hC9
          have HN9 := Lib.hid (HW4.out.upd hu5 (fun j hj => (HF.out j hj.1).1))
          have HF9 : Hid (∀ j, F j ∧ j < wr.heap.size → w.heap.size ≤ j ∧ j ≠ w2.heap.size) := Lib.hid (fun j hj => HF.out j hj.1)
          have HM9 := Lib.hid (HM4.out.upd hu5 (fun hk => HFM.out hk.1))
          have HI9 := Lib.hid (HIN.out.get HIDS.out xi)
          clear hu5 hC9
          clear p0 p1 p2 p3 p4 p5 pz e0 e1 e2 e3 e4 z0 z1 z2 z3 z4 z5 zz
          go_wp2_with fail
          go_roundw
          case rel => exact ⟨k + 1, by omega, by omega, by go_num, _, _, _, _, HC9.out, HF9.out, HN9.out, HM9.out, by omega, HI9.out⟩
          case measure => simp [intOf]; omega
        · have hsb := Blk.mk_new (wr.alloc (.cells #[.int .i64 2, .int .i64 xi, .int .i64 xm, .string xb, .bool xd] 30)) 3 #[.int .i64 xi]
          have hn6 := (New.refl (wr.alloc (.cells #[.int .i64 2, .int .i64 xi, .int .i64 xm, .string xb, .bool xd] 30))).alloc (.cells #[.int .i64 xi] 3)
          have hsl := SlIn.one (x := xi) hsb iEOk rfl
          rw [World.size_alloc] at hsl
          go_wp2_with fail
          refine (drop_c _ (HC4.out.new hn6) hsl (by simp) (by simpa using HGX.out) (fun b0 off0 n0 cp0 hv hk => by
            cases hv
            have := hk.2
            omega)).mono ?_
          rintro e w5 ⟨rfl, hC9, hu5⟩
          have hB5 := (HB4.out.new hn6).upd hu5 (fun hk => Nat.lt_irrefl _ hk.2)
          have HN5 := Lib.hid ((HW4.out.trans hn6).upd hu5 (fun j hj => (HF.out j hj.1).1))
          have HF9 : Hid (∀ j, F j ∧ j < wr.heap.size → w.heap.size ≤ j ∧ j ≠ w2.heap.size) := Lib.hid (fun j hj => HF.out j hj.1)
          have HM5 := Lib.hid ((HM4.out.new hn6).upd hu5 (fun hk => HFM.out hk.1))
          have HI9 := Lib.hid (HIN.out.drop HIDS.out xi)
          obtain ⟨q0, q1, q2, q3, q4, q5, qz⟩ := Blk5A hB5
          have HC5 := Lib.hid hC9
          have HW2 := HWM
          clear hu5 hC9 hB5 hsb hsl hn6
          clear p0 p1 p2 p3 p4 p5 pz e0 e1 e2 e3 e4 z0 z1 z2 z3 z4 z5 zz
          go_wp2_with (at_mapUpdate; refine wpList_mp_put keyInt rfl _ _ _ 52 3 rfl Try.underlying52 rfl HM5.out (by have := HMX.out; omega) xi HGX.out rfl _ rfl ?_; intro w8 hm8 hg8; have hU8 := growC hg8; have HC9 := Lib.hid (HC5.out.upd hU8 (fun j hj e => (HF9.out j hj).2 e)); have HN9 := Lib.hid (HN5.out.upd hU8 (fun j e => by have := HW2.out; omega)))
          have HM9 := Lib.hid (mpI_put (g := g) (v := 0) hm8)
          go_roundw
          case rel => exact ⟨k + 1, by omega, by omega, by go_num, _, _, _, _, HC9.out, HF9.out, HN9.out, HM9.out, by split <;> omega, HI9.out⟩
          case measure => simp [intOf]; omega
        · have HW2 := HWM
          go_wp2_with fail
          refine (dirty_c _ HC4.out).mono ?_
          rintro e w5 ⟨u5, D, rfl, hs5, hp5, hr5, ho5, hC5, hu5⟩
          obtain ⟨A5, c5, hv5, hl5, hor5⟩ := id hs5
          subst hv5
          have HN5 := Lib.hid (HW4.out.upd hu5 (fun j hj => (HF.out j hj.1).1))
          have HF9 : Hid (∀ j, F j ∧ j < wr.heap.size → w.heap.size ≤ j ∧ j ≠ w2.heap.size) := Lib.hid (fun j hj => HF.out j hj.1)
          have hm5 := HM4.out.upd hu5 (fun hk => HFM.out hk.1)
          have HC5 := Lib.hid hC5
          have HP5 := Lib.hid hp5
          have HR5 := Lib.hid hr5
          have HO5 : Hid (∀ b0 off0, A5 = some ⟨b0, off0, none⟩ → wr.heap.size ≤ b0) := Lib.hid (fun b0 off0 e => by
            have h1 := ho5 b0 (by rw [e]; rfl)
            have h2 := HZ.out
            omega)
          have hDE : D.length ≤ N := by
            have h1 := hp5.length_eq
            have h2 : (E.filter (·.d)).length ≤ E.length := List.length_filter_le _ _
            have h3 := HLEN.out
            omega
          have HDW := Lib.hid (fun (x : Ent) (hx : x ∈ D) => HEWF.out x (List.mem_filter.1 (hp5.mem_iff.1 hx)).1)
          clear hu5 hC5 hp5 hr5 ho5 hs5
          clear p0 p1 p2 p3 p4 p5 pz e0 e1 e2 e3 e4 z0 z1 z2 z3 z4 z5 zz
          go_wp2_with fail
          obtain ⟨wo, hwo⟩ : ∃ wo, wo = wr := ⟨_, rfl⟩
          have HWO := Lib.hid hwo
          subst hwo
          go_loopw [13] (fun i wr => ∃ m : Nat, m ≤ D.length ∧ i = .int .i64 m ∧ ∃ cnt', CSt wr (fun j => F j ∧ j < wo.heap.size) c N (E.map clE) ∧ New w wr ∧ MpI wr w2.heap.size cnt' (clrG g (D.take m)) ∧ cnt' ≤ cnt + m ∧ Upd (· = w2.heap.size) w5 wr) (fun i _ => D.length - (intOf i).toNat)
          case atStart => exact ⟨0, by omega, rfl, cnt, HC5.out, HN5.out, by rw [List.take_zero, clrG_nil]; exact hm5, by omega, Upd.refl _ _⟩
          case round =>
            clear hm5
            obtain ⟨m, hm, rfl, cnt', hC, hN, hmp, hcn, hU⟩ := hrel
            have HCR := Lib.hid hC
            have HNR := Lib.hid hN
            have HMR := Lib.hid hmp
            have HUR := Lib.hid hU
            clear hC hN hU
            by_cases hml : m < D.length
            · have hml' : (m : Int) < (D.length : Int) := by omega
              have hm0 : (0 : Int) ≤ (m : Int) := by omega
              rcases hor5 with hor5 | ⟨b5, off5, rfl, hb5, hc5⟩
              · rw [hor5] at hml; simp at hml
              have hb5m : ¬ b5 = w2.heap.size := by
                have h1 := HO5.out _ _ rfl
                have h2 := HMB.out
                omega
              obtain ⟨x, hx⟩ : ∃ x, D[m]? = some x := ⟨_, List.getElem?_eq_getElem hml⟩
              have hcell := fun o => upd_cellC HUR.out hb5 hb5m o
              have f0 : wr.cell? ⟨b5, off5 + m * 3, none⟩ = some (.int .i64 x.id) := (hcell _).trans (by have := hc5 _ x hx 0 _ rfl; simpa using this)
              have f2 : wr.cell? ⟨b5, off5 + m * 3 + 2, none⟩ = some (.bool x.d) := (hcell _).trans (by have := hc5 _ x hx 2 _ rfl; simpa using this)
              have htd := HIN.out.told HIDS.out HP5.out (List.mem_of_getElem? hx)
              have hxw := HDW.out x (List.mem_of_getElem? hx)
              have hlk := mpI_get hmp x.id hxw
              rw [clrG_fresh HR5.out hx] at hlk
              have HST := Lib.hid (clrG_step g hx)
              rw [htd.1] at f2
              have hgz := htd.2
              generalize (g x.id).getD 0 = gz at hgz hlk
              have hgz0 : ¬ gz = 0 := by omega
              have hb5l : b5 < wr.heap.size := Nat.lt_of_lt_of_le hb5 HUR.out.size
              have HXW := Lib.hid hxw
              have HX := Lib.hid hx
              clear htd hxw hx
              have hgb : (gz == 0) = false := by simpa using hgz0
              by_cases hpos : 0 < m
              · have hpos' : (0 : Int) < (m : Int) := by omega
                obtain ⟨q, hq⟩ : ∃ q, m = q + 1 := ⟨m - 1, by omega⟩
                have hqm : (m : Int) - 1 = (q : Int) := by omega
                obtain ⟨y, hy⟩ : ∃ y, D[q]? = some y := ⟨_, List.getElem?_eq_getElem (by omega)⟩
                have f3 : wr.cell? ⟨b5, off5 + q * 3, none⟩ = some (.int .i64 y.id) := (hcell _).trans (by have := hc5 _ y hy 0 _ rfl; simpa using this)
                have hyx : y.id < x.id := by
                  obtain ⟨h1, h2⟩ := List.getElem?_eq_some_iff.1 hy
                  obtain ⟨h3, h4⟩ := List.getElem?_eq_some_iff.1 HX.out
                  have := List.pairwise_iff_getElem.1 HR5.out q m h1 h3 (by omega)
                  rw [h2, h4] at this
                  exact this
                have hyx' : ¬ x.id ≤ y.id := by omega
                have hq0 : (0 : Int) ≤ (q : Int) := by omega
                have hql : (q : Int) < (D.length : Int) := by omega
                have HQ := Lib.hid hq
                clear hc5 hcell hy hq
                go_wp2_with fail
                go_quiet (fail)
                go_wp2_with (at_mapUpdate; refine wpList_mp_put keyInt rfl _ _ _ 52 3 rfl Try.underlying52 rfl (HMR.out.new ((New.refl wr).drewN nq)) (by have := HMX.out; omega) x.id HXW.out rfl _ rfl ?_; intro w8 hm8 hg8; have hU8 := growC hg8; have hC9 := (HCR.out.new ((New.refl wr).drewN nq)).upd hU8 (fun j hj e => (HF9.out j hj).2 e); have hN9 := (HNR.out.drewN nq).upd hU8 (fun j e => by have := HW2.out; omega); have hu9 := (HUR.out.drewN nq).trans hU8 (fun _ _ h => h))
                have hm9 := mpI_put (v := 0) hm8
                rw [HST.out] at hm9
                go_roundw
                case rel => exact ⟨m + 1, by omega, by go_num, _, hC9, hN9, hm9, by split <;> omega, hu9⟩
                case measure => simp [intOf]; omega
              · have hpos' : ¬ (0 : Int) < (m : Int) := by omega
                clear hc5 hcell
                go_wp2_with fail
                go_quiet (fail)
                go_wp2_with (at_mapUpdate; refine wpList_mp_put keyInt rfl _ _ _ 52 3 rfl Try.underlying52 rfl (HMR.out.new ((New.refl wr).drewN nq)) (by have := HMX.out; omega) x.id HXW.out rfl _ rfl ?_; intro w8 hm8 hg8; have hU8 := growC hg8; have hC9 := (HCR.out.new ((New.refl wr).drewN nq)).upd hU8 (fun j hj e => (HF9.out j hj).2 e); have hN9 := (HNR.out.drewN nq).upd hU8 (fun j e => by have := HW2.out; omega); have hu9 := (HUR.out.drewN nq).trans hU8 (fun _ _ h => h))
                have hm9 := mpI_put (v := 0) hm8
                rw [HST.out] at hm9
                go_roundw
                case rel => exact ⟨m + 1, by omega, by go_num, _, hC9, hN9, hm9, by split <;> omega, hu9⟩
                case measure => simp [intOf]; omega
            · have hml' : ¬ (m : Int) < (D.length : Int) := by omega
              obtain rfl : m = D.length := by omega
              rw [List.take_length] at hmp HMR
              have HI9 := Lib.hid (HIN.out.dirty HIDS.out HP5.out)
              clear hmp
              go_wp2_with fail
              refine (dirty_c _ HCR.out).mono ?_
              rintro e w7 ⟨u7, D7, rfl, hs7, hp7, -, -, hC7, hu7⟩
              rw [filter_cl] at hp7
              obtain rfl := hp7.eq_nil
              obtain ⟨A7, c7, hv7, -, -⟩ := id hs7
              subst hv7
              rw [clE_clE] at hC7
              have HC9 := Lib.hid hC7
              have HN9 := Lib.hid (HNR.out.upd hu7 (fun j hj => (HF9.out j hj).1))
              have HM9 := Lib.hid (HMR.out.upd hu7 (fun hk => HFM.out hk.1))
              clear hs7 hp7 hC7 hu7
              simp only [List.length_nil]
              go_wp2_with fail
              go_roundw
              case rel => exact ⟨k + 1, by omega, by omega, by go_num, _, _, _, _, HC9.out, HF9.out, HN9.out, HM9.out, by omega, HI9.out⟩
              case measure => simp [intOf]; omega
        · have hk0' : (K != 0) = true := by simpa using hk0
          have HN9 := HW4
          have HC9 := HC4
          have HM9 := HM4
          have HI9 := HIN
          have HF9 : Hid (∀ j, F j ∧ j < wr.heap.size → w.heap.size ≤ j ∧ j ≠ w2.heap.size) := Lib.hid (fun j hj => HF.out j hj.1)
          go_wp2_with fail
          go_roundw
          case rel => exact ⟨k + 1, by omega, by omega, by go_num, _, _, _, _, HC9.out, HF9.out, HN9.out, HM9.out, by omega, HI9.out⟩
          case measure => simp [intOf]; omega
      · have hlt8' : ¬ (k : Int) < 80 := by omega
        go_wp2_with fail
        refine (listC _ HC.out).mono ?_
        rintro e w5 ⟨u, rfl, ho, hn5⟩
        obtain ⟨A5, c5, rfl, hl5, hor5⟩ := Owns.slIn entOk ho
        have hm5 := HM.out.new hn5
        have HN5 := Lib.hid (HW.out.trans hn5)
        have HIDS := Lib.hid HC.out.ids
        have HEWF := Lib.hid HC.out.wf
        have hel : E.length ≤ 20 := by have := HC.out.len.1; omega
        clear ho hn5
        go_wp2_with fail
        go_loopw [15] (fun i wr => ∃ m : Nat, m ≤ E.length ∧ i = .int .i64 m ∧ New w5 wr) (fun i _ => E.length - (intOf i).toNat)
        case atStart => exact ⟨0, by omega, rfl, New.refl _⟩
        case round =>
          obtain ⟨m, hm, rfl, hnq⟩ := hrel
          by_cases hml : m < E.length
          · have hml' : (m : Int) < (E.length : Int) := by omega
            have hm0 : (0 : Int) ≤ (m : Int) := by omega
            rcases hor5 with hor5 | ⟨b5, off5, rfl, hb5, hc5⟩
            · rw [hor5] at hml; simp at hml
            obtain ⟨x, hx⟩ : ∃ x, E[m]? = some x := ⟨_, List.getElem?_eq_getElem hml⟩
            have hcell := hnq.cells.1
            have f0 : wr.cell? ⟨b5, off5 + m * 3, none⟩ = some (.int .i64 x.id) := (hcell _ _ hb5).trans (by have := hc5 _ x hx 0 _ rfl; simpa using this)
            have f2 : wr.cell? ⟨b5, off5 + m * 3 + 2, none⟩ = some (.bool x.d) := (hcell _ _ hb5).trans (by have := hc5 _ x hx 2 _ rfl; simpa using this)
            have hdx := HIN.out.each HIDS.out (List.mem_of_getElem? hx)
            have hxw := HEWF.out x (List.mem_of_getElem? hx)
            have hlk := mpI_get (hm5.new hnq) x.id hxw
            generalize (g x.id).getD 0 = gz at hdx hlk
            have hb5l : b5 < wr.heap.size := Nat.lt_of_lt_of_le hb5 hnq.size
            have HNQ := Lib.hid hnq
            clear hxw hx hc5 hcell hnq
            cases hxd : x.d with
            | true =>
              rw [hxd] at hdx f2
              have hz1 : (0 : Int) < gz := by simpa using hdx
              clear hdx hxd
              go_wp2_with fail
              go_quiet (fail)
              go_wp2_with fail
              go_roundw
              case rel => exact ⟨m + 1, by omega, by go_num, HNQ.out.drewN _⟩
              case measure => simp [intOf]; omega
            | false =>
              rw [hxd] at hdx f2
              have hz1 : ¬ (0 : Int) < gz := by simpa using hdx
              clear hdx hxd
              go_wp2_with fail
              go_quiet (fail)
              go_wp2_with fail
              go_roundw
              case rel => exact ⟨m + 1, by omega, by go_num, HNQ.out.drewN _⟩
              case measure => simp [intOf]; omega
          · have hml' : ¬ (m : Int) < (E.length : Int) := by omega
            go_wp2_with fail
            go_ret
            exact ⟨rfl, HN5.out.trans hnq⟩
    · have hlt' : ¬ (k : Int) < (acts.length : Int) := by omega
      go_wp2_with fail
      refine (listC _ HC.out).mono ?_
      rintro e w5 ⟨u, rfl, ho, hn5⟩
      obtain ⟨A5, c5, rfl, hl5, hor5⟩ := Owns.slIn entOk ho
      have hm5 := HM.out.new hn5
      have HN5 := Lib.hid (HW.out.trans hn5)
      have HIDS := Lib.hid HC.out.ids
      have HEWF := Lib.hid HC.out.wf
      have hel : E.length ≤ 20 := by have := HC.out.len.1; omega
      clear ho hn5
      go_wp2_with fail
      go_loopw [15] (fun i wr => ∃ m : Nat, m ≤ E.length ∧ i = .int .i64 m ∧ New w5 wr) (fun i _ => E.length - (intOf i).toNat)
      case atStart => exact ⟨0, by omega, rfl, New.refl _⟩
      case round =>
        obtain ⟨m, hm, rfl, hnq⟩ := hrel
        by_cases hml : m < E.length
        · have hml' : (m : Int) < (E.length : Int) := by omega
          have hm0 : (0 : Int) ≤ (m : Int) := by omega
          rcases hor5 with hor5 | ⟨b5, off5, rfl, hb5, hc5⟩
          · rw [hor5] at hml; simp at hml
          obtain ⟨x, hx⟩ : ∃ x, E[m]? = some x := ⟨_, List.getElem?_eq_getElem hml⟩
          have hcell := hnq.cells.1
          have f0 : wr.cell? ⟨b5, off5 + m * 3, none⟩ = some (.int .i64 x.id) := (hcell _ _ hb5).trans (by have := hc5 _ x hx 0 _ rfl; simpa using this)
          have f2 : wr.cell? ⟨b5, off5 + m * 3 + 2, none⟩ = some (.bool x.d) := (hcell _ _ hb5).trans (by have := hc5 _ x hx 2 _ rfl; simpa using this)
          have hdx := HIN.out.each HIDS.out (List.mem_of_getElem? hx)
          have hxw := HEWF.out x (List.mem_of_getElem? hx)
          have hlk := mpI_get (hm5.new hnq) x.id hxw
          generalize (g x.id).getD 0 = gz at hdx hlk
          have hb5l : b5 < wr.heap.size := Nat.lt_of_lt_of_le hb5 hnq.size
          have HNQ := Lib.hid hnq
          clear hxw hx hc5 hcell hnq
          cases hxd : x.d with
          | true =>
            rw [hxd] at hdx f2
            have hz1 : (0 : Int) < gz := by simpa using hdx
            clear hdx hxd
            go_wp2_with fail
            go_quiet (fail)
            go_wp2_with fail
            go_roundw
            case rel => exact ⟨m + 1, by omega, by go_num, HNQ.out.drewN _⟩
            case measure => simp [intOf]; omega
          | false =>
            rw [hxd] at hdx f2
            have hz1 : ¬ (0 : Int) < gz := by simpa using hdx
            clear hdx hxd
            go_wp2_with fail
            go_quiet (fail)
            go_wp2_with fail
            go_roundw
            case rel => exact ⟨m + 1, by omega, by go_num, HNQ.out.drewN _⟩
            case measure => simp [intOf]; omega
        · have hml' : ¬ (m : Int) < (E.length : Int) := by omega
          go_wp2_with fail
          go_ret
          exact ⟨rfl, HN5.out.trans hnq⟩
end Go.Proofs.Ytcganajbfplmpaa
