/- The walk of the law CachePlays (chapter 11): for every input it answers true. Printed by genLaw11p.py. -/
import Derived.Test.YtcganajbfplmpaaAct11
import Derived.Test.YtcganajbfplmpaaCaR4
namespace Go.Proofs.Ytcganajbfplmpaa
open Go.RowKit Go.Lap
set_option linter.unusedVariables false

theorem new_no (room : Int) (w : World) (h : room < 1 ∨ 1024 < room) : Calls Try.prog 10 #[.int .i64 room] w fun e w' => e = .returned (.tuple #[.pointer none, .int .i64 110]) ∧ w' = w := by
  by_cases h1 : room < 1
  · go_enter Try.func10, Try.ntmps10
    go_wp2_with fail
    go_ret2
    exact ⟨rfl, rfl⟩
  · have h2 : 1024 < room := by omega
    go_enter Try.func10, Try.ntmps10
    go_wp2_with fail
    go_ret2
    exact ⟨rfl, rfl⟩
theorem up_one {D L M : List Ent} (h1 : D.Perm M) (h2 : L.Perm M) (hd : D.Pairwise fun x y => x.id < y.id) (hl : up L) : D = L :=
  List.Perm.eq_of_pairwise (le := fun x y : Ent => x.id < y.id) (fun a b _ _ h h' => by omega) hd (show L.Pairwise fun x y => x.id < y.id from hl) (h1.trans h2.symm)
def Dis (u : Value) (E : List Ent) (F : Nat → Prop) : Prop := E ≠ [] → ∀ b off n c, u = .slice (some ⟨b, off, none⟩) n c → ¬ F b
theorem dis_fresh {W w w' : World} {v u : Value} {E E' : List Ent} {F : Nat → Prop} (hs : SlIn w 3 entC v E) (hs' : SlIn w' 3 entC u E') (hf : Fresh W v u) (hd : Dis v E F) (hF : ∀ k, F k → k < W.heap.size) : Dis u E' F := by
  intro h0 b off n c e hb
  rcases hf with rfl | hf
  · refine hd (fun h => h0 ?_) b off n c e hb
    subst h
    obtain ⟨A, c1, h1, _⟩ := hs
    obtain ⟨A', c2, h2, _⟩ := hs'
    rw [h1] at h2
    injection h2 with _ h3
    exact List.length_eq_zero_iff.1 h3.symm
  · have := hf b off n c e
    have := hF b hb
    omega
theorem dis_grow {w5 w6 w7 : World} {u : Value} {E : List Ent} {F : Nat → Prop} (hs : SlIn w5 3 entC u E) (hd : Dis u E F) (hz : w5.heap.size ≤ w6.heap.size) : Dis u E (Grow F w6 w7) := by
  intro h0 b off n c e hb
  rcases hb with hb | hb
  · exact hd h0 b off n c e hb
  · obtain ⟨A, c1, h1, _, h2⟩ := hs
    obtain ⟨b', off', hA, hlt, _⟩ := h2.resolve_left h0
    rw [h1] at e
    cases e
    cases hA
    omega
theorem two_ints (w : World) (a b : Int) : SlIn (w.alloc (.cells #[.int .i64 a, .int .i64 b] 3)) 1 iE (.slice (some ⟨w.heap.size, 0, none⟩) 2 2) [a, b] := by
  have hB := Blk.mk_new w 3 #[.int .i64 a, .int .i64 b]
  refine ⟨_, 2, rfl, Nat.le_refl _, .inr ⟨w.heap.size, 0, rfl, hB.lt, ?_⟩⟩
  intro k x hk j u hj
  have hj0 : j = 0 := by
    have := (List.getElem?_eq_some_iff.1 hj).1
    simp [iE] at this
    exact this
  subst hj0
  simp [iE] at hj
  subst hj
  rw [show 0 + k * 1 + 0 = k by omega, hB.cell k]
  match k, hk with
  | 0, hk => cases hk; rfl
  | 1, hk => cases hk; rfl

set_option maxRecDepth 100000 in
set_option maxHeartbeats 16000000 in
theorem cachePlays_walk (n : Int) (acts : List CAct) (v : Value) (w : World) (hn : (Lit.int .i64 n).wf = true) (hl : acts.length ≤ maxLen) (hs : SlIn w 5 caE v acts) (hg : ∀ x ∈ acts, x.good) :
    Calls Try.prog 3 #[.int .i64 n, v] w fun e w' => e = .returned (.bool true) ∧ New w w' := by
  unfold maxLen at hl
  obtain ⟨A, cp, hv, hcp, hor⟩ := id hs
  subst hv
  have hval : (1 ≤ n ∧ n ≤ 1024) ∨ (n < 1 ∨ 1024 < n) := by omega
  rcases hval with ⟨h1, h2⟩ | hbad
  case inr =>
    have HB := Lib.hid hbad
    rcases hbad with hb1 | hb1
    · go_enter Try.func3, Try.ntmps3
      go_wp2_with fail
      refine (new_no n _ HB.out).mono ?_
      rintro e w1 ⟨rfl, rfl⟩
      go_wp2_with fail
      refine (awake11 _).mono ?_
      rintro e w2 ⟨rfl, hn2⟩
      go_wp2_with fail
      go_loopw [9] (fun i wr => i = .int .i64 0 ∧ New w1 wr) (fun _ _ => 0)
      case atStart => exact ⟨rfl, hn2.alloc _⟩
      case round =>
        obtain ⟨rfl, hnr⟩ := hrel
        by_cases h0 : 0 < acts.length
        · have h0' : (0 : Int) < (acts.length : Int) := by omega
          go_wp2_with fail
          go_ret
          exact ⟨rfl, hnr⟩
        · have h0' : ¬ (0 : Int) < (acts.length : Int) := by omega
          go_wp2_with fail
          go_ret
          exact ⟨rfl, hnr⟩
    · go_enter Try.func3, Try.ntmps3
      go_wp2_with fail
      refine (new_no n _ HB.out).mono ?_
      rintro e w1 ⟨rfl, rfl⟩
      go_wp2_with fail
      refine (awake11 _).mono ?_
      rintro e w2 ⟨rfl, hn2⟩
      go_wp2_with fail
      go_loopw [9] (fun i wr => i = .int .i64 0 ∧ New w1 wr) (fun _ _ => 0)
      case atStart => exact ⟨rfl, hn2.alloc _⟩
      case round =>
        obtain ⟨rfl, hnr⟩ := hrel
        by_cases h0 : 0 < acts.length
        · have h0' : (0 : Int) < (acts.length : Int) := by omega
          go_wp2_with fail
          go_ret
          exact ⟨rfl, hnr⟩
        · have h0' : ¬ (0 : Int) < (acts.length : Int) := by omega
          go_wp2_with fail
          go_ret
          exact ⟨rfl, hnr⟩
  case inl =>
    obtain ⟨R, rfl⟩ : ∃ R : Nat, n = (R : Int) := ⟨n.toNat, by omega⟩
    have hRp : 1 ≤ R := by omega
    have hRm : R ≤ 1024 := by omega
    have h1' : ¬ (R : Int) < 1 := by omega
    have h2' : ¬ (1024 : Int) < (R : Int) := by omega
    have HG := Lib.hid hg
    clear hg hs h1 h2
    go_enter Try.func3, Try.ntmps3
    go_wp2_with fail
    refine (newC R _ hRp hRm).mono ?_
    rintro e w1 ⟨c, rfl, h1, hn1⟩
    have hF1 : ∀ k, Grow (fun _ => False) w w1 k → w.heap.size ≤ k := fun k hk => hk.elim (fun h => h.elim) (fun h => h.1)
    generalize Grow (fun _ => False) w w1 = F1 at h1 hF1
    go_wp2_with fail
    refine (awake11 _).mono ?_
    rintro e w2 ⟨rfl, hn2⟩
    have hn3 := (New.refl w2).alloc (.cells #[] 32)
    have h3 := (h1.new hn2).ltG.new hn3
    have hN3 := (hn1.trans hn2).trans hn3
    have hF3 : ∀ k, (F1 k ∧ k < w2.heap.size) → w.heap.size ≤ k := fun k hk => hF1 k hk.1
    have hs3 : SlIn (w2.alloc (.cells #[] 32)) 3 entC (.slice (some ⟨w2.heap.size, 0, none⟩) 0 0) ([] : List Ent) := ⟨_, _, rfl, Nat.le_refl _, .inl rfl⟩
    clear h1 hF1 hn1 hn2 hn3
    go_wp2_with fail
    go_loopw [8, 9, 10, 11, 12, 13, 14, 15, 16, 17, 18, 19, 20, 21, 22, 23, 24] (fun u8 i _ _ _ _ _ _ _ _ _ _ _ _ _ _ _ wr => ∃ k : Nat, k ≤ acts.length ∧ k ≤ 80 ∧ i = .int .i64 k ∧ ∃ (F : Nat → Prop) (E : List Ent), CSt wr F c R E ∧ (∀ k, F k → w.heap.size ≤ k) ∧ New w wr ∧ SlIn wr 3 entC u8 E ∧ Dis u8 E F) (fun _ i _ _ _ _ _ _ _ _ _ _ _ _ _ _ _ _ => acts.length - (intOf i).toNat)
    case atStart => exact ⟨0, by omega, by omega, rfl, _, [], h3, hF3, hN3, hs3, fun h => absurd rfl h⟩
    case round =>
      clear h3 hF3 hN3 hs3
      obtain ⟨k, hk, hk80, rfl, F, E, hC, hF, hnw, hs8, hd8⟩ := hrel
      obtain ⟨A8, c8, hv8, -, -⟩ := id hs8
      subst hv8
      have HF := Lib.hid hF
      have HC := Lib.hid hC
      have HW := Lib.hid hnw
      have HS := Lib.hid hs8
      have HD := Lib.hid hd8
      have hlen := hC.len.1
      clear hF hC hnw hs8 hd8
      by_cases hlt : k < acts.length
      · have hlt' : (k : Int) < (acts.length : Int) := by omega
        by_cases hlt8 : k < 80
        · have hlt8' : (k : Int) < 80 := by omega
          rcases hor with hor | ⟨b, off, rfl, hb, hc⟩
          · rw [hor] at hlt; simp at hlt
          obtain ⟨x, hx⟩ : ∃ x, acts[k]? = some x := ⟨_, List.getElem?_eq_getElem hlt⟩
          have hcells := HW.out.cells.1
          have e0 : wr.cell? ⟨b, off + k * 5, none⟩ = some (.int .i64 x.kind) := (hcells _ _ hb).trans (by have := hc _ x hx 0 _ rfl; simpa using this)
          have e1 : wr.cell? ⟨b, off + k * 5 + 1, none⟩ = some (.int .i64 x.id) := (hcells _ _ hb).trans (by have := hc _ x hx 1 _ rfl; simpa using this)
          have e2 : wr.cell? ⟨b, off + k * 5 + 2, none⟩ = some (.int .i64 x.more) := (hcells _ _ hb).trans (by have := hc _ x hx 2 _ rfl; simpa using this)
          have e3 : wr.cell? ⟨b, off + k * 5 + 3, none⟩ = some (.string x.b) := (hcells _ _ hb).trans (by have := hc _ x hx 3 _ rfl; simpa using this)
          have e4 : wr.cell? ⟨b, off + k * 5 + 4, none⟩ = some (.bool x.d) := (hcells _ _ hb).trans (by have := hc _ x hx 4 _ rfl; simpa using this)
          have hgx := HG.out x (List.mem_of_getElem? hx)
          have HC0 := Lib.hid hc
          obtain ⟨K, xi, xm, xb, xd⟩ := x
          have HGX := Lib.hid (show (Lit.int .i64 xi).wf = true from hgx.2.1)
          have HGM := Lib.hid (show (Lit.int .i64 xm).wf = true from hgx.2.2.1)
          have hsz : xb.size ≤ maxLen := hgx.2.2.2
          unfold maxLen at hsz
          clear hc hx hcells hgx
          have hBz := Blk.mk_new wr 30 #[.int .i64 0, .int .i64 0, .int .i64 0, .string ⟨#[]⟩, .bool false]
          obtain ⟨z0, z1, z2, z3, z4, z5, zz⟩ := Blk5A hBz
          clear hBz
          by_cases hbig : 100 < xb.size
          · have hbig' : (100 : Int) < (xb.size : Int) := by omega
            have hBx := Blk.mk_new wr 30 #[.int .i64 K, .int .i64 xi, .int .i64 xm, .string xb, .bool xd]
            obtain ⟨s0, s1, s2, s3, s4, s5, sz⟩ := Blk5A hBx
            clear hBx
            have hB := Blk.mk_new wr 30 #[.int .i64 K, .int .i64 xi, .int .i64 xm, .string (xb.extract 0 100), .bool xd]
            have hn4 := (New.refl wr).alloc (.cells #[.int .i64 K, .int .i64 xi, .int .i64 xm, .string (xb.extract 0 100), .bool xd] 30)
            have HC4 := Lib.hid (HC.out.ltG.new hn4)
            have HW4 := Lib.hid (HW.out.trans hn4)
            have HS4 := Lib.hid (HS.out.new hn4)
            have HD4 : Hid (Dis (.slice A8 E.length c8) E (fun j => F j ∧ j < wr.heap.size)) := Lib.hid (fun h b off n c e hb => HD.out h b off n c e hb.1)
            have HB4 := Lib.hid hB
            have HZ4 : Hid (∀ j, (F j ∧ j < wr.heap.size) → j < (wr.alloc (.cells #[.int .i64 K, .int .i64 xi, .int .i64 xm, .string (xb.extract 0 100), .bool xd] 30)).heap.size) := Lib.hid (fun j hj => by rw [World.size_alloc]; omega)
            have HF4 : Hid (∀ j, (F j ∧ j < wr.heap.size) → w.heap.size ≤ j) := Lib.hid (fun j hj => HF.out j hj.1)
            obtain ⟨p0, p1, p2, p3, p4, p5, pz⟩ := Blk5A hB
            clear hB hn4
            have hkind : K = 0 ∨ K = 1 ∨ K = 2 ∨ K = 3 ∨ (K ≠ 0 ∧ K ≠ 1 ∧ K ≠ 2 ∧ K ≠ 3) := by omega
            rcases hkind with rfl | rfl | rfl | rfl | ⟨hk0, hk1, hk2, hk3⟩
            · go_wp2_with fail
              refine (rput_any _ HS4.out (by omega) R (by omega) xi (xb.extract 0 100) xd).mono ?_
              rintro e w5 ⟨u, rfl, hs5, hn5, hf5⟩
              have HD5 := Lib.hid (dis_fresh HS4.out hs5 hf5 HD4.out HZ4.out)
              have HC5 := Lib.hid (HC4.out.new hn5)
              have HN5 := Lib.hid (HW4.out.trans hn5)
              have hB5 := HB4.out.new hn5
              have HZ5 := Lib.hid (Nat.le_trans (show wr.heap.size ≤ (wr.alloc _).heap.size by rw [World.size_alloc]; omega) hn5.size)
              obtain ⟨A9, c9, hv9, -, -⟩ := id hs5
              subst hv9
              have HS5 := Lib.hid hs5
              clear hs5 hn5 hf5
              clear p0 p1 p2 p3 p4 p5 pz e0 e1 e2 e3 e4 z0 z1 z2 z3 z4 z5 zz s0 s1 s2 s3 s4 s5 sz
              have hBy := Blk.mk_new w5 32 #[.int .i64 0, .string ⟨#[]⟩, .bool false]
              obtain ⟨y0, y1, y2, y3, yz⟩ := Blk3R hBy
              generalize hE9 : putE R E xi (xb.extract 0 100) xd = E9 at HS5 HD5 ⊢
              have HE9 := Lib.hid hE9
              cases hz : (frontE E xi (xb.extract 0 100) xd)[R]? with
              | none =>
                have hB12 := Blk.mk_new w5 32 #[.int .i64 0, .string ⟨#[]⟩, .bool false]
                have hn6 := (New.refl w5).alloc (.cells #[.int .i64 0, .string ⟨#[]⟩, .bool false] 32)
                obtain ⟨p0, p1, p2, p3, p4, p5, pz⟩ := Blk5A (hB5.new hn6)
                have HC6 := Lib.hid (HC5.out.new hn6)
                have HS6 := Lib.hid (HS5.out.new hn6)
                have HN6 := Lib.hid (HN5.out.trans hn6)
                have HB12 := Lib.hid hB12
                have HR6 := Lib.hid (show retE (frontE E xi (xb.extract 0 100) xd)[R]? = .tuple #[.agg #[.int .i64 0, .string ⟨#[]⟩, .bool false], .bool false] by rw [hz]; rfl)
                clear hB12 hn6 hBy hE9
                dsimp only [retV]
                go_wp2_with fail
                refine (put_any _ HC6.out xi HGX.out (xb.extract 0 100) xd).mono ?_
                rintro e w7 ⟨rfl, hC7, hu7⟩
                rw [HR6.out]
                rw [HE9.out] at hC7
                have hn12 : ¬ (F w5.heap.size ∧ w5.heap.size < wr.heap.size) := fun h => by have := HZ5.out; omega
                have hB12 := HB12.out.upd hu7 hn12
                have hS7 := slUpd9 HS6.out hu7 (fun h b off n c e => HD5.out h b off n c e)
                have hD7 := dis_grow (w7 := w7) HS5.out HD5.out (show w5.heap.size ≤ (w5.alloc (.cells #[.int .i64 0, .string ⟨#[]⟩, .bool false] 32)).heap.size by rw [World.size_alloc]; omega)
                have hN7 := HN6.out.upd hu7 (fun j hj => HF4.out j hj)
                have HF9 : Hid (∀ j, Grow (fun j => F j ∧ j < wr.heap.size) (w5.alloc (.cells #[.int .i64 0, .string ⟨#[]⟩, .bool false] 32)) w7 j → w.heap.size ≤ j) := Lib.hid (fun j hj => hj.elim (HF4.out j) (fun h => Nat.le_trans HN6.out.size h.1))
                generalize Grow (fun j => F j ∧ j < wr.heap.size) _ w7 = F9 at hC7 hD7 HF9
                have hBt := Blk.mk_new w7 32 #[.int .i64 0, .string ⟨#[]⟩, .bool false]
                obtain ⟨t0, t1, t2, t3, tz⟩ := Blk3R hBt
                have hB14 := Blk.mk_new w7 32 #[.int .i64 0, .string ⟨#[]⟩, .bool false]
                obtain ⟨r0, r1, r2, r3, rz⟩ := Blk3R hB14
                have hn8 := (New.refl w7).alloc (.cells #[.int .i64 0, .string ⟨#[]⟩, .bool false] 32)
                obtain ⟨q0, q1, q2, q3, qz⟩ := Blk3R (hB12.new hn8)
                have hC9 := hC7.new hn8
                have hS9 := hS7.new hn8
                have hN9 := hN7.trans hn8
                have hD9 := hD7
                clear hC7 hS7 hD7 hN7 hu7 hn8 hB12 hB14 hBt p0 p1 p2 p3 p4 p5 pz y0 y1 y2 y3 yz
                have HC9 := Lib.hid hC9
                have HS9 := Lib.hid hS9
                have HD9 := Lib.hid hD9
                have HN9 := Lib.hid hN9
                have hE9 := hC9.len.1
                clear hC9 hS9 hD9 hN9
                go_wp2_with fail
                refine (listC _ HC9.out).mono ?_
                rintro e wa ⟨ul, rfl, hol, hna⟩
                have HOL := Lib.hid (Owns.slIn entOk hol)
                have HNA := Lib.hid hna
                clear hol hna
                go_wp2_with fail
                refine (rsame_eq _ HOL.out (HS9.out.new HNA.out) (by omega)).mono ?_
                rintro e wb ⟨rfl, hnb⟩
                have HNB := Lib.hid (HNA.out.trans hnb)
                clear hnb
                go_wp2_with fail
                refine (lenC _ (HC9.out.new HNB.out)).mono ?_
                rintro e wc ⟨rfl, rfl⟩
                go_wp2_with fail
                go_roundw
                case rel => exact ⟨k + 1, by omega, by omega, by go_num, _, _, HC9.out.new HNB.out, HF9.out, HN9.out.trans HNB.out, HS9.out.new HNB.out, HD9.out⟩
                case measure => simp [intOf]; omega
              | some z =>
                obtain ⟨zi, zb, zd⟩ := z
                have hB12 := Blk.mk_new w5 32 #[.int .i64 zi, .string zb, .bool zd]
                have hn6 := (New.refl w5).alloc (.cells #[.int .i64 zi, .string zb, .bool zd] 32)
                obtain ⟨p0, p1, p2, p3, p4, p5, pz⟩ := Blk5A (hB5.new hn6)
                have HC6 := Lib.hid (HC5.out.new hn6)
                have HS6 := Lib.hid (HS5.out.new hn6)
                have HN6 := Lib.hid (HN5.out.trans hn6)
                have HB12 := Lib.hid hB12
                have HR6 := Lib.hid (show retE (frontE E xi (xb.extract 0 100) xd)[R]? = .tuple #[.agg #[.int .i64 zi, .string zb, .bool zd], .bool true] by rw [hz]; rfl)
                clear hB12 hn6 hBy hE9
                dsimp only [retV]
                go_wp2_with fail
                refine (put_any _ HC6.out xi HGX.out (xb.extract 0 100) xd).mono ?_
                rintro e w7 ⟨rfl, hC7, hu7⟩
                rw [HR6.out]
                rw [HE9.out] at hC7
                have hn12 : ¬ (F w5.heap.size ∧ w5.heap.size < wr.heap.size) := fun h => by have := HZ5.out; omega
                have hB12 := HB12.out.upd hu7 hn12
                have hS7 := slUpd9 HS6.out hu7 (fun h b off n c e => HD5.out h b off n c e)
                have hD7 := dis_grow (w7 := w7) HS5.out HD5.out (show w5.heap.size ≤ (w5.alloc (.cells #[.int .i64 zi, .string zb, .bool zd] 32)).heap.size by rw [World.size_alloc]; omega)
                have hN7 := HN6.out.upd hu7 (fun j hj => HF4.out j hj)
                have HF9 : Hid (∀ j, Grow (fun j => F j ∧ j < wr.heap.size) (w5.alloc (.cells #[.int .i64 zi, .string zb, .bool zd] 32)) w7 j → w.heap.size ≤ j) := Lib.hid (fun j hj => hj.elim (HF4.out j) (fun h => Nat.le_trans HN6.out.size h.1))
                generalize Grow (fun j => F j ∧ j < wr.heap.size) _ w7 = F9 at hC7 hD7 HF9
                have hBt := Blk.mk_new w7 32 #[.int .i64 0, .string ⟨#[]⟩, .bool false]
                obtain ⟨t0, t1, t2, t3, tz⟩ := Blk3R hBt
                have hB14 := Blk.mk_new w7 32 #[.int .i64 zi, .string zb, .bool zd]
                obtain ⟨r0, r1, r2, r3, rz⟩ := Blk3R hB14
                have hn8 := (New.refl w7).alloc (.cells #[.int .i64 zi, .string zb, .bool zd] 32)
                obtain ⟨q0, q1, q2, q3, qz⟩ := Blk3R (hB12.new hn8)
                have hC9 := hC7.new hn8
                have hS9 := hS7.new hn8
                have hN9 := hN7.trans hn8
                have hD9 := hD7
                clear hC7 hS7 hD7 hN7 hu7 hn8 hB12 hB14 hBt p0 p1 p2 p3 p4 p5 pz y0 y1 y2 y3 yz
                have HC9 := Lib.hid hC9
                have HS9 := Lib.hid hS9
                have HD9 := Lib.hid hD9
                have HN9 := Lib.hid hN9
                have hE9 := hC9.len.1
                clear hC9 hS9 hD9 hN9
                go_wp2_with fail
                refine (listC _ HC9.out).mono ?_
                rintro e wa ⟨ul, rfl, hol, hna⟩
                have HOL := Lib.hid (Owns.slIn entOk hol)
                have HNA := Lib.hid hna
                clear hol hna
                go_wp2_with fail
                refine (rsame_eq _ HOL.out (HS9.out.new HNA.out) (by omega)).mono ?_
                rintro e wb ⟨rfl, hnb⟩
                have HNB := Lib.hid (HNA.out.trans hnb)
                clear hnb
                go_wp2_with fail
                refine (lenC _ (HC9.out.new HNB.out)).mono ?_
                rintro e wc ⟨rfl, rfl⟩
                go_wp2_with fail
                go_roundw
                case rel => exact ⟨k + 1, by omega, by omega, by go_num, _, _, HC9.out.new HNB.out, HF9.out, HN9.out.trans HNB.out, HS9.out.new HNB.out, HD9.out⟩
                case measure => simp [intOf]; omega
            · go_wp2_with fail
              refine (rget_any _ HS4.out (by omega) xi).mono ?_
              rintro e w5 ⟨u, rfl, hs5, hn5, hf5⟩
              have HD5 := Lib.hid (dis_fresh HS4.out hs5 hf5 HD4.out HZ4.out)
              have HC5 := Lib.hid (HC4.out.new hn5)
              have HN5 := Lib.hid (HW4.out.trans hn5)
              have hB5 := HB4.out.new hn5
              obtain ⟨A9, c9, hv9, -, -⟩ := id hs5
              subst hv9
              have HS5 := Lib.hid hs5
              clear p0 p1 p2 p3 p4 p5 pz e0 e1 e2 e3 e4 z0 z1 z2 z3 z4 z5 zz s0 s1 s2 s3 s4 s5 sz
              obtain ⟨p0, p1, p2, p3, p4, p5, pz⟩ := Blk5A hB5
              clear hs5 hn5 hf5 hB5
              have hgv : ∃ sb sn, (∀ u, getV u (fnd E xi) = .tuple #[u, .string sb, .int .i64 sn]) ∧ getR (fnd E xi) = .tuple #[.string sb, .int .i64 sn] := by
                cases fnd E xi with
                | none => exact ⟨_, _, fun _ => rfl, rfl⟩
                | some x => exact ⟨_, _, fun _ => rfl, rfl⟩
              obtain ⟨sb, sn, hv1, hv2⟩ := hgv
              rw [hv1]
              have HV2 := Lib.hid hv2
              clear hv1 hv2
              go_wp2_with fail
              refine (get_c _ HC5.out xi HGX.out).mono ?_
              rintro e w7 ⟨rfl, hC9, hu7⟩
              rw [HV2.out]
              have hS9 := slUpd9 HS5.out hu7 (fun h b off n c e => HD5.out h b off n c e)
              have hD9 := HD5.out
              have hN9 := HN5.out.upd hu7 (fun j hj => HF4.out j hj)
              have HF9 := HF4
              clear hu7 p0 p1 p2 p3 p4 p5 pz
              generalize getE E xi = E9 at hC9 hS9 hD9 ⊢
              have HC9 := Lib.hid hC9
              have HS9 := Lib.hid hS9
              have HD9 := Lib.hid hD9
              have HN9 := Lib.hid hN9
              have hE9 := hC9.len.1
              clear hC9 hS9 hD9 hN9
              go_wp2_with fail
              refine (listC _ HC9.out).mono ?_
              rintro e wa ⟨ul, rfl, hol, hna⟩
              have HOL := Lib.hid (Owns.slIn entOk hol)
              have HNA := Lib.hid hna
              clear hol hna
              go_wp2_with fail
              refine (rsame_eq _ HOL.out (HS9.out.new HNA.out) (by omega)).mono ?_
              rintro e wb ⟨rfl, hnb⟩
              have HNB := Lib.hid (HNA.out.trans hnb)
              clear hnb
              go_wp2_with fail
              refine (lenC _ (HC9.out.new HNB.out)).mono ?_
              rintro e wc ⟨rfl, rfl⟩
              go_wp2_with fail
              go_roundw
              case rel => exact ⟨k + 1, by omega, by omega, by go_num, _, _, HC9.out.new HNB.out, HF9.out, HN9.out.trans HNB.out, HS9.out.new HNB.out, HD9.out⟩
              case measure => simp [intOf]; omega
            · have hn5 := (New.refl (wr.alloc (.cells #[.int .i64 2, .int .i64 xi, .int .i64 xm, .string (xb.extract 0 100), .bool xd] 30))).alloc (.cells #[.int .i64 xi, .int .i64 xm] 3)
              have hi5 := two_ints (wr.alloc (.cells #[.int .i64 2, .int .i64 xi, .int .i64 xm, .string (xb.extract 0 100), .bool xd] 30)) xi xm
              rw [World.size_alloc] at hi5
              have HS5 := Lib.hid (HS4.out.new hn5)
              have HN5 := Lib.hid (HW4.out.trans hn5)
              have HC5 := Lib.hid (HC4.out.new hn5)
              have HZ5 : Hid (∀ j, (F j ∧ j < wr.heap.size) → j < ((wr.alloc (.cells #[.int .i64 2, .int .i64 xi, .int .i64 xm, .string (xb.extract 0 100), .bool xd] 30)).alloc (.cells #[.int .i64 xi, .int .i64 xm] 3)).heap.size) := Lib.hid (fun j hj => by rw [World.size_alloc, World.size_alloc]; omega)
              have hB5 := HB4.out.new hn5
              clear hn5
              go_wp2_with fail
              refine (rdrop_any _ HS5.out (by omega) hi5 (by simp)).mono ?_
              rintro e w6 ⟨u, rfl, hs6, hn6, hf6⟩
              have HD6 := Lib.hid (dis_fresh HS5.out hs6 hf6 HD4.out HZ5.out)
              have hn7 := hn6.alloc (.cells #[.int .i64 xi, .int .i64 xm] 3)
              have hi7 := two_ints w6 xi xm
              have HC7 := Lib.hid (HC5.out.new hn7)
              have HN7 := Lib.hid (HN5.out.trans hn7)
              obtain ⟨A9, c9, hv9, -, -⟩ := id hs6
              subst hv9
              have HS7 := Lib.hid (hs6.new ((New.refl w6).alloc (.cells #[.int .i64 xi, .int .i64 xm] 3)))
              have HZ7 := Lib.hid (show wr.heap.size ≤ w6.heap.size by have := hn6.size; rw [World.size_alloc, World.size_alloc] at this; omega)
              clear p0 p1 p2 p3 p4 p5 pz e0 e1 e2 e3 e4 z0 z1 z2 z3 z4 z5 zz s0 s1 s2 s3 s4 s5 sz
              obtain ⟨p0, p1, p2, p3, p4, p5, pz⟩ := Blk5A (hB5.new hn6)
              clear hB5 hi5 hs6 hf6 hn7
              go_wp2_with fail
              refine (drop_c _ HC7.out hi7 (by simp) (by intro a ha; rcases List.mem_cons.1 ha with rfl | ha; exact HGX.out; simp at ha; subst ha; exact HGM.out) (fun b0 off0 n0 c0 e hk => by
                cases e
                have := hk.2
                have := HZ7.out
                omega)).mono ?_
              rintro e w8 ⟨rfl, hC9, hu8⟩
              have hS9 := slUpd9 HS7.out hu8 (fun h b off n c e => HD6.out h b off n c e)
              have hD9 := HD6.out
              have hN9 := HN7.out.upd hu8 (fun j hj => HF4.out j hj)
              have HF9 := HF4
              clear hu8 p0 p1 p2 p3 p4 p5 pz hi7 hn6
              generalize dropE E [xi, xm] = pe at hC9 hS9 hD9 ⊢
              have HC9 := Lib.hid hC9
              have HS9 := Lib.hid hS9
              have HD9 := Lib.hid hD9
              have HN9 := Lib.hid hN9
              have hE9 := hC9.len.1
              clear hC9 hS9 hD9 hN9
              go_wp2_with fail
              refine (listC _ HC9.out).mono ?_
              rintro e wa ⟨ul, rfl, hol, hna⟩
              have HOL := Lib.hid (Owns.slIn entOk hol)
              have HNA := Lib.hid hna
              clear hol hna
              go_wp2_with fail
              refine (rsame_eq _ HOL.out (HS9.out.new HNA.out) (by omega)).mono ?_
              rintro e wb ⟨rfl, hnb⟩
              have HNB := Lib.hid (HNA.out.trans hnb)
              clear hnb
              go_wp2_with fail
              refine (lenC _ (HC9.out.new HNB.out)).mono ?_
              rintro e wc ⟨rfl, rfl⟩
              go_wp2_with fail
              go_roundw
              case rel => exact ⟨k + 1, by omega, by omega, by go_num, _, _, HC9.out.new HNB.out, HF9.out, HN9.out.trans HNB.out, HS9.out.new HNB.out, HD9.out⟩
              case measure => simp [intOf]; omega
            · go_wp2_with fail
              refine (rdirty_any _ HS4.out (by omega) HC.out.ids).mono ?_
              rintro e w5 ⟨u1, u2, L, rfl, hs1, hs2, hpL, hL, hn5, hf1, hf2⟩
              have HD5 := Lib.hid (dis_fresh HS4.out hs1 (.inr hf1) HD4.out HZ4.out)
              have HD6 : Hid (Dis u2 L (fun j => F j ∧ j < wr.heap.size)) := Lib.hid (fun _ b off n c e hb => by have h1 := hf2 b off n c e; have h2 := HZ4.out b hb; omega)
              have HC5 := Lib.hid (HC4.out.new hn5)
              have HN5 := Lib.hid (HW4.out.trans hn5)
              obtain ⟨A9, c9, hv9, -, -⟩ := id hs1
              subst hv9
              obtain ⟨A2, c2, hv2, -, -⟩ := id hs2
              subst hv2
              generalize hE9 : E.map clE = E9 at hs1 HD5 ⊢
              have HE9 := Lib.hid hE9
              clear hE9
              have HS1 := Lib.hid hs1
              have HS2 := Lib.hid hs2
              have HPL := Lib.hid hpL
              have HL := Lib.hid hL
              clear p0 p1 p2 p3 p4 p5 pz e0 e1 e2 e3 e4 z0 z1 z2 z3 z4 z5 zz s0 s1 s2 s3 s4 s5 sz
              clear hs1 hs2 hpL hL hn5 hf1 hf2
              go_wp2_with fail
              refine (dirty_c _ HC5.out).mono ?_
              rintro e w7 ⟨ud, D, rfl, hsd, hpd, hrd, -, hC9, hu7⟩
              rw [HE9.out] at hC9
              obtain rfl := up_one hpd HPL.out hrd HL.out
              have hS9 := slUpd9 HS1.out hu7 (fun h b off n c e => HD5.out h b off n c e)
              have hS2 := slUpd9 HS2.out hu7 (fun h b off n c e => HD6.out h b off n c e)
              have hD9 := HD5.out
              have hN9 := HN5.out.upd hu7 (fun j hj => HF4.out j hj)
              have HF9 := HF4
              have hDl : D.length ≤ 10000 := by
                have h1 := hpd.length_eq
                have h2 : (E.filter (·.d)).length ≤ E.length := List.length_filter_le _ _
                omega
              have HSD := Lib.hid hsd
              have HS22 := Lib.hid hS2
              have HC7 := Lib.hid hC9
              have HS7 := Lib.hid hS9
              have HD7 := Lib.hid hD9
              have HN7 := Lib.hid hN9
              clear hu7 hsd hpd hrd hS2 hC9 hS9 hD9 hN9
              go_wp2_with fail
              refine (rsame_eq _ HSD.out HS22.out (by omega)).mono ?_
              rintro e w8 ⟨rfl, hn8⟩
              have hC9 := HC7.out.new hn8
              have hS9 := HS7.out.new hn8
              have hD9 := HD7.out
              have hN9 := HN7.out.trans hn8
              clear hn8
              have HC9 := Lib.hid hC9
              have HS9 := Lib.hid hS9
              have HD9 := Lib.hid hD9
              have HN9 := Lib.hid hN9
              have hE9 := hC9.len.1
              clear hC9 hS9 hD9 hN9
              go_wp2_with fail
              refine (listC _ HC9.out).mono ?_
              rintro e wa ⟨ul, rfl, hol, hna⟩
              have HOL := Lib.hid (Owns.slIn entOk hol)
              have HNA := Lib.hid hna
              clear hol hna
              go_wp2_with fail
              refine (rsame_eq _ HOL.out (HS9.out.new HNA.out) (by omega)).mono ?_
              rintro e wb ⟨rfl, hnb⟩
              have HNB := Lib.hid (HNA.out.trans hnb)
              clear hnb
              go_wp2_with fail
              refine (lenC _ (HC9.out.new HNB.out)).mono ?_
              rintro e wc ⟨rfl, rfl⟩
              go_wp2_with fail
              go_roundw
              case rel => exact ⟨k + 1, by omega, by omega, by go_num, _, _, HC9.out.new HNB.out, HF9.out, HN9.out.trans HNB.out, HS9.out.new HNB.out, HD9.out⟩
              case measure => simp [intOf]; omega
            · have hC9 := HC4.out
              have hS9 := HS4.out
              have hN9 := HW4.out
              have HF9 := HF4
              have hD9 := HD4.out
              have HC9 := Lib.hid hC9
              have HS9 := Lib.hid hS9
              have HD9 := Lib.hid hD9
              have HN9 := Lib.hid hN9
              have hE9 := hC9.len.1
              clear hC9 hS9 hD9 hN9
              go_wp2_with fail
              refine (listC _ HC9.out).mono ?_
              rintro e wa ⟨ul, rfl, hol, hna⟩
              have HOL := Lib.hid (Owns.slIn entOk hol)
              have HNA := Lib.hid hna
              clear hol hna
              go_wp2_with fail
              refine (rsame_eq _ HOL.out (HS9.out.new HNA.out) (by omega)).mono ?_
              rintro e wb ⟨rfl, hnb⟩
              have HNB := Lib.hid (HNA.out.trans hnb)
              clear hnb
              go_wp2_with fail
              refine (lenC _ (HC9.out.new HNB.out)).mono ?_
              rintro e wc ⟨rfl, rfl⟩
              go_wp2_with fail
              go_roundw
              case rel => exact ⟨k + 1, by omega, by omega, by go_num, _, _, HC9.out.new HNB.out, HF9.out, HN9.out.trans HNB.out, HS9.out.new HNB.out, HD9.out⟩
              case measure => simp [intOf]; omega
          · have hbig' : ¬ (100 : Int) < (xb.size : Int) := by omega
            have hB := Blk.mk_new wr 30 #[.int .i64 K, .int .i64 xi, .int .i64 xm, .string xb, .bool xd]
            have hn4 := (New.refl wr).alloc (.cells #[.int .i64 K, .int .i64 xi, .int .i64 xm, .string xb, .bool xd] 30)
            have HC4 := Lib.hid (HC.out.ltG.new hn4)
            have HW4 := Lib.hid (HW.out.trans hn4)
            have HS4 := Lib.hid (HS.out.new hn4)
            have HD4 : Hid (Dis (.slice A8 E.length c8) E (fun j => F j ∧ j < wr.heap.size)) := Lib.hid (fun h b off n c e hb => HD.out h b off n c e hb.1)
            have HB4 := Lib.hid hB
            have HZ4 : Hid (∀ j, (F j ∧ j < wr.heap.size) → j < (wr.alloc (.cells #[.int .i64 K, .int .i64 xi, .int .i64 xm, .string xb, .bool xd] 30)).heap.size) := Lib.hid (fun j hj => by rw [World.size_alloc]; omega)
            have HF4 : Hid (∀ j, (F j ∧ j < wr.heap.size) → w.heap.size ≤ j) := Lib.hid (fun j hj => HF.out j hj.1)
            obtain ⟨p0, p1, p2, p3, p4, p5, pz⟩ := Blk5A hB
            clear hB hn4
            have hkind : K = 0 ∨ K = 1 ∨ K = 2 ∨ K = 3 ∨ (K ≠ 0 ∧ K ≠ 1 ∧ K ≠ 2 ∧ K ≠ 3) := by omega
            rcases hkind with rfl | rfl | rfl | rfl | ⟨hk0, hk1, hk2, hk3⟩
            · go_wp2_with fail
              refine (rput_any _ HS4.out (by omega) R (by omega) xi xb xd).mono ?_
              rintro e w5 ⟨u, rfl, hs5, hn5, hf5⟩
              have HD5 := Lib.hid (dis_fresh HS4.out hs5 hf5 HD4.out HZ4.out)
              have HC5 := Lib.hid (HC4.out.new hn5)
              have HN5 := Lib.hid (HW4.out.trans hn5)
              have hB5 := HB4.out.new hn5
              have HZ5 := Lib.hid (Nat.le_trans (show wr.heap.size ≤ (wr.alloc _).heap.size by rw [World.size_alloc]; omega) hn5.size)
              obtain ⟨A9, c9, hv9, -, -⟩ := id hs5
              subst hv9
              have HS5 := Lib.hid hs5
              clear hs5 hn5 hf5
              clear p0 p1 p2 p3 p4 p5 pz e0 e1 e2 e3 e4 z0 z1 z2 z3 z4 z5 zz
              have hBy := Blk.mk_new w5 32 #[.int .i64 0, .string ⟨#[]⟩, .bool false]
              obtain ⟨y0, y1, y2, y3, yz⟩ := Blk3R hBy
              generalize hE9 : putE R E xi xb xd = E9 at HS5 HD5 ⊢
              have HE9 := Lib.hid hE9
              cases hz : (frontE E xi xb xd)[R]? with
              | none =>
                have hB12 := Blk.mk_new w5 32 #[.int .i64 0, .string ⟨#[]⟩, .bool false]
                have hn6 := (New.refl w5).alloc (.cells #[.int .i64 0, .string ⟨#[]⟩, .bool false] 32)
                obtain ⟨p0, p1, p2, p3, p4, p5, pz⟩ := Blk5A (hB5.new hn6)
                have HC6 := Lib.hid (HC5.out.new hn6)
                have HS6 := Lib.hid (HS5.out.new hn6)
                have HN6 := Lib.hid (HN5.out.trans hn6)
                have HB12 := Lib.hid hB12
                have HR6 := Lib.hid (show retE (frontE E xi xb xd)[R]? = .tuple #[.agg #[.int .i64 0, .string ⟨#[]⟩, .bool false], .bool false] by rw [hz]; rfl)
                clear hB12 hn6 hBy hE9
                dsimp only [retV]
                go_wp2_with fail
                refine (put_any _ HC6.out xi HGX.out xb xd).mono ?_
                rintro e w7 ⟨rfl, hC7, hu7⟩
                rw [HR6.out]
                rw [HE9.out] at hC7
                have hn12 : ¬ (F w5.heap.size ∧ w5.heap.size < wr.heap.size) := fun h => by have := HZ5.out; omega
                have hB12 := HB12.out.upd hu7 hn12
                have hS7 := slUpd9 HS6.out hu7 (fun h b off n c e => HD5.out h b off n c e)
                have hD7 := dis_grow (w7 := w7) HS5.out HD5.out (show w5.heap.size ≤ (w5.alloc (.cells #[.int .i64 0, .string ⟨#[]⟩, .bool false] 32)).heap.size by rw [World.size_alloc]; omega)
                have hN7 := HN6.out.upd hu7 (fun j hj => HF4.out j hj)
                have HF9 : Hid (∀ j, Grow (fun j => F j ∧ j < wr.heap.size) (w5.alloc (.cells #[.int .i64 0, .string ⟨#[]⟩, .bool false] 32)) w7 j → w.heap.size ≤ j) := Lib.hid (fun j hj => hj.elim (HF4.out j) (fun h => Nat.le_trans HN6.out.size h.1))
                generalize Grow (fun j => F j ∧ j < wr.heap.size) _ w7 = F9 at hC7 hD7 HF9
                have hBt := Blk.mk_new w7 32 #[.int .i64 0, .string ⟨#[]⟩, .bool false]
                obtain ⟨t0, t1, t2, t3, tz⟩ := Blk3R hBt
                have hB14 := Blk.mk_new w7 32 #[.int .i64 0, .string ⟨#[]⟩, .bool false]
                obtain ⟨r0, r1, r2, r3, rz⟩ := Blk3R hB14
                have hn8 := (New.refl w7).alloc (.cells #[.int .i64 0, .string ⟨#[]⟩, .bool false] 32)
                obtain ⟨q0, q1, q2, q3, qz⟩ := Blk3R (hB12.new hn8)
                have hC9 := hC7.new hn8
                have hS9 := hS7.new hn8
                have hN9 := hN7.trans hn8
                have hD9 := hD7
                clear hC7 hS7 hD7 hN7 hu7 hn8 hB12 hB14 hBt p0 p1 p2 p3 p4 p5 pz y0 y1 y2 y3 yz
                have HC9 := Lib.hid hC9
                have HS9 := Lib.hid hS9
                have HD9 := Lib.hid hD9
                have HN9 := Lib.hid hN9
                have hE9 := hC9.len.1
                clear hC9 hS9 hD9 hN9
                go_wp2_with fail
                refine (listC _ HC9.out).mono ?_
                rintro e wa ⟨ul, rfl, hol, hna⟩
                have HOL := Lib.hid (Owns.slIn entOk hol)
                have HNA := Lib.hid hna
                clear hol hna
                go_wp2_with fail
                refine (rsame_eq _ HOL.out (HS9.out.new HNA.out) (by omega)).mono ?_
                rintro e wb ⟨rfl, hnb⟩
                have HNB := Lib.hid (HNA.out.trans hnb)
                clear hnb
                go_wp2_with fail
                refine (lenC _ (HC9.out.new HNB.out)).mono ?_
                rintro e wc ⟨rfl, rfl⟩
                go_wp2_with fail
                go_roundw
                case rel => exact ⟨k + 1, by omega, by omega, by go_num, _, _, HC9.out.new HNB.out, HF9.out, HN9.out.trans HNB.out, HS9.out.new HNB.out, HD9.out⟩
                case measure => simp [intOf]; omega
              | some z =>
                obtain ⟨zi, zb, zd⟩ := z
                have hB12 := Blk.mk_new w5 32 #[.int .i64 zi, .string zb, .bool zd]
                have hn6 := (New.refl w5).alloc (.cells #[.int .i64 zi, .string zb, .bool zd] 32)
                obtain ⟨p0, p1, p2, p3, p4, p5, pz⟩ := Blk5A (hB5.new hn6)
                have HC6 := Lib.hid (HC5.out.new hn6)
                have HS6 := Lib.hid (HS5.out.new hn6)
                have HN6 := Lib.hid (HN5.out.trans hn6)
                have HB12 := Lib.hid hB12
                have HR6 := Lib.hid (show retE (frontE E xi xb xd)[R]? = .tuple #[.agg #[.int .i64 zi, .string zb, .bool zd], .bool true] by rw [hz]; rfl)
                clear hB12 hn6 hBy hE9
                dsimp only [retV]
                go_wp2_with fail
                refine (put_any _ HC6.out xi HGX.out xb xd).mono ?_
                rintro e w7 ⟨rfl, hC7, hu7⟩
                rw [HR6.out]
                rw [HE9.out] at hC7
                have hn12 : ¬ (F w5.heap.size ∧ w5.heap.size < wr.heap.size) := fun h => by have := HZ5.out; omega
                have hB12 := HB12.out.upd hu7 hn12
                have hS7 := slUpd9 HS6.out hu7 (fun h b off n c e => HD5.out h b off n c e)
                have hD7 := dis_grow (w7 := w7) HS5.out HD5.out (show w5.heap.size ≤ (w5.alloc (.cells #[.int .i64 zi, .string zb, .bool zd] 32)).heap.size by rw [World.size_alloc]; omega)
                have hN7 := HN6.out.upd hu7 (fun j hj => HF4.out j hj)
                have HF9 : Hid (∀ j, Grow (fun j => F j ∧ j < wr.heap.size) (w5.alloc (.cells #[.int .i64 zi, .string zb, .bool zd] 32)) w7 j → w.heap.size ≤ j) := Lib.hid (fun j hj => hj.elim (HF4.out j) (fun h => Nat.le_trans HN6.out.size h.1))
                generalize Grow (fun j => F j ∧ j < wr.heap.size) _ w7 = F9 at hC7 hD7 HF9
                have hBt := Blk.mk_new w7 32 #[.int .i64 0, .string ⟨#[]⟩, .bool false]
                obtain ⟨t0, t1, t2, t3, tz⟩ := Blk3R hBt
                have hB14 := Blk.mk_new w7 32 #[.int .i64 zi, .string zb, .bool zd]
                obtain ⟨r0, r1, r2, r3, rz⟩ := Blk3R hB14
                have hn8 := (New.refl w7).alloc (.cells #[.int .i64 zi, .string zb, .bool zd] 32)
                obtain ⟨q0, q1, q2, q3, qz⟩ := Blk3R (hB12.new hn8)
                have hC9 := hC7.new hn8
                have hS9 := hS7.new hn8
                have hN9 := hN7.trans hn8
                have hD9 := hD7
                clear hC7 hS7 hD7 hN7 hu7 hn8 hB12 hB14 hBt p0 p1 p2 p3 p4 p5 pz y0 y1 y2 y3 yz
                have HC9 := Lib.hid hC9
                have HS9 := Lib.hid hS9
                have HD9 := Lib.hid hD9
                have HN9 := Lib.hid hN9
                have hE9 := hC9.len.1
                clear hC9 hS9 hD9 hN9
                go_wp2_with fail
                refine (listC _ HC9.out).mono ?_
                rintro e wa ⟨ul, rfl, hol, hna⟩
                have HOL := Lib.hid (Owns.slIn entOk hol)
                have HNA := Lib.hid hna
                clear hol hna
                go_wp2_with fail
                refine (rsame_eq _ HOL.out (HS9.out.new HNA.out) (by omega)).mono ?_
                rintro e wb ⟨rfl, hnb⟩
                have HNB := Lib.hid (HNA.out.trans hnb)
                clear hnb
                go_wp2_with fail
                refine (lenC _ (HC9.out.new HNB.out)).mono ?_
                rintro e wc ⟨rfl, rfl⟩
                go_wp2_with fail
                go_roundw
                case rel => exact ⟨k + 1, by omega, by omega, by go_num, _, _, HC9.out.new HNB.out, HF9.out, HN9.out.trans HNB.out, HS9.out.new HNB.out, HD9.out⟩
                case measure => simp [intOf]; omega
            · go_wp2_with fail
              refine (rget_any _ HS4.out (by omega) xi).mono ?_
              rintro e w5 ⟨u, rfl, hs5, hn5, hf5⟩
              have HD5 := Lib.hid (dis_fresh HS4.out hs5 hf5 HD4.out HZ4.out)
              have HC5 := Lib.hid (HC4.out.new hn5)
              have HN5 := Lib.hid (HW4.out.trans hn5)
              have hB5 := HB4.out.new hn5
              obtain ⟨A9, c9, hv9, -, -⟩ := id hs5
              subst hv9
              have HS5 := Lib.hid hs5
              clear p0 p1 p2 p3 p4 p5 pz e0 e1 e2 e3 e4 z0 z1 z2 z3 z4 z5 zz
              obtain ⟨p0, p1, p2, p3, p4, p5, pz⟩ := Blk5A hB5
              clear hs5 hn5 hf5 hB5
              have hgv : ∃ sb sn, (∀ u, getV u (fnd E xi) = .tuple #[u, .string sb, .int .i64 sn]) ∧ getR (fnd E xi) = .tuple #[.string sb, .int .i64 sn] := by
                cases fnd E xi with
                | none => exact ⟨_, _, fun _ => rfl, rfl⟩
                | some x => exact ⟨_, _, fun _ => rfl, rfl⟩
              obtain ⟨sb, sn, hv1, hv2⟩ := hgv
              rw [hv1]
              have HV2 := Lib.hid hv2
              clear hv1 hv2
              go_wp2_with fail
              refine (get_c _ HC5.out xi HGX.out).mono ?_
              rintro e w7 ⟨rfl, hC9, hu7⟩
              rw [HV2.out]
              have hS9 := slUpd9 HS5.out hu7 (fun h b off n c e => HD5.out h b off n c e)
              have hD9 := HD5.out
              have hN9 := HN5.out.upd hu7 (fun j hj => HF4.out j hj)
              have HF9 := HF4
              clear hu7 p0 p1 p2 p3 p4 p5 pz
              generalize getE E xi = E9 at hC9 hS9 hD9 ⊢
              have HC9 := Lib.hid hC9
              have HS9 := Lib.hid hS9
              have HD9 := Lib.hid hD9
              have HN9 := Lib.hid hN9
              have hE9 := hC9.len.1
              clear hC9 hS9 hD9 hN9
              go_wp2_with fail
              refine (listC _ HC9.out).mono ?_
              rintro e wa ⟨ul, rfl, hol, hna⟩
              have HOL := Lib.hid (Owns.slIn entOk hol)
              have HNA := Lib.hid hna
              clear hol hna
              go_wp2_with fail
              refine (rsame_eq _ HOL.out (HS9.out.new HNA.out) (by omega)).mono ?_
              rintro e wb ⟨rfl, hnb⟩
              have HNB := Lib.hid (HNA.out.trans hnb)
              clear hnb
              go_wp2_with fail
              refine (lenC _ (HC9.out.new HNB.out)).mono ?_
              rintro e wc ⟨rfl, rfl⟩
              go_wp2_with fail
              go_roundw
              case rel => exact ⟨k + 1, by omega, by omega, by go_num, _, _, HC9.out.new HNB.out, HF9.out, HN9.out.trans HNB.out, HS9.out.new HNB.out, HD9.out⟩
              case measure => simp [intOf]; omega
            · have hn5 := (New.refl (wr.alloc (.cells #[.int .i64 2, .int .i64 xi, .int .i64 xm, .string xb, .bool xd] 30))).alloc (.cells #[.int .i64 xi, .int .i64 xm] 3)
              have hi5 := two_ints (wr.alloc (.cells #[.int .i64 2, .int .i64 xi, .int .i64 xm, .string xb, .bool xd] 30)) xi xm
              rw [World.size_alloc] at hi5
              have HS5 := Lib.hid (HS4.out.new hn5)
              have HN5 := Lib.hid (HW4.out.trans hn5)
              have HC5 := Lib.hid (HC4.out.new hn5)
              have HZ5 : Hid (∀ j, (F j ∧ j < wr.heap.size) → j < ((wr.alloc (.cells #[.int .i64 2, .int .i64 xi, .int .i64 xm, .string xb, .bool xd] 30)).alloc (.cells #[.int .i64 xi, .int .i64 xm] 3)).heap.size) := Lib.hid (fun j hj => by rw [World.size_alloc, World.size_alloc]; omega)
              have hB5 := HB4.out.new hn5
              clear hn5
              go_wp2_with fail
              refine (rdrop_any _ HS5.out (by omega) hi5 (by simp)).mono ?_
              rintro e w6 ⟨u, rfl, hs6, hn6, hf6⟩
              have HD6 := Lib.hid (dis_fresh HS5.out hs6 hf6 HD4.out HZ5.out)
              have hn7 := hn6.alloc (.cells #[.int .i64 xi, .int .i64 xm] 3)
              have hi7 := two_ints w6 xi xm
              have HC7 := Lib.hid (HC5.out.new hn7)
              have HN7 := Lib.hid (HN5.out.trans hn7)
              obtain ⟨A9, c9, hv9, -, -⟩ := id hs6
              subst hv9
              have HS7 := Lib.hid (hs6.new ((New.refl w6).alloc (.cells #[.int .i64 xi, .int .i64 xm] 3)))
              have HZ7 := Lib.hid (show wr.heap.size ≤ w6.heap.size by have := hn6.size; rw [World.size_alloc, World.size_alloc] at this; omega)
              clear p0 p1 p2 p3 p4 p5 pz e0 e1 e2 e3 e4 z0 z1 z2 z3 z4 z5 zz
              obtain ⟨p0, p1, p2, p3, p4, p5, pz⟩ := Blk5A (hB5.new hn6)
              clear hB5 hi5 hs6 hf6 hn7
              go_wp2_with fail
              refine (drop_c _ HC7.out hi7 (by simp) (by intro a ha; rcases List.mem_cons.1 ha with rfl | ha; exact HGX.out; simp at ha; subst ha; exact HGM.out) (fun b0 off0 n0 c0 e hk => by
                cases e
                have := hk.2
                have := HZ7.out
                omega)).mono ?_
              rintro e w8 ⟨rfl, hC9, hu8⟩
              have hS9 := slUpd9 HS7.out hu8 (fun h b off n c e => HD6.out h b off n c e)
              have hD9 := HD6.out
              have hN9 := HN7.out.upd hu8 (fun j hj => HF4.out j hj)
              have HF9 := HF4
              clear hu8 p0 p1 p2 p3 p4 p5 pz hi7 hn6
              generalize dropE E [xi, xm] = pe at hC9 hS9 hD9 ⊢
              have HC9 := Lib.hid hC9
              have HS9 := Lib.hid hS9
              have HD9 := Lib.hid hD9
              have HN9 := Lib.hid hN9
              have hE9 := hC9.len.1
              clear hC9 hS9 hD9 hN9
              go_wp2_with fail
              refine (listC _ HC9.out).mono ?_
              rintro e wa ⟨ul, rfl, hol, hna⟩
              have HOL := Lib.hid (Owns.slIn entOk hol)
              have HNA := Lib.hid hna
              clear hol hna
              go_wp2_with fail
              refine (rsame_eq _ HOL.out (HS9.out.new HNA.out) (by omega)).mono ?_
              rintro e wb ⟨rfl, hnb⟩
              have HNB := Lib.hid (HNA.out.trans hnb)
              clear hnb
              go_wp2_with fail
              refine (lenC _ (HC9.out.new HNB.out)).mono ?_
              rintro e wc ⟨rfl, rfl⟩
              go_wp2_with fail
              go_roundw
              case rel => exact ⟨k + 1, by omega, by omega, by go_num, _, _, HC9.out.new HNB.out, HF9.out, HN9.out.trans HNB.out, HS9.out.new HNB.out, HD9.out⟩
              case measure => simp [intOf]; omega
            · go_wp2_with fail
              refine (rdirty_any _ HS4.out (by omega) HC.out.ids).mono ?_
              rintro e w5 ⟨u1, u2, L, rfl, hs1, hs2, hpL, hL, hn5, hf1, hf2⟩
              have HD5 := Lib.hid (dis_fresh HS4.out hs1 (.inr hf1) HD4.out HZ4.out)
              have HD6 : Hid (Dis u2 L (fun j => F j ∧ j < wr.heap.size)) := Lib.hid (fun _ b off n c e hb => by have h1 := hf2 b off n c e; have h2 := HZ4.out b hb; omega)
              have HC5 := Lib.hid (HC4.out.new hn5)
              have HN5 := Lib.hid (HW4.out.trans hn5)
              obtain ⟨A9, c9, hv9, -, -⟩ := id hs1
              subst hv9
              obtain ⟨A2, c2, hv2, -, -⟩ := id hs2
              subst hv2
              generalize hE9 : E.map clE = E9 at hs1 HD5 ⊢
              have HE9 := Lib.hid hE9
              clear hE9
              have HS1 := Lib.hid hs1
              have HS2 := Lib.hid hs2
              have HPL := Lib.hid hpL
              have HL := Lib.hid hL
              clear p0 p1 p2 p3 p4 p5 pz e0 e1 e2 e3 e4 z0 z1 z2 z3 z4 z5 zz
              clear hs1 hs2 hpL hL hn5 hf1 hf2
              go_wp2_with fail
              refine (dirty_c _ HC5.out).mono ?_
              rintro e w7 ⟨ud, D, rfl, hsd, hpd, hrd, -, hC9, hu7⟩
              rw [HE9.out] at hC9
              obtain rfl := up_one hpd HPL.out hrd HL.out
              have hS9 := slUpd9 HS1.out hu7 (fun h b off n c e => HD5.out h b off n c e)
              have hS2 := slUpd9 HS2.out hu7 (fun h b off n c e => HD6.out h b off n c e)
              have hD9 := HD5.out
              have hN9 := HN5.out.upd hu7 (fun j hj => HF4.out j hj)
              have HF9 := HF4
              have hDl : D.length ≤ 10000 := by
                have h1 := hpd.length_eq
                have h2 : (E.filter (·.d)).length ≤ E.length := List.length_filter_le _ _
                omega
              have HSD := Lib.hid hsd
              have HS22 := Lib.hid hS2
              have HC7 := Lib.hid hC9
              have HS7 := Lib.hid hS9
              have HD7 := Lib.hid hD9
              have HN7 := Lib.hid hN9
              clear hu7 hsd hpd hrd hS2 hC9 hS9 hD9 hN9
              go_wp2_with fail
              refine (rsame_eq _ HSD.out HS22.out (by omega)).mono ?_
              rintro e w8 ⟨rfl, hn8⟩
              have hC9 := HC7.out.new hn8
              have hS9 := HS7.out.new hn8
              have hD9 := HD7.out
              have hN9 := HN7.out.trans hn8
              clear hn8
              have HC9 := Lib.hid hC9
              have HS9 := Lib.hid hS9
              have HD9 := Lib.hid hD9
              have HN9 := Lib.hid hN9
              have hE9 := hC9.len.1
              clear hC9 hS9 hD9 hN9
              go_wp2_with fail
              refine (listC _ HC9.out).mono ?_
              rintro e wa ⟨ul, rfl, hol, hna⟩
              have HOL := Lib.hid (Owns.slIn entOk hol)
              have HNA := Lib.hid hna
              clear hol hna
              go_wp2_with fail
              refine (rsame_eq _ HOL.out (HS9.out.new HNA.out) (by omega)).mono ?_
              rintro e wb ⟨rfl, hnb⟩
              have HNB := Lib.hid (HNA.out.trans hnb)
              clear hnb
              go_wp2_with fail
              refine (lenC _ (HC9.out.new HNB.out)).mono ?_
              rintro e wc ⟨rfl, rfl⟩
              go_wp2_with fail
              go_roundw
              case rel => exact ⟨k + 1, by omega, by omega, by go_num, _, _, HC9.out.new HNB.out, HF9.out, HN9.out.trans HNB.out, HS9.out.new HNB.out, HD9.out⟩
              case measure => simp [intOf]; omega
            · have hC9 := HC4.out
              have hS9 := HS4.out
              have hN9 := HW4.out
              have HF9 := HF4
              have hD9 := HD4.out
              have HC9 := Lib.hid hC9
              have HS9 := Lib.hid hS9
              have HD9 := Lib.hid hD9
              have HN9 := Lib.hid hN9
              have hE9 := hC9.len.1
              clear hC9 hS9 hD9 hN9
              go_wp2_with fail
              refine (listC _ HC9.out).mono ?_
              rintro e wa ⟨ul, rfl, hol, hna⟩
              have HOL := Lib.hid (Owns.slIn entOk hol)
              have HNA := Lib.hid hna
              clear hol hna
              go_wp2_with fail
              refine (rsame_eq _ HOL.out (HS9.out.new HNA.out) (by omega)).mono ?_
              rintro e wb ⟨rfl, hnb⟩
              have HNB := Lib.hid (HNA.out.trans hnb)
              clear hnb
              go_wp2_with fail
              refine (lenC _ (HC9.out.new HNB.out)).mono ?_
              rintro e wc ⟨rfl, rfl⟩
              go_wp2_with fail
              go_roundw
              case rel => exact ⟨k + 1, by omega, by omega, by go_num, _, _, HC9.out.new HNB.out, HF9.out, HN9.out.trans HNB.out, HS9.out.new HNB.out, HD9.out⟩
              case measure => simp [intOf]; omega
        · have hlt8' : ¬ (k : Int) < 80 := by omega
          go_wp2_with fail
          go_ret
          exact ⟨rfl, HW.out⟩
      · have hlt' : ¬ (k : Int) < (acts.length : Int) := by omega
        go_wp2_with fail
        go_ret
        exact ⟨rfl, HW.out⟩
end Go.Proofs.Ytcganajbfplmpaa
