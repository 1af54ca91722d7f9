/- The walk of the law ConfigRemoves (chapter 23): for every input it answers true. Printed by genCfg.py. -/
import Derived.Test.YtinpbjknakncdaaDoorCfgO
namespace Go.Proofs.YtinpbjknakncdaaDoor
open Go.RowKit Go.Lap
set_option linter.unusedVariables false

/-- By removing alone. -/
def Rmd (c0 c : Cfg) : Prop := chkC c = true ∧ c.ms.Sublist c0.ms ∧ c.e + c.ms.length = c0.e + c0.ms.length
theorem Rmd.step {c0 c d : Cfg} {n : Int} (h : Rmd c0 c) (hr : remC c n = (d, 0)) : Rmd c0 d := by
  obtain ⟨_, h2, h3, h4, h5⟩ := rem_chk hr
  refine ⟨h2, (by rw [h4]; exact List.filter_sublist.trans h.2.1), ?_⟩
  have := h.2.2
  omega
theorem place_lt {m : List Int} (h : m.Nodup) : m.Pairwise fun x y => placeC m x < placeC m y := by
  have key : ∀ i (hi : i < m.length), placeC m m[i] = (i : Int) := fun i hi => place_at (List.getElem?_eq_getElem hi) (fun hm => by
    obtain ⟨j, hj, he⟩ := List.mem_iff_getElem.1 hm
    rw [List.length_take] at hj
    rw [List.getElem_take] at he
    exact List.pairwise_iff_getElem.1 h j i (by omega) hi (by omega) he)
  refine List.pairwise_iff_getElem.2 fun i j hi hj hij => ?_
  rw [key i hi, key j hj]
  omega
theorem rmd_place {c0 c : Cfg} (h0 : chkC c0 = true) (h : Rmd c0 c) : c.ms.Pairwise (fun x y => placeC c0.ms x < placeC c0.ms y) ∧ ∀ x ∈ c.ms, 0 ≤ placeC c0.ms x := by
  refine ⟨(place_lt (chk_parts h0).2.2.2.2.2).sublist h.2.1, fun x hx => ?_⟩
  have h1 := h.2.1.subset hx
  have h2 : ¬ placeC c0.ms x < 0 := fun h3 => place_neg.1 h3 h1
  omega
structure RmRel (w wr : World) (g5 : Nat) (e : Nat) (A : Option Addr) (cap : Nat) (ms : List Int) (c : Cfg) (v : Value) : Prop where
  box : Blk wr w.heap.size 25 #[.int .u64 (e : Int), .slice A ms.length cap]
  now : Blk wr g5 25 #[.int .u64 (c.e : Int), v]
  sl : SlIn wr 1 iEnc v c.ms
  new : New w wr
theorem RmRel.keep {w wr w' : World} {g5 e : Nat} {A : Option Addr} {cap : Nat} {ms : List Int} {c : Cfg} {v : Value} (h : RmRel w wr g5 e A cap ms c v) (hn : New wr w') : RmRel w w' g5 e A cap ms c v := ⟨h.box.new hn, h.now.new hn, h.sl.new hn, h.new.trans hn⟩
/-- All members ahead stand at rising places. -/
def PlUp (m now : List Int) (k : Nat) (a : Int) : Prop := ∀ j x, k ≤ j → now[j]? = some x → a < placeC m x
theorem PlUp.step {m now : List Int} {k : Nat} {a x : Int} (hp : now.Pairwise fun x y => placeC m x < placeC m y) (hx : now[k]? = some x) : PlUp m now (k + 1) (placeC m x) := fun j y hj hy => by
  obtain ⟨hk, rfl⟩ := List.getElem?_eq_some_iff.1 hx
  obtain ⟨hj2, rfl⟩ := List.getElem?_eq_some_iff.1 hy
  exact List.pairwise_iff_getElem.1 hp k j hk hj2 (by omega)


set_option maxRecDepth 100000 in
set_option maxHeartbeats 4000000 in
theorem check_big (e : Nat) (A : Option Addr) (n cap : Nat) (w : World) (hb : 7 < n) :
    Calls Tryd.prog 17 #[.agg #[.int .u64 (e : Int), .slice A n cap]] w fun e' w' => e' = .returned (.bool false) ∧ New w w' := by
  have hN := (New.refl w).alloc (.cells #[.int .u64 (e : Int), .slice A n cap] 25)
  have h3' : ¬ (n : Int) < 1 := by omega
  have h4' : (7 : Int) < (n : Int) := by omega
  by_cases h1 : e < 1
  · have h1' : (e : Int) < 1 := by omega
    go_enter Tryd.func17, Tryd.ntmps17
    go_wp2_with fail
    go_ret
    exact ⟨rfl, hN⟩
  by_cases h2 : 4611686018427387904 < e
  · have h1' : ¬ (e : Int) < 1 := by omega
    have h2' : (4611686018427387904 : Int) < (e : Int) := by omega
    go_enter Tryd.func17, Tryd.ntmps17
    go_wp2_with fail
    go_ret
    exact ⟨rfl, hN⟩
  have h1' : ¬ (e : Int) < 1 := by omega
  have h2' : ¬ (4611686018427387904 : Int) < (e : Int) := by omega
  go_enter Tryd.func17, Tryd.ntmps17
  go_wp2_with fail
  go_ret
  exact ⟨rfl, hN⟩
set_option maxRecDepth 100000 in
set_option maxHeartbeats 4000000 in
theorem removes_big (e : Nat) (A : Option Addr) (cap : Nat) (ms : List Int) (vn : Value) (ns : List Int) (w : World) (hep : e < 18446744073709551616) (hbig : ¬ ms.length ≤ 1000000000) (hs : SlIn w 1 iEnc (.slice A ms.length cap) ms) (henv : Env w) :
    Calls Tryd.prog 7 #[.agg #[.int .u64 (e : Int), .slice A ms.length cap], vn] w fun e' w' => e' = .returned (.bool true) ∧ New w w' := by
  have HE := Lib.hid henv
  have HN0 := Lib.hid ((New.refl w).alloc (.cells #[.int .u64 (e : Int), .slice A ms.length cap] 25))
  have hc := fun wx => check_big e A ms.length cap wx (by omega)
  clear hs henv
  go_enter Tryd.func7, Tryd.ntmps7
  go_wp2_with fail
  refine (hc _).mono ?_
  rintro e9 w2 ⟨rfl, hn2⟩
  have HN2 := Lib.hid (HN0.out.trans hn2)
  clear HN0 hn2
  go_wp2_with fail
  refine (awake23 _ (HE.out.new HN2.out)).mono ?_
  rintro e9 wz ⟨rfl, hnz⟩
  go_wp2_with fail
  go_ret
  exact ⟨rfl, HN2.out.trans hnz⟩

set_option maxRecDepth 100000 in
set_option maxHeartbeats 16000000 in
theorem configRemoves_walk (e : Nat) (v : Value) (ms : List Int) (vn : Value) (ns : List Int) (w : World) (hep : e < 18446744073709551616) (hs : SlIn w 1 iEnc v ms) (hsn : SlIn w 1 iEnc vn ns) (hln : ns.length ≤ maxLen) (henv : Env w) :
    Calls Tryd.prog 7 #[.agg #[.int .u64 (e : Int), v], vn] w fun e' w' => e' = .returned (.bool true) ∧ New w w' := by
  obtain ⟨A, m, cap, rfl⟩ := hs.shape
  obtain ⟨A', c', hv, hlc, -⟩ := id hs
  cases hv
  have HE := Lib.hid henv
  have HS0 := Lib.hid hs
  have HN0 := Lib.hid ((New.refl w).alloc (.cells #[.int .u64 (e : Int), .slice A ms.length cap] 25))
  have HB0 := Lib.hid (Blk.mk_new w 25 #[.int .u64 (e : Int), .slice A ms.length cap])
  clear hs henv
  obtain ⟨B, m2, cap2, rfl⟩ := hsn.shape
  obtain ⟨A', c', hv, hlc2, -⟩ := id hsn
  cases hv
  have HSN := Lib.hid hsn
  clear hsn
  have hck0 := fun wx hl hx => check_any e (.slice A ms.length cap) ms wx hl hx
  have hlm : ms.length ≤ 1000000000 ∨ chkC ⟨e, ms⟩ = false := by by_cases h : ms.length ≤ 1000000000; exact .inl h; exact .inr (chk_bad (by rintro ⟨_, _, _, h7⟩; dsimp only at h7; omega))
  by_cases hbig : ms.length ≤ 1000000000
  rotate_left
  · exact removes_big e A cap ms (.slice B ns.length cap2) ns w hep hbig HS0.out HE.out
  go_enter Tryd.func7, Tryd.ntmps7
  go_upto_region 1 with fail
  generalize w.alloc _ = w1 at *
  obtain ⟨p0, p1, p2, pz⟩ := Blk2F HB0.out
  cases hck : chkC ⟨e, ms⟩ with
  | false =>
    have hc := hck0 w1 hbig (HS0.out.new HN0.out)
    rw [hck] at hc
    clear hck
    go_wp2_with fail
    refine hc.mono ?_
    rintro e9 w2 ⟨rfl, hn2⟩
    have HN2 := Lib.hid (HN0.out.trans hn2)
    clear HN0 hn2
    go_wp2_with fail
    refine (awake23 _ (HE.out.new HN2.out)).mono ?_
    rintro e9 wz ⟨rfl, hnz⟩
    go_wp2_with fail
    go_ret
    exact ⟨rfl, HN2.out.trans hnz⟩
  | true =>
    have HK := Lib.hid hck
    have hc := hck0 w1 hbig (HS0.out.new HN0.out)
    rw [hck] at hc
    clear hck
    go_wp2_with fail
    refine hc.mono ?_
    rintro e9 w2 ⟨rfl, hn2⟩
    have HN2 := Lib.hid (HN0.out.trans hn2)
    have HB2 := Lib.hid (HB0.out.new hn2)
    clear HN0 HB0 hn2 p0 p1 p2 pz hc
    by_cases h20 : 20 < ns.length
    · have h20b : (20 : Int) < (ns.length : Int) := by omega
      go_wp2_with fail
      refine (awake23 _ (HE.out.new HN2.out)).mono ?_
      rintro e9 wz ⟨rfl, hnz⟩
      go_wp2_with fail
      go_ret
      exact ⟨rfl, HN2.out.trans hnz⟩
    have h20b : ¬ (20 : Int) < (ns.length : Int) := by omega
    obtain ⟨p0, p1, p2, pz⟩ := Blk2F HB2.out
    have hG := Blk.mk_new w2 25 #[.int .u64 (e : Int), .slice A ms.length cap]
    have hAx := (New.refl w2).alloc (.cells #[.int .u64 (e : Int), .slice A ms.length cap] 25)
    have hR : RmRel w (w2.alloc (.cells #[.int .u64 (e : Int), .slice A ms.length cap] 25)) w2.heap.size e A cap ms ⟨e, ms⟩ (.slice A ms.length cap) := ⟨HB2.out.new hAx, hG, HS0.out.new (HN2.out.trans hAx), HN2.out.trans hAx⟩
    have hg5 : w.heap.size < w2.heap.size := HB2.out.lt
    have HR := Lib.hid hR
    clear hG hAx hR HB2 HN2
    have hR0 : Rmd ⟨e, ms⟩ ⟨e, ms⟩ := ⟨HK.out, List.Sublist.refl _, rfl⟩
    have HR0 := Lib.hid hR0
    clear hR0
    go_upto_region 4 with fail
    generalize w2.heap.size = g5 at *
    generalize w2.alloc _ = w3 at *
    clear p0 p1 p2 pz
    go_wp2_with fail
    go_loopw [6] (fun i wr => ∃ (k : Nat) (c : Cfg) (C : Option Addr) (n cc : Nat), k ≤ ns.length ∧ i = .int .i64 (k : Int) ∧ RmRel w wr g5 e A cap ms c (.slice C n cc) ∧ Rmd ⟨e, ms⟩ c) (fun i _ => ns.length - (intOf i).toNat)
    case atStart => exact ⟨0, _, _, _, _, by omega, rfl, HR.out, HR0.out⟩
    case round =>
      clear HR HR0
      obtain ⟨k, ⟨ce, cms⟩, C, n, cc, hk, rfl, hG, hrm⟩ := hrel
      have HRM := Lib.hid hrm
      clear hrm
      have HG := Lib.hid hG
      clear hG
      have hcl : cms.length ≤ 7 ∧ 1 ≤ cms.length ∧ ce ≤ lastE := by have := chk_parts HRM.out.1; exact ⟨this.2.2.2.1, this.2.2.1, this.2.1⟩
      have hce : ce < 18446744073709551616 := by have := hcl.2.2; simp only [lastE] at this; omega
      obtain ⟨p0, p1, p2, pz⟩ := Blk2F HG.out.box
      obtain ⟨q0, q1, q2, qz⟩ := Blk2F HG.out.now
      dsimp only at q1
      by_cases hlt : k < ns.length
      · have hlt2 : (k : Int) < (ns.length : Int) := by omega
        have hk0 : (0 : Int) ≤ (k : Int) := by omega
        obtain ⟨A', c', hv, _, hh⟩ := HSN.out.new HG.out.new
        cases hv
        rcases hh with rfl | ⟨b, off, rfl, hbb, hc⟩
        · simp at hlt
        obtain ⟨x, hx⟩ : ∃ x, ns[k]? = some x := ⟨_, List.getElem?_eq_getElem hlt⟩
        have e0 := SlIn.int_at hc hx
        clear hc hx
        obtain ⟨⟨⟨re, rms⟩, rc⟩, hrr⟩ : ∃ r, remC ⟨ce, cms⟩ x = r := ⟨_, rfl⟩
        have hrem := fun wx hx => remove_any ce (.slice C n cc) cms x wx hce (by omega) hx
        rw [hrr] at hrem
        have HRR := Lib.hid hrr
        clear hrr
        go_upto_region 7 with fail
        refine wp_region_held_drew (S := fun w' => Held wr w') (by kernel_rfl) (Held.of (New.refl _).drew) (fun hHeld => ?_)
        refine wpAnyH_take (i := 0) (oi := { dst := some 29, op := Op.load 25 (Operand.tmp 5), type := 25, pos := "law.go:118", after := #[], guard := none }) (v := ?_) rfl (by kernel_rfl) (by kernel_rfl) (by kernel_rfl) (fun _ _ _ h => h) (Or.inl ⟨by rfl, ?_⟩) (by assumption) ?_
        rotate_left
        · (intro wq hSw; (try dsimp only at hSw); go_simp; first | done | with_reducible rfl)
        try simp only [Act.put, List.setIfInBounds_toArray, List.set_cons_zero, List.set_cons_succ]
        refine wpAnyH_take (i := 1) (oi := { dst := some 30, op := Op.move (Operand.tmp 1), type := 23, pos := "law.go:118", after := #[], guard := none }) (v := ?_) rfl (by kernel_rfl) (by kernel_rfl) (by kernel_rfl) (fun _ _ _ h => h) (Or.inl ⟨by rfl, ?_⟩) (by assumption) ?_
        rotate_left
        · (intro wq hSw; (try dsimp only at hSw); go_simp; first | done | with_reducible rfl)
        try simp only [Act.put, List.setIfInBounds_toArray, List.set_cons_zero, List.set_cons_succ]
        refine wpAnyH_take (i := 2) (oi := { dst := some 31, op := Op.move (Operand.tmp 6), type := 3, pos := "law.go:118", after := #[], guard := none }) (v := ?_) rfl (by kernel_rfl) (by kernel_rfl) (by kernel_rfl) (fun _ _ _ h => h) (Or.inl ⟨by rfl, ?_⟩) (by assumption) ?_
        rotate_left
        · (intro wq hSw; (try dsimp only at hSw); go_simp; first | done | with_reducible rfl)
        try simp only [Act.put, List.setIfInBounds_toArray, List.set_cons_zero, List.set_cons_succ]
        refine wpAnyH_take (i := 3) (oi := { dst := some 32, op := Op.indexAddr 23 (Operand.tmp 30) (Operand.tmp 31), type := 0, pos := "law.go:118", after := #[{ on := 1, ground := Ground.data }, { on := 2, ground := Ground.data }], guard := none }) (v := ?_) rfl (by kernel_rfl) (by kernel_rfl) (by kernel_rfl) (fun _ _ _ h => h) (Or.inl ⟨by rfl, ?_⟩) (by assumption) ?_
        rotate_left
        · (intro wq hSw; (try dsimp only at hSw); go_simp; first | done | with_reducible rfl)
        try simp only [Act.put, List.setIfInBounds_toArray, List.set_cons_zero, List.set_cons_succ]
        refine wpAnyH_take (i := 4) (oi := { dst := some 33, op := Op.load 3 (Operand.tmp 32), type := 3, pos := "law.go:118", after := #[{ on := 3, ground := Ground.data }], guard := none }) (v := ?_) rfl (by kernel_rfl) (by kernel_rfl) (by kernel_rfl) (fun _ _ _ h => h) (Or.inl ⟨by rfl, ?_⟩) (by assumption) ?_
        rotate_left
        · (intro wq hSw; (try dsimp only at hSw); go_simp; first | done | with_reducible rfl)
        try simp only [Act.put, List.setIfInBounds_toArray, List.set_cons_zero, List.set_cons_succ]
        refine wpAnyH_ready (rs := [5, 9]) (by kernel_rfl) (by simp) ?_
        refine AllReadyH.cons (o := { dst := some 34, op := Op.call { callee := Callee.value (Operand.func 12), args := #[Operand.tmp 29, Operand.tmp 33], argTypes := #[25, 3] }, type := 29, pos := "law.go:118", after := #[{ on := 0, ground := Ground.data }, { on := 4, ground := Ground.data }], guard := none }) rfl (fun K hK => ?_) (AllReadyH.cons (o := { dst := some 7, op := Op.alloc 25, type := 0, pos := "law.go:118", after := #[], guard := none }) rfl (fun K hK => ?_) AllReadyH.nil)
        · go_simp
          refine (hrem _ (HG.out.sl.new ((New.refl wr).drew))).mono ?_
          rintro e9 wc ⟨uc, rfl, hsc0, hnc⟩
          obtain ⟨D, dn, dc, rfl⟩ := hsc0.shape
          dsimp only at hsc0 ⊢
          have hn0 := ((New.refl wr).drew).trans hnc
          refine hK.out _ _ ?_ (fun hHeld => ?_)
          · exact Held.of hn0
          clear hK K
          try simp only [Act.put, List.setIfInBounds_toArray, List.set_cons_zero, List.set_cons_succ]
          refine wpAnyH_take (i := 6) (oi := { dst := some 28, op := Op.move (Operand.tmp 34), type := 29, pos := "law.go:118", after := #[{ on := 5, ground := Ground.data }], guard := none }) (v := ?_) rfl (by kernel_rfl) (by kernel_rfl) (by kernel_rfl) (fun _ _ _ h => h) (Or.inl ⟨by rfl, ?_⟩) (by assumption) ?_
          rotate_left
          · (intro wq hSw; (try dsimp only at hSw); go_simp; first | done | with_reducible rfl)
          try simp only [Act.put, List.setIfInBounds_toArray, List.set_cons_zero, List.set_cons_succ]
          refine wpAnyH_take (i := 7) (oi := { dst := some 35, op := Op.extract (Operand.tmp 28) 0, type := 25, pos := "law.go:118", after := #[{ on := 6, ground := Ground.data }], guard := none }) (v := ?_) rfl (by kernel_rfl) (by kernel_rfl) (by kernel_rfl) (fun _ _ _ h => h) (Or.inl ⟨by rfl, ?_⟩) (by assumption) ?_
          rotate_left
          · (intro wq hSw; (try dsimp only at hSw); go_simp; first | done | with_reducible rfl)
          try simp only [Act.put, List.setIfInBounds_toArray, List.set_cons_zero, List.set_cons_succ]
          refine wpAnyH_take (i := 8) (oi := { dst := some 36, op := Op.extract (Operand.tmp 28) 1, type := 28, pos := "law.go:118", after := #[{ on := 6, ground := Ground.data }, { on := 10, ground := Ground.gcOnly Departure.lateStores }], guard := none }) (v := ?_) rfl (by kernel_rfl) (by kernel_rfl) (by kernel_rfl) (fun _ _ _ h => h) (Or.inl ⟨by rfl, ?_⟩) (by assumption) ?_
          rotate_left
          · (intro wq hSw; (try dsimp only at hSw); go_simp; first | done | with_reducible rfl)
          try simp only [Act.put, List.setIfInBounds_toArray, List.set_cons_zero, List.set_cons_succ]
          refine wpAnyH_ready (rs := [9]) (by kernel_rfl) (by simp) ?_
          refine AllReadyH.cons (o := { dst := some 7, op := Op.alloc 25, type := 0, pos := "law.go:118", after := #[], guard := none }) rfl (fun K hK => ?_) AllReadyH.nil
          go_simp
          have hn1 := (hn0).alloc (.cells #[.int .u64 0, .slice none 0 0] 25)
          have hx1 : Blk (wc.alloc (.cells #[.int .u64 0, .slice none 0 0] 25)) wc.heap.size 25 #[.int .u64 0, .slice none 0 0] := Blk.mk_new wc 25 #[.int .u64 0, .slice none 0 0]
          have hs1 := hsc0.alloc (.cells #[.int .u64 0, .slice none 0 0] 25)
          refine hK.out _ _ ?_ (fun hHeld => ?_)
          · exact Held.of hn1
          clear hK K
          try simp only [Act.put, List.setIfInBounds_toArray, List.set_cons_zero, List.set_cons_succ]
          refine wpAnyH_ready (rs := [10]) (by kernel_rfl) (by simp) ?_
          refine AllReadyH.cons (o := { dst := none, op := Op.store 25 (Operand.tmp 7) (Operand.tmp 35), type := 0, pos := "law.go:118", after := #[{ on := 9, ground := Ground.data }, { on := 7, ground := Ground.data }, { on := 5, ground := Ground.chain }, { on := 0, ground := Ground.phase }, { on := 1, ground := Ground.phase }, { on := 2, ground := Ground.phase }, { on := 3, ground := Ground.phase }, { on := 4, ground := Ground.phase }, { on := 5, ground := Ground.phase }, { on := 6, ground := Ground.phase }, { on := 7, ground := Ground.phase }, { on := 8, ground := Ground.textOnly Departure.lateStores }, { on := 9, ground := Ground.phase }], guard := none }) rfl (fun K hK => ?_) AllReadyH.nil
          obtain ⟨x0, x1, x2, xz⟩ := Blk2F hx1
          go_simp
          have hXs := Blk.mk_new wc 25 #[.int .u64 (re : Int), .slice D dn dc]
          have hSs := hsc0.alloc (.cells #[.int .u64 (re : Int), .slice D dn dc] 25)
          have hNs := (hn0).alloc (.cells #[.int .u64 (re : Int), .slice D dn dc] 25)
          refine hK.out _ _ ?_ (fun hHeld => ?_)
          · exact Held.of hNs
          clear hK K
          try simp only [Act.put, List.setIfInBounds_toArray, List.set_cons_zero, List.set_cons_succ]
          refine wpAnyH_take (i := 11) (oi := { dst := some 8, op := Op.assign (Operand.tmp 36), type := 28, pos := "law.go:118", after := #[{ on := 8, ground := Ground.data }, { on := 10, ground := Ground.chain }, { on := 0, ground := Ground.phase }, { on := 1, ground := Ground.phase }, { on := 2, ground := Ground.phase }, { on := 3, ground := Ground.phase }, { on := 4, ground := Ground.phase }, { on := 5, ground := Ground.phase }, { on := 6, ground := Ground.phase }, { on := 7, ground := Ground.phase }, { on := 8, ground := Ground.phase }, { on := 9, ground := Ground.phase }, { on := 10, ground := Ground.phase }], guard := none }) (v := ?_) rfl (by kernel_rfl) (by kernel_rfl) (by kernel_rfl) (fun _ _ _ h => h) (Or.inl ⟨by rfl, ?_⟩) (by assumption) ?_
          rotate_left
          · (intro wq hSw; (try dsimp only at hSw); go_simp; first | done | with_reducible rfl)
          try simp only [Act.put, List.setIfInBounds_toArray, List.set_cons_zero, List.set_cons_succ]
          refine wpAnyH_done (by kernel_rfl) ?_ _
          clear hHeld
          have hG8 := HG.out.keep hNs
          have hXl := hXs.lt
          generalize wc.heap.size = gx at *
          generalize World.alloc wc (.cells #[.int .u64 (re : Int), .slice D dn dc] 25) = w8 at *
          obtain ⟨x0, x1, x2, xz⟩ := Blk2F hXs
          obtain ⟨q0, q1, q2, qz⟩ := Blk2F hG8.now
          dsimp only at q1
          by_cases hrc : rc = 0
          · subst hrc
            have hne5 : w.heap.size ≠ g5 := by omega
            have HN9 : Hid (RmRel w ((w8.setCell ⟨g5, 0, none⟩ (.int .u64 (re : Int))).setCell ⟨g5, 1, none⟩ (.slice D dn dc)) g5 e A cap ms ⟨re, rms⟩ (.slice D dn dc)) := Lib.hid ⟨(hG8.box.far (p := ⟨g5, 0, none⟩) hne5 _).far (p := ⟨g5, 1, none⟩) hne5 _, (hG8.now.set_ 0 _).set_ 1 _, slIn_cfgSet hSs hG8.now (by simp), (hG8.new.setCell (p := ⟨g5, 0, none⟩) (by show w.heap.size ≤ g5; omega) _).setCell (p := ⟨g5, 1, none⟩) (by show w.heap.size ≤ g5; omega) _⟩
            have HRM2 := Lib.hid (HRM.out.step HRR.out)
            clear hG8 hXs hSs hNs
            go_wp2_with fail
            go_roundw
            case rel => exact ⟨k + 1, _, _, _, _, by omega, by go_num, HN9.out, HRM2.out⟩
            case measure => simp [intOf]; omega
          · have hrb : (rc == 0) = false := by simpa using hrc
            have HN9 := Lib.hid hG8
            clear hG8 hXs hSs hNs hrc
            go_wp2_with fail
            go_roundw
            case rel => exact ⟨k + 1, _, _, _, _, by omega, by go_num, HN9.out, HRM.out⟩
            case measure => simp [intOf]; omega
        · go_simp
          have hn0 := ((New.refl wr).drew).alloc (.cells #[.int .u64 0, .slice none 0 0] 25)
          have hx0 : Blk (wr.drew.alloc (.cells #[.int .u64 0, .slice none 0 0] 25)) wr.heap.size 25 #[.int .u64 0, .slice none 0 0] := Blk.mk_new wr.drew 25 #[.int .u64 0, .slice none 0 0]
          refine hK.out _ _ ?_ (fun hHeld => ?_)
          · exact Held.of hn0
          clear hK K
          try simp only [Act.put, List.setIfInBounds_toArray, List.set_cons_zero, List.set_cons_succ]
          refine wpAnyH_ready (rs := [5]) (by kernel_rfl) (by simp) ?_
          refine AllReadyH.cons (o := { dst := some 34, op := Op.call { callee := Callee.value (Operand.func 12), args := #[Operand.tmp 29, Operand.tmp 33], argTypes := #[25, 3] }, type := 29, pos := "law.go:118", after := #[{ on := 0, ground := Ground.data }, { on := 4, ground := Ground.data }], guard := none }) rfl (fun K hK => ?_) AllReadyH.nil
          go_simp
          refine (hrem _ (HG.out.sl.new (hn0))).mono ?_
          rintro e9 wc ⟨uc, rfl, hsc0, hnc⟩
          obtain ⟨D, dn, dc, rfl⟩ := hsc0.shape
          dsimp only at hsc0 ⊢
          have hn1 := (hn0).trans hnc
          have hx1 := hx0.new hnc
          refine hK.out _ _ ?_ (fun hHeld => ?_)
          · exact Held.of hn1
          clear hK K
          try simp only [Act.put, List.setIfInBounds_toArray, List.set_cons_zero, List.set_cons_succ]
          refine wpAnyH_take (i := 6) (oi := { dst := some 28, op := Op.move (Operand.tmp 34), type := 29, pos := "law.go:118", after := #[{ on := 5, ground := Ground.data }], guard := none }) (v := ?_) rfl (by kernel_rfl) (by kernel_rfl) (by kernel_rfl) (fun _ _ _ h => h) (Or.inl ⟨by rfl, ?_⟩) (by assumption) ?_
          rotate_left
          · (intro wq hSw; (try dsimp only at hSw); go_simp; first | done | with_reducible rfl)
          try simp only [Act.put, List.setIfInBounds_toArray, List.set_cons_zero, List.set_cons_succ]
          refine wpAnyH_take (i := 7) (oi := { dst := some 35, op := Op.extract (Operand.tmp 28) 0, type := 25, pos := "law.go:118", after := #[{ on := 6, ground := Ground.data }], guard := none }) (v := ?_) rfl (by kernel_rfl) (by kernel_rfl) (by kernel_rfl) (fun _ _ _ h => h) (Or.inl ⟨by rfl, ?_⟩) (by assumption) ?_
          rotate_left
          · (intro wq hSw; (try dsimp only at hSw); go_simp; first | done | with_reducible rfl)
          try simp only [Act.put, List.setIfInBounds_toArray, List.set_cons_zero, List.set_cons_succ]
          refine wpAnyH_take (i := 8) (oi := { dst := some 36, op := Op.extract (Operand.tmp 28) 1, type := 28, pos := "law.go:118", after := #[{ on := 6, ground := Ground.data }, { on := 10, ground := Ground.gcOnly Departure.lateStores }], guard := none }) (v := ?_) rfl (by kernel_rfl) (by kernel_rfl) (by kernel_rfl) (fun _ _ _ h => h) (Or.inl ⟨by rfl, ?_⟩) (by assumption) ?_
          rotate_left
          · (intro wq hSw; (try dsimp only at hSw); go_simp; first | done | with_reducible rfl)
          try simp only [Act.put, List.setIfInBounds_toArray, List.set_cons_zero, List.set_cons_succ]
          refine wpAnyH_ready (rs := [10]) (by kernel_rfl) (by simp) ?_
          refine AllReadyH.cons (o := { dst := none, op := Op.store 25 (Operand.tmp 7) (Operand.tmp 35), type := 0, pos := "law.go:118", after := #[{ on := 9, ground := Ground.data }, { on := 7, ground := Ground.data }, { on := 5, ground := Ground.chain }, { on := 0, ground := Ground.phase }, { on := 1, ground := Ground.phase }, { on := 2, ground := Ground.phase }, { on := 3, ground := Ground.phase }, { on := 4, ground := Ground.phase }, { on := 5, ground := Ground.phase }, { on := 6, ground := Ground.phase }, { on := 7, ground := Ground.phase }, { on := 8, ground := Ground.textOnly Departure.lateStores }, { on := 9, ground := Ground.phase }], guard := none }) rfl (fun K hK => ?_) AllReadyH.nil
          obtain ⟨x0, x1, x2, xz⟩ := Blk2F hx1
          go_simp
          have hXs := (hx1.set_ 0 (.int .u64 (re : Int))).set_ 1 (.slice D dn dc)
          have hSs : SlIn ((wc.setCell ⟨wr.heap.size, 0, none⟩ (.int .u64 (re : Int))).setCell ⟨wr.heap.size, 1, none⟩ (.slice D dn dc)) 1 iEnc (.slice D dn dc) rms := slIn_cfgSet hsc0 hx1 (by simp)
          have hgx : wr.heap.size ≤ wr.heap.size := ((New.refl wr).drew).size
          have hNs : New wr ((wc.setCell ⟨wr.heap.size, 0, none⟩ (.int .u64 (re : Int))).setCell ⟨wr.heap.size, 1, none⟩ (.slice D dn dc)) := ((hn1).setCell (p := ⟨wr.heap.size, 0, none⟩) hgx (.int .u64 (re : Int))).setCell (p := ⟨wr.heap.size, 1, none⟩) hgx (.slice D dn dc)
          refine hK.out _ _ ?_ (fun hHeld => ?_)
          · exact Held.of hNs
          clear hK K
          try simp only [Act.put, List.setIfInBounds_toArray, List.set_cons_zero, List.set_cons_succ]
          refine wpAnyH_take (i := 11) (oi := { dst := some 8, op := Op.assign (Operand.tmp 36), type := 28, pos := "law.go:118", after := #[{ on := 8, ground := Ground.data }, { on := 10, ground := Ground.chain }, { on := 0, ground := Ground.phase }, { on := 1, ground := Ground.phase }, { on := 2, ground := Ground.phase }, { on := 3, ground := Ground.phase }, { on := 4, ground := Ground.phase }, { on := 5, ground := Ground.phase }, { on := 6, ground := Ground.phase }, { on := 7, ground := Ground.phase }, { on := 8, ground := Ground.phase }, { on := 9, ground := Ground.phase }, { on := 10, ground := Ground.phase }], guard := none }) (v := ?_) rfl (by kernel_rfl) (by kernel_rfl) (by kernel_rfl) (fun _ _ _ h => h) (Or.inl ⟨by rfl, ?_⟩) (by assumption) ?_
          rotate_left
          · (intro wq hSw; (try dsimp only at hSw); go_simp; first | done | with_reducible rfl)
          try simp only [Act.put, List.setIfInBounds_toArray, List.set_cons_zero, List.set_cons_succ]
          refine wpAnyH_done (by kernel_rfl) ?_ _
          clear hHeld
          have hG8 := HG.out.keep hNs
          have hXl := hXs.lt
          generalize wr.heap.size = gx at *
          generalize World.setCell _ ⟨gx, 1, none⟩ _ = w8 at *
          obtain ⟨x0, x1, x2, xz⟩ := Blk2F hXs
          obtain ⟨q0, q1, q2, qz⟩ := Blk2F hG8.now
          dsimp only at q1
          by_cases hrc : rc = 0
          · subst hrc
            have hne5 : w.heap.size ≠ g5 := by omega
            have HN9 : Hid (RmRel w ((w8.setCell ⟨g5, 0, none⟩ (.int .u64 (re : Int))).setCell ⟨g5, 1, none⟩ (.slice D dn dc)) g5 e A cap ms ⟨re, rms⟩ (.slice D dn dc)) := Lib.hid ⟨(hG8.box.far (p := ⟨g5, 0, none⟩) hne5 _).far (p := ⟨g5, 1, none⟩) hne5 _, (hG8.now.set_ 0 _).set_ 1 _, slIn_cfgSet hSs hG8.now (by simp), (hG8.new.setCell (p := ⟨g5, 0, none⟩) (by show w.heap.size ≤ g5; omega) _).setCell (p := ⟨g5, 1, none⟩) (by show w.heap.size ≤ g5; omega) _⟩
            have HRM2 := Lib.hid (HRM.out.step HRR.out)
            clear hG8 hXs hSs hNs
            go_wp2_with fail
            go_roundw
            case rel => exact ⟨k + 1, _, _, _, _, by omega, by go_num, HN9.out, HRM2.out⟩
            case measure => simp [intOf]; omega
          · have hrb : (rc == 0) = false := by simpa using hrc
            have HN9 := Lib.hid hG8
            clear hG8 hXs hSs hNs hrc
            go_wp2_with fail
            go_roundw
            case rel => exact ⟨k + 1, _, _, _, _, by omega, by go_num, HN9.out, HRM.out⟩
            case measure => simp [intOf]; omega
      · have hlt2 : ¬ (k : Int) < (ns.length : Int) := by omega
        have hpw := rmd_place HK.out HRM.out
        dsimp only at hpw
        have HPW := Lib.hid hpw
        have HU0 : Hid (PlUp ms cms 0 (-1)) := Lib.hid (fun j x _ hx => by have := HPW.out.2 x (List.mem_of_getElem? hx); omega)
        clear hpw
        go_wp2_with fail
        go_loopw [9, 10] (fun av iv wx => ∃ (j : Nat) (a : Int), j ≤ cms.length ∧ av = .int .i64 a ∧ iv = .int .i64 (j : Int) ∧ PlUp ms cms j a ∧ New wr wx) (fun _ iv _ => cms.length - (intOf iv).toNat)
        case atStart => exact ⟨0, -1, by omega, rfl, rfl, HU0.out, New.refl _⟩
        case round =>
          clear HU0 p0 p1 p2 pz q0 q1 q2 qz
          obtain ⟨j, a, hj, rfl, rfl, hup, hq⟩ := hrel
          have HUP := Lib.hid hup
          clear hup
          have hG9 := HG.out.keep hq
          obtain ⟨C2, cc2, hv2, _, hh2⟩ := hG9.sl
          cases hv2
          dsimp only at hh2 ⊢
          obtain ⟨p0, p1, p2, pz⟩ := Blk2F hG9.box
          obtain ⟨q0, q1, q2, qz⟩ := Blk2F hG9.now
          dsimp only at q1 q2
          by_cases hjl : j < cms.length
          · have hjl2 : (j : Int) < (cms.length : Int) := by omega
            have hj0 : (0 : Int) ≤ (j : Int) := by omega
            rcases hh2 with h | ⟨b, off, rfl, hbb, hc⟩
            · rw [h] at hjl; simp at hjl
            obtain ⟨x, hx⟩ : ∃ x, cms[j]? = some x := ⟨_, List.getElem?_eq_getElem hjl⟩
            have e0 := SlIn.int_at hc hx
            have hap := HUP.out j x (Nat.le_refl _) hx
            have HUN := Lib.hid (PlUp.step (a := a) HPW.out.1 hx)
            have hplc := fun wx hx => place_any e (.slice A ms.length cap) ms x wx hbig hx
            generalize placeC ms x = px at *
            have hnle : ¬ px ≤ a := by omega
            clear hc hx
            go_upto_region 14 with fail
            refine wp_region_held_drew (S := fun w' => Held wr w') (by kernel_rfl) (Held.of (New.refl _).drew) (fun hHeld => ?_)
            refine wpAnyH_take (i := 0) (oi := { dst := some 47, op := Op.load 25 (Operand.tmp 2), type := 25, pos := "law.go:124", after := #[], guard := none }) (v := ?_) rfl (by kernel_rfl) (by kernel_rfl) (by kernel_rfl) (fun _ _ _ h => h) (Or.inl ⟨by rfl, ?_⟩) (by assumption) ?_
            rotate_left
            · (intro wq hSw; (try dsimp only at hSw); go_simp; first | done | with_reducible rfl)
            try simp only [Act.put, List.setIfInBounds_toArray, List.set_cons_zero, List.set_cons_succ]
            refine wpAnyH_take (i := 1) (oi := { dst := some 48, op := Op.fieldAddr 25 (Operand.tmp 5) 1, type := 0, pos := "law.go:124", after := #[], guard := none }) (v := ?_) rfl (by kernel_rfl) (by kernel_rfl) (by kernel_rfl) (fun _ _ _ h => h) (Or.inl ⟨by rfl, ?_⟩) (by assumption) ?_
            rotate_left
            · (intro wq hSw; (try dsimp only at hSw); go_simp; first | done | with_reducible rfl)
            try simp only [Act.put, List.setIfInBounds_toArray, List.set_cons_zero, List.set_cons_succ]
            refine wpAnyH_take (i := 2) (oi := { dst := some 49, op := Op.load 23 (Operand.tmp 48), type := 23, pos := "law.go:124", after := #[{ on := 1, ground := Ground.data }], guard := none }) (v := ?_) rfl (by kernel_rfl) (by kernel_rfl) (by kernel_rfl) (fun _ _ _ h => h) (Or.inl ⟨by rfl, ?_⟩) (by assumption) ?_
            rotate_left
            · (intro wq hSw; (try dsimp only at hSw); go_simp; first | done | with_reducible rfl)
            try simp only [Act.put, List.setIfInBounds_toArray, List.set_cons_zero, List.set_cons_succ]
            refine wpAnyH_take (i := 3) (oi := { dst := some 50, op := Op.move (Operand.tmp 10), type := 3, pos := "law.go:124", after := #[], guard := none }) (v := ?_) rfl (by kernel_rfl) (by kernel_rfl) (by kernel_rfl) (fun _ _ _ h => h) (Or.inl ⟨by rfl, ?_⟩) (by assumption) ?_
            rotate_left
            · (intro wq hSw; (try dsimp only at hSw); go_simp; first | done | with_reducible rfl)
            try simp only [Act.put, List.setIfInBounds_toArray, List.set_cons_zero, List.set_cons_succ]
            refine wpAnyH_take (i := 4) (oi := { dst := some 51, op := Op.indexAddr 23 (Operand.tmp 49) (Operand.tmp 50), type := 0, pos := "law.go:124", after := #[{ on := 2, ground := Ground.data }, { on := 3, ground := Ground.data }], guard := none }) (v := ?_) rfl (by kernel_rfl) (by kernel_rfl) (by kernel_rfl) (fun _ _ _ h => h) (Or.inl ⟨by rfl, ?_⟩) (by assumption) ?_
            rotate_left
            · (intro wq hSw; (try dsimp only at hSw); go_simp; first | done | with_reducible rfl)
            try simp only [Act.put, List.setIfInBounds_toArray, List.set_cons_zero, List.set_cons_succ]
            refine wpAnyH_take (i := 5) (oi := { dst := some 52, op := Op.load 3 (Operand.tmp 51), type := 3, pos := "law.go:124", after := #[{ on := 4, ground := Ground.data }], guard := none }) (v := ?_) rfl (by kernel_rfl) (by kernel_rfl) (by kernel_rfl) (fun _ _ _ h => h) (Or.inl ⟨by rfl, ?_⟩) (by assumption) ?_
            rotate_left
            · (intro wq hSw; (try dsimp only at hSw); go_simp; first | done | with_reducible rfl)
            try simp only [Act.put, List.setIfInBounds_toArray, List.set_cons_zero, List.set_cons_succ]
            refine wpAnyH_ready (rs := [6]) (by kernel_rfl) (by simp) ?_
            refine AllReadyH.cons (o := { dst := some 53, op := Op.call { callee := Callee.value (Operand.func 23), args := #[Operand.tmp 47, Operand.tmp 52], argTypes := #[25, 3] }, type := 3, pos := "law.go:124", after := #[{ on := 0, ground := Ground.data }, { on := 5, ground := Ground.data }], guard := none }) rfl (fun K hK => ?_) AllReadyH.nil
            go_simp
            refine (hplc _ (HS0.out.new (hG9.new.trans (New.refl _).drew))).mono ?_
            rintro e9 wy ⟨rfl, hny⟩
            have hny2 := (New.refl wr).drew.trans hny
            refine hK.out _ _ ?_ (fun hHeld => ?_)
            · exact Held.of hny2
            clear hK K
            try simp only [Act.put, List.setIfInBounds_toArray, List.set_cons_zero, List.set_cons_succ]
            refine wpAnyH_take (i := 7) (oi := { dst := some 11, op := Op.assign (Operand.tmp 53), type := 3, pos := "law.go:124", after := #[{ on := 6, ground := Ground.data }, { on := 6, ground := Ground.chain }, { on := 0, ground := Ground.phase }, { on := 1, ground := Ground.phase }, { on := 2, ground := Ground.phase }, { on := 3, ground := Ground.phase }, { on := 4, ground := Ground.phase }, { on := 5, ground := Ground.phase }, { on := 6, ground := Ground.phase }], guard := none }) (v := ?_) rfl (by kernel_rfl) (by kernel_rfl) (by kernel_rfl) (fun _ _ _ h => h) (Or.inl ⟨by rfl, ?_⟩) (by assumption) ?_
            rotate_left
            · (intro wq hSw; (try dsimp only at hSw); go_simp; first | done | with_reducible rfl)
            try simp only [Act.put, List.setIfInBounds_toArray, List.set_cons_zero, List.set_cons_succ]
            refine wpAnyH_done (by kernel_rfl) ?_ _
            clear hHeld
            have HQ := Lib.hid (hq.trans hny2)
            clear hG9 hq hny hny2 hplc
            go_wp2_with fail
            go_roundw
            case rel => exact ⟨j + 1, px, by omega, rfl, by go_num, HUN.out, HQ.out⟩
            case measure => simp [intOf]; omega
          · have hjl2 : ¬ (j : Int) < (cms.length : Int) := by omega
            have hlen : cms.length ≤ ms.length := HRM.out.2.1.length_le
            have hsum := HRM.out.2.2
            dsimp only at hsum
            have hpos : (0 : Int) < (cms.length : Int) := by omega
            have hposn : 0 < cms.length := by omega
            have hw1 : IntKind.u64.wrap ((ce : Int) - (e : Int)) = ((ms.length - cms.length : Nat) : Int) := by rw [IntKind.wrap_u64]; omega
            have hw2 : IntKind.i64.wrap ((ms.length : Int) - (cms.length : Int)) = ((ms.length - cms.length : Nat) : Int) := by rw [IntWalk.i64_in _ (by omega)]; omega
            obtain ⟨df, hdf⟩ : ∃ df, df = ms.length - cms.length := ⟨_, rfl⟩
            rw [← hdf] at hw1 hw2
            have hw3 : IntKind.u64.wrap (df : Int) = (df : Int) := by rw [IntKind.wrap_u64]; omega
            have HN9 := Lib.hid hG9.new
            have HB9 := Lib.hid hG9.box
            have HG9 := Lib.hid hG9.now
            clear hG9 hh2 hsum hdf hlen
            go_wp2_with fail
            refine (awake23 _ (HE.out.new HN9.out)).mono ?_
            rintro e9 wz ⟨rfl, hnz⟩
            clear p0 p1 p2 pz q0 q1 q2 qz
            obtain ⟨p0, p1, p2, pz⟩ := Blk2F (HB9.out.new hnz)
            obtain ⟨q0, q1, q2, qz⟩ := Blk2F (HG9.out.new hnz)
            (try dsimp only at q1)
            go_wp2_with fail
            go_ret
            exact ⟨rfl, HN9.out.trans hnz⟩
end Go.Proofs.YtinpbjknakncdaaDoor
