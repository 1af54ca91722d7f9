/- The walk of the law ConfigOf (chapter 23): for every input it answers true. Printed by genLaw23g.py. -/
import Derived.Test.YtinpbjknakncdaaDoorCfgO
import Derived.Test.YtinpbjknakncdaaDoorCfgR
namespace Go.Proofs.YtinpbjknakncdaaDoor
open Go.RowKit Go.Lap
set_option linter.unusedVariables false

theorem ofCf_chk {bs : List UInt8} {a : Cfg} (h : ofCf bs = some a) : chkC a = true := by
  unfold ofCf at h
  dsimp only at h
  split at h
  · split at h
    · rename_i h2
      cases h
      exact h2
    · cases h
  · cases h
theorem encC_len {c : Cfg} (h : chkC c = true) : (encC c).length ≤ 100 := by
  obtain ⟨_, h2, _, h4, h5, _⟩ := chk_parts h
  dsimp only [lastE] at h2
  have l1 := varB_len10 (n := c.e) (by omega)
  have l2 := varB_len10 (n := c.ms.length) (by omega)
  have l3 := encM_len c.ms h5
  show (varB c.e ++ varB c.ms.length ++ encM c.ms).length ≤ 100
  rw [List.length_append, List.length_append]
  omega

set_option maxRecDepth 100000 in
set_option maxHeartbeats 16000000 in
theorem configOf_walk (s0 : ByteArray) (e : Nat) (v : Value) (ms : List Int) (w : World) (hep : e < 18446744073709551616) (hs : SlIn w 1 iEnc v ms) (henv : Env w) :
    Calls Tryd.prog 9 #[.string s0, .agg #[.int .u64 (e : Int), v]] w fun e' w' => e' = .returned (.bool true) ∧ New w w' := by
  obtain ⟨bs, hb0⟩ : ∃ bs, s0 = str bs := ⟨s0.data.toList, (str_data s0).symm⟩
  subst hb0
  have hlen : (str bs).size = bs.length := str_size bs
  obtain ⟨A, m, cap, rfl⟩ := hs.shape
  obtain ⟨A', c', hv, hlc, -⟩ := id hs
  cases hv
  have HE := Lib.hid henv
  have HS0 := Lib.hid hs
  have HN0 := Lib.hid ((New.refl w).alloc (.cells #[.int .u64 (e : Int), .slice A ms.length cap] 25))
  have HB0 := Lib.hid (Blk.mk_new w 25 #[.int .u64 (e : Int), .slice A ms.length cap])
  clear hs henv
  go_enter Tryd.func9, Tryd.ntmps9
  go_upto_region 1 with fail
  generalize w.alloc _ = w1 at *
  obtain ⟨p0, p1, p2, pz⟩ := Blk2F HB0.out
  by_cases h5 : 500 < bs.length
  · have h5a : (500 : Int) < ((str bs).size : Int) := by omega
    go_wp2_with fail
    refine (awake23 _ (HE.out.new HN0.out)).mono ?_
    rintro e9 wz ⟨rfl, hnz⟩
    go_wp2_with fail
    go_ret
    exact ⟨rfl, HN0.out.trans hnz⟩
  have h5a : ¬ (500 : Int) < ((str bs).size : Int) := by omega
  go_wp2_with fail
  refine (few_any e _ ms w1 (HS0.out.new HN0.out)).mono ?_
  rintro e9 w2 ⟨rfl, hn2⟩
  have HN2 := Lib.hid (HN0.out.trans hn2)
  have HB2 := Lib.hid (HB0.out.new hn2)
  clear HN0 HB0 hn2 p0 p1 p2 pz
  by_cases h20 : ms.length ≤ 20
  rotate_left
  · rw [decide_eq_false h20]
    go_wp2_with fail
    refine (awake23 _ (HE.out.new HN2.out)).mono ?_
    rintro e9 wz ⟨rfl, hnz⟩
    go_wp2_with fail
    go_ret
    exact ⟨rfl, HN2.out.trans hnz⟩
  rw [decide_eq_true h20]
  have hbl : bs.length ≤ 500 := by omega
  obtain ⟨vb, wb, hrun, hslb, hnb⟩ := run_bytesP (str bs) w2
  rw [show (str bs).data.toList = bs from by simp [str]] at hslb
  go_wp2_with fail
  refine (cfgOf_any bs vb wb (by omega) hslb).mono ?_
  rintro e9 w3 ⟨hn3, hg⟩
  have HN3 := Lib.hid (HN2.out.trans (hnb.trans hn3))
  have HB3 := Lib.hid (HB2.out.new (hnb.trans hn3))
  have HBS := Lib.hid hbl
  have hro := fun wx => refOf_any bs wx (by omega)
  clear HN2 HB2 hslb hnb hn3 hrun h5a h5 hlen hbl
  rcases hg with ⟨ha, rfl⟩ | ⟨a, u, ha, rfl, ho⟩
  · skip
    rw [ofCf_ofRf] at ha
    have hD := Blk.mk_new w3 25 #[.int .u64 0, .slice none 0 0]
    have hA3 := (New.refl w3).alloc (.cells #[.int .u64 0, .slice none 0 0] 25)
    go_wp2_with fail
    refine (hro _).mono ?_
    rintro e9 w4 ⟨hn4, ⟨me, mms⟩, mu, ok, rfl, hsm, hx⟩
    rw [ha] at hx
    cases ok
    rotate_left
    · cases hx
    obtain ⟨mA, mn, mc, rfl⟩ := hsm.shape
    obtain ⟨A', c', hv, -, -⟩ := id hsm
    cases hv
    dsimp only at hsm ⊢
    have hM := Blk.mk_new w4 25 #[.int .u64 (me : Int), .slice mA mms.length mc]
    have hA4 := (New.refl w4).alloc (.cells #[.int .u64 (me : Int), .slice mA mms.length mc] 25)
    have hn45 := hA3.trans (hn4.trans hA4)
    have HN5 := Lib.hid (HN3.out.trans hn45)
    have HB5 := Lib.hid (HB3.out.new hn45)
    have hD5 := hD.new (hn4.trans hA4)
    clear HN3 HB3 hD hA3 hn4 hA4 hn45 ha hro
    clear hsm
    go_upto_region 5 with fail
    generalize w3.heap.size = g5 at *
    generalize w4.heap.size = g7 at *
    generalize w4.alloc _ = w5 at *
    obtain ⟨p0, p1, p2, pz⟩ := Blk2F HB5.out
    obtain ⟨d0, d1, d2, dz⟩ := Blk2F hD5
    obtain ⟨m0, m1, m2, mz⟩ := Blk2F hM
    go_wp2_with fail
    refine (refSame_any 0 _ [] 0 _ [] _ (by decide) (by decide) (SlIn.empty _ _ _ none 0) (SlIn.empty _ _ _ none 0)).mono ?_
    rintro e9 w6 ⟨rfl, hn6⟩
    rw [show sameC ⟨0, []⟩ ⟨0, []⟩ = true by simp [sameC]]
    have HN6 := Lib.hid (HN5.out.trans hn6)
    have HB6 := Lib.hid (HB5.out.new hn6)
    clear HN5 HB5 hn6 p0 p1 p2 pz d0 d1 d2 dz m0 m1 m2 mz hD5 hM
    obtain ⟨p0, p1, p2, pz⟩ := Blk2F HB6.out
    go_wp2_with fail
    refine (cbytes_any e _ ms w6 hep (by omega) (HS0.out.new HN6.out)).mono ?_
    rintro e9 w7 ⟨hn7, hy⟩
    have HN7 := Lib.hid (HN6.out.trans hn7)
    have HB7 := Lib.hid (HB6.out.new hn7)
    clear HN6 HB6 hn7 p0 p1 p2 pz
    obtain ⟨p0, p1, p2, pz⟩ := Blk2F HB7.out
    have hrc := refCheck_any e _ ms w7 (by omega) (HS0.out.new HN7.out)
    rcases hy with ⟨hck, u7, rfl, ho7⟩ | ⟨hck, rfl⟩
    rotate_left
    · rw [hck] at hrc
      clear hck
      go_wp2_with fail
      refine hrc.mono ?_
      rintro e9 w8 ⟨rfl, hn8⟩
      have HN8 := Lib.hid (HN7.out.trans hn8)
      clear hn8 HN7
      go_wp2_with fail
      refine (awake23 _ (HE.out.new HN8.out)).mono ?_
      rintro e9 wz ⟨rfl, hnz⟩
      go_wp2_with fail
      go_ret
      exact ⟨rfl, HN8.out.trans hnz⟩
    have HCK := Lib.hid hck
    have hln := encC_len hck
    have hof := fun v0 wx hx => cfgOf_any (encC ⟨e, ms⟩) v0 wx (by omega) hx
    rw [ofCf_enc hck] at hof
    rw [hck] at hrc
    have hsb := Owns.slIn bEncOk ho7
    clear hck ho7 hln
    generalize hBB : encC ⟨e, ms⟩ = eb at *
    have hrb := fun wx hx => refBytes_any e (.slice A ms.length cap) ms wx HCK.out hx
    rw [hBB] at hrb
    clear hBB
    obtain ⟨bA, bn, bc, rfl⟩ := hsb.shape
    dsimp only
    go_wp2_with fail
    refine hrc.mono ?_
    rintro e9 w8 ⟨rfl, hn8⟩
    have HN8 := Lib.hid (HN7.out.trans hn8)
    have HB8 := Lib.hid (HB7.out.new hn8)
    have hsb8 := hsb.new hn8
    clear HN7 HB7 hn8 p0 p1 p2 pz hsb hrc
    go_wp2_with fail
    refine (hof _ w8 hsb8).mono ?_
    rintro e9 w9 ⟨hn9, hg9⟩
    rcases hg9 with ⟨hz, _⟩ | ⟨a9, u9, hz, rfl, ho9⟩
    · cases hz
    cases hz
    obtain ⟨xA, xn, xc, rfl⟩ := ho9.shape
    obtain ⟨A', c', hv, -, -⟩ := id ho9
    cases hv
    dsimp only at ho9 ⊢
    have hX := Blk.mk_new w9 25 #[.int .u64 (e : Int), .slice xA ms.length xc]
    have hA9 := (New.refl w9).alloc (.cells #[.int .u64 (e : Int), .slice xA ms.length xc] 25)
    have HN10 := Lib.hid (HN8.out.trans (hn9.trans hA9))
    have HB10 := Lib.hid (HB8.out.new (hn9.trans hA9))
    have HSB := Lib.hid (hsb8.new (hn9.trans hA9))
    have HSX := Lib.hid (ho9.new hA9)
    clear HN8 HB8 hn9 hA9 ho9 hsb8 hof
    go_upto_region 11 with fail
    generalize w9.heap.size = g11 at *
    generalize w9.alloc _ = w10 at *
    obtain ⟨p0, p1, p2, pz⟩ := Blk2F HB10.out
    obtain ⟨x0, x1, x2, xz⟩ := Blk2F hX
    refine wp_region_held_drew (S := fun w' => Held w10 w') (by kernel_rfl) (Held.of (New.refl _).drew) (fun hHeld => ?_)
    refine wpAnyH_ready (rs := [0]) (by kernel_rfl) (by simp) ?_
    refine AllReadyH.cons (o := { dst := some 83, op := Op.call { callee := Callee.value (Operand.func 11), args := #[], argTypes := #[] }, type := 4, pos := "law.go:90", after := #[], guard := none }) rfl (fun K hK => ?_) AllReadyH.nil
    go_simp
    refine (awake23 _ (HE.out.new (HN10.out.trans (New.refl w10).drew))).mono ?_
    rintro e9 wk0 ⟨rfl, hk0⟩
    have hn0 := ((New.refl w10).drew).trans hk0
    refine hK.out _ _ ?_ (fun hHeld => ?_)
    · exact Held.of hn0
    clear hK K
    try simp only [Act.put, List.setIfInBounds_toArray, List.set_cons_zero, List.set_cons_succ]
    refine wpAnyH_take (i := 1) (oi := { dst := some 84, op := Op.move (Operand.tmp 83), type := 4, pos := "law.go:90", after := #[{ on := 0, ground := Ground.data }, { on := 0, ground := Ground.chain }], guard := none }) (v := ?_) rfl (by kernel_rfl) (by kernel_rfl) (by kernel_rfl) (fun _ _ _ h => h) (Or.inl ⟨by rfl, ?_⟩) (by assumption) ?_
    rotate_left
    · (intro wq hSw; (try dsimp only at hSw); go_simp; first | done | with_reducible rfl)
    try simp only [Act.put, List.setIfInBounds_toArray, List.set_cons_zero, List.set_cons_succ]
    refine wpAnyH_take (i := 2) (oi := { dst := some 85, op := Op.move (Operand.tmp 10), type := 28, pos := "law.go:90", after := #[{ on := 1, ground := Ground.guard }], guard := some (1, true) }) (v := ?_) rfl (by kernel_rfl) (by kernel_rfl) (by kernel_rfl) (fun _ _ _ h => h) (Or.inl ⟨by rfl, ?_⟩) (by assumption) ?_
    rotate_left
    · (intro wq hSw; (try dsimp only at hSw); go_simp; first | done | with_reducible rfl)
    try simp only [Act.put, List.setIfInBounds_toArray, List.set_cons_zero, List.set_cons_succ]
    refine wpAnyH_take (i := 3) (oi := { dst := some 86, op := Op.binOp BinOp.eql 28 (Operand.tmp 85) (Operand.const (Value.int IntKind.i64 0)) 28, type := 4, pos := "law.go:90", after := #[{ on := 2, ground := Ground.data }, { on := 1, ground := Ground.guard }], guard := some (1, true) }) (v := .bool true) rfl (by kernel_rfl) (by kernel_rfl) (by kernel_rfl) (fun _ _ _ h => h) (Or.inl ⟨by rfl, ?_⟩) (by assumption) ?_
    · (intro wq hSw; (try dsimp only at hSw); go_simp; first | done | with_reducible rfl | (simp; done) | (simp [str]))
    try simp only [Act.put, List.setIfInBounds_toArray, List.set_cons_zero, List.set_cons_succ]
    refine wpAnyH_take (i := 4) (oi := { dst := some 87, op := Op.pick (Operand.tmp 84) (Operand.tmp 86) (Operand.const (Value.bool false)), type := 4, pos := "law.go:90", after := #[{ on := 1, ground := Ground.data }, { on := 3, ground := Ground.data }], guard := none }) (v := .bool true) rfl (by kernel_rfl) (by kernel_rfl) (by kernel_rfl) (fun _ _ _ h => h) (Or.inl ⟨by rfl, ?_⟩) (by assumption) ?_
    · (intro wq hSw; (try dsimp only at hSw); go_simp; first | done | with_reducible rfl | (simp; done) | (simp [str]))
    try simp only [Act.put, List.setIfInBounds_toArray, List.set_cons_zero, List.set_cons_succ]
    refine wpAnyH_take (i := 5) (oi := { dst := some 88, op := Op.move (Operand.tmp 87), type := 4, pos := "law.go:90", after := #[{ on := 4, ground := Ground.data }, { on := 1, ground := Ground.chain }], guard := none }) (v := ?_) rfl (by kernel_rfl) (by kernel_rfl) (by kernel_rfl) (fun _ _ _ h => h) (Or.inl ⟨by rfl, ?_⟩) (by assumption) ?_
    rotate_left
    · (intro wq hSw; (try dsimp only at hSw); go_simp; first | done | with_reducible rfl)
    try simp only [Act.put, List.setIfInBounds_toArray, List.set_cons_zero, List.set_cons_succ]
    refine wpAnyH_take (i := 6) (oi := { dst := some 89, op := Op.move (Operand.tmp 9), type := 43, pos := "law.go:90", after := #[{ on := 5, ground := Ground.guard }], guard := some (5, true) }) (v := ?_) rfl (by kernel_rfl) (by kernel_rfl) (by kernel_rfl) (fun _ _ _ h => h) (Or.inl ⟨by rfl, ?_⟩) (by assumption) ?_
    rotate_left
    · (intro wq hSw; (try dsimp only at hSw); go_simp; first | done | with_reducible rfl)
    try simp only [Act.put, List.setIfInBounds_toArray, List.set_cons_zero, List.set_cons_succ]
    refine wpAnyH_take (i := 8) (oi := { dst := some 91, op := Op.load 25 (Operand.tmp 3), type := 25, pos := "law.go:90", after := #[{ on := 5, ground := Ground.guard }], guard := some (5, true) }) (v := ?_) rfl (by kernel_rfl) (by kernel_rfl) (by kernel_rfl) (fun _ _ _ h => h) (Or.inl ⟨by rfl, ?_⟩) (by assumption) ?_
    rotate_left
    · (intro wq hSw; (try dsimp only at hSw); go_simp; first | done | with_reducible rfl)
    try simp only [Act.put, List.setIfInBounds_toArray, List.set_cons_zero, List.set_cons_succ]
    refine wpAnyH_ready (rs := [7, 9]) (by kernel_rfl) (by simp) ?_
    refine AllReadyH.cons (o := { dst := some 90, op := Op.convert 43 9 (Operand.tmp 89), type := 9, pos := "law.go:90", after := #[{ on := 6, ground := Ground.data }, { on := 5, ground := Ground.guard }], guard := some (5, true) }) rfl (fun K hK => ?_) (AllReadyH.cons (o := { dst := some 92, op := Op.call { callee := Callee.value (Operand.func 30), args := #[Operand.tmp 91], argTypes := #[25] }, type := 9, pos := "law.go:90", after := #[{ on := 8, ground := Ground.data }, { on := 5, ground := Ground.chain }, { on := 5, ground := Ground.guard }], guard := some (5, true) }) rfl (fun K hK => ?_) AllReadyH.nil)
    · have hcv := run_str wk0 (HSB.out.new hn0)
      go_simp
      refine hK.out _ _ ?_ (fun hHeld => ?_)
      · exact hHeld
      clear hK K
      try simp only [Act.put, List.setIfInBounds_toArray, List.set_cons_zero, List.set_cons_succ]
      refine wpAnyH_ready (rs := [9]) (by kernel_rfl) (by simp) ?_
      refine AllReadyH.cons (o := { dst := some 92, op := Op.call { callee := Callee.value (Operand.func 30), args := #[Operand.tmp 91], argTypes := #[25] }, type := 9, pos := "law.go:90", after := #[{ on := 8, ground := Ground.data }, { on := 5, ground := Ground.chain }, { on := 5, ground := Ground.guard }], guard := some (5, true) }) rfl (fun K hK => ?_) AllReadyH.nil
      go_simp
      refine (hrb _ (HS0.out.new (HN10.out.trans hn0))).mono ?_
      rintro e9 wk1 ⟨rfl, hk1⟩
      have hn1 := (hn0).trans hk1
      refine hK.out _ _ ?_ (fun hHeld => ?_)
      · exact Held.of hn1
      clear hK K
      try simp only [Act.put, List.setIfInBounds_toArray, List.set_cons_zero, List.set_cons_succ]
      refine wpAnyH_take (i := 10) (oi := { dst := some 93, op := Op.binOp BinOp.eql 9 (Operand.tmp 90) (Operand.tmp 92) 9, type := 4, pos := "law.go:90", after := #[{ on := 7, ground := Ground.data }, { on := 9, ground := Ground.data }, { on := 5, ground := Ground.guard }], guard := some (5, true) }) (v := .bool true) rfl (by kernel_rfl) (by kernel_rfl) (by kernel_rfl) (fun _ _ _ h => h) (Or.inl ⟨by rfl, ?_⟩) (by assumption) ?_
      · (intro wq hSw; (try dsimp only at hSw); go_simp; first | done | with_reducible rfl | (simp; done) | (simp [str]))
      try simp only [Act.put, List.setIfInBounds_toArray, List.set_cons_zero, List.set_cons_succ]
      refine wpAnyH_take (i := 11) (oi := { dst := some 94, op := Op.pick (Operand.tmp 88) (Operand.tmp 93) (Operand.const (Value.bool false)), type := 4, pos := "law.go:90", after := #[{ on := 5, ground := Ground.data }, { on := 10, ground := Ground.data }], guard := none }) (v := .bool true) rfl (by kernel_rfl) (by kernel_rfl) (by kernel_rfl) (fun _ _ _ h => h) (Or.inl ⟨by rfl, ?_⟩) (by assumption) ?_
      · (intro wq hSw; (try dsimp only at hSw); go_simp; first | done | with_reducible rfl | (simp; done) | (simp [str]))
      try simp only [Act.put, List.setIfInBounds_toArray, List.set_cons_zero, List.set_cons_succ]
      refine wpAnyH_take (i := 12) (oi := { dst := some 95, op := Op.move (Operand.tmp 94), type := 4, pos := "law.go:90", after := #[{ on := 11, ground := Ground.data }, { on := 9, ground := Ground.chain }], guard := none }) (v := ?_) rfl (by kernel_rfl) (by kernel_rfl) (by kernel_rfl) (fun _ _ _ h => h) (Or.inl ⟨by rfl, ?_⟩) (by assumption) ?_
      rotate_left
      · (intro wq hSw; (try dsimp only at hSw); go_simp; first | done | with_reducible rfl)
      try simp only [Act.put, List.setIfInBounds_toArray, List.set_cons_zero, List.set_cons_succ]
      refine wpAnyH_take (i := 13) (oi := { dst := some 96, op := Op.move (Operand.tmp 12), type := 28, pos := "law.go:90", after := #[{ on := 12, ground := Ground.guard }], guard := some (12, true) }) (v := ?_) rfl (by kernel_rfl) (by kernel_rfl) (by kernel_rfl) (fun _ _ _ h => h) (Or.inl ⟨by rfl, ?_⟩) (by assumption) ?_
      rotate_left
      · (intro wq hSw; (try dsimp only at hSw); go_simp; first | done | with_reducible rfl)
      try simp only [Act.put, List.setIfInBounds_toArray, List.set_cons_zero, List.set_cons_succ]
      refine wpAnyH_take (i := 14) (oi := { dst := some 97, op := Op.binOp BinOp.eql 28 (Operand.tmp 96) (Operand.const (Value.int IntKind.i64 0)) 28, type := 4, pos := "law.go:90", after := #[{ on := 13, ground := Ground.data }, { on := 12, ground := Ground.guard }], guard := some (12, true) }) (v := .bool true) rfl (by kernel_rfl) (by kernel_rfl) (by kernel_rfl) (fun _ _ _ h => h) (Or.inl ⟨by rfl, ?_⟩) (by assumption) ?_
      · (intro wq hSw; (try dsimp only at hSw); go_simp; first | done | with_reducible rfl | (simp; done) | (simp [str]))
      try simp only [Act.put, List.setIfInBounds_toArray, List.set_cons_zero, List.set_cons_succ]
      refine wpAnyH_take (i := 15) (oi := { dst := some 98, op := Op.pick (Operand.tmp 95) (Operand.tmp 97) (Operand.const (Value.bool false)), type := 4, pos := "law.go:90", after := #[{ on := 12, ground := Ground.data }, { on := 14, ground := Ground.data }], guard := none }) (v := .bool true) rfl (by kernel_rfl) (by kernel_rfl) (by kernel_rfl) (fun _ _ _ h => h) (Or.inl ⟨by rfl, ?_⟩) (by assumption) ?_
      · (intro wq hSw; (try dsimp only at hSw); go_simp; first | done | with_reducible rfl | (simp; done) | (simp [str]))
      try simp only [Act.put, List.setIfInBounds_toArray, List.set_cons_zero, List.set_cons_succ]
      refine wpAnyH_take (i := 16) (oi := { dst := some 99, op := Op.move (Operand.tmp 98), type := 4, pos := "law.go:90", after := #[{ on := 15, ground := Ground.data }, { on := 12, ground := Ground.chain }], guard := none }) (v := ?_) rfl (by kernel_rfl) (by kernel_rfl) (by kernel_rfl) (fun _ _ _ h => h) (Or.inl ⟨by rfl, ?_⟩) (by assumption) ?_
      rotate_left
      · (intro wq hSw; (try dsimp only at hSw); go_simp; first | done | with_reducible rfl)
      try simp only [Act.put, List.setIfInBounds_toArray, List.set_cons_zero, List.set_cons_succ]
      refine wpAnyH_take (i := 17) (oi := { dst := some 100, op := Op.load 25 (Operand.tmp 11), type := 25, pos := "law.go:90", after := #[{ on := 16, ground := Ground.guard }], guard := some (16, true) }) (v := ?_) rfl (by kernel_rfl) (by kernel_rfl) (by kernel_rfl) (fun _ _ _ h => h) (Or.inl ⟨by rfl, ?_⟩) (by assumption) ?_
      rotate_left
      · (intro wq hSw; (try dsimp only at hSw); go_simp; first | done | with_reducible rfl)
      try simp only [Act.put, List.setIfInBounds_toArray, List.set_cons_zero, List.set_cons_succ]
      refine wpAnyH_take (i := 18) (oi := { dst := some 101, op := Op.load 25 (Operand.tmp 3), type := 25, pos := "law.go:90", after := #[{ on := 16, ground := Ground.guard }], guard := some (16, true) }) (v := ?_) rfl (by kernel_rfl) (by kernel_rfl) (by kernel_rfl) (fun _ _ _ h => h) (Or.inl ⟨by rfl, ?_⟩) (by assumption) ?_
      rotate_left
      · (intro wq hSw; (try dsimp only at hSw); go_simp; first | done | with_reducible rfl)
      try simp only [Act.put, List.setIfInBounds_toArray, List.set_cons_zero, List.set_cons_succ]
      refine wpAnyH_ready (rs := [19]) (by kernel_rfl) (by simp) ?_
      refine AllReadyH.cons (o := { dst := some 102, op := Op.call { callee := Callee.value (Operand.func 16), args := #[Operand.tmp 100, Operand.tmp 101], argTypes := #[25, 25] }, type := 4, pos := "law.go:90", after := #[{ on := 17, ground := Ground.data }, { on := 18, ground := Ground.data }, { on := 16, ground := Ground.chain }, { on := 16, ground := Ground.guard }], guard := some (16, true) }) rfl (fun K hK => ?_) AllReadyH.nil
      go_simp
      refine (refSame_any e _ ms e _ ms _ (by omega) (by omega) (HSX.out.new hn1) (HS0.out.new (HN10.out.trans hn1))).mono ?_
      rintro e9 wk2 ⟨rfl, hk2⟩
      rw [show sameC ⟨e, ms⟩ ⟨e, ms⟩ = true by simp [sameC]]
      have hn2 := (hn1).trans hk2
      refine hK.out _ _ ?_ (fun hHeld => ?_)
      · exact Held.of hn2
      clear hK K
      try simp only [Act.put, List.setIfInBounds_toArray, List.set_cons_zero, List.set_cons_succ]
      refine wpAnyH_take (i := 20) (oi := { dst := some 103, op := Op.pick (Operand.tmp 99) (Operand.tmp 102) (Operand.const (Value.bool false)), type := 4, pos := "law.go:90", after := #[{ on := 16, ground := Ground.data }, { on := 19, ground := Ground.data }], guard := none }) (v := .bool true) rfl (by kernel_rfl) (by kernel_rfl) (by kernel_rfl) (fun _ _ _ h => h) (Or.inl ⟨by rfl, ?_⟩) (by assumption) ?_
      · (intro wq hSw; (try dsimp only at hSw); go_simp; first | done | with_reducible rfl | (simp; done) | (simp [str]))
      try simp only [Act.put, List.setIfInBounds_toArray, List.set_cons_zero, List.set_cons_succ]
      refine wpAnyH_take (i := 21) (oi := { dst := some 4, op := Op.assign (Operand.tmp 103), type := 4, pos := "law.go:90", after := #[{ on := 20, ground := Ground.data }, { on := 19, ground := Ground.chain }, { on := 0, ground := Ground.phase }, { on := 1, ground := Ground.phase }, { on := 2, ground := Ground.phase }, { on := 3, ground := Ground.phase }, { on := 4, ground := Ground.phase }, { on := 5, ground := Ground.phase }, { on := 6, ground := Ground.phase }, { on := 7, ground := Ground.phase }, { on := 8, ground := Ground.phase }, { on := 9, ground := Ground.phase }, { on := 10, ground := Ground.phase }, { on := 11, ground := Ground.phase }, { on := 12, ground := Ground.phase }, { on := 13, ground := Ground.phase }, { on := 14, ground := Ground.phase }, { on := 15, ground := Ground.phase }, { on := 16, ground := Ground.phase }, { on := 17, ground := Ground.phase }, { on := 18, ground := Ground.phase }, { on := 19, ground := Ground.phase }, { on := 20, ground := Ground.phase }], guard := none }) (v := ?_) rfl (by kernel_rfl) (by kernel_rfl) (by kernel_rfl) (fun _ _ _ h => h) (Or.inl ⟨by rfl, ?_⟩) (by assumption) ?_
      rotate_left
      · (intro wq hSw; (try dsimp only at hSw); go_simp; first | done | with_reducible rfl)
      try simp only [Act.put, List.setIfInBounds_toArray, List.set_cons_zero, List.set_cons_succ]
      refine wpAnyH_done (by kernel_rfl) ?_ _
      clear hHeld
      go_wp2_with fail
      go_ret
      exact ⟨rfl, HN10.out.trans hn2⟩
    · go_simp
      refine (hrb _ (HS0.out.new (HN10.out.trans hn0))).mono ?_
      rintro e9 wk1 ⟨rfl, hk1⟩
      have hn1 := (hn0).trans hk1
      refine hK.out _ _ ?_ (fun hHeld => ?_)
      · exact Held.of hn1
      clear hK K
      try simp only [Act.put, List.setIfInBounds_toArray, List.set_cons_zero, List.set_cons_succ]
      refine wpAnyH_ready (rs := [7]) (by kernel_rfl) (by simp) ?_
      refine AllReadyH.cons (o := { dst := some 90, op := Op.convert 43 9 (Operand.tmp 89), type := 9, pos := "law.go:90", after := #[{ on := 6, ground := Ground.data }, { on := 5, ground := Ground.guard }], guard := some (5, true) }) rfl (fun K hK => ?_) AllReadyH.nil
      have hcv := run_str wk1 (HSB.out.new hn1)
      go_simp
      refine hK.out _ _ ?_ (fun hHeld => ?_)
      · exact hHeld
      clear hK K
      try simp only [Act.put, List.setIfInBounds_toArray, List.set_cons_zero, List.set_cons_succ]
      refine wpAnyH_take (i := 10) (oi := { dst := some 93, op := Op.binOp BinOp.eql 9 (Operand.tmp 90) (Operand.tmp 92) 9, type := 4, pos := "law.go:90", after := #[{ on := 7, ground := Ground.data }, { on := 9, ground := Ground.data }, { on := 5, ground := Ground.guard }], guard := some (5, true) }) (v := .bool true) rfl (by kernel_rfl) (by kernel_rfl) (by kernel_rfl) (fun _ _ _ h => h) (Or.inl ⟨by rfl, ?_⟩) (by assumption) ?_
      · (intro wq hSw; (try dsimp only at hSw); go_simp; first | done | with_reducible rfl | (simp; done) | (simp [str]))
      try simp only [Act.put, List.setIfInBounds_toArray, List.set_cons_zero, List.set_cons_succ]
      refine wpAnyH_take (i := 11) (oi := { dst := some 94, op := Op.pick (Operand.tmp 88) (Operand.tmp 93) (Operand.const (Value.bool false)), type := 4, pos := "law.go:90", after := #[{ on := 5, ground := Ground.data }, { on := 10, ground := Ground.data }], guard := none }) (v := .bool true) rfl (by kernel_rfl) (by kernel_rfl) (by kernel_rfl) (fun _ _ _ h => h) (Or.inl ⟨by rfl, ?_⟩) (by assumption) ?_
      · (intro wq hSw; (try dsimp only at hSw); go_simp; first | done | with_reducible rfl | (simp; done) | (simp [str]))
      try simp only [Act.put, List.setIfInBounds_toArray, List.set_cons_zero, List.set_cons_succ]
      refine wpAnyH_take (i := 12) (oi := { dst := some 95, op := Op.move (Operand.tmp 94), type := 4, pos := "law.go:90", after := #[{ on := 11, ground := Ground.data }, { on := 9, ground := Ground.chain }], guard := none }) (v := ?_) rfl (by kernel_rfl) (by kernel_rfl) (by kernel_rfl) (fun _ _ _ h => h) (Or.inl ⟨by rfl, ?_⟩) (by assumption) ?_
      rotate_left
      · (intro wq hSw; (try dsimp only at hSw); go_simp; first | done | with_reducible rfl)
      try simp only [Act.put, List.setIfInBounds_toArray, List.set_cons_zero, List.set_cons_succ]
      refine wpAnyH_take (i := 13) (oi := { dst := some 96, op := Op.move (Operand.tmp 12), type := 28, pos := "law.go:90", after := #[{ on := 12, ground := Ground.guard }], guard := some (12, true) }) (v := ?_) rfl (by kernel_rfl) (by kernel_rfl) (by kernel_rfl) (fun _ _ _ h => h) (Or.inl ⟨by rfl, ?_⟩) (by assumption) ?_
      rotate_left
      · (intro wq hSw; (try dsimp only at hSw); go_simp; first | done | with_reducible rfl)
      try simp only [Act.put, List.setIfInBounds_toArray, List.set_cons_zero, List.set_cons_succ]
      refine wpAnyH_take (i := 14) (oi := { dst := some 97, op := Op.binOp BinOp.eql 28 (Operand.tmp 96) (Operand.const (Value.int IntKind.i64 0)) 28, type := 4, pos := "law.go:90", after := #[{ on := 13, ground := Ground.data }, { on := 12, ground := Ground.guard }], guard := some (12, true) }) (v := .bool true) rfl (by kernel_rfl) (by kernel_rfl) (by kernel_rfl) (fun _ _ _ h => h) (Or.inl ⟨by rfl, ?_⟩) (by assumption) ?_
      · (intro wq hSw; (try dsimp only at hSw); go_simp; first | done | with_reducible rfl | (simp; done) | (simp [str]))
      try simp only [Act.put, List.setIfInBounds_toArray, List.set_cons_zero, List.set_cons_succ]
      refine wpAnyH_take (i := 15) (oi := { dst := some 98, op := Op.pick (Operand.tmp 95) (Operand.tmp 97) (Operand.const (Value.bool false)), type := 4, pos := "law.go:90", after := #[{ on := 12, ground := Ground.data }, { on := 14, ground := Ground.data }], guard := none }) (v := .bool true) rfl (by kernel_rfl) (by kernel_rfl) (by kernel_rfl) (fun _ _ _ h => h) (Or.inl ⟨by rfl, ?_⟩) (by assumption) ?_
      · (intro wq hSw; (try dsimp only at hSw); go_simp; first | done | with_reducible rfl | (simp; done) | (simp [str]))
      try simp only [Act.put, List.setIfInBounds_toArray, List.set_cons_zero, List.set_cons_succ]
      refine wpAnyH_take (i := 16) (oi := { dst := some 99, op := Op.move (Operand.tmp 98), type := 4, pos := "law.go:90", after := #[{ on := 15, ground := Ground.data }, { on := 12, ground := Ground.chain }], guard := none }) (v := ?_) rfl (by kernel_rfl) (by kernel_rfl) (by kernel_rfl) (fun _ _ _ h => h) (Or.inl ⟨by rfl, ?_⟩) (by assumption) ?_
      rotate_left
      · (intro wq hSw; (try dsimp only at hSw); go_simp; first | done | with_reducible rfl)
      try simp only [Act.put, List.setIfInBounds_toArray, List.set_cons_zero, List.set_cons_succ]
      refine wpAnyH_take (i := 17) (oi := { dst := some 100, op := Op.load 25 (Operand.tmp 11), type := 25, pos := "law.go:90", after := #[{ on := 16, ground := Ground.guard }], guard := some (16, true) }) (v := ?_) rfl (by kernel_rfl) (by kernel_rfl) (by kernel_rfl) (fun _ _ _ h => h) (Or.inl ⟨by rfl, ?_⟩) (by assumption) ?_
      rotate_left
      · (intro wq hSw; (try dsimp only at hSw); go_simp; first | done | with_reducible rfl)
      try simp only [Act.put, List.setIfInBounds_toArray, List.set_cons_zero, List.set_cons_succ]
      refine wpAnyH_take (i := 18) (oi := { dst := some 101, op := Op.load 25 (Operand.tmp 3), type := 25, pos := "law.go:90", after := #[{ on := 16, ground := Ground.guard }], guard := some (16, true) }) (v := ?_) rfl (by kernel_rfl) (by kernel_rfl) (by kernel_rfl) (fun _ _ _ h => h) (Or.inl ⟨by rfl, ?_⟩) (by assumption) ?_
      rotate_left
      · (intro wq hSw; (try dsimp only at hSw); go_simp; first | done | with_reducible rfl)
      try simp only [Act.put, List.setIfInBounds_toArray, List.set_cons_zero, List.set_cons_succ]
      refine wpAnyH_ready (rs := [19]) (by kernel_rfl) (by simp) ?_
      refine AllReadyH.cons (o := { dst := some 102, op := Op.call { callee := Callee.value (Operand.func 16), args := #[Operand.tmp 100, Operand.tmp 101], argTypes := #[25, 25] }, type := 4, pos := "law.go:90", after := #[{ on := 17, ground := Ground.data }, { on := 18, ground := Ground.data }, { on := 16, ground := Ground.chain }, { on := 16, ground := Ground.guard }], guard := some (16, true) }) rfl (fun K hK => ?_) AllReadyH.nil
      go_simp
      refine (refSame_any e _ ms e _ ms _ (by omega) (by omega) (HSX.out.new hn1) (HS0.out.new (HN10.out.trans hn1))).mono ?_
      rintro e9 wk2 ⟨rfl, hk2⟩
      rw [show sameC ⟨e, ms⟩ ⟨e, ms⟩ = true by simp [sameC]]
      have hn2 := (hn1).trans hk2
      refine hK.out _ _ ?_ (fun hHeld => ?_)
      · exact Held.of hn2
      clear hK K
      try simp only [Act.put, List.setIfInBounds_toArray, List.set_cons_zero, List.set_cons_succ]
      refine wpAnyH_take (i := 20) (oi := { dst := some 103, op := Op.pick (Operand.tmp 99) (Operand.tmp 102) (Operand.const (Value.bool false)), type := 4, pos := "law.go:90", after := #[{ on := 16, ground := Ground.data }, { on := 19, ground := Ground.data }], guard := none }) (v := .bool true) rfl (by kernel_rfl) (by kernel_rfl) (by kernel_rfl) (fun _ _ _ h => h) (Or.inl ⟨by rfl, ?_⟩) (by assumption) ?_
      · (intro wq hSw; (try dsimp only at hSw); go_simp; first | done | with_reducible rfl | (simp; done) | (simp [str]))
      try simp only [Act.put, List.setIfInBounds_toArray, List.set_cons_zero, List.set_cons_succ]
      refine wpAnyH_take (i := 21) (oi := { dst := some 4, op := Op.assign (Operand.tmp 103), type := 4, pos := "law.go:90", after := #[{ on := 20, ground := Ground.data }, { on := 19, ground := Ground.chain }, { on := 0, ground := Ground.phase }, { on := 1, ground := Ground.phase }, { on := 2, ground := Ground.phase }, { on := 3, ground := Ground.phase }, { on := 4, ground := Ground.phase }, { on := 5, ground := Ground.phase }, { on := 6, ground := Ground.phase }, { on := 7, ground := Ground.phase }, { on := 8, ground := Ground.phase }, { on := 9, ground := Ground.phase }, { on := 10, ground := Ground.phase }, { on := 11, ground := Ground.phase }, { on := 12, ground := Ground.phase }, { on := 13, ground := Ground.phase }, { on := 14, ground := Ground.phase }, { on := 15, ground := Ground.phase }, { on := 16, ground := Ground.phase }, { on := 17, ground := Ground.phase }, { on := 18, ground := Ground.phase }, { on := 19, ground := Ground.phase }, { on := 20, ground := Ground.phase }], guard := none }) (v := ?_) rfl (by kernel_rfl) (by kernel_rfl) (by kernel_rfl) (fun _ _ _ h => h) (Or.inl ⟨by rfl, ?_⟩) (by assumption) ?_
      rotate_left
      · (intro wq hSw; (try dsimp only at hSw); go_simp; first | done | with_reducible rfl)
      try simp only [Act.put, List.setIfInBounds_toArray, List.set_cons_zero, List.set_cons_succ]
      refine wpAnyH_done (by kernel_rfl) ?_ _
      clear hHeld
      go_wp2_with fail
      go_ret
      exact ⟨rfl, HN10.out.trans hn2⟩
  · skip
    have hal := (chk_parts (ofCf_chk ha)).2.2.2.1
    obtain ⟨ae, ams⟩ := a
    obtain ⟨uA, un, uc, rfl⟩ := ho.shape
    obtain ⟨A', c', hv, -, -⟩ := id ho
    cases hv
    dsimp only at ho hal ⊢
    rw [ofCf_ofRf] at ha
    have hD := Blk.mk_new w3 25 #[.int .u64 (ae : Int), .slice uA ams.length uc]
    have hA3 := (New.refl w3).alloc (.cells #[.int .u64 (ae : Int), .slice uA ams.length uc] 25)
    go_wp2_with fail
    refine (hro _).mono ?_
    rintro e9 w4 ⟨hn4, ⟨me, mms⟩, mu, ok, rfl, hsm, hx⟩
    rw [ha] at hx
    cases ok
    · cases hx
    rw [if_pos rfl] at hx
    cases hx
    obtain ⟨mA, mn, mc, rfl⟩ := hsm.shape
    obtain ⟨A', c', hv, -, -⟩ := id hsm
    cases hv
    dsimp only at hsm ⊢
    have hM := Blk.mk_new w4 25 #[.int .u64 (ae : Int), .slice mA ams.length mc]
    have hA4 := (New.refl w4).alloc (.cells #[.int .u64 (ae : Int), .slice mA ams.length mc] 25)
    have hn45 := hA3.trans (hn4.trans hA4)
    have HN5 := Lib.hid (HN3.out.trans hn45)
    have HB5 := Lib.hid (HB3.out.new hn45)
    have hD5 := hD.new (hn4.trans hA4)
    have hsd5 := ho.new hn45
    have hsm5 := hsm.new hA4
    clear HN3 HB3 hD hA3 hn4 hA4 hn45 ha hro ho
    clear hsm
    go_upto_region 5 with fail
    generalize w3.heap.size = g5 at *
    generalize w4.heap.size = g7 at *
    generalize w4.alloc _ = w5 at *
    obtain ⟨p0, p1, p2, pz⟩ := Blk2F HB5.out
    obtain ⟨d0, d1, d2, dz⟩ := Blk2F hD5
    obtain ⟨m0, m1, m2, mz⟩ := Blk2F hM
    go_wp2_with fail
    refine (refSame_any ae _ ams ae _ ams _ (by omega) (by omega) hsd5 hsm5).mono ?_
    rintro e9 w6 ⟨rfl, hn6⟩
    rw [show sameC ⟨ae, ams⟩ ⟨ae, ams⟩ = true by simp [sameC]]
    have HN6 := Lib.hid (HN5.out.trans hn6)
    have HB6 := Lib.hid (HB5.out.new hn6)
    clear HN5 HB5 hn6 p0 p1 p2 pz d0 d1 d2 dz m0 m1 m2 mz hD5 hM hsd5 hsm5
    obtain ⟨p0, p1, p2, pz⟩ := Blk2F HB6.out
    go_wp2_with fail
    refine (cbytes_any e _ ms w6 hep (by omega) (HS0.out.new HN6.out)).mono ?_
    rintro e9 w7 ⟨hn7, hy⟩
    have HN7 := Lib.hid (HN6.out.trans hn7)
    have HB7 := Lib.hid (HB6.out.new hn7)
    clear HN6 HB6 hn7 p0 p1 p2 pz
    obtain ⟨p0, p1, p2, pz⟩ := Blk2F HB7.out
    have hrc := refCheck_any e _ ms w7 (by omega) (HS0.out.new HN7.out)
    rcases hy with ⟨hck, u7, rfl, ho7⟩ | ⟨hck, rfl⟩
    rotate_left
    · rw [hck] at hrc
      clear hck
      go_wp2_with fail
      refine hrc.mono ?_
      rintro e9 w8 ⟨rfl, hn8⟩
      have HN8 := Lib.hid (HN7.out.trans hn8)
      clear hn8 HN7
      go_wp2_with fail
      refine (awake23 _ (HE.out.new HN8.out)).mono ?_
      rintro e9 wz ⟨rfl, hnz⟩
      go_wp2_with fail
      go_ret
      exact ⟨rfl, HN8.out.trans hnz⟩
    have HCK := Lib.hid hck
    have hln := encC_len hck
    have hof := fun v0 wx hx => cfgOf_any (encC ⟨e, ms⟩) v0 wx (by omega) hx
    rw [ofCf_enc hck] at hof
    rw [hck] at hrc
    have hsb := Owns.slIn bEncOk ho7
    clear hck ho7 hln
    generalize hBB : encC ⟨e, ms⟩ = eb at *
    have hrb := fun wx hx => refBytes_any e (.slice A ms.length cap) ms wx HCK.out hx
    rw [hBB] at hrb
    clear hBB
    obtain ⟨bA, bn, bc, rfl⟩ := hsb.shape
    dsimp only
    go_wp2_with fail
    refine hrc.mono ?_
    rintro e9 w8 ⟨rfl, hn8⟩
    have HN8 := Lib.hid (HN7.out.trans hn8)
    have HB8 := Lib.hid (HB7.out.new hn8)
    have hsb8 := hsb.new hn8
    clear HN7 HB7 hn8 p0 p1 p2 pz hsb hrc
    go_wp2_with fail
    refine (hof _ w8 hsb8).mono ?_
    rintro e9 w9 ⟨hn9, hg9⟩
    rcases hg9 with ⟨hz, _⟩ | ⟨a9, u9, hz, rfl, ho9⟩
    · cases hz
    cases hz
    obtain ⟨xA, xn, xc, rfl⟩ := ho9.shape
    obtain ⟨A', c', hv, -, -⟩ := id ho9
    cases hv
    dsimp only at ho9 ⊢
    have hX := Blk.mk_new w9 25 #[.int .u64 (e : Int), .slice xA ms.length xc]
    have hA9 := (New.refl w9).alloc (.cells #[.int .u64 (e : Int), .slice xA ms.length xc] 25)
    have HN10 := Lib.hid (HN8.out.trans (hn9.trans hA9))
    have HB10 := Lib.hid (HB8.out.new (hn9.trans hA9))
    have HSB := Lib.hid (hsb8.new (hn9.trans hA9))
    have HSX := Lib.hid (ho9.new hA9)
    clear HN8 HB8 hn9 hA9 ho9 hsb8 hof
    go_upto_region 11 with fail
    generalize w9.heap.size = g11 at *
    generalize w9.alloc _ = w10 at *
    obtain ⟨p0, p1, p2, pz⟩ := Blk2F HB10.out
    obtain ⟨x0, x1, x2, xz⟩ := Blk2F hX
    refine wp_region_held_drew (S := fun w' => Held w10 w') (by kernel_rfl) (Held.of (New.refl _).drew) (fun hHeld => ?_)
    refine wpAnyH_ready (rs := [0]) (by kernel_rfl) (by simp) ?_
    refine AllReadyH.cons (o := { dst := some 83, op := Op.call { callee := Callee.value (Operand.func 11), args := #[], argTypes := #[] }, type := 4, pos := "law.go:90", after := #[], guard := none }) rfl (fun K hK => ?_) AllReadyH.nil
    go_simp
    refine (awake23 _ (HE.out.new (HN10.out.trans (New.refl w10).drew))).mono ?_
    rintro e9 wk0 ⟨rfl, hk0⟩
    have hn0 := ((New.refl w10).drew).trans hk0
    refine hK.out _ _ ?_ (fun hHeld => ?_)
    · exact Held.of hn0
    clear hK K
    try simp only [Act.put, List.setIfInBounds_toArray, List.set_cons_zero, List.set_cons_succ]
    refine wpAnyH_take (i := 1) (oi := { dst := some 84, op := Op.move (Operand.tmp 83), type := 4, pos := "law.go:90", after := #[{ on := 0, ground := Ground.data }, { on := 0, ground := Ground.chain }], guard := none }) (v := ?_) rfl (by kernel_rfl) (by kernel_rfl) (by kernel_rfl) (fun _ _ _ h => h) (Or.inl ⟨by rfl, ?_⟩) (by assumption) ?_
    rotate_left
    · (intro wq hSw; (try dsimp only at hSw); go_simp; first | done | with_reducible rfl)
    try simp only [Act.put, List.setIfInBounds_toArray, List.set_cons_zero, List.set_cons_succ]
    refine wpAnyH_take (i := 2) (oi := { dst := some 85, op := Op.move (Operand.tmp 10), type := 28, pos := "law.go:90", after := #[{ on := 1, ground := Ground.guard }], guard := some (1, true) }) (v := ?_) rfl (by kernel_rfl) (by kernel_rfl) (by kernel_rfl) (fun _ _ _ h => h) (Or.inl ⟨by rfl, ?_⟩) (by assumption) ?_
    rotate_left
    · (intro wq hSw; (try dsimp only at hSw); go_simp; first | done | with_reducible rfl)
    try simp only [Act.put, List.setIfInBounds_toArray, List.set_cons_zero, List.set_cons_succ]
    refine wpAnyH_take (i := 3) (oi := { dst := some 86, op := Op.binOp BinOp.eql 28 (Operand.tmp 85) (Operand.const (Value.int IntKind.i64 0)) 28, type := 4, pos := "law.go:90", after := #[{ on := 2, ground := Ground.data }, { on := 1, ground := Ground.guard }], guard := some (1, true) }) (v := .bool true) rfl (by kernel_rfl) (by kernel_rfl) (by kernel_rfl) (fun _ _ _ h => h) (Or.inl ⟨by rfl, ?_⟩) (by assumption) ?_
    · (intro wq hSw; (try dsimp only at hSw); go_simp; first | done | with_reducible rfl | (simp; done) | (simp [str]))
    try simp only [Act.put, List.setIfInBounds_toArray, List.set_cons_zero, List.set_cons_succ]
    refine wpAnyH_take (i := 4) (oi := { dst := some 87, op := Op.pick (Operand.tmp 84) (Operand.tmp 86) (Operand.const (Value.bool false)), type := 4, pos := "law.go:90", after := #[{ on := 1, ground := Ground.data }, { on := 3, ground := Ground.data }], guard := none }) (v := .bool true) rfl (by kernel_rfl) (by kernel_rfl) (by kernel_rfl) (fun _ _ _ h => h) (Or.inl ⟨by rfl, ?_⟩) (by assumption) ?_
    · (intro wq hSw; (try dsimp only at hSw); go_simp; first | done | with_reducible rfl | (simp; done) | (simp [str]))
    try simp only [Act.put, List.setIfInBounds_toArray, List.set_cons_zero, List.set_cons_succ]
    refine wpAnyH_take (i := 5) (oi := { dst := some 88, op := Op.move (Operand.tmp 87), type := 4, pos := "law.go:90", after := #[{ on := 4, ground := Ground.data }, { on := 1, ground := Ground.chain }], guard := none }) (v := ?_) rfl (by kernel_rfl) (by kernel_rfl) (by kernel_rfl) (fun _ _ _ h => h) (Or.inl ⟨by rfl, ?_⟩) (by assumption) ?_
    rotate_left
    · (intro wq hSw; (try dsimp only at hSw); go_simp; first | done | with_reducible rfl)
    try simp only [Act.put, List.setIfInBounds_toArray, List.set_cons_zero, List.set_cons_succ]
    refine wpAnyH_take (i := 6) (oi := { dst := some 89, op := Op.move (Operand.tmp 9), type := 43, pos := "law.go:90", after := #[{ on := 5, ground := Ground.guard }], guard := some (5, true) }) (v := ?_) rfl (by kernel_rfl) (by kernel_rfl) (by kernel_rfl) (fun _ _ _ h => h) (Or.inl ⟨by rfl, ?_⟩) (by assumption) ?_
    rotate_left
    · (intro wq hSw; (try dsimp only at hSw); go_simp; first | done | with_reducible rfl)
    try simp only [Act.put, List.setIfInBounds_toArray, List.set_cons_zero, List.set_cons_succ]
    refine wpAnyH_take (i := 8) (oi := { dst := some 91, op := Op.load 25 (Operand.tmp 3), type := 25, pos := "law.go:90", after := #[{ on := 5, ground := Ground.guard }], guard := some (5, true) }) (v := ?_) rfl (by kernel_rfl) (by kernel_rfl) (by kernel_rfl) (fun _ _ _ h => h) (Or.inl ⟨by rfl, ?_⟩) (by assumption) ?_
    rotate_left
    · (intro wq hSw; (try dsimp only at hSw); go_simp; first | done | with_reducible rfl)
    try simp only [Act.put, List.setIfInBounds_toArray, List.set_cons_zero, List.set_cons_succ]
    refine wpAnyH_ready (rs := [7, 9]) (by kernel_rfl) (by simp) ?_
    refine AllReadyH.cons (o := { dst := some 90, op := Op.convert 43 9 (Operand.tmp 89), type := 9, pos := "law.go:90", after := #[{ on := 6, ground := Ground.data }, { on := 5, ground := Ground.guard }], guard := some (5, true) }) rfl (fun K hK => ?_) (AllReadyH.cons (o := { dst := some 92, op := Op.call { callee := Callee.value (Operand.func 30), args := #[Operand.tmp 91], argTypes := #[25] }, type := 9, pos := "law.go:90", after := #[{ on := 8, ground := Ground.data }, { on := 5, ground := Ground.chain }, { on := 5, ground := Ground.guard }], guard := some (5, true) }) rfl (fun K hK => ?_) AllReadyH.nil)
    · have hcv := run_str wk0 (HSB.out.new hn0)
      go_simp
      refine hK.out _ _ ?_ (fun hHeld => ?_)
      · exact hHeld
      clear hK K
      try simp only [Act.put, List.setIfInBounds_toArray, List.set_cons_zero, List.set_cons_succ]
      refine wpAnyH_ready (rs := [9]) (by kernel_rfl) (by simp) ?_
      refine AllReadyH.cons (o := { dst := some 92, op := Op.call { callee := Callee.value (Operand.func 30), args := #[Operand.tmp 91], argTypes := #[25] }, type := 9, pos := "law.go:90", after := #[{ on := 8, ground := Ground.data }, { on := 5, ground := Ground.chain }, { on := 5, ground := Ground.guard }], guard := some (5, true) }) rfl (fun K hK => ?_) AllReadyH.nil
      go_simp
      refine (hrb _ (HS0.out.new (HN10.out.trans hn0))).mono ?_
      rintro e9 wk1 ⟨rfl, hk1⟩
      have hn1 := (hn0).trans hk1
      refine hK.out _ _ ?_ (fun hHeld => ?_)
      · exact Held.of hn1
      clear hK K
      try simp only [Act.put, List.setIfInBounds_toArray, List.set_cons_zero, List.set_cons_succ]
      refine wpAnyH_take (i := 10) (oi := { dst := some 93, op := Op.binOp BinOp.eql 9 (Operand.tmp 90) (Operand.tmp 92) 9, type := 4, pos := "law.go:90", after := #[{ on := 7, ground := Ground.data }, { on := 9, ground := Ground.data }, { on := 5, ground := Ground.guard }], guard := some (5, true) }) (v := .bool true) rfl (by kernel_rfl) (by kernel_rfl) (by kernel_rfl) (fun _ _ _ h => h) (Or.inl ⟨by rfl, ?_⟩) (by assumption) ?_
      · (intro wq hSw; (try dsimp only at hSw); go_simp; first | done | with_reducible rfl | (simp; done) | (simp [str]))
      try simp only [Act.put, List.setIfInBounds_toArray, List.set_cons_zero, List.set_cons_succ]
      refine wpAnyH_take (i := 11) (oi := { dst := some 94, op := Op.pick (Operand.tmp 88) (Operand.tmp 93) (Operand.const (Value.bool false)), type := 4, pos := "law.go:90", after := #[{ on := 5, ground := Ground.data }, { on := 10, ground := Ground.data }], guard := none }) (v := .bool true) rfl (by kernel_rfl) (by kernel_rfl) (by kernel_rfl) (fun _ _ _ h => h) (Or.inl ⟨by rfl, ?_⟩) (by assumption) ?_
      · (intro wq hSw; (try dsimp only at hSw); go_simp; first | done | with_reducible rfl | (simp; done) | (simp [str]))
      try simp only [Act.put, List.setIfInBounds_toArray, List.set_cons_zero, List.set_cons_succ]
      refine wpAnyH_take (i := 12) (oi := { dst := some 95, op := Op.move (Operand.tmp 94), type := 4, pos := "law.go:90", after := #[{ on := 11, ground := Ground.data }, { on := 9, ground := Ground.chain }], guard := none }) (v := ?_) rfl (by kernel_rfl) (by kernel_rfl) (by kernel_rfl) (fun _ _ _ h => h) (Or.inl ⟨by rfl, ?_⟩) (by assumption) ?_
      rotate_left
      · (intro wq hSw; (try dsimp only at hSw); go_simp; first | done | with_reducible rfl)
      try simp only [Act.put, List.setIfInBounds_toArray, List.set_cons_zero, List.set_cons_succ]
      refine wpAnyH_take (i := 13) (oi := { dst := some 96, op := Op.move (Operand.tmp 12), type := 28, pos := "law.go:90", after := #[{ on := 12, ground := Ground.guard }], guard := some (12, true) }) (v := ?_) rfl (by kernel_rfl) (by kernel_rfl) (by kernel_rfl) (fun _ _ _ h => h) (Or.inl ⟨by rfl, ?_⟩) (by assumption) ?_
      rotate_left
      · (intro wq hSw; (try dsimp only at hSw); go_simp; first | done | with_reducible rfl)
      try simp only [Act.put, List.setIfInBounds_toArray, List.set_cons_zero, List.set_cons_succ]
      refine wpAnyH_take (i := 14) (oi := { dst := some 97, op := Op.binOp BinOp.eql 28 (Operand.tmp 96) (Operand.const (Value.int IntKind.i64 0)) 28, type := 4, pos := "law.go:90", after := #[{ on := 13, ground := Ground.data }, { on := 12, ground := Ground.guard }], guard := some (12, true) }) (v := .bool true) rfl (by kernel_rfl) (by kernel_rfl) (by kernel_rfl) (fun _ _ _ h => h) (Or.inl ⟨by rfl, ?_⟩) (by assumption) ?_
      · (intro wq hSw; (try dsimp only at hSw); go_simp; first | done | with_reducible rfl | (simp; done) | (simp [str]))
      try simp only [Act.put, List.setIfInBounds_toArray, List.set_cons_zero, List.set_cons_succ]
      refine wpAnyH_take (i := 15) (oi := { dst := some 98, op := Op.pick (Operand.tmp 95) (Operand.tmp 97) (Operand.const (Value.bool false)), type := 4, pos := "law.go:90", after := #[{ on := 12, ground := Ground.data }, { on := 14, ground := Ground.data }], guard := none }) (v := .bool true) rfl (by kernel_rfl) (by kernel_rfl) (by kernel_rfl) (fun _ _ _ h => h) (Or.inl ⟨by rfl, ?_⟩) (by assumption) ?_
      · (intro wq hSw; (try dsimp only at hSw); go_simp; first | done | with_reducible rfl | (simp; done) | (simp [str]))
      try simp only [Act.put, List.setIfInBounds_toArray, List.set_cons_zero, List.set_cons_succ]
      refine wpAnyH_take (i := 16) (oi := { dst := some 99, op := Op.move (Operand.tmp 98), type := 4, pos := "law.go:90", after := #[{ on := 15, ground := Ground.data }, { on := 12, ground := Ground.chain }], guard := none }) (v := ?_) rfl (by kernel_rfl) (by kernel_rfl) (by kernel_rfl) (fun _ _ _ h => h) (Or.inl ⟨by rfl, ?_⟩) (by assumption) ?_
      rotate_left
      · (intro wq hSw; (try dsimp only at hSw); go_simp; first | done | with_reducible rfl)
      try simp only [Act.put, List.setIfInBounds_toArray, List.set_cons_zero, List.set_cons_succ]
      refine wpAnyH_take (i := 17) (oi := { dst := some 100, op := Op.load 25 (Operand.tmp 11), type := 25, pos := "law.go:90", after := #[{ on := 16, ground := Ground.guard }], guard := some (16, true) }) (v := ?_) rfl (by kernel_rfl) (by kernel_rfl) (by kernel_rfl) (fun _ _ _ h => h) (Or.inl ⟨by rfl, ?_⟩) (by assumption) ?_
      rotate_left
      · (intro wq hSw; (try dsimp only at hSw); go_simp; first | done | with_reducible rfl)
      try simp only [Act.put, List.setIfInBounds_toArray, List.set_cons_zero, List.set_cons_succ]
      refine wpAnyH_take (i := 18) (oi := { dst := some 101, op := Op.load 25 (Operand.tmp 3), type := 25, pos := "law.go:90", after := #[{ on := 16, ground := Ground.guard }], guard := some (16, true) }) (v := ?_) rfl (by kernel_rfl) (by kernel_rfl) (by kernel_rfl) (fun _ _ _ h => h) (Or.inl ⟨by rfl, ?_⟩) (by assumption) ?_
      rotate_left
      · (intro wq hSw; (try dsimp only at hSw); go_simp; first | done | with_reducible rfl)
      try simp only [Act.put, List.setIfInBounds_toArray, List.set_cons_zero, List.set_cons_succ]
      refine wpAnyH_ready (rs := [19]) (by kernel_rfl) (by simp) ?_
      refine AllReadyH.cons (o := { dst := some 102, op := Op.call { callee := Callee.value (Operand.func 16), args := #[Operand.tmp 100, Operand.tmp 101], argTypes := #[25, 25] }, type := 4, pos := "law.go:90", after := #[{ on := 17, ground := Ground.data }, { on := 18, ground := Ground.data }, { on := 16, ground := Ground.chain }, { on := 16, ground := Ground.guard }], guard := some (16, true) }) rfl (fun K hK => ?_) AllReadyH.nil
      go_simp
      refine (refSame_any e _ ms e _ ms _ (by omega) (by omega) (HSX.out.new hn1) (HS0.out.new (HN10.out.trans hn1))).mono ?_
      rintro e9 wk2 ⟨rfl, hk2⟩
      rw [show sameC ⟨e, ms⟩ ⟨e, ms⟩ = true by simp [sameC]]
      have hn2 := (hn1).trans hk2
      refine hK.out _ _ ?_ (fun hHeld => ?_)
      · exact Held.of hn2
      clear hK K
      try simp only [Act.put, List.setIfInBounds_toArray, List.set_cons_zero, List.set_cons_succ]
      refine wpAnyH_take (i := 20) (oi := { dst := some 103, op := Op.pick (Operand.tmp 99) (Operand.tmp 102) (Operand.const (Value.bool false)), type := 4, pos := "law.go:90", after := #[{ on := 16, ground := Ground.data }, { on := 19, ground := Ground.data }], guard := none }) (v := .bool true) rfl (by kernel_rfl) (by kernel_rfl) (by kernel_rfl) (fun _ _ _ h => h) (Or.inl ⟨by rfl, ?_⟩) (by assumption) ?_
      · (intro wq hSw; (try dsimp only at hSw); go_simp; first | done | with_reducible rfl | (simp; done) | (simp [str]))
      try simp only [Act.put, List.setIfInBounds_toArray, List.set_cons_zero, List.set_cons_succ]
      refine wpAnyH_take (i := 21) (oi := { dst := some 4, op := Op.assign (Operand.tmp 103), type := 4, pos := "law.go:90", after := #[{ on := 20, ground := Ground.data }, { on := 19, ground := Ground.chain }, { on := 0, ground := Ground.phase }, { on := 1, ground := Ground.phase }, { on := 2, ground := Ground.phase }, { on := 3, ground := Ground.phase }, { on := 4, ground := Ground.phase }, { on := 5, ground := Ground.phase }, { on := 6, ground := Ground.phase }, { on := 7, ground := Ground.phase }, { on := 8, ground := Ground.phase }, { on := 9, ground := Ground.phase }, { on := 10, ground := Ground.phase }, { on := 11, ground := Ground.phase }, { on := 12, ground := Ground.phase }, { on := 13, ground := Ground.phase }, { on := 14, ground := Ground.phase }, { on := 15, ground := Ground.phase }, { on := 16, ground := Ground.phase }, { on := 17, ground := Ground.phase }, { on := 18, ground := Ground.phase }, { on := 19, ground := Ground.phase }, { on := 20, ground := Ground.phase }], guard := none }) (v := ?_) rfl (by kernel_rfl) (by kernel_rfl) (by kernel_rfl) (fun _ _ _ h => h) (Or.inl ⟨by rfl, ?_⟩) (by assumption) ?_
      rotate_left
      · (intro wq hSw; (try dsimp only at hSw); go_simp; first | done | with_reducible rfl)
      try simp only [Act.put, List.setIfInBounds_toArray, List.set_cons_zero, List.set_cons_succ]
      refine wpAnyH_done (by kernel_rfl) ?_ _
      clear hHeld
      go_wp2_with fail
      go_ret
      exact ⟨rfl, HN10.out.trans hn2⟩
    · go_simp
      refine (hrb _ (HS0.out.new (HN10.out.trans hn0))).mono ?_
      rintro e9 wk1 ⟨rfl, hk1⟩
      have hn1 := (hn0).trans hk1
      refine hK.out _ _ ?_ (fun hHeld => ?_)
      · exact Held.of hn1
      clear hK K
      try simp only [Act.put, List.setIfInBounds_toArray, List.set_cons_zero, List.set_cons_succ]
      refine wpAnyH_ready (rs := [7]) (by kernel_rfl) (by simp) ?_
      refine AllReadyH.cons (o := { dst := some 90, op := Op.convert 43 9 (Operand.tmp 89), type := 9, pos := "law.go:90", after := #[{ on := 6, ground := Ground.data }, { on := 5, ground := Ground.guard }], guard := some (5, true) }) rfl (fun K hK => ?_) AllReadyH.nil
      have hcv := run_str wk1 (HSB.out.new hn1)
      go_simp
      refine hK.out _ _ ?_ (fun hHeld => ?_)
      · exact hHeld
      clear hK K
      try simp only [Act.put, List.setIfInBounds_toArray, List.set_cons_zero, List.set_cons_succ]
      refine wpAnyH_take (i := 10) (oi := { dst := some 93, op := Op.binOp BinOp.eql 9 (Operand.tmp 90) (Operand.tmp 92) 9, type := 4, pos := "law.go:90", after := #[{ on := 7, ground := Ground.data }, { on := 9, ground := Ground.data }, { on := 5, ground := Ground.guard }], guard := some (5, true) }) (v := .bool true) rfl (by kernel_rfl) (by kernel_rfl) (by kernel_rfl) (fun _ _ _ h => h) (Or.inl ⟨by rfl, ?_⟩) (by assumption) ?_
      · (intro wq hSw; (try dsimp only at hSw); go_simp; first | done | with_reducible rfl | (simp; done) | (simp [str]))
      try simp only [Act.put, List.setIfInBounds_toArray, List.set_cons_zero, List.set_cons_succ]
      refine wpAnyH_take (i := 11) (oi := { dst := some 94, op := Op.pick (Operand.tmp 88) (Operand.tmp 93) (Operand.const (Value.bool false)), type := 4, pos := "law.go:90", after := #[{ on := 5, ground := Ground.data }, { on := 10, ground := Ground.data }], guard := none }) (v := .bool true) rfl (by kernel_rfl) (by kernel_rfl) (by kernel_rfl) (fun _ _ _ h => h) (Or.inl ⟨by rfl, ?_⟩) (by assumption) ?_
      · (intro wq hSw; (try dsimp only at hSw); go_simp; first | done | with_reducible rfl | (simp; done) | (simp [str]))
      try simp only [Act.put, List.setIfInBounds_toArray, List.set_cons_zero, List.set_cons_succ]
      refine wpAnyH_take (i := 12) (oi := { dst := some 95, op := Op.move (Operand.tmp 94), type := 4, pos := "law.go:90", after := #[{ on := 11, ground := Ground.data }, { on := 9, ground := Ground.chain }], guard := none }) (v := ?_) rfl (by kernel_rfl) (by kernel_rfl) (by kernel_rfl) (fun _ _ _ h => h) (Or.inl ⟨by rfl, ?_⟩) (by assumption) ?_
      rotate_left
      · (intro wq hSw; (try dsimp only at hSw); go_simp; first | done | with_reducible rfl)
      try simp only [Act.put, List.setIfInBounds_toArray, List.set_cons_zero, List.set_cons_succ]
      refine wpAnyH_take (i := 13) (oi := { dst := some 96, op := Op.move (Operand.tmp 12), type := 28, pos := "law.go:90", after := #[{ on := 12, ground := Ground.guard }], guard := some (12, true) }) (v := ?_) rfl (by kernel_rfl) (by kernel_rfl) (by kernel_rfl) (fun _ _ _ h => h) (Or.inl ⟨by rfl, ?_⟩) (by assumption) ?_
      rotate_left
      · (intro wq hSw; (try dsimp only at hSw); go_simp; first | done | with_reducible rfl)
      try simp only [Act.put, List.setIfInBounds_toArray, List.set_cons_zero, List.set_cons_succ]
      refine wpAnyH_take (i := 14) (oi := { dst := some 97, op := Op.binOp BinOp.eql 28 (Operand.tmp 96) (Operand.const (Value.int IntKind.i64 0)) 28, type := 4, pos := "law.go:90", after := #[{ on := 13, ground := Ground.data }, { on := 12, ground := Ground.guard }], guard := some (12, true) }) (v := .bool true) rfl (by kernel_rfl) (by kernel_rfl) (by kernel_rfl) (fun _ _ _ h => h) (Or.inl ⟨by rfl, ?_⟩) (by assumption) ?_
      · (intro wq hSw; (try dsimp only at hSw); go_simp; first | done | with_reducible rfl | (simp; done) | (simp [str]))
      try simp only [Act.put, List.setIfInBounds_toArray, List.set_cons_zero, List.set_cons_succ]
      refine wpAnyH_take (i := 15) (oi := { dst := some 98, op := Op.pick (Operand.tmp 95) (Operand.tmp 97) (Operand.const (Value.bool false)), type := 4, pos := "law.go:90", after := #[{ on := 12, ground := Ground.data }, { on := 14, ground := Ground.data }], guard := none }) (v := .bool true) rfl (by kernel_rfl) (by kernel_rfl) (by kernel_rfl) (fun _ _ _ h => h) (Or.inl ⟨by rfl, ?_⟩) (by assumption) ?_
      · (intro wq hSw; (try dsimp only at hSw); go_simp; first | done | with_reducible rfl | (simp; done) | (simp [str]))
      try simp only [Act.put, List.setIfInBounds_toArray, List.set_cons_zero, List.set_cons_succ]
      refine wpAnyH_take (i := 16) (oi := { dst := some 99, op := Op.move (Operand.tmp 98), type := 4, pos := "law.go:90", after := #[{ on := 15, ground := Ground.data }, { on := 12, ground := Ground.chain }], guard := none }) (v := ?_) rfl (by kernel_rfl) (by kernel_rfl) (by kernel_rfl) (fun _ _ _ h => h) (Or.inl ⟨by rfl, ?_⟩) (by assumption) ?_
      rotate_left
      · (intro wq hSw; (try dsimp only at hSw); go_simp; first | done | with_reducible rfl)
      try simp only [Act.put, List.setIfInBounds_toArray, List.set_cons_zero, List.set_cons_succ]
      refine wpAnyH_take (i := 17) (oi := { dst := some 100, op := Op.load 25 (Operand.tmp 11), type := 25, pos := "law.go:90", after := #[{ on := 16, ground := Ground.guard }], guard := some (16, true) }) (v := ?_) rfl (by kernel_rfl) (by kernel_rfl) (by kernel_rfl) (fun _ _ _ h => h) (Or.inl ⟨by rfl, ?_⟩) (by assumption) ?_
      rotate_left
      · (intro wq hSw; (try dsimp only at hSw); go_simp; first | done | with_reducible rfl)
      try simp only [Act.put, List.setIfInBounds_toArray, List.set_cons_zero, List.set_cons_succ]
      refine wpAnyH_take (i := 18) (oi := { dst := some 101, op := Op.load 25 (Operand.tmp 3), type := 25, pos := "law.go:90", after := #[{ on := 16, ground := Ground.guard }], guard := some (16, true) }) (v := ?_) rfl (by kernel_rfl) (by kernel_rfl) (by kernel_rfl) (fun _ _ _ h => h) (Or.inl ⟨by rfl, ?_⟩) (by assumption) ?_
      rotate_left
      · (intro wq hSw; (try dsimp only at hSw); go_simp; first | done | with_reducible rfl)
      try simp only [Act.put, List.setIfInBounds_toArray, List.set_cons_zero, List.set_cons_succ]
      refine wpAnyH_ready (rs := [19]) (by kernel_rfl) (by simp) ?_
      refine AllReadyH.cons (o := { dst := some 102, op := Op.call { callee := Callee.value (Operand.func 16), args := #[Operand.tmp 100, Operand.tmp 101], argTypes := #[25, 25] }, type := 4, pos := "law.go:90", after := #[{ on := 17, ground := Ground.data }, { on := 18, ground := Ground.data }, { on := 16, ground := Ground.chain }, { on := 16, ground := Ground.guard }], guard := some (16, true) }) rfl (fun K hK => ?_) AllReadyH.nil
      go_simp
      refine (refSame_any e _ ms e _ ms _ (by omega) (by omega) (HSX.out.new hn1) (HS0.out.new (HN10.out.trans hn1))).mono ?_
      rintro e9 wk2 ⟨rfl, hk2⟩
      rw [show sameC ⟨e, ms⟩ ⟨e, ms⟩ = true by simp [sameC]]
      have hn2 := (hn1).trans hk2
      refine hK.out _ _ ?_ (fun hHeld => ?_)
      · exact Held.of hn2
      clear hK K
      try simp only [Act.put, List.setIfInBounds_toArray, List.set_cons_zero, List.set_cons_succ]
      refine wpAnyH_take (i := 20) (oi := { dst := some 103, op := Op.pick (Operand.tmp 99) (Operand.tmp 102) (Operand.const (Value.bool false)), type := 4, pos := "law.go:90", after := #[{ on := 16, ground := Ground.data }, { on := 19, ground := Ground.data }], guard := none }) (v := .bool true) rfl (by kernel_rfl) (by kernel_rfl) (by kernel_rfl) (fun _ _ _ h => h) (Or.inl ⟨by rfl, ?_⟩) (by assumption) ?_
      · (intro wq hSw; (try dsimp only at hSw); go_simp; first | done | with_reducible rfl | (simp; done) | (simp [str]))
      try simp only [Act.put, List.setIfInBounds_toArray, List.set_cons_zero, List.set_cons_succ]
      refine wpAnyH_take (i := 21) (oi := { dst := some 4, op := Op.assign (Operand.tmp 103), type := 4, pos := "law.go:90", after := #[{ on := 20, ground := Ground.data }, { on := 19, ground := Ground.chain }, { on := 0, ground := Ground.phase }, { on := 1, ground := Ground.phase }, { on := 2, ground := Ground.phase }, { on := 3, ground := Ground.phase }, { on := 4, ground := Ground.phase }, { on := 5, ground := Ground.phase }, { on := 6, ground := Ground.phase }, { on := 7, ground := Ground.phase }, { on := 8, ground := Ground.phase }, { on := 9, ground := Ground.phase }, { on := 10, ground := Ground.phase }, { on := 11, ground := Ground.phase }, { on := 12, ground := Ground.phase }, { on := 13, ground := Ground.phase }, { on := 14, ground := Ground.phase }, { on := 15, ground := Ground.phase }, { on := 16, ground := Ground.phase }, { on := 17, ground := Ground.phase }, { on := 18, ground := Ground.phase }, { on := 19, ground := Ground.phase }, { on := 20, ground := Ground.phase }], guard := none }) (v := ?_) rfl (by kernel_rfl) (by kernel_rfl) (by kernel_rfl) (fun _ _ _ h => h) (Or.inl ⟨by rfl, ?_⟩) (by assumption) ?_
      rotate_left
      · (intro wq hSw; (try dsimp only at hSw); go_simp; first | done | with_reducible rfl)
      try simp only [Act.put, List.setIfInBounds_toArray, List.set_cons_zero, List.set_cons_succ]
      refine wpAnyH_done (by kernel_rfl) ?_ _
      clear hHeld
      go_wp2_with fail
      go_ret
      exact ⟨rfl, HN10.out.trans hn2⟩
end Go.Proofs.YtinpbjknakncdaaDoor
