/- Chapter 22 (decree): a packet arrives. Printed by genDg11.py. -/
import Derived.Test.YtghhcjpilcoblaaDg10
import Derived.Deep.RegionHeld3
import Derived.Deep.DeepCutAuto
namespace Go.Proofs.Ytghhcjpilcoblaa
open Go.RowKit Go.Lap
set_option linter.unusedVariables false
section
variable {w w' w'' wa w2 : World} {S : Nat → Prop} {gp n B k : Nat} {L : GpL} {g : Gm}
/-- What lies in memory once a packet has been taken apart. -/
def DvRel (w2 : World) (nb : Nat) (cs : Array Value) (s7 s8 : Value) (wx : World) : Prop :=
  ∃ c, s7 = .pointer (some ⟨c, 0, none⟩) ∧ s8 = .pointer (some ⟨nb, 0, none⟩) ∧ Blk wx c 107 cs ∧ w2.heap.size ≤ c ∧ New w2 wx
theorem map_erase (l : List Pkt) (i : Nat) : (l.map Pkt.pk).eraseIdx i = (l.eraseIdx i).map Pkt.pk := by rw [List.eraseIdx_eq_take_drop_succ, List.eraseIdx_eq_take_drop_succ, List.map_append, List.map_take, List.map_drop]
set_option maxRecDepth 100000 in
set_option maxHeartbeats 16000000 in
theorem gdl_five (h : GpAt w gp n B L g) (hok : GmOk n B g) (hn7 : n ≤ 7) (hB : B ≤ 100000000) {i : Nat} {p : Pkt} (hp : g.bg[i]? = some p) (hk : p.m.k = 5) :
    Calls Try.prog 51 #[.pointer (some ⟨gp, 0, none⟩), .int .i64 (i : Int)] w (ActPost w gp n (B + 1) L (.int .i64 0) (g.arrive n p (g.bg.eraseIdx i))) := by
  have hpo := hok.bg p (List.mem_of_getElem? hp)
  obtain ⟨fr, ds, m⟩ := p
  obtain ⟨hfr, hds, hmo⟩ := hpo
  have hmg := hmo.good (by omega)
  have hx0 := hok.nd ds hds
  have HPA := Lib.hid (parse_any m hmg)
  obtain ⟨mk, ms, mr, mn, mv, mh, mhr, mhn, mhv⟩ := m
  dsimp only at hfr hds hk
  subst hk
  have hN := (New.refl w).alloc (.cells #[.pointer (some ⟨gp, 0, none⟩)] 53)
  have hE := Blk.mk_new w 53 #[.pointer (some ⟨gp, 0, none⟩)]
  have h1 := h.new hN
  obtain ⟨g0, c0, c1, cz⟩ := h1.facts
  have HTK := Lib.hid (btake h1.bag (k := i) (x := (⟨(fr : Int), (ds : Int), str (Msg.enc ⟨5, ms, mr, mn, mv, mh, mhr, mhn, mhv⟩)⟩ : Pk)) (by rw [List.getElem?_map, hp]; rfl))
  rw [map_erase] at HTK
  have HH1 := Lib.hid h1
  have HN := Lib.hid hN
  have HE := Lib.hid hE
  have HOK := Lib.hid hok
  have HX0 := Lib.hid hx0
  have HMO := Lib.hid hmo
  have HDS := Lib.hid hds
  have HFR := Lib.hid hfr
  have HLT : Hid (∀ k, L.Fn ds k → k < w.heap.size) := Lib.hid (fun k hk => h.lt ds hds k hk)
  have HEB : Hid (¬ BgF L.bb L.lv w.heap.size) := Lib.hid (fun hk => by have := h.bag.lt _ hk; omega)
  clear h h1 hN hE hp hok hx0 hmo hmg
  have HW0 : Hid ((w.alloc (.cells #[.pointer (some ⟨gp, 0, none⟩)] 53)).heap.size = w.heap.size + 1) := Lib.hid (by simp)
  go_enter Try.func51, Try.ntmps51
  go_wp2_with fail
  generalize w.alloc (.cells #[.pointer (some ⟨gp, 0, none⟩)] 53) = w0 at *
  refine HTK.out.mono ?_
  intro e w1 hb
  obtain ⟨rfl, v', hg1, hu1, hv1⟩ := HH1.out.bagPost hb
  have hE1 := HE.out.upd hu1 HEB.out
  have hN2 := (New.refl w1).alloc (.cells #[.int .i64 (fr : Int), .int .i64 (ds : Int), .string (str (Msg.enc ⟨5, ms, mr, mn, mv, mh, mhr, mhn, mhv⟩))] 125)
  have hD2 := Blk.mk_new w1 125 #[.int .i64 (fr : Int), .int .i64 (ds : Int), .string (str (Msg.enc ⟨5, ms, mr, mn, mv, mh, mhr, mhn, mhv⟩))]
  have hE2 := hE1.new hN2
  have HG2 := Lib.hid (hg1.new hN2)
  have HSD := Lib.hid (show SdPost w0 gp n B L g (g.bg.eraseIdx i) w1 from ⟨v', hg1, hu1, hv1⟩)
  have HG1 := Lib.hid hg1
  have HU1 := Lib.hid hu1
  have HV1 := Lib.hid hv1
  have HN2 := Lib.hid hN2
  clear hb hg1 hu1 hv1 hE1 g0 c0 c1 cz hN2
  go_upto_region 4 with fail
  generalize w1.alloc (.cells #[.int .i64 (fr : Int), .int .i64 (ds : Int), .string (str (Msg.enc ⟨5, ms, mr, mn, mv, mh, mhr, mhn, mhv⟩))] 125) = w2 at *
  have hDl := hD2.lt
  have HDG : Hid (w.heap.size < w1.heap.size) := Lib.hid (by have := HU1.out.size; have := HW0.out; omega)
  generalize w1.heap.size = d at *
  have x0 := hE2.cell 0
  have xl := hE2.lt
  have y0 := hD2.cell 0
  have y1 := hD2.cell 1
  have y2 := hD2.cell 2
  simp at x0 y0 y1 y2
  have HR2 : Hid (RpAt w2 w.heap.size d gp fr ds (str (Msg.enc ⟨5, ms, mr, mn, mv, mh, mhr, mhn, mhv⟩))) := Lib.hid ⟨hE2, hD2⟩
  clear hE2 hD2
  go_cut [7, 8] (fun s7 s8 wx => DvRel w2 (L.nb ds) #[.int .i64 ((5 : Nat) : Int), .int .u64 (ms : Int), .int .u64 (mr : Int), .int .u64 (mn : Int), .string mv, .bool mh, .int .u64 (mhr : Int), .int .u64 (mhn : Int), .string mhv] s7 s8 wx)
  case first =>
    refine wp_region_held_drew (S := fun w' => Held w2 w') (by kernel_rfl) (Held.of (New.refl _).drew) (fun hHeld => ?_)
    refine wpAnyH_take (i := 0) (oi := { dst := some 25, op := Op.fieldAddr 125 (Operand.tmp 5) 2, type := 0, pos := "decree.go:180", after := #[], guard := none }) (v := ?_) rfl (by kernel_rfl) (by kernel_rfl) (by kernel_rfl) (fun _ _ _ h => h) (Or.inl ⟨by rfl, ?_⟩) (by assumption) ?_
    rotate_left
    · (intro wq hSw; (try dsimp only at hSw); go_simp; first | done | with_reducible rfl)
    try simp only [Act.put, List.setIfInBounds_toArray, List.set_cons_zero, List.set_cons_succ]
    refine wpAnyH_take (i := 1) (oi := { dst := some 26, op := Op.load 9 (Operand.tmp 25), type := 9, pos := "decree.go:180", after := #[{ on := 0, ground := Ground.data }], guard := none }) (v := ?_) rfl (by kernel_rfl) (by kernel_rfl) (by kernel_rfl) (fun _ _ _ h => h) (Or.inl ⟨by rfl, ?_⟩) (by assumption) ?_
    rotate_left
    · (intro wq hSw; (try dsimp only at hSw); go_simp; first | done | with_reducible rfl)
    try simp only [Act.put, List.setIfInBounds_toArray, List.set_cons_zero, List.set_cons_succ]
    refine wpAnyH_take (i := 3) (oi := { dst := some 28, op := Op.load 53 (Operand.tmp 2), type := 53, pos := "decree.go:180", after := #[], guard := none }) (v := ?_) rfl (by kernel_rfl) (by kernel_rfl) (by kernel_rfl) (fun _ _ _ h => h) (Or.inl ⟨by rfl, ?_⟩) (by assumption) ?_
    rotate_left
    · (intro wq hSw; (try dsimp only at hSw); go_simp; first | done | with_reducible rfl)
    try simp only [Act.put, List.setIfInBounds_toArray, List.set_cons_zero, List.set_cons_succ]
    refine wpAnyH_take (i := 4) (oi := { dst := some 29, op := Op.fieldAddr 125 (Operand.tmp 5) 1, type := 0, pos := "decree.go:180", after := #[], guard := none }) (v := ?_) rfl (by kernel_rfl) (by kernel_rfl) (by kernel_rfl) (fun _ _ _ h => h) (Or.inl ⟨by rfl, ?_⟩) (by assumption) ?_
    rotate_left
    · (intro wq hSw; (try dsimp only at hSw); go_simp; first | done | with_reducible rfl)
    try simp only [Act.put, List.setIfInBounds_toArray, List.set_cons_zero, List.set_cons_succ]
    refine wpAnyH_take (i := 5) (oi := { dst := some 30, op := Op.load 3 (Operand.tmp 29), type := 3, pos := "decree.go:180", after := #[{ on := 4, ground := Ground.data }], guard := none }) (v := ?_) rfl (by kernel_rfl) (by kernel_rfl) (by kernel_rfl) (fun _ _ _ h => h) (Or.inl ⟨by rfl, ?_⟩) (by assumption) ?_
    rotate_left
    · (intro wq hSw; (try dsimp only at hSw); go_simp; first | done | with_reducible rfl)
    try simp only [Act.put, List.setIfInBounds_toArray, List.set_cons_zero, List.set_cons_succ]
    refine wpAnyH_ready (rs := [2, 7]) (by kernel_rfl) (by simp) ?_
    refine AllReadyH.cons (o := { dst := some 27, op := Op.call { callee := Callee.value (Operand.func 62), args := #[Operand.tmp 26], argTypes := #[9] }, type := 107, pos := "decree.go:180", after := #[{ on := 1, ground := Ground.data }], guard := none }) rfl (fun K hK => ?_) (AllReadyH.cons (o := { dst := some 7, op := Op.alloc 107, type := 0, pos := "decree.go:180", after := #[], guard := none }) rfl (fun K hK => ?_) AllReadyH.nil)
    · go_simp
      refine (HPA.out _).mono ?_
      rintro e wp ⟨rfl, hnp⟩
      have hN3 := (((New.refl w2).drew)).trans hnp
      refine hK.out _ _ ?_ (fun hHeld => ?_)
      · exact Held.of hN3
      clear hK K
      try simp only [Act.put, List.setIfInBounds_toArray, List.set_cons_zero, List.set_cons_succ]
      refine wpAnyH_ready (rs := [6, 7]) (by kernel_rfl) (by simp) ?_
      refine AllReadyH.cons (o := { dst := some 31, op := Op.call { callee := Callee.value (Operand.func 46), args := #[Operand.tmp 28, Operand.tmp 30], argTypes := #[53, 3] }, type := 95, pos := "decree.go:180", after := #[{ on := 3, ground := Ground.data }, { on := 5, ground := Ground.data }, { on := 2, ground := Ground.chain }], guard := none }) rfl (fun K hK => ?_) (AllReadyH.cons (o := { dst := some 7, op := Op.alloc 107, type := 0, pos := "decree.go:180", after := #[], guard := none }) rfl (fun K hK => ?_) AllReadyH.nil)
      · go_simp
        refine (gat (HG2.out.new (hN3)) HDS.out).mono ?_
        rintro e wq ⟨rfl, hwq⟩
        subst wq
        refine hK.out _ _ ?_ (fun hHeld => ?_)
        · exact Held.of (hN3)
        clear hK K
        skip
        refine wpAnyH_ready (rs := [7]) (by kernel_rfl) (by simp) ?_
        refine AllReadyH.cons (o := { dst := some 7, op := Op.alloc 107, type := 0, pos := "decree.go:180", after := #[], guard := none }) rfl (fun K hK => ?_) AllReadyH.nil
        go_simp
        have hN4 := (hN3).alloc (.cells #[.int .i64 0, .int .u64 0, .int .u64 0, .int .u64 0, .string ⟨#[]⟩, .bool false, .int .u64 0, .int .u64 0, .string ⟨#[]⟩] 107)
        have hz4 : Blk (wp.alloc (.cells #[.int .i64 0, .int .u64 0, .int .u64 0, .int .u64 0, .string ⟨#[]⟩, .bool false, .int .u64 0, .int .u64 0, .string ⟨#[]⟩] 107)) wp.heap.size 107 #[.int .i64 0, .int .u64 0, .int .u64 0, .int .u64 0, .string ⟨#[]⟩, .bool false, .int .u64 0, .int .u64 0, .string ⟨#[]⟩] := Blk.mk_new wp 107 #[.int .i64 0, .int .u64 0, .int .u64 0, .int .u64 0, .string ⟨#[]⟩, .bool false, .int .u64 0, .int .u64 0, .string ⟨#[]⟩]
        refine hK.out _ _ ?_ (fun hHeld => ?_)
        · exact Held.of hN4
        clear hK K
        try simp only [Act.put, List.setIfInBounds_toArray, List.set_cons_zero, List.set_cons_succ]
        refine wpAnyH_ready (rs := [8]) (by kernel_rfl) (by simp) ?_
        refine AllReadyH.cons (o := { dst := none, op := Op.store 107 (Operand.tmp 7) (Operand.tmp 27), type := 0, pos := "decree.go:180", after := #[{ on := 7, ground := Ground.data }, { on := 2, ground := Ground.data }, { on := 6, ground := Ground.chain }, { on := 0, ground := Ground.phase }, { on := 1, ground := Ground.phase }, { on := 2, ground := Ground.phase }, { on := 3, ground := Ground.textOnly Departure.lateStores }, { on := 4, ground := Ground.textOnly Departure.lateStores }, { on := 5, ground := Ground.textOnly Departure.lateStores }, { on := 6, ground := Ground.textOnly Departure.lateStoresUnsure }, { on := 7, ground := Ground.phase }], guard := none }) rfl (fun K hK => ?_) AllReadyH.nil
        go_simp
        have hN5 := (hN3).alloc (.cells #[.int .i64 ((5 : Nat) : Int), .int .u64 (ms : Int), .int .u64 (mr : Int), .int .u64 (mn : Int), .string mv, .bool mh, .int .u64 (mhr : Int), .int .u64 (mhn : Int), .string mhv] 107)
        refine hK.out _ _ ?_ (fun hHeld => ?_)
        · exact Held.of hN5
        clear hK K
        skip
        refine wpAnyH_take (i := 9) (oi := { dst := some 8, op := Op.assign (Operand.tmp 31), type := 95, pos := "decree.go:180", after := #[{ on := 6, ground := Ground.data }, { on := 8, ground := Ground.chain }, { on := 0, ground := Ground.phase }, { on := 1, ground := Ground.phase }, { on := 2, ground := Ground.phase }, { on := 3, ground := Ground.phase }, { on := 4, ground := Ground.phase }, { on := 5, ground := Ground.phase }, { on := 6, ground := Ground.phase }, { on := 7, ground := Ground.phase }, { on := 8, ground := Ground.phase }], guard := none }) (v := ?_) rfl (by kernel_rfl) (by kernel_rfl) (by kernel_rfl) (fun _ _ _ h => h) (Or.inl ⟨by rfl, ?_⟩) (by assumption) ?_
        rotate_left
        · (intro wq hSw; (try dsimp only at hSw); go_simp; first | done | with_reducible rfl)
        try simp only [Act.put, List.setIfInBounds_toArray, List.set_cons_zero, List.set_cons_succ]
        refine wpAnyH_done (by kernel_rfl) ?_ _
        clear hHeld
        have hbF := (Blk.mk_new wp 107 #[.int .i64 ((5 : Nat) : Int), .int .u64 (ms : Int), .int .u64 (mr : Int), .int .u64 (mn : Int), .string mv, .bool mh, .int .u64 (mhr : Int), .int .u64 (mhn : Int), .string mhv])
        go_wp2_with fail
        go_meet
        exact ⟨wp.heap.size, rfl, rfl, hbF, (by first | exact Nat.le_refl _ | exact (hN3).size), hN5⟩
      · go_simp
        have hN4 := (hN3).alloc (.cells #[.int .i64 0, .int .u64 0, .int .u64 0, .int .u64 0, .string ⟨#[]⟩, .bool false, .int .u64 0, .int .u64 0, .string ⟨#[]⟩] 107)
        have hz4 : Blk (wp.alloc (.cells #[.int .i64 0, .int .u64 0, .int .u64 0, .int .u64 0, .string ⟨#[]⟩, .bool false, .int .u64 0, .int .u64 0, .string ⟨#[]⟩] 107)) wp.heap.size 107 #[.int .i64 0, .int .u64 0, .int .u64 0, .int .u64 0, .string ⟨#[]⟩, .bool false, .int .u64 0, .int .u64 0, .string ⟨#[]⟩] := Blk.mk_new wp 107 #[.int .i64 0, .int .u64 0, .int .u64 0, .int .u64 0, .string ⟨#[]⟩, .bool false, .int .u64 0, .int .u64 0, .string ⟨#[]⟩]
        refine hK.out _ _ ?_ (fun hHeld => ?_)
        · exact Held.of hN4
        clear hK K
        try simp only [Act.put, List.setIfInBounds_toArray, List.set_cons_zero, List.set_cons_succ]
        refine wpAnyH_ready (rs := [6]) (by kernel_rfl) (by simp) ?_
        refine AllReadyH.cons (o := { dst := some 31, op := Op.call { callee := Callee.value (Operand.func 46), args := #[Operand.tmp 28, Operand.tmp 30], argTypes := #[53, 3] }, type := 95, pos := "decree.go:180", after := #[{ on := 3, ground := Ground.data }, { on := 5, ground := Ground.data }, { on := 2, ground := Ground.chain }], guard := none }) rfl (fun K hK => ?_) AllReadyH.nil
        go_simp
        refine (gat (HG2.out.new (hN4)) HDS.out).mono ?_
        rintro e wq ⟨rfl, hwq⟩
        subst wq
        refine hK.out _ _ ?_ (fun hHeld => ?_)
        · exact Held.of (hN4)
        clear hK K
        skip
        refine wpAnyH_ready (rs := [8]) (by kernel_rfl) (by simp) ?_
        refine AllReadyH.cons (o := { dst := none, op := Op.store 107 (Operand.tmp 7) (Operand.tmp 27), type := 0, pos := "decree.go:180", after := #[{ on := 7, ground := Ground.data }, { on := 2, ground := Ground.data }, { on := 6, ground := Ground.chain }, { on := 0, ground := Ground.phase }, { on := 1, ground := Ground.phase }, { on := 2, ground := Ground.phase }, { on := 3, ground := Ground.textOnly Departure.lateStores }, { on := 4, ground := Ground.textOnly Departure.lateStores }, { on := 5, ground := Ground.textOnly Departure.lateStores }, { on := 6, ground := Ground.textOnly Departure.lateStoresUnsure }, { on := 7, ground := Ground.phase }], guard := none }) rfl (fun K hK => ?_) AllReadyH.nil
        go_simp
        have hN5 := (hN3).alloc (.cells #[.int .i64 ((5 : Nat) : Int), .int .u64 (ms : Int), .int .u64 (mr : Int), .int .u64 (mn : Int), .string mv, .bool mh, .int .u64 (mhr : Int), .int .u64 (mhn : Int), .string mhv] 107)
        refine hK.out _ _ ?_ (fun hHeld => ?_)
        · exact Held.of hN5
        clear hK K
        skip
        refine wpAnyH_take (i := 9) (oi := { dst := some 8, op := Op.assign (Operand.tmp 31), type := 95, pos := "decree.go:180", after := #[{ on := 6, ground := Ground.data }, { on := 8, ground := Ground.chain }, { on := 0, ground := Ground.phase }, { on := 1, ground := Ground.phase }, { on := 2, ground := Ground.phase }, { on := 3, ground := Ground.phase }, { on := 4, ground := Ground.phase }, { on := 5, ground := Ground.phase }, { on := 6, ground := Ground.phase }, { on := 7, ground := Ground.phase }, { on := 8, ground := Ground.phase }], guard := none }) (v := ?_) rfl (by kernel_rfl) (by kernel_rfl) (by kernel_rfl) (fun _ _ _ h => h) (Or.inl ⟨by rfl, ?_⟩) (by assumption) ?_
        rotate_left
        · (intro wq hSw; (try dsimp only at hSw); go_simp; first | done | with_reducible rfl)
        try simp only [Act.put, List.setIfInBounds_toArray, List.set_cons_zero, List.set_cons_succ]
        refine wpAnyH_done (by kernel_rfl) ?_ _
        clear hHeld
        have hbF := (Blk.mk_new wp 107 #[.int .i64 ((5 : Nat) : Int), .int .u64 (ms : Int), .int .u64 (mr : Int), .int .u64 (mn : Int), .string mv, .bool mh, .int .u64 (mhr : Int), .int .u64 (mhn : Int), .string mhv])
        go_wp2_with fail
        go_meet
        exact ⟨wp.heap.size, rfl, rfl, hbF, (by first | exact Nat.le_refl _ | exact (hN3).size), hN5⟩
    · go_simp
      have hN4 := (((New.refl w2).drew)).alloc (.cells #[.int .i64 0, .int .u64 0, .int .u64 0, .int .u64 0, .string ⟨#[]⟩, .bool false, .int .u64 0, .int .u64 0, .string ⟨#[]⟩] 107)
      have hz4 : Blk (w2.drew.alloc (.cells #[.int .i64 0, .int .u64 0, .int .u64 0, .int .u64 0, .string ⟨#[]⟩, .bool false, .int .u64 0, .int .u64 0, .string ⟨#[]⟩] 107)) w2.heap.size 107 #[.int .i64 0, .int .u64 0, .int .u64 0, .int .u64 0, .string ⟨#[]⟩, .bool false, .int .u64 0, .int .u64 0, .string ⟨#[]⟩] := Blk.mk_new w2.drew 107 #[.int .i64 0, .int .u64 0, .int .u64 0, .int .u64 0, .string ⟨#[]⟩, .bool false, .int .u64 0, .int .u64 0, .string ⟨#[]⟩]
      refine hK.out _ _ ?_ (fun hHeld => ?_)
      · exact Held.of hN4
      clear hK K
      try simp only [Act.put, List.setIfInBounds_toArray, List.set_cons_zero, List.set_cons_succ]
      refine wpAnyH_ready (rs := [2]) (by kernel_rfl) (by simp) ?_
      refine AllReadyH.cons (o := { dst := some 27, op := Op.call { callee := Callee.value (Operand.func 62), args := #[Operand.tmp 26], argTypes := #[9] }, type := 107, pos := "decree.go:180", after := #[{ on := 1, ground := Ground.data }], guard := none }) rfl (fun K hK => ?_) AllReadyH.nil
      go_simp
      refine (HPA.out _).mono ?_
      rintro e wp ⟨rfl, hnp⟩
      have hN3 := (hN4).trans hnp
      have hz3 := hz4.new hnp
      obtain ⟨zl, z0, z1, z2, z3, z4, z5, z6, z7, z8, zz⟩ := Blk9F hz3
      refine hK.out _ _ ?_ (fun hHeld => ?_)
      · exact Held.of hN3
      clear hK K
      try simp only [Act.put, List.setIfInBounds_toArray, List.set_cons_zero, List.set_cons_succ]
      refine wpAnyH_ready (rs := [6]) (by kernel_rfl) (by simp) ?_
      refine AllReadyH.cons (o := { dst := some 31, op := Op.call { callee := Callee.value (Operand.func 46), args := #[Operand.tmp 28, Operand.tmp 30], argTypes := #[53, 3] }, type := 95, pos := "decree.go:180", after := #[{ on := 3, ground := Ground.data }, { on := 5, ground := Ground.data }, { on := 2, ground := Ground.chain }], guard := none }) rfl (fun K hK => ?_) AllReadyH.nil
      go_simp
      refine (gat (HG2.out.new (hN3)) HDS.out).mono ?_
      rintro e wq ⟨rfl, hwq⟩
      subst wq
      refine hK.out _ _ ?_ (fun hHeld => ?_)
      · exact Held.of (hN3)
      clear hK K
      skip
      refine wpAnyH_ready (rs := [8]) (by kernel_rfl) (by simp) ?_
      refine AllReadyH.cons (o := { dst := none, op := Op.store 107 (Operand.tmp 7) (Operand.tmp 27), type := 0, pos := "decree.go:180", after := #[{ on := 7, ground := Ground.data }, { on := 2, ground := Ground.data }, { on := 6, ground := Ground.chain }, { on := 0, ground := Ground.phase }, { on := 1, ground := Ground.phase }, { on := 2, ground := Ground.phase }, { on := 3, ground := Ground.textOnly Departure.lateStores }, { on := 4, ground := Ground.textOnly Departure.lateStores }, { on := 5, ground := Ground.textOnly Departure.lateStores }, { on := 6, ground := Ground.textOnly Departure.lateStoresUnsure }, { on := 7, ground := Ground.phase }], guard := none }) rfl (fun K hK => ?_) AllReadyH.nil
      go_simp
      have hN5 := (New.setCell (New.setCell (New.setCell (New.setCell (New.setCell (New.setCell (New.setCell (New.setCell (New.setCell hN3 (p := ⟨w2.heap.size, 0, none⟩) (Nat.le_refl _) (.int .i64 ((5 : Nat) : Int))) (p := ⟨w2.heap.size, 1, none⟩) (Nat.le_refl _) (.int .u64 (ms : Int))) (p := ⟨w2.heap.size, 2, none⟩) (Nat.le_refl _) (.int .u64 (mr : Int))) (p := ⟨w2.heap.size, 3, none⟩) (Nat.le_refl _) (.int .u64 (mn : Int))) (p := ⟨w2.heap.size, 4, none⟩) (Nat.le_refl _) (.string mv)) (p := ⟨w2.heap.size, 5, none⟩) (Nat.le_refl _) (.bool mh)) (p := ⟨w2.heap.size, 6, none⟩) (Nat.le_refl _) (.int .u64 (mhr : Int))) (p := ⟨w2.heap.size, 7, none⟩) (Nat.le_refl _) (.int .u64 (mhn : Int))) (p := ⟨w2.heap.size, 8, none⟩) (Nat.le_refl _) (.string mhv))
      refine hK.out _ _ ?_ (fun hHeld => ?_)
      · exact Held.of hN5
      clear hK K
      skip
      refine wpAnyH_take (i := 9) (oi := { dst := some 8, op := Op.assign (Operand.tmp 31), type := 95, pos := "decree.go:180", after := #[{ on := 6, ground := Ground.data }, { on := 8, ground := Ground.chain }, { on := 0, ground := Ground.phase }, { on := 1, ground := Ground.phase }, { on := 2, ground := Ground.phase }, { on := 3, ground := Ground.phase }, { on := 4, ground := Ground.phase }, { on := 5, ground := Ground.phase }, { on := 6, ground := Ground.phase }, { on := 7, ground := Ground.phase }, { on := 8, ground := Ground.phase }], guard := none }) (v := ?_) rfl (by kernel_rfl) (by kernel_rfl) (by kernel_rfl) (fun _ _ _ h => h) (Or.inl ⟨by rfl, ?_⟩) (by assumption) ?_
      rotate_left
      · (intro wq hSw; (try dsimp only at hSw); go_simp; first | done | with_reducible rfl)
      try simp only [Act.put, List.setIfInBounds_toArray, List.set_cons_zero, List.set_cons_succ]
      refine wpAnyH_done (by kernel_rfl) ?_ _
      clear hHeld
      have hbF := (Blk.set_ (Blk.set_ (Blk.set_ (Blk.set_ (Blk.set_ (Blk.set_ (Blk.set_ (Blk.set_ (Blk.set_ hz3 0 (.int .i64 ((5 : Nat) : Int))) 1 (.int .u64 (ms : Int))) 2 (.int .u64 (mr : Int))) 3 (.int .u64 (mn : Int))) 4 (.string mv)) 5 (.bool mh)) 6 (.int .u64 (mhr : Int))) 7 (.int .u64 (mhn : Int))) 8 (.string mhv))
      go_wp2_with fail
      go_meet
      exact ⟨w2.heap.size, rfl, rfl, hbF, (by first | exact Nat.le_refl _ | exact (hN3).size), hN5⟩
  case rest =>
    obtain ⟨c, rfl, rfl, hM, hc, hn3⟩ := hcut
    have HG3 := Lib.hid (HG2.out.new hn3)
    have HR3 : Hid (RpAt wc w.heap.size d gp fr ds (str (Msg.enc ⟨5, ms, mr, mn, mv, mh, mhr, mhn, mhv⟩))) := Lib.hid ⟨HR2.out.c.new hn3, HR2.out.d.new hn3⟩
    have HN3 := Lib.hid (HN2.out.trans hn3)
    obtain ⟨p0, a0, a1, a2, a3, a4, a5, a6, a7, a8, az⟩ := Blk9F hM
    have HM := Lib.hid hM
    clear x0 xl y0 y1 y2 hDl
    have xl := HR3.out.c.lt
    have x0 := HR3.out.c.cell 0
    have dl := HR3.out.d.lt
    have d0 := HR3.out.d.cell 0
    have d1 := HR3.out.d.cell 1
    simp at x0 d0 d1
    clear hM hn3
    have hms : ms < B := HMO.out.s
    have HKN := Lib.hid (nknow (HG3.out.nd ds HDS.out) (s := ms) (by omega) mv (by omega) (by have := HX0.out.pl; show (g.nd ds).pe.length ≤ _; omega))
    clear hms
    go_wp2_with fail
    refine HKN.out.mono ?_
    rintro e w9 ⟨rfl, l9, hX9, hu9⟩
    have hq9 := HG3.out.ndPost HDS.out (hu9.mono fun k _ e => e.elim (fun e => by rw [e]; exact (HG3.out.nd ds HDS.out).f1.1) (fun e => by rw [e]; exact (HG3.out.nd ds HDS.out).f1.2.2)) hX9 (fun k hk => .inl hk) (Nat.le_succ B)
    have HQ9 := Lib.hid hq9
    clear hX9 hu9 hq9 p0 a0 a1 a2 a3 a4 a5 a6 a7 a8 az xl x0 dl d0 d1
    go_wp2_with fail
    go_ret
    refine ⟨rfl, GrPost.pre HN.out (GrPost.trans (sdGro HG1.out HU1.out HV1.out).1 (sdGro HG1.out HU1.out HV1.out).2 (GrPost.pre HN3.out ?_))⟩
    exact HQ9.out
set_option maxRecDepth 100000 in
set_option maxHeartbeats 16000000 in
theorem gdl_one (h : GpAt w gp n B L g) (hok : GmOk n B g) (hn7 : n ≤ 7) (hB : B ≤ 100000000) {i : Nat} {p : Pkt} (hp : g.bg[i]? = some p) (hk : p.m.k = 1) :
    Calls Try.prog 51 #[.pointer (some ⟨gp, 0, none⟩), .int .i64 (i : Int)] w (ActPost w gp n (B + 1) L (.int .i64 0) (g.arrive n p (g.bg.eraseIdx i))) := by
  have hpo := hok.bg p (List.mem_of_getElem? hp)
  obtain ⟨fr, ds, m⟩ := p
  obtain ⟨hfr, hds, hmo⟩ := hpo
  have hmg := hmo.good (by omega)
  have hx0 := hok.nd ds hds
  have HPA := Lib.hid (parse_any m hmg)
  obtain ⟨mk, ms, mr, mn, mv, mh, mhr, mhn, mhv⟩ := m
  dsimp only at hfr hds hk
  subst hk
  have hN := (New.refl w).alloc (.cells #[.pointer (some ⟨gp, 0, none⟩)] 53)
  have hE := Blk.mk_new w 53 #[.pointer (some ⟨gp, 0, none⟩)]
  have h1 := h.new hN
  obtain ⟨g0, c0, c1, cz⟩ := h1.facts
  have HTK := Lib.hid (btake h1.bag (k := i) (x := (⟨(fr : Int), (ds : Int), str (Msg.enc ⟨1, ms, mr, mn, mv, mh, mhr, mhn, mhv⟩)⟩ : Pk)) (by rw [List.getElem?_map, hp]; rfl))
  rw [map_erase] at HTK
  have HH1 := Lib.hid h1
  have HN := Lib.hid hN
  have HE := Lib.hid hE
  have HOK := Lib.hid hok
  have HX0 := Lib.hid hx0
  have HMO := Lib.hid hmo
  have HDS := Lib.hid hds
  have HFR := Lib.hid hfr
  have HLT : Hid (∀ k, L.Fn ds k → k < w.heap.size) := Lib.hid (fun k hk => h.lt ds hds k hk)
  have HEB : Hid (¬ BgF L.bb L.lv w.heap.size) := Lib.hid (fun hk => by have := h.bag.lt _ hk; omega)
  clear h h1 hN hE hp hok hx0 hmo hmg
  have HW0 : Hid ((w.alloc (.cells #[.pointer (some ⟨gp, 0, none⟩)] 53)).heap.size = w.heap.size + 1) := Lib.hid (by simp)
  go_enter Try.func51, Try.ntmps51
  go_wp2_with fail
  generalize w.alloc (.cells #[.pointer (some ⟨gp, 0, none⟩)] 53) = w0 at *
  refine HTK.out.mono ?_
  intro e w1 hb
  obtain ⟨rfl, v', hg1, hu1, hv1⟩ := HH1.out.bagPost hb
  have hE1 := HE.out.upd hu1 HEB.out
  have hN2 := (New.refl w1).alloc (.cells #[.int .i64 (fr : Int), .int .i64 (ds : Int), .string (str (Msg.enc ⟨1, ms, mr, mn, mv, mh, mhr, mhn, mhv⟩))] 125)
  have hD2 := Blk.mk_new w1 125 #[.int .i64 (fr : Int), .int .i64 (ds : Int), .string (str (Msg.enc ⟨1, ms, mr, mn, mv, mh, mhr, mhn, mhv⟩))]
  have hE2 := hE1.new hN2
  have HG2 := Lib.hid (hg1.new hN2)
  have HSD := Lib.hid (show SdPost w0 gp n B L g (g.bg.eraseIdx i) w1 from ⟨v', hg1, hu1, hv1⟩)
  have HG1 := Lib.hid hg1
  have HU1 := Lib.hid hu1
  have HV1 := Lib.hid hv1
  have HN2 := Lib.hid hN2
  clear hb hg1 hu1 hv1 hE1 g0 c0 c1 cz hN2
  go_upto_region 4 with fail
  generalize w1.alloc (.cells #[.int .i64 (fr : Int), .int .i64 (ds : Int), .string (str (Msg.enc ⟨1, ms, mr, mn, mv, mh, mhr, mhn, mhv⟩))] 125) = w2 at *
  have hDl := hD2.lt
  have HDG : Hid (w.heap.size < w1.heap.size) := Lib.hid (by have := HU1.out.size; have := HW0.out; omega)
  generalize w1.heap.size = d at *
  have x0 := hE2.cell 0
  have xl := hE2.lt
  have y0 := hD2.cell 0
  have y1 := hD2.cell 1
  have y2 := hD2.cell 2
  simp at x0 y0 y1 y2
  have HR2 : Hid (RpAt w2 w.heap.size d gp fr ds (str (Msg.enc ⟨1, ms, mr, mn, mv, mh, mhr, mhn, mhv⟩))) := Lib.hid ⟨hE2, hD2⟩
  clear hE2 hD2
  go_cut [7, 8] (fun s7 s8 wx => DvRel w2 (L.nb ds) #[.int .i64 ((1 : Nat) : Int), .int .u64 (ms : Int), .int .u64 (mr : Int), .int .u64 (mn : Int), .string mv, .bool mh, .int .u64 (mhr : Int), .int .u64 (mhn : Int), .string mhv] s7 s8 wx)
  case first =>
    refine wp_region_held_drew (S := fun w' => Held w2 w') (by kernel_rfl) (Held.of (New.refl _).drew) (fun hHeld => ?_)
    refine wpAnyH_take (i := 0) (oi := { dst := some 25, op := Op.fieldAddr 125 (Operand.tmp 5) 2, type := 0, pos := "decree.go:180", after := #[], guard := none }) (v := ?_) rfl (by kernel_rfl) (by kernel_rfl) (by kernel_rfl) (fun _ _ _ h => h) (Or.inl ⟨by rfl, ?_⟩) (by assumption) ?_
    rotate_left
    · (intro wq hSw; (try dsimp only at hSw); go_simp; first | done | with_reducible rfl)
    try simp only [Act.put, List.setIfInBounds_toArray, List.set_cons_zero, List.set_cons_succ]
    refine wpAnyH_take (i := 1) (oi := { dst := some 26, op := Op.load 9 (Operand.tmp 25), type := 9, pos := "decree.go:180", after := #[{ on := 0, ground := Ground.data }], guard := none }) (v := ?_) rfl (by kernel_rfl) (by kernel_rfl) (by kernel_rfl) (fun _ _ _ h => h) (Or.inl ⟨by rfl, ?_⟩) (by assumption) ?_
    rotate_left
    · (intro wq hSw; (try dsimp only at hSw); go_simp; first | done | with_reducible rfl)
    try simp only [Act.put, List.setIfInBounds_toArray, List.set_cons_zero, List.set_cons_succ]
    refine wpAnyH_take (i := 3) (oi := { dst := some 28, op := Op.load 53 (Operand.tmp 2), type := 53, pos := "decree.go:180", after := #[], guard := none }) (v := ?_) rfl (by kernel_rfl) (by kernel_rfl) (by kernel_rfl) (fun _ _ _ h => h) (Or.inl ⟨by rfl, ?_⟩) (by assumption) ?_
    rotate_left
    · (intro wq hSw; (try dsimp only at hSw); go_simp; first | done | with_reducible rfl)
    try simp only [Act.put, List.setIfInBounds_toArray, List.set_cons_zero, List.set_cons_succ]
    refine wpAnyH_take (i := 4) (oi := { dst := some 29, op := Op.fieldAddr 125 (Operand.tmp 5) 1, type := 0, pos := "decree.go:180", after := #[], guard := none }) (v := ?_) rfl (by kernel_rfl) (by kernel_rfl) (by kernel_rfl) (fun _ _ _ h => h) (Or.inl ⟨by rfl, ?_⟩) (by assumption) ?_
    rotate_left
    · (intro wq hSw; (try dsimp only at hSw); go_simp; first | done | with_reducible rfl)
    try simp only [Act.put, List.setIfInBounds_toArray, List.set_cons_zero, List.set_cons_succ]
    refine wpAnyH_take (i := 5) (oi := { dst := some 30, op := Op.load 3 (Operand.tmp 29), type := 3, pos := "decree.go:180", after := #[{ on := 4, ground := Ground.data }], guard := none }) (v := ?_) rfl (by kernel_rfl) (by kernel_rfl) (by kernel_rfl) (fun _ _ _ h => h) (Or.inl ⟨by rfl, ?_⟩) (by assumption) ?_
    rotate_left
    · (intro wq hSw; (try dsimp only at hSw); go_simp; first | done | with_reducible rfl)
    try simp only [Act.put, List.setIfInBounds_toArray, List.set_cons_zero, List.set_cons_succ]
    refine wpAnyH_ready (rs := [2, 7]) (by kernel_rfl) (by simp) ?_
    refine AllReadyH.cons (o := { dst := some 27, op := Op.call { callee := Callee.value (Operand.func 62), args := #[Operand.tmp 26], argTypes := #[9] }, type := 107, pos := "decree.go:180", after := #[{ on := 1, ground := Ground.data }], guard := none }) rfl (fun K hK => ?_) (AllReadyH.cons (o := { dst := some 7, op := Op.alloc 107, type := 0, pos := "decree.go:180", after := #[], guard := none }) rfl (fun K hK => ?_) AllReadyH.nil)
    · go_simp
      refine (HPA.out _).mono ?_
      rintro e wp ⟨rfl, hnp⟩
      have hN3 := (((New.refl w2).drew)).trans hnp
      refine hK.out _ _ ?_ (fun hHeld => ?_)
      · exact Held.of hN3
      clear hK K
      try simp only [Act.put, List.setIfInBounds_toArray, List.set_cons_zero, List.set_cons_succ]
      refine wpAnyH_ready (rs := [6, 7]) (by kernel_rfl) (by simp) ?_
      refine AllReadyH.cons (o := { dst := some 31, op := Op.call { callee := Callee.value (Operand.func 46), args := #[Operand.tmp 28, Operand.tmp 30], argTypes := #[53, 3] }, type := 95, pos := "decree.go:180", after := #[{ on := 3, ground := Ground.data }, { on := 5, ground := Ground.data }, { on := 2, ground := Ground.chain }], guard := none }) rfl (fun K hK => ?_) (AllReadyH.cons (o := { dst := some 7, op := Op.alloc 107, type := 0, pos := "decree.go:180", after := #[], guard := none }) rfl (fun K hK => ?_) AllReadyH.nil)
      · go_simp
        refine (gat (HG2.out.new (hN3)) HDS.out).mono ?_
        rintro e wq ⟨rfl, hwq⟩
        subst wq
        refine hK.out _ _ ?_ (fun hHeld => ?_)
        · exact Held.of (hN3)
        clear hK K
        skip
        refine wpAnyH_ready (rs := [7]) (by kernel_rfl) (by simp) ?_
        refine AllReadyH.cons (o := { dst := some 7, op := Op.alloc 107, type := 0, pos := "decree.go:180", after := #[], guard := none }) rfl (fun K hK => ?_) AllReadyH.nil
        go_simp
        have hN4 := (hN3).alloc (.cells #[.int .i64 0, .int .u64 0, .int .u64 0, .int .u64 0, .string ⟨#[]⟩, .bool false, .int .u64 0, .int .u64 0, .string ⟨#[]⟩] 107)
        have hz4 : Blk (wp.alloc (.cells #[.int .i64 0, .int .u64 0, .int .u64 0, .int .u64 0, .string ⟨#[]⟩, .bool false, .int .u64 0, .int .u64 0, .string ⟨#[]⟩] 107)) wp.heap.size 107 #[.int .i64 0, .int .u64 0, .int .u64 0, .int .u64 0, .string ⟨#[]⟩, .bool false, .int .u64 0, .int .u64 0, .string ⟨#[]⟩] := Blk.mk_new wp 107 #[.int .i64 0, .int .u64 0, .int .u64 0, .int .u64 0, .string ⟨#[]⟩, .bool false, .int .u64 0, .int .u64 0, .string ⟨#[]⟩]
        refine hK.out _ _ ?_ (fun hHeld => ?_)
        · exact Held.of hN4
        clear hK K
        try simp only [Act.put, List.setIfInBounds_toArray, List.set_cons_zero, List.set_cons_succ]
        refine wpAnyH_ready (rs := [8]) (by kernel_rfl) (by simp) ?_
        refine AllReadyH.cons (o := { dst := none, op := Op.store 107 (Operand.tmp 7) (Operand.tmp 27), type := 0, pos := "decree.go:180", after := #[{ on := 7, ground := Ground.data }, { on := 2, ground := Ground.data }, { on := 6, ground := Ground.chain }, { on := 0, ground := Ground.phase }, { on := 1, ground := Ground.phase }, { on := 2, ground := Ground.phase }, { on := 3, ground := Ground.textOnly Departure.lateStores }, { on := 4, ground := Ground.textOnly Departure.lateStores }, { on := 5, ground := Ground.textOnly Departure.lateStores }, { on := 6, ground := Ground.textOnly Departure.lateStoresUnsure }, { on := 7, ground := Ground.phase }], guard := none }) rfl (fun K hK => ?_) AllReadyH.nil
        go_simp
        have hN5 := (hN3).alloc (.cells #[.int .i64 ((1 : Nat) : Int), .int .u64 (ms : Int), .int .u64 (mr : Int), .int .u64 (mn : Int), .string mv, .bool mh, .int .u64 (mhr : Int), .int .u64 (mhn : Int), .string mhv] 107)
        refine hK.out _ _ ?_ (fun hHeld => ?_)
        · exact Held.of hN5
        clear hK K
        skip
        refine wpAnyH_take (i := 9) (oi := { dst := some 8, op := Op.assign (Operand.tmp 31), type := 95, pos := "decree.go:180", after := #[{ on := 6, ground := Ground.data }, { on := 8, ground := Ground.chain }, { on := 0, ground := Ground.phase }, { on := 1, ground := Ground.phase }, { on := 2, ground := Ground.phase }, { on := 3, ground := Ground.phase }, { on := 4, ground := Ground.phase }, { on := 5, ground := Ground.phase }, { on := 6, ground := Ground.phase }, { on := 7, ground := Ground.phase }, { on := 8, ground := Ground.phase }], guard := none }) (v := ?_) rfl (by kernel_rfl) (by kernel_rfl) (by kernel_rfl) (fun _ _ _ h => h) (Or.inl ⟨by rfl, ?_⟩) (by assumption) ?_
        rotate_left
        · (intro wq hSw; (try dsimp only at hSw); go_simp; first | done | with_reducible rfl)
        try simp only [Act.put, List.setIfInBounds_toArray, List.set_cons_zero, List.set_cons_succ]
        refine wpAnyH_done (by kernel_rfl) ?_ _
        clear hHeld
        have hbF := (Blk.mk_new wp 107 #[.int .i64 ((1 : Nat) : Int), .int .u64 (ms : Int), .int .u64 (mr : Int), .int .u64 (mn : Int), .string mv, .bool mh, .int .u64 (mhr : Int), .int .u64 (mhn : Int), .string mhv])
        go_wp2_with fail
        go_meet
        exact ⟨wp.heap.size, rfl, rfl, hbF, (by first | exact Nat.le_refl _ | exact (hN3).size), hN5⟩
      · go_simp
        have hN4 := (hN3).alloc (.cells #[.int .i64 0, .int .u64 0, .int .u64 0, .int .u64 0, .string ⟨#[]⟩, .bool false, .int .u64 0, .int .u64 0, .string ⟨#[]⟩] 107)
        have hz4 : Blk (wp.alloc (.cells #[.int .i64 0, .int .u64 0, .int .u64 0, .int .u64 0, .string ⟨#[]⟩, .bool false, .int .u64 0, .int .u64 0, .string ⟨#[]⟩] 107)) wp.heap.size 107 #[.int .i64 0, .int .u64 0, .int .u64 0, .int .u64 0, .string ⟨#[]⟩, .bool false, .int .u64 0, .int .u64 0, .string ⟨#[]⟩] := Blk.mk_new wp 107 #[.int .i64 0, .int .u64 0, .int .u64 0, .int .u64 0, .string ⟨#[]⟩, .bool false, .int .u64 0, .int .u64 0, .string ⟨#[]⟩]
        refine hK.out _ _ ?_ (fun hHeld => ?_)
        · exact Held.of hN4
        clear hK K
        try simp only [Act.put, List.setIfInBounds_toArray, List.set_cons_zero, List.set_cons_succ]
        refine wpAnyH_ready (rs := [6]) (by kernel_rfl) (by simp) ?_
        refine AllReadyH.cons (o := { dst := some 31, op := Op.call { callee := Callee.value (Operand.func 46), args := #[Operand.tmp 28, Operand.tmp 30], argTypes := #[53, 3] }, type := 95, pos := "decree.go:180", after := #[{ on := 3, ground := Ground.data }, { on := 5, ground := Ground.data }, { on := 2, ground := Ground.chain }], guard := none }) rfl (fun K hK => ?_) AllReadyH.nil
        go_simp
        refine (gat (HG2.out.new (hN4)) HDS.out).mono ?_
        rintro e wq ⟨rfl, hwq⟩
        subst wq
        refine hK.out _ _ ?_ (fun hHeld => ?_)
        · exact Held.of (hN4)
        clear hK K
        skip
        refine wpAnyH_ready (rs := [8]) (by kernel_rfl) (by simp) ?_
        refine AllReadyH.cons (o := { dst := none, op := Op.store 107 (Operand.tmp 7) (Operand.tmp 27), type := 0, pos := "decree.go:180", after := #[{ on := 7, ground := Ground.data }, { on := 2, ground := Ground.data }, { on := 6, ground := Ground.chain }, { on := 0, ground := Ground.phase }, { on := 1, ground := Ground.phase }, { on := 2, ground := Ground.phase }, { on := 3, ground := Ground.textOnly Departure.lateStores }, { on := 4, ground := Ground.textOnly Departure.lateStores }, { on := 5, ground := Ground.textOnly Departure.lateStores }, { on := 6, ground := Ground.textOnly Departure.lateStoresUnsure }, { on := 7, ground := Ground.phase }], guard := none }) rfl (fun K hK => ?_) AllReadyH.nil
        go_simp
        have hN5 := (hN3).alloc (.cells #[.int .i64 ((1 : Nat) : Int), .int .u64 (ms : Int), .int .u64 (mr : Int), .int .u64 (mn : Int), .string mv, .bool mh, .int .u64 (mhr : Int), .int .u64 (mhn : Int), .string mhv] 107)
        refine hK.out _ _ ?_ (fun hHeld => ?_)
        · exact Held.of hN5
        clear hK K
        skip
        refine wpAnyH_take (i := 9) (oi := { dst := some 8, op := Op.assign (Operand.tmp 31), type := 95, pos := "decree.go:180", after := #[{ on := 6, ground := Ground.data }, { on := 8, ground := Ground.chain }, { on := 0, ground := Ground.phase }, { on := 1, ground := Ground.phase }, { on := 2, ground := Ground.phase }, { on := 3, ground := Ground.phase }, { on := 4, ground := Ground.phase }, { on := 5, ground := Ground.phase }, { on := 6, ground := Ground.phase }, { on := 7, ground := Ground.phase }, { on := 8, ground := Ground.phase }], guard := none }) (v := ?_) rfl (by kernel_rfl) (by kernel_rfl) (by kernel_rfl) (fun _ _ _ h => h) (Or.inl ⟨by rfl, ?_⟩) (by assumption) ?_
        rotate_left
        · (intro wq hSw; (try dsimp only at hSw); go_simp; first | done | with_reducible rfl)
        try simp only [Act.put, List.setIfInBounds_toArray, List.set_cons_zero, List.set_cons_succ]
        refine wpAnyH_done (by kernel_rfl) ?_ _
        clear hHeld
        have hbF := (Blk.mk_new wp 107 #[.int .i64 ((1 : Nat) : Int), .int .u64 (ms : Int), .int .u64 (mr : Int), .int .u64 (mn : Int), .string mv, .bool mh, .int .u64 (mhr : Int), .int .u64 (mhn : Int), .string mhv])
        go_wp2_with fail
        go_meet
        exact ⟨wp.heap.size, rfl, rfl, hbF, (by first | exact Nat.le_refl _ | exact (hN3).size), hN5⟩
    · go_simp
      have hN4 := (((New.refl w2).drew)).alloc (.cells #[.int .i64 0, .int .u64 0, .int .u64 0, .int .u64 0, .string ⟨#[]⟩, .bool false, .int .u64 0, .int .u64 0, .string ⟨#[]⟩] 107)
      have hz4 : Blk (w2.drew.alloc (.cells #[.int .i64 0, .int .u64 0, .int .u64 0, .int .u64 0, .string ⟨#[]⟩, .bool false, .int .u64 0, .int .u64 0, .string ⟨#[]⟩] 107)) w2.heap.size 107 #[.int .i64 0, .int .u64 0, .int .u64 0, .int .u64 0, .string ⟨#[]⟩, .bool false, .int .u64 0, .int .u64 0, .string ⟨#[]⟩] := Blk.mk_new w2.drew 107 #[.int .i64 0, .int .u64 0, .int .u64 0, .int .u64 0, .string ⟨#[]⟩, .bool false, .int .u64 0, .int .u64 0, .string ⟨#[]⟩]
      refine hK.out _ _ ?_ (fun hHeld => ?_)
      · exact Held.of hN4
      clear hK K
      try simp only [Act.put, List.setIfInBounds_toArray, List.set_cons_zero, List.set_cons_succ]
      refine wpAnyH_ready (rs := [2]) (by kernel_rfl) (by simp) ?_
      refine AllReadyH.cons (o := { dst := some 27, op := Op.call { callee := Callee.value (Operand.func 62), args := #[Operand.tmp 26], argTypes := #[9] }, type := 107, pos := "decree.go:180", after := #[{ on := 1, ground := Ground.data }], guard := none }) rfl (fun K hK => ?_) AllReadyH.nil
      go_simp
      refine (HPA.out _).mono ?_
      rintro e wp ⟨rfl, hnp⟩
      have hN3 := (hN4).trans hnp
      have hz3 := hz4.new hnp
      obtain ⟨zl, z0, z1, z2, z3, z4, z5, z6, z7, z8, zz⟩ := Blk9F hz3
      refine hK.out _ _ ?_ (fun hHeld => ?_)
      · exact Held.of hN3
      clear hK K
      try simp only [Act.put, List.setIfInBounds_toArray, List.set_cons_zero, List.set_cons_succ]
      refine wpAnyH_ready (rs := [6]) (by kernel_rfl) (by simp) ?_
      refine AllReadyH.cons (o := { dst := some 31, op := Op.call { callee := Callee.value (Operand.func 46), args := #[Operand.tmp 28, Operand.tmp 30], argTypes := #[53, 3] }, type := 95, pos := "decree.go:180", after := #[{ on := 3, ground := Ground.data }, { on := 5, ground := Ground.data }, { on := 2, ground := Ground.chain }], guard := none }) rfl (fun K hK => ?_) AllReadyH.nil
      go_simp
      refine (gat (HG2.out.new (hN3)) HDS.out).mono ?_
      rintro e wq ⟨rfl, hwq⟩
      subst wq
      refine hK.out _ _ ?_ (fun hHeld => ?_)
      · exact Held.of (hN3)
      clear hK K
      skip
      refine wpAnyH_ready (rs := [8]) (by kernel_rfl) (by simp) ?_
      refine AllReadyH.cons (o := { dst := none, op := Op.store 107 (Operand.tmp 7) (Operand.tmp 27), type := 0, pos := "decree.go:180", after := #[{ on := 7, ground := Ground.data }, { on := 2, ground := Ground.data }, { on := 6, ground := Ground.chain }, { on := 0, ground := Ground.phase }, { on := 1, ground := Ground.phase }, { on := 2, ground := Ground.phase }, { on := 3, ground := Ground.textOnly Departure.lateStores }, { on := 4, ground := Ground.textOnly Departure.lateStores }, { on := 5, ground := Ground.textOnly Departure.lateStores }, { on := 6, ground := Ground.textOnly Departure.lateStoresUnsure }, { on := 7, ground := Ground.phase }], guard := none }) rfl (fun K hK => ?_) AllReadyH.nil
      go_simp
      have hN5 := (New.setCell (New.setCell (New.setCell (New.setCell (New.setCell (New.setCell (New.setCell (New.setCell (New.setCell hN3 (p := ⟨w2.heap.size, 0, none⟩) (Nat.le_refl _) (.int .i64 ((1 : Nat) : Int))) (p := ⟨w2.heap.size, 1, none⟩) (Nat.le_refl _) (.int .u64 (ms : Int))) (p := ⟨w2.heap.size, 2, none⟩) (Nat.le_refl _) (.int .u64 (mr : Int))) (p := ⟨w2.heap.size, 3, none⟩) (Nat.le_refl _) (.int .u64 (mn : Int))) (p := ⟨w2.heap.size, 4, none⟩) (Nat.le_refl _) (.string mv)) (p := ⟨w2.heap.size, 5, none⟩) (Nat.le_refl _) (.bool mh)) (p := ⟨w2.heap.size, 6, none⟩) (Nat.le_refl _) (.int .u64 (mhr : Int))) (p := ⟨w2.heap.size, 7, none⟩) (Nat.le_refl _) (.int .u64 (mhn : Int))) (p := ⟨w2.heap.size, 8, none⟩) (Nat.le_refl _) (.string mhv))
      refine hK.out _ _ ?_ (fun hHeld => ?_)
      · exact Held.of hN5
      clear hK K
      skip
      refine wpAnyH_take (i := 9) (oi := { dst := some 8, op := Op.assign (Operand.tmp 31), type := 95, pos := "decree.go:180", after := #[{ on := 6, ground := Ground.data }, { on := 8, ground := Ground.chain }, { on := 0, ground := Ground.phase }, { on := 1, ground := Ground.phase }, { on := 2, ground := Ground.phase }, { on := 3, ground := Ground.phase }, { on := 4, ground := Ground.phase }, { on := 5, ground := Ground.phase }, { on := 6, ground := Ground.phase }, { on := 7, ground := Ground.phase }, { on := 8, ground := Ground.phase }], guard := none }) (v := ?_) rfl (by kernel_rfl) (by kernel_rfl) (by kernel_rfl) (fun _ _ _ h => h) (Or.inl ⟨by rfl, ?_⟩) (by assumption) ?_
      rotate_left
      · (intro wq hSw; (try dsimp only at hSw); go_simp; first | done | with_reducible rfl)
      try simp only [Act.put, List.setIfInBounds_toArray, List.set_cons_zero, List.set_cons_succ]
      refine wpAnyH_done (by kernel_rfl) ?_ _
      clear hHeld
      have hbF := (Blk.set_ (Blk.set_ (Blk.set_ (Blk.set_ (Blk.set_ (Blk.set_ (Blk.set_ (Blk.set_ (Blk.set_ hz3 0 (.int .i64 ((1 : Nat) : Int))) 1 (.int .u64 (ms : Int))) 2 (.int .u64 (mr : Int))) 3 (.int .u64 (mn : Int))) 4 (.string mv)) 5 (.bool mh)) 6 (.int .u64 (mhr : Int))) 7 (.int .u64 (mhn : Int))) 8 (.string mhv))
      go_wp2_with fail
      go_meet
      exact ⟨w2.heap.size, rfl, rfl, hbF, (by first | exact Nat.le_refl _ | exact (hN3).size), hN5⟩
  case rest =>
    obtain ⟨c, rfl, rfl, hM, hc, hn3⟩ := hcut
    have HG3 := Lib.hid (HG2.out.new hn3)
    have HR3 : Hid (RpAt wc w.heap.size d gp fr ds (str (Msg.enc ⟨1, ms, mr, mn, mv, mh, mhr, mhn, mhv⟩))) := Lib.hid ⟨HR2.out.c.new hn3, HR2.out.d.new hn3⟩
    have HN3 := Lib.hid (HN2.out.trans hn3)
    obtain ⟨p0, a0, a1, a2, a3, a4, a5, a6, a7, a8, az⟩ := Blk9F hM
    have HM := Lib.hid hM
    clear x0 xl y0 y1 y2 hDl
    have xl := HR3.out.c.lt
    have x0 := HR3.out.c.cell 0
    have dl := HR3.out.d.lt
    have d0 := HR3.out.d.cell 0
    have d1 := HR3.out.d.cell 1
    simp at x0 d0 d1
    clear hM hn3
    have HPM := Lib.hid (gpromised (HG3.out) HDS.out HX0.out hn7 hB fr (by have := HFR.out; omega) ⟨1, ms, mr, mn, mv, mh, mhr, mhn, mhv⟩ HMO.out)
    go_wp2_with fail
    refine HPM.out.mono ?_
    rintro e w9 ⟨rfl, hq9⟩
    have HQ9 := Lib.hid hq9
    clear hq9 p0 a0 a1 a2 a3 a4 a5 a6 a7 a8 az xl x0 dl d0 d1
    go_wp2_with fail
    go_ret
    refine ⟨rfl, GrPost.pre HN.out (GrPost.trans (sdGro HG1.out HU1.out HV1.out).1 (sdGro HG1.out HU1.out HV1.out).2 (GrPost.pre HN3.out ?_))⟩
    exact GrPost.mono HQ9.out (Nat.le_succ B)
set_option maxRecDepth 100000 in
set_option maxHeartbeats 16000000 in
theorem gdl_three (h : GpAt w gp n B L g) (hok : GmOk n B g) (hn7 : n ≤ 7) (hB : B ≤ 100000000) {i : Nat} {p : Pkt} (hp : g.bg[i]? = some p) (hk : p.m.k = 3) :
    Calls Try.prog 51 #[.pointer (some ⟨gp, 0, none⟩), .int .i64 (i : Int)] w (ActPost w gp n (B + 1) L (.int .i64 0) (g.arrive n p (g.bg.eraseIdx i))) := by
  have hpo := hok.bg p (List.mem_of_getElem? hp)
  obtain ⟨fr, ds, m⟩ := p
  obtain ⟨hfr, hds, hmo⟩ := hpo
  have hmg := hmo.good (by omega)
  have hx0 := hok.nd ds hds
  have HPA := Lib.hid (parse_any m hmg)
  obtain ⟨mk, ms, mr, mn, mv, mh, mhr, mhn, mhv⟩ := m
  dsimp only at hfr hds hk
  subst hk
  have hN := (New.refl w).alloc (.cells #[.pointer (some ⟨gp, 0, none⟩)] 53)
  have hE := Blk.mk_new w 53 #[.pointer (some ⟨gp, 0, none⟩)]
  have h1 := h.new hN
  obtain ⟨g0, c0, c1, cz⟩ := h1.facts
  have HTK := Lib.hid (btake h1.bag (k := i) (x := (⟨(fr : Int), (ds : Int), str (Msg.enc ⟨3, ms, mr, mn, mv, mh, mhr, mhn, mhv⟩)⟩ : Pk)) (by rw [List.getElem?_map, hp]; rfl))
  rw [map_erase] at HTK
  have HH1 := Lib.hid h1
  have HN := Lib.hid hN
  have HE := Lib.hid hE
  have HOK := Lib.hid hok
  have HX0 := Lib.hid hx0
  have HMO := Lib.hid hmo
  have HDS := Lib.hid hds
  have HFR := Lib.hid hfr
  have HLT : Hid (∀ k, L.Fn ds k → k < w.heap.size) := Lib.hid (fun k hk => h.lt ds hds k hk)
  have HEB : Hid (¬ BgF L.bb L.lv w.heap.size) := Lib.hid (fun hk => by have := h.bag.lt _ hk; omega)
  clear h h1 hN hE hp hok hx0 hmo hmg
  have HW0 : Hid ((w.alloc (.cells #[.pointer (some ⟨gp, 0, none⟩)] 53)).heap.size = w.heap.size + 1) := Lib.hid (by simp)
  go_enter Try.func51, Try.ntmps51
  go_wp2_with fail
  generalize w.alloc (.cells #[.pointer (some ⟨gp, 0, none⟩)] 53) = w0 at *
  refine HTK.out.mono ?_
  intro e w1 hb
  obtain ⟨rfl, v', hg1, hu1, hv1⟩ := HH1.out.bagPost hb
  have hE1 := HE.out.upd hu1 HEB.out
  have hN2 := (New.refl w1).alloc (.cells #[.int .i64 (fr : Int), .int .i64 (ds : Int), .string (str (Msg.enc ⟨3, ms, mr, mn, mv, mh, mhr, mhn, mhv⟩))] 125)
  have hD2 := Blk.mk_new w1 125 #[.int .i64 (fr : Int), .int .i64 (ds : Int), .string (str (Msg.enc ⟨3, ms, mr, mn, mv, mh, mhr, mhn, mhv⟩))]
  have hE2 := hE1.new hN2
  have HG2 := Lib.hid (hg1.new hN2)
  have HSD := Lib.hid (show SdPost w0 gp n B L g (g.bg.eraseIdx i) w1 from ⟨v', hg1, hu1, hv1⟩)
  have HG1 := Lib.hid hg1
  have HU1 := Lib.hid hu1
  have HV1 := Lib.hid hv1
  have HN2 := Lib.hid hN2
  clear hb hg1 hu1 hv1 hE1 g0 c0 c1 cz hN2
  go_upto_region 4 with fail
  generalize w1.alloc (.cells #[.int .i64 (fr : Int), .int .i64 (ds : Int), .string (str (Msg.enc ⟨3, ms, mr, mn, mv, mh, mhr, mhn, mhv⟩))] 125) = w2 at *
  have hDl := hD2.lt
  have HDG : Hid (w.heap.size < w1.heap.size) := Lib.hid (by have := HU1.out.size; have := HW0.out; omega)
  generalize w1.heap.size = d at *
  have x0 := hE2.cell 0
  have xl := hE2.lt
  have y0 := hD2.cell 0
  have y1 := hD2.cell 1
  have y2 := hD2.cell 2
  simp at x0 y0 y1 y2
  have HR2 : Hid (RpAt w2 w.heap.size d gp fr ds (str (Msg.enc ⟨3, ms, mr, mn, mv, mh, mhr, mhn, mhv⟩))) := Lib.hid ⟨hE2, hD2⟩
  clear hE2 hD2
  go_cut [7, 8] (fun s7 s8 wx => DvRel w2 (L.nb ds) #[.int .i64 ((3 : Nat) : Int), .int .u64 (ms : Int), .int .u64 (mr : Int), .int .u64 (mn : Int), .string mv, .bool mh, .int .u64 (mhr : Int), .int .u64 (mhn : Int), .string mhv] s7 s8 wx)
  case first =>
    refine wp_region_held_drew (S := fun w' => Held w2 w') (by kernel_rfl) (Held.of (New.refl _).drew) (fun hHeld => ?_)
    refine wpAnyH_take (i := 0) (oi := { dst := some 25, op := Op.fieldAddr 125 (Operand.tmp 5) 2, type := 0, pos := "decree.go:180", after := #[], guard := none }) (v := ?_) rfl (by kernel_rfl) (by kernel_rfl) (by kernel_rfl) (fun _ _ _ h => h) (Or.inl ⟨by rfl, ?_⟩) (by assumption) ?_
    rotate_left
    · (intro wq hSw; (try dsimp only at hSw); go_simp; first | done | with_reducible rfl)
    try simp only [Act.put, List.setIfInBounds_toArray, List.set_cons_zero, List.set_cons_succ]
    refine wpAnyH_take (i := 1) (oi := { dst := some 26, op := Op.load 9 (Operand.tmp 25), type := 9, pos := "decree.go:180", after := #[{ on := 0, ground := Ground.data }], guard := none }) (v := ?_) rfl (by kernel_rfl) (by kernel_rfl) (by kernel_rfl) (fun _ _ _ h => h) (Or.inl ⟨by rfl, ?_⟩) (by assumption) ?_
    rotate_left
    · (intro wq hSw; (try dsimp only at hSw); go_simp; first | done | with_reducible rfl)
    try simp only [Act.put, List.setIfInBounds_toArray, List.set_cons_zero, List.set_cons_succ]
    refine wpAnyH_take (i := 3) (oi := { dst := some 28, op := Op.load 53 (Operand.tmp 2), type := 53, pos := "decree.go:180", after := #[], guard := none }) (v := ?_) rfl (by kernel_rfl) (by kernel_rfl) (by kernel_rfl) (fun _ _ _ h => h) (Or.inl ⟨by rfl, ?_⟩) (by assumption) ?_
    rotate_left
    · (intro wq hSw; (try dsimp only at hSw); go_simp; first | done | with_reducible rfl)
    try simp only [Act.put, List.setIfInBounds_toArray, List.set_cons_zero, List.set_cons_succ]
    refine wpAnyH_take (i := 4) (oi := { dst := some 29, op := Op.fieldAddr 125 (Operand.tmp 5) 1, type := 0, pos := "decree.go:180", after := #[], guard := none }) (v := ?_) rfl (by kernel_rfl) (by kernel_rfl) (by kernel_rfl) (fun _ _ _ h => h) (Or.inl ⟨by rfl, ?_⟩) (by assumption) ?_
    rotate_left
    · (intro wq hSw; (try dsimp only at hSw); go_simp; first | done | with_reducible rfl)
    try simp only [Act.put, List.setIfInBounds_toArray, List.set_cons_zero, List.set_cons_succ]
    refine wpAnyH_take (i := 5) (oi := { dst := some 30, op := Op.load 3 (Operand.tmp 29), type := 3, pos := "decree.go:180", after := #[{ on := 4, ground := Ground.data }], guard := none }) (v := ?_) rfl (by kernel_rfl) (by kernel_rfl) (by kernel_rfl) (fun _ _ _ h => h) (Or.inl ⟨by rfl, ?_⟩) (by assumption) ?_
    rotate_left
    · (intro wq hSw; (try dsimp only at hSw); go_simp; first | done | with_reducible rfl)
    try simp only [Act.put, List.setIfInBounds_toArray, List.set_cons_zero, List.set_cons_succ]
    refine wpAnyH_ready (rs := [2, 7]) (by kernel_rfl) (by simp) ?_
    refine AllReadyH.cons (o := { dst := some 27, op := Op.call { callee := Callee.value (Operand.func 62), args := #[Operand.tmp 26], argTypes := #[9] }, type := 107, pos := "decree.go:180", after := #[{ on := 1, ground := Ground.data }], guard := none }) rfl (fun K hK => ?_) (AllReadyH.cons (o := { dst := some 7, op := Op.alloc 107, type := 0, pos := "decree.go:180", after := #[], guard := none }) rfl (fun K hK => ?_) AllReadyH.nil)
    · go_simp
      refine (HPA.out _).mono ?_
      rintro e wp ⟨rfl, hnp⟩
      have hN3 := (((New.refl w2).drew)).trans hnp
      refine hK.out _ _ ?_ (fun hHeld => ?_)
      · exact Held.of hN3
      clear hK K
      try simp only [Act.put, List.setIfInBounds_toArray, List.set_cons_zero, List.set_cons_succ]
      refine wpAnyH_ready (rs := [6, 7]) (by kernel_rfl) (by simp) ?_
      refine AllReadyH.cons (o := { dst := some 31, op := Op.call { callee := Callee.value (Operand.func 46), args := #[Operand.tmp 28, Operand.tmp 30], argTypes := #[53, 3] }, type := 95, pos := "decree.go:180", after := #[{ on := 3, ground := Ground.data }, { on := 5, ground := Ground.data }, { on := 2, ground := Ground.chain }], guard := none }) rfl (fun K hK => ?_) (AllReadyH.cons (o := { dst := some 7, op := Op.alloc 107, type := 0, pos := "decree.go:180", after := #[], guard := none }) rfl (fun K hK => ?_) AllReadyH.nil)
      · go_simp
        refine (gat (HG2.out.new (hN3)) HDS.out).mono ?_
        rintro e wq ⟨rfl, hwq⟩
        subst wq
        refine hK.out _ _ ?_ (fun hHeld => ?_)
        · exact Held.of (hN3)
        clear hK K
        skip
        refine wpAnyH_ready (rs := [7]) (by kernel_rfl) (by simp) ?_
        refine AllReadyH.cons (o := { dst := some 7, op := Op.alloc 107, type := 0, pos := "decree.go:180", after := #[], guard := none }) rfl (fun K hK => ?_) AllReadyH.nil
        go_simp
        have hN4 := (hN3).alloc (.cells #[.int .i64 0, .int .u64 0, .int .u64 0, .int .u64 0, .string ⟨#[]⟩, .bool false, .int .u64 0, .int .u64 0, .string ⟨#[]⟩] 107)
        have hz4 : Blk (wp.alloc (.cells #[.int .i64 0, .int .u64 0, .int .u64 0, .int .u64 0, .string ⟨#[]⟩, .bool false, .int .u64 0, .int .u64 0, .string ⟨#[]⟩] 107)) wp.heap.size 107 #[.int .i64 0, .int .u64 0, .int .u64 0, .int .u64 0, .string ⟨#[]⟩, .bool false, .int .u64 0, .int .u64 0, .string ⟨#[]⟩] := Blk.mk_new wp 107 #[.int .i64 0, .int .u64 0, .int .u64 0, .int .u64 0, .string ⟨#[]⟩, .bool false, .int .u64 0, .int .u64 0, .string ⟨#[]⟩]
        refine hK.out _ _ ?_ (fun hHeld => ?_)
        · exact Held.of hN4
        clear hK K
        try simp only [Act.put, List.setIfInBounds_toArray, List.set_cons_zero, List.set_cons_succ]
        refine wpAnyH_ready (rs := [8]) (by kernel_rfl) (by simp) ?_
        refine AllReadyH.cons (o := { dst := none, op := Op.store 107 (Operand.tmp 7) (Operand.tmp 27), type := 0, pos := "decree.go:180", after := #[{ on := 7, ground := Ground.data }, { on := 2, ground := Ground.data }, { on := 6, ground := Ground.chain }, { on := 0, ground := Ground.phase }, { on := 1, ground := Ground.phase }, { on := 2, ground := Ground.phase }, { on := 3, ground := Ground.textOnly Departure.lateStores }, { on := 4, ground := Ground.textOnly Departure.lateStores }, { on := 5, ground := Ground.textOnly Departure.lateStores }, { on := 6, ground := Ground.textOnly Departure.lateStoresUnsure }, { on := 7, ground := Ground.phase }], guard := none }) rfl (fun K hK => ?_) AllReadyH.nil
        go_simp
        have hN5 := (hN3).alloc (.cells #[.int .i64 ((3 : Nat) : Int), .int .u64 (ms : Int), .int .u64 (mr : Int), .int .u64 (mn : Int), .string mv, .bool mh, .int .u64 (mhr : Int), .int .u64 (mhn : Int), .string mhv] 107)
        refine hK.out _ _ ?_ (fun hHeld => ?_)
        · exact Held.of hN5
        clear hK K
        skip
        refine wpAnyH_take (i := 9) (oi := { dst := some 8, op := Op.assign (Operand.tmp 31), type := 95, pos := "decree.go:180", after := #[{ on := 6, ground := Ground.data }, { on := 8, ground := Ground.chain }, { on := 0, ground := Ground.phase }, { on := 1, ground := Ground.phase }, { on := 2, ground := Ground.phase }, { on := 3, ground := Ground.phase }, { on := 4, ground := Ground.phase }, { on := 5, ground := Ground.phase }, { on := 6, ground := Ground.phase }, { on := 7, ground := Ground.phase }, { on := 8, ground := Ground.phase }], guard := none }) (v := ?_) rfl (by kernel_rfl) (by kernel_rfl) (by kernel_rfl) (fun _ _ _ h => h) (Or.inl ⟨by rfl, ?_⟩) (by assumption) ?_
        rotate_left
        · (intro wq hSw; (try dsimp only at hSw); go_simp; first | done | with_reducible rfl)
        try simp only [Act.put, List.setIfInBounds_toArray, List.set_cons_zero, List.set_cons_succ]
        refine wpAnyH_done (by kernel_rfl) ?_ _
        clear hHeld
        have hbF := (Blk.mk_new wp 107 #[.int .i64 ((3 : Nat) : Int), .int .u64 (ms : Int), .int .u64 (mr : Int), .int .u64 (mn : Int), .string mv, .bool mh, .int .u64 (mhr : Int), .int .u64 (mhn : Int), .string mhv])
        go_wp2_with fail
        go_meet
        exact ⟨wp.heap.size, rfl, rfl, hbF, (by first | exact Nat.le_refl _ | exact (hN3).size), hN5⟩
      · go_simp
        have hN4 := (hN3).alloc (.cells #[.int .i64 0, .int .u64 0, .int .u64 0, .int .u64 0, .string ⟨#[]⟩, .bool false, .int .u64 0, .int .u64 0, .string ⟨#[]⟩] 107)
        have hz4 : Blk (wp.alloc (.cells #[.int .i64 0, .int .u64 0, .int .u64 0, .int .u64 0, .string ⟨#[]⟩, .bool false, .int .u64 0, .int .u64 0, .string ⟨#[]⟩] 107)) wp.heap.size 107 #[.int .i64 0, .int .u64 0, .int .u64 0, .int .u64 0, .string ⟨#[]⟩, .bool false, .int .u64 0, .int .u64 0, .string ⟨#[]⟩] := Blk.mk_new wp 107 #[.int .i64 0, .int .u64 0, .int .u64 0, .int .u64 0, .string ⟨#[]⟩, .bool false, .int .u64 0, .int .u64 0, .string ⟨#[]⟩]
        refine hK.out _ _ ?_ (fun hHeld => ?_)
        · exact Held.of hN4
        clear hK K
        try simp only [Act.put, List.setIfInBounds_toArray, List.set_cons_zero, List.set_cons_succ]
        refine wpAnyH_ready (rs := [6]) (by kernel_rfl) (by simp) ?_
        refine AllReadyH.cons (o := { dst := some 31, op := Op.call { callee := Callee.value (Operand.func 46), args := #[Operand.tmp 28, Operand.tmp 30], argTypes := #[53, 3] }, type := 95, pos := "decree.go:180", after := #[{ on := 3, ground := Ground.data }, { on := 5, ground := Ground.data }, { on := 2, ground := Ground.chain }], guard := none }) rfl (fun K hK => ?_) AllReadyH.nil
        go_simp
        refine (gat (HG2.out.new (hN4)) HDS.out).mono ?_
        rintro e wq ⟨rfl, hwq⟩
        subst wq
        refine hK.out _ _ ?_ (fun hHeld => ?_)
        · exact Held.of (hN4)
        clear hK K
        skip
        refine wpAnyH_ready (rs := [8]) (by kernel_rfl) (by simp) ?_
        refine AllReadyH.cons (o := { dst := none, op := Op.store 107 (Operand.tmp 7) (Operand.tmp 27), type := 0, pos := "decree.go:180", after := #[{ on := 7, ground := Ground.data }, { on := 2, ground := Ground.data }, { on := 6, ground := Ground.chain }, { on := 0, ground := Ground.phase }, { on := 1, ground := Ground.phase }, { on := 2, ground := Ground.phase }, { on := 3, ground := Ground.textOnly Departure.lateStores }, { on := 4, ground := Ground.textOnly Departure.lateStores }, { on := 5, ground := Ground.textOnly Departure.lateStores }, { on := 6, ground := Ground.textOnly Departure.lateStoresUnsure }, { on := 7, ground := Ground.phase }], guard := none }) rfl (fun K hK => ?_) AllReadyH.nil
        go_simp
        have hN5 := (hN3).alloc (.cells #[.int .i64 ((3 : Nat) : Int), .int .u64 (ms : Int), .int .u64 (mr : Int), .int .u64 (mn : Int), .string mv, .bool mh, .int .u64 (mhr : Int), .int .u64 (mhn : Int), .string mhv] 107)
        refine hK.out _ _ ?_ (fun hHeld => ?_)
        · exact Held.of hN5
        clear hK K
        skip
        refine wpAnyH_take (i := 9) (oi := { dst := some 8, op := Op.assign (Operand.tmp 31), type := 95, pos := "decree.go:180", after := #[{ on := 6, ground := Ground.data }, { on := 8, ground := Ground.chain }, { on := 0, ground := Ground.phase }, { on := 1, ground := Ground.phase }, { on := 2, ground := Ground.phase }, { on := 3, ground := Ground.phase }, { on := 4, ground := Ground.phase }, { on := 5, ground := Ground.phase }, { on := 6, ground := Ground.phase }, { on := 7, ground := Ground.phase }, { on := 8, ground := Ground.phase }], guard := none }) (v := ?_) rfl (by kernel_rfl) (by kernel_rfl) (by kernel_rfl) (fun _ _ _ h => h) (Or.inl ⟨by rfl, ?_⟩) (by assumption) ?_
        rotate_left
        · (intro wq hSw; (try dsimp only at hSw); go_simp; first | done | with_reducible rfl)
        try simp only [Act.put, List.setIfInBounds_toArray, List.set_cons_zero, List.set_cons_succ]
        refine wpAnyH_done (by kernel_rfl) ?_ _
        clear hHeld
        have hbF := (Blk.mk_new wp 107 #[.int .i64 ((3 : Nat) : Int), .int .u64 (ms : Int), .int .u64 (mr : Int), .int .u64 (mn : Int), .string mv, .bool mh, .int .u64 (mhr : Int), .int .u64 (mhn : Int), .string mhv])
        go_wp2_with fail
        go_meet
        exact ⟨wp.heap.size, rfl, rfl, hbF, (by first | exact Nat.le_refl _ | exact (hN3).size), hN5⟩
    · go_simp
      have hN4 := (((New.refl w2).drew)).alloc (.cells #[.int .i64 0, .int .u64 0, .int .u64 0, .int .u64 0, .string ⟨#[]⟩, .bool false, .int .u64 0, .int .u64 0, .string ⟨#[]⟩] 107)
      have hz4 : Blk (w2.drew.alloc (.cells #[.int .i64 0, .int .u64 0, .int .u64 0, .int .u64 0, .string ⟨#[]⟩, .bool false, .int .u64 0, .int .u64 0, .string ⟨#[]⟩] 107)) w2.heap.size 107 #[.int .i64 0, .int .u64 0, .int .u64 0, .int .u64 0, .string ⟨#[]⟩, .bool false, .int .u64 0, .int .u64 0, .string ⟨#[]⟩] := Blk.mk_new w2.drew 107 #[.int .i64 0, .int .u64 0, .int .u64 0, .int .u64 0, .string ⟨#[]⟩, .bool false, .int .u64 0, .int .u64 0, .string ⟨#[]⟩]
      refine hK.out _ _ ?_ (fun hHeld => ?_)
      · exact Held.of hN4
      clear hK K
      try simp only [Act.put, List.setIfInBounds_toArray, List.set_cons_zero, List.set_cons_succ]
      refine wpAnyH_ready (rs := [2]) (by kernel_rfl) (by simp) ?_
      refine AllReadyH.cons (o := { dst := some 27, op := Op.call { callee := Callee.value (Operand.func 62), args := #[Operand.tmp 26], argTypes := #[9] }, type := 107, pos := "decree.go:180", after := #[{ on := 1, ground := Ground.data }], guard := none }) rfl (fun K hK => ?_) AllReadyH.nil
      go_simp
      refine (HPA.out _).mono ?_
      rintro e wp ⟨rfl, hnp⟩
      have hN3 := (hN4).trans hnp
      have hz3 := hz4.new hnp
      obtain ⟨zl, z0, z1, z2, z3, z4, z5, z6, z7, z8, zz⟩ := Blk9F hz3
      refine hK.out _ _ ?_ (fun hHeld => ?_)
      · exact Held.of hN3
      clear hK K
      try simp only [Act.put, List.setIfInBounds_toArray, List.set_cons_zero, List.set_cons_succ]
      refine wpAnyH_ready (rs := [6]) (by kernel_rfl) (by simp) ?_
      refine AllReadyH.cons (o := { dst := some 31, op := Op.call { callee := Callee.value (Operand.func 46), args := #[Operand.tmp 28, Operand.tmp 30], argTypes := #[53, 3] }, type := 95, pos := "decree.go:180", after := #[{ on := 3, ground := Ground.data }, { on := 5, ground := Ground.data }, { on := 2, ground := Ground.chain }], guard := none }) rfl (fun K hK => ?_) AllReadyH.nil
      go_simp
      refine (gat (HG2.out.new (hN3)) HDS.out).mono ?_
      rintro e wq ⟨rfl, hwq⟩
      subst wq
      refine hK.out _ _ ?_ (fun hHeld => ?_)
      · exact Held.of (hN3)
      clear hK K
      skip
      refine wpAnyH_ready (rs := [8]) (by kernel_rfl) (by simp) ?_
      refine AllReadyH.cons (o := { dst := none, op := Op.store 107 (Operand.tmp 7) (Operand.tmp 27), type := 0, pos := "decree.go:180", after := #[{ on := 7, ground := Ground.data }, { on := 2, ground := Ground.data }, { on := 6, ground := Ground.chain }, { on := 0, ground := Ground.phase }, { on := 1, ground := Ground.phase }, { on := 2, ground := Ground.phase }, { on := 3, ground := Ground.textOnly Departure.lateStores }, { on := 4, ground := Ground.textOnly Departure.lateStores }, { on := 5, ground := Ground.textOnly Departure.lateStores }, { on := 6, ground := Ground.textOnly Departure.lateStoresUnsure }, { on := 7, ground := Ground.phase }], guard := none }) rfl (fun K hK => ?_) AllReadyH.nil
      go_simp
      have hN5 := (New.setCell (New.setCell (New.setCell (New.setCell (New.setCell (New.setCell (New.setCell (New.setCell (New.setCell hN3 (p := ⟨w2.heap.size, 0, none⟩) (Nat.le_refl _) (.int .i64 ((3 : Nat) : Int))) (p := ⟨w2.heap.size, 1, none⟩) (Nat.le_refl _) (.int .u64 (ms : Int))) (p := ⟨w2.heap.size, 2, none⟩) (Nat.le_refl _) (.int .u64 (mr : Int))) (p := ⟨w2.heap.size, 3, none⟩) (Nat.le_refl _) (.int .u64 (mn : Int))) (p := ⟨w2.heap.size, 4, none⟩) (Nat.le_refl _) (.string mv)) (p := ⟨w2.heap.size, 5, none⟩) (Nat.le_refl _) (.bool mh)) (p := ⟨w2.heap.size, 6, none⟩) (Nat.le_refl _) (.int .u64 (mhr : Int))) (p := ⟨w2.heap.size, 7, none⟩) (Nat.le_refl _) (.int .u64 (mhn : Int))) (p := ⟨w2.heap.size, 8, none⟩) (Nat.le_refl _) (.string mhv))
      refine hK.out _ _ ?_ (fun hHeld => ?_)
      · exact Held.of hN5
      clear hK K
      skip
      refine wpAnyH_take (i := 9) (oi := { dst := some 8, op := Op.assign (Operand.tmp 31), type := 95, pos := "decree.go:180", after := #[{ on := 6, ground := Ground.data }, { on := 8, ground := Ground.chain }, { on := 0, ground := Ground.phase }, { on := 1, ground := Ground.phase }, { on := 2, ground := Ground.phase }, { on := 3, ground := Ground.phase }, { on := 4, ground := Ground.phase }, { on := 5, ground := Ground.phase }, { on := 6, ground := Ground.phase }, { on := 7, ground := Ground.phase }, { on := 8, ground := Ground.phase }], guard := none }) (v := ?_) rfl (by kernel_rfl) (by kernel_rfl) (by kernel_rfl) (fun _ _ _ h => h) (Or.inl ⟨by rfl, ?_⟩) (by assumption) ?_
      rotate_left
      · (intro wq hSw; (try dsimp only at hSw); go_simp; first | done | with_reducible rfl)
      try simp only [Act.put, List.setIfInBounds_toArray, List.set_cons_zero, List.set_cons_succ]
      refine wpAnyH_done (by kernel_rfl) ?_ _
      clear hHeld
      have hbF := (Blk.set_ (Blk.set_ (Blk.set_ (Blk.set_ (Blk.set_ (Blk.set_ (Blk.set_ (Blk.set_ (Blk.set_ hz3 0 (.int .i64 ((3 : Nat) : Int))) 1 (.int .u64 (ms : Int))) 2 (.int .u64 (mr : Int))) 3 (.int .u64 (mn : Int))) 4 (.string mv)) 5 (.bool mh)) 6 (.int .u64 (mhr : Int))) 7 (.int .u64 (mhn : Int))) 8 (.string mhv))
      go_wp2_with fail
      go_meet
      exact ⟨w2.heap.size, rfl, rfl, hbF, (by first | exact Nat.le_refl _ | exact (hN3).size), hN5⟩
  case rest =>
    obtain ⟨c, rfl, rfl, hM, hc, hn3⟩ := hcut
    have HG3 := Lib.hid (HG2.out.new hn3)
    have HR3 : Hid (RpAt wc w.heap.size d gp fr ds (str (Msg.enc ⟨3, ms, mr, mn, mv, mh, mhr, mhn, mhv⟩))) := Lib.hid ⟨HR2.out.c.new hn3, HR2.out.d.new hn3⟩
    have HN3 := Lib.hid (HN2.out.trans hn3)
    obtain ⟨p0, a0, a1, a2, a3, a4, a5, a6, a7, a8, az⟩ := Blk9F hM
    have HM := Lib.hid hM
    clear x0 xl y0 y1 y2 hDl
    have xl := HR3.out.c.lt
    have x0 := HR3.out.c.cell 0
    have dl := HR3.out.d.lt
    have d0 := HR3.out.d.cell 0
    have d1 := HR3.out.d.cell 1
    simp at x0 d0 d1
    clear hM hn3
    have HPM := Lib.hid (gtaken (HG3.out) HDS.out HX0.out hn7 hB fr (by have := HFR.out; omega) ⟨3, ms, mr, mn, mv, mh, mhr, mhn, mhv⟩)
    go_wp2_with fail
    refine HPM.out.mono ?_
    rintro e w9 ⟨rfl, hq9⟩
    have HQ9 := Lib.hid hq9
    clear hq9 p0 a0 a1 a2 a3 a4 a5 a6 a7 a8 az xl x0 dl d0 d1
    go_wp2_with fail
    go_ret
    refine ⟨rfl, GrPost.pre HN.out (GrPost.trans (sdGro HG1.out HU1.out HV1.out).1 (sdGro HG1.out HU1.out HV1.out).2 (GrPost.pre HN3.out ?_))⟩
    exact HQ9.out
end
end Go.Proofs.Ytghhcjpilcoblaa
