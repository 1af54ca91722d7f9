/- Chapter 22 (decree): a packet arrives. Printed by genDg11.py. -/
import Derived.Test.YtghhcjpilcoblaaDg11
import Derived.Deep.RegionHeld3
import Derived.Deep.DeepCutAuto
import Derived.Deep.QuietTactic
import Derived.BigQuiet
namespace Go.Proofs.Ytghhcjpilcoblaa
open Go.RowKit Go.Lap
set_option linter.unusedVariables false
section
variable {w w' w'' wa w2 : World} {S : Nat → Prop} {gp n B k : Nat} {L : GpL} {g : Gm}
theorem ref_none {x : Nod} {m : Msg} (h : x.nw = none) : x.refused m = { x with rd := max x.rd m.r } := by unfold Nod.refused; rw [h]
theorem ref_hit {x : Nod} {m : Msg} {p : Prs} (h : x.nw = some p) (hs : p.s = m.s) : x.refused m = { x with rd := max x.rd m.r, nw := none } := by unfold Nod.refused; rw [h]; simp [hs]
theorem ref_miss {x : Nod} {m : Msg} {p : Prs} (h : x.nw = some p) (hs : p.s ≠ m.s) : x.refused m = { x with rd := max x.rd m.r } := by unfold Nod.refused; rw [h]; simp [hs]
set_option maxRecDepth 100000 in
set_option maxHeartbeats 16000000 in
theorem gdl_four (h : GpAt w gp n B L g) (hok : GmOk n B g) (hn7 : n ≤ 7) (hB : B ≤ 100000000) {i : Nat} {p : Pkt} (hp : g.bg[i]? = some p) (hk : p.m.k = 4) :
    Calls Try.prog 51 #[.pointer (some ⟨gp, 0, none⟩), .int .i64 (i : Int)] w (ActPost w gp n (B + 1) L (.int .i64 0) (g.arrive n p (g.bg.eraseIdx i))) := by
  have hpo := hok.bg p (List.mem_of_getElem? hp)
  obtain ⟨fr, ds, m⟩ := p
  obtain ⟨hfr, hds, hmo⟩ := hpo
  have hmg := hmo.good (by omega)
  have hx0 := hok.nd ds hds
  have HPA := Lib.hid (parse_any m hmg)
  obtain ⟨mk, ms, mr, mn, mv, mh, mhr, mhn, mhv⟩ := m
  dsimp only at hfr hds hk
  subst hk
  have hN := (New.refl w).alloc (.cells #[.pointer (some ⟨gp, 0, none⟩)] 53)
  have hE := Blk.mk_new w 53 #[.pointer (some ⟨gp, 0, none⟩)]
  have h1 := h.new hN
  obtain ⟨g0, c0, c1, cz⟩ := h1.facts
  have HTK := Lib.hid (btake h1.bag (k := i) (x := (⟨(fr : Int), (ds : Int), str (Msg.enc ⟨4, ms, mr, mn, mv, mh, mhr, mhn, mhv⟩)⟩ : Pk)) (by rw [List.getElem?_map, hp]; rfl))
  rw [map_erase] at HTK
  have HH1 := Lib.hid h1
  have HN := Lib.hid hN
  have HE := Lib.hid hE
  have HOK := Lib.hid hok
  have HX0 := Lib.hid hx0
  have HMO := Lib.hid hmo
  have HDS := Lib.hid hds
  have HFR := Lib.hid hfr
  have HLT : Hid (∀ k, L.Fn ds k → k < w.heap.size) := Lib.hid (fun k hk => h.lt ds hds k hk)
  have HEB : Hid (¬ BgF L.bb L.lv w.heap.size) := Lib.hid (fun hk => by have := h.bag.lt _ hk; omega)
  clear h h1 hN hE hp hok hx0 hmo hmg
  have HW0 : Hid ((w.alloc (.cells #[.pointer (some ⟨gp, 0, none⟩)] 53)).heap.size = w.heap.size + 1) := Lib.hid (by simp)
  go_enter Try.func51, Try.ntmps51
  go_wp2_with fail
  generalize w.alloc (.cells #[.pointer (some ⟨gp, 0, none⟩)] 53) = w0 at *
  refine HTK.out.mono ?_
  intro e w1 hb
  obtain ⟨rfl, v', hg1, hu1, hv1⟩ := HH1.out.bagPost hb
  have hE1 := HE.out.upd hu1 HEB.out
  have hN2 := (New.refl w1).alloc (.cells #[.int .i64 (fr : Int), .int .i64 (ds : Int), .string (str (Msg.enc ⟨4, ms, mr, mn, mv, mh, mhr, mhn, mhv⟩))] 125)
  have hD2 := Blk.mk_new w1 125 #[.int .i64 (fr : Int), .int .i64 (ds : Int), .string (str (Msg.enc ⟨4, ms, mr, mn, mv, mh, mhr, mhn, mhv⟩))]
  have hE2 := hE1.new hN2
  have HG2 := Lib.hid (hg1.new hN2)
  have HSD := Lib.hid (show SdPost w0 gp n B L g (g.bg.eraseIdx i) w1 from ⟨v', hg1, hu1, hv1⟩)
  have HG1 := Lib.hid hg1
  have HU1 := Lib.hid hu1
  have HV1 := Lib.hid hv1
  have HN2 := Lib.hid hN2
  clear hb hg1 hu1 hv1 hE1 g0 c0 c1 cz hN2
  go_upto_region 4 with fail
  generalize w1.alloc (.cells #[.int .i64 (fr : Int), .int .i64 (ds : Int), .string (str (Msg.enc ⟨4, ms, mr, mn, mv, mh, mhr, mhn, mhv⟩))] 125) = w2 at *
  have hDl := hD2.lt
  have HDG : Hid (w.heap.size < w1.heap.size) := Lib.hid (by have := HU1.out.size; have := HW0.out; omega)
  generalize w1.heap.size = d at *
  have x0 := hE2.cell 0
  have xl := hE2.lt
  have y0 := hD2.cell 0
  have y1 := hD2.cell 1
  have y2 := hD2.cell 2
  simp at x0 y0 y1 y2
  have HR2 : Hid (RpAt w2 w.heap.size d gp fr ds (str (Msg.enc ⟨4, ms, mr, mn, mv, mh, mhr, mhn, mhv⟩))) := Lib.hid ⟨hE2, hD2⟩
  clear hE2 hD2
  go_cut [7, 8] (fun s7 s8 wx => DvRel w2 (L.nb ds) #[.int .i64 ((4 : Nat) : Int), .int .u64 (ms : Int), .int .u64 (mr : Int), .int .u64 (mn : Int), .string mv, .bool mh, .int .u64 (mhr : Int), .int .u64 (mhn : Int), .string mhv] s7 s8 wx)
  case first =>
    refine wp_region_held_drew (S := fun w' => Held w2 w') (by kernel_rfl) (Held.of (New.refl _).drew) (fun hHeld => ?_)
    refine wpAnyH_take (i := 0) (oi := { dst := some 25, op := Op.fieldAddr 125 (Operand.tmp 5) 2, type := 0, pos := "decree.go:180", after := #[], guard := none }) (v := ?_) rfl (by kernel_rfl) (by kernel_rfl) (by kernel_rfl) (fun _ _ _ h => h) (Or.inl ⟨by rfl, ?_⟩) (by assumption) ?_
    rotate_left
    · (intro wq hSw; (try dsimp only at hSw); go_simp; first | done | with_reducible rfl)
    try simp only [Act.put, List.setIfInBounds_toArray, List.set_cons_zero, List.set_cons_succ]
    refine wpAnyH_take (i := 1) (oi := { dst := some 26, op := Op.load 9 (Operand.tmp 25), type := 9, pos := "decree.go:180", after := #[{ on := 0, ground := Ground.data }], guard := none }) (v := ?_) rfl (by kernel_rfl) (by kernel_rfl) (by kernel_rfl) (fun _ _ _ h => h) (Or.inl ⟨by rfl, ?_⟩) (by assumption) ?_
    rotate_left
    · (intro wq hSw; (try dsimp only at hSw); go_simp; first | done | with_reducible rfl)
    try simp only [Act.put, List.setIfInBounds_toArray, List.set_cons_zero, List.set_cons_succ]
    refine wpAnyH_take (i := 3) (oi := { dst := some 28, op := Op.load 53 (Operand.tmp 2), type := 53, pos := "decree.go:180", after := #[], guard := none }) (v := ?_) rfl (by kernel_rfl) (by kernel_rfl) (by kernel_rfl) (fun _ _ _ h => h) (Or.inl ⟨by rfl, ?_⟩) (by assumption) ?_
    rotate_left
    · (intro wq hSw; (try dsimp only at hSw); go_simp; first | done | with_reducible rfl)
    try simp only [Act.put, List.setIfInBounds_toArray, List.set_cons_zero, List.set_cons_succ]
    refine wpAnyH_take (i := 4) (oi := { dst := some 29, op := Op.fieldAddr 125 (Operand.tmp 5) 1, type := 0, pos := "decree.go:180", after := #[], guard := none }) (v := ?_) rfl (by kernel_rfl) (by kernel_rfl) (by kernel_rfl) (fun _ _ _ h => h) (Or.inl ⟨by rfl, ?_⟩) (by assumption) ?_
    rotate_left
    · (intro wq hSw; (try dsimp only at hSw); go_simp; first | done | with_reducible rfl)
    try simp only [Act.put, List.setIfInBounds_toArray, List.set_cons_zero, List.set_cons_succ]
    refine wpAnyH_take (i := 5) (oi := { dst := some 30, op := Op.load 3 (Operand.tmp 29), type := 3, pos := "decree.go:180", after := #[{ on := 4, ground := Ground.data }], guard := none }) (v := ?_) rfl (by kernel_rfl) (by kernel_rfl) (by kernel_rfl) (fun _ _ _ h => h) (Or.inl ⟨by rfl, ?_⟩) (by assumption) ?_
    rotate_left
    · (intro wq hSw; (try dsimp only at hSw); go_simp; first | done | with_reducible rfl)
    try simp only [Act.put, List.setIfInBounds_toArray, List.set_cons_zero, List.set_cons_succ]
    refine wpAnyH_ready (rs := [2, 7]) (by kernel_rfl) (by simp) ?_
    refine AllReadyH.cons (o := { dst := some 27, op := Op.call { callee := Callee.value (Operand.func 62), args := #[Operand.tmp 26], argTypes := #[9] }, type := 107, pos := "decree.go:180", after := #[{ on := 1, ground := Ground.data }], guard := none }) rfl (fun K hK => ?_) (AllReadyH.cons (o := { dst := some 7, op := Op.alloc 107, type := 0, pos := "decree.go:180", after := #[], guard := none }) rfl (fun K hK => ?_) AllReadyH.nil)
    · go_simp
      refine (HPA.out _).mono ?_
      rintro e wp ⟨rfl, hnp⟩
      have hN3 := (((New.refl w2).drew)).trans hnp
      refine hK.out _ _ ?_ (fun hHeld => ?_)
      · exact Held.of hN3
      clear hK K
      try simp only [Act.put, List.setIfInBounds_toArray, List.set_cons_zero, List.set_cons_succ]
      refine wpAnyH_ready (rs := [6, 7]) (by kernel_rfl) (by simp) ?_
      refine AllReadyH.cons (o := { dst := some 31, op := Op.call { callee := Callee.value (Operand.func 46), args := #[Operand.tmp 28, Operand.tmp 30], argTypes := #[53, 3] }, type := 95, pos := "decree.go:180", after := #[{ on := 3, ground := Ground.data }, { on := 5, ground := Ground.data }, { on := 2, ground := Ground.chain }], guard := none }) rfl (fun K hK => ?_) (AllReadyH.cons (o := { dst := some 7, op := Op.alloc 107, type := 0, pos := "decree.go:180", after := #[], guard := none }) rfl (fun K hK => ?_) AllReadyH.nil)
      · go_simp
        refine (gat (HG2.out.new (hN3)) HDS.out).mono ?_
        rintro e wq ⟨rfl, hwq⟩
        subst wq
        refine hK.out _ _ ?_ (fun hHeld => ?_)
        · exact Held.of (hN3)
        clear hK K
        skip
        refine wpAnyH_ready (rs := [7]) (by kernel_rfl) (by simp) ?_
        refine AllReadyH.cons (o := { dst := some 7, op := Op.alloc 107, type := 0, pos := "decree.go:180", after := #[], guard := none }) rfl (fun K hK => ?_) AllReadyH.nil
        go_simp
        have hN4 := (hN3).alloc (.cells #[.int .i64 0, .int .u64 0, .int .u64 0, .int .u64 0, .string ⟨#[]⟩, .bool false, .int .u64 0, .int .u64 0, .string ⟨#[]⟩] 107)
        have hz4 : Blk (wp.alloc (.cells #[.int .i64 0, .int .u64 0, .int .u64 0, .int .u64 0, .string ⟨#[]⟩, .bool false, .int .u64 0, .int .u64 0, .string ⟨#[]⟩] 107)) wp.heap.size 107 #[.int .i64 0, .int .u64 0, .int .u64 0, .int .u64 0, .string ⟨#[]⟩, .bool false, .int .u64 0, .int .u64 0, .string ⟨#[]⟩] := Blk.mk_new wp 107 #[.int .i64 0, .int .u64 0, .int .u64 0, .int .u64 0, .string ⟨#[]⟩, .bool false, .int .u64 0, .int .u64 0, .string ⟨#[]⟩]
        refine hK.out _ _ ?_ (fun hHeld => ?_)
        · exact Held.of hN4
        clear hK K
        try simp only [Act.put, List.setIfInBounds_toArray, List.set_cons_zero, List.set_cons_succ]
        refine wpAnyH_ready (rs := [8]) (by kernel_rfl) (by simp) ?_
        refine AllReadyH.cons (o := { dst := none, op := Op.store 107 (Operand.tmp 7) (Operand.tmp 27), type := 0, pos := "decree.go:180", after := #[{ on := 7, ground := Ground.data }, { on := 2, ground := Ground.data }, { on := 6, ground := Ground.chain }, { on := 0, ground := Ground.phase }, { on := 1, ground := Ground.phase }, { on := 2, ground := Ground.phase }, { on := 3, ground := Ground.textOnly Departure.lateStores }, { on := 4, ground := Ground.textOnly Departure.lateStores }, { on := 5, ground := Ground.textOnly Departure.lateStores }, { on := 6, ground := Ground.textOnly Departure.lateStoresUnsure }, { on := 7, ground := Ground.phase }], guard := none }) rfl (fun K hK => ?_) AllReadyH.nil
        go_simp
        have hN5 := (hN3).alloc (.cells #[.int .i64 ((4 : Nat) : Int), .int .u64 (ms : Int), .int .u64 (mr : Int), .int .u64 (mn : Int), .string mv, .bool mh, .int .u64 (mhr : Int), .int .u64 (mhn : Int), .string mhv] 107)
        refine hK.out _ _ ?_ (fun hHeld => ?_)
        · exact Held.of hN5
        clear hK K
        skip
        refine wpAnyH_take (i := 9) (oi := { dst := some 8, op := Op.assign (Operand.tmp 31), type := 95, pos := "decree.go:180", after := #[{ on := 6, ground := Ground.data }, { on := 8, ground := Ground.chain }, { on := 0, ground := Ground.phase }, { on := 1, ground := Ground.phase }, { on := 2, ground := Ground.phase }, { on := 3, ground := Ground.phase }, { on := 4, ground := Ground.phase }, { on := 5, ground := Ground.phase }, { on := 6, ground := Ground.phase }, { on := 7, ground := Ground.phase }, { on := 8, ground := Ground.phase }], guard := none }) (v := ?_) rfl (by kernel_rfl) (by kernel_rfl) (by kernel_rfl) (fun _ _ _ h => h) (Or.inl ⟨by rfl, ?_⟩) (by assumption) ?_
        rotate_left
        · (intro wq hSw; (try dsimp only at hSw); go_simp; first | done | with_reducible rfl)
        try simp only [Act.put, List.setIfInBounds_toArray, List.set_cons_zero, List.set_cons_succ]
        refine wpAnyH_done (by kernel_rfl) ?_ _
        clear hHeld
        have hbF := (Blk.mk_new wp 107 #[.int .i64 ((4 : Nat) : Int), .int .u64 (ms : Int), .int .u64 (mr : Int), .int .u64 (mn : Int), .string mv, .bool mh, .int .u64 (mhr : Int), .int .u64 (mhn : Int), .string mhv])
        go_wp2_with fail
        go_meet
        exact ⟨wp.heap.size, rfl, rfl, hbF, (by first | exact Nat.le_refl _ | exact (hN3).size), hN5⟩
      · go_simp
        have hN4 := (hN3).alloc (.cells #[.int .i64 0, .int .u64 0, .int .u64 0, .int .u64 0, .string ⟨#[]⟩, .bool false, .int .u64 0, .int .u64 0, .string ⟨#[]⟩] 107)
        have hz4 : Blk (wp.alloc (.cells #[.int .i64 0, .int .u64 0, .int .u64 0, .int .u64 0, .string ⟨#[]⟩, .bool false, .int .u64 0, .int .u64 0, .string ⟨#[]⟩] 107)) wp.heap.size 107 #[.int .i64 0, .int .u64 0, .int .u64 0, .int .u64 0, .string ⟨#[]⟩, .bool false, .int .u64 0, .int .u64 0, .string ⟨#[]⟩] := Blk.mk_new wp 107 #[.int .i64 0, .int .u64 0, .int .u64 0, .int .u64 0, .string ⟨#[]⟩, .bool false, .int .u64 0, .int .u64 0, .string ⟨#[]⟩]
        refine hK.out _ _ ?_ (fun hHeld => ?_)
        · exact Held.of hN4
        clear hK K
        try simp only [Act.put, List.setIfInBounds_toArray, List.set_cons_zero, List.set_cons_succ]
        refine wpAnyH_ready (rs := [6]) (by kernel_rfl) (by simp) ?_
        refine AllReadyH.cons (o := { dst := some 31, op := Op.call { callee := Callee.value (Operand.func 46), args := #[Operand.tmp 28, Operand.tmp 30], argTypes := #[53, 3] }, type := 95, pos := "decree.go:180", after := #[{ on := 3, ground := Ground.data }, { on := 5, ground := Ground.data }, { on := 2, ground := Ground.chain }], guard := none }) rfl (fun K hK => ?_) AllReadyH.nil
        go_simp
        refine (gat (HG2.out.new (hN4)) HDS.out).mono ?_
        rintro e wq ⟨rfl, hwq⟩
        subst wq
        refine hK.out _ _ ?_ (fun hHeld => ?_)
        · exact Held.of (hN4)
        clear hK K
        skip
        refine wpAnyH_ready (rs := [8]) (by kernel_rfl) (by simp) ?_
        refine AllReadyH.cons (o := { dst := none, op := Op.store 107 (Operand.tmp 7) (Operand.tmp 27), type := 0, pos := "decree.go:180", after := #[{ on := 7, ground := Ground.data }, { on := 2, ground := Ground.data }, { on := 6, ground := Ground.chain }, { on := 0, ground := Ground.phase }, { on := 1, ground := Ground.phase }, { on := 2, ground := Ground.phase }, { on := 3, ground := Ground.textOnly Departure.lateStores }, { on := 4, ground := Ground.textOnly Departure.lateStores }, { on := 5, ground := Ground.textOnly Departure.lateStores }, { on := 6, ground := Ground.textOnly Departure.lateStoresUnsure }, { on := 7, ground := Ground.phase }], guard := none }) rfl (fun K hK => ?_) AllReadyH.nil
        go_simp
        have hN5 := (hN3).alloc (.cells #[.int .i64 ((4 : Nat) : Int), .int .u64 (ms : Int), .int .u64 (mr : Int), .int .u64 (mn : Int), .string mv, .bool mh, .int .u64 (mhr : Int), .int .u64 (mhn : Int), .string mhv] 107)
        refine hK.out _ _ ?_ (fun hHeld => ?_)
        · exact Held.of hN5
        clear hK K
        skip
        refine wpAnyH_take (i := 9) (oi := { dst := some 8, op := Op.assign (Operand.tmp 31), type := 95, pos := "decree.go:180", after := #[{ on := 6, ground := Ground.data }, { on := 8, ground := Ground.chain }, { on := 0, ground := Ground.phase }, { on := 1, ground := Ground.phase }, { on := 2, ground := Ground.phase }, { on := 3, ground := Ground.phase }, { on := 4, ground := Ground.phase }, { on := 5, ground := Ground.phase }, { on := 6, ground := Ground.phase }, { on := 7, ground := Ground.phase }, { on := 8, ground := Ground.phase }], guard := none }) (v := ?_) rfl (by kernel_rfl) (by kernel_rfl) (by kernel_rfl) (fun _ _ _ h => h) (Or.inl ⟨by rfl, ?_⟩) (by assumption) ?_
        rotate_left
        · (intro wq hSw; (try dsimp only at hSw); go_simp; first | done | with_reducible rfl)
        try simp only [Act.put, List.setIfInBounds_toArray, List.set_cons_zero, List.set_cons_succ]
        refine wpAnyH_done (by kernel_rfl) ?_ _
        clear hHeld
        have hbF := (Blk.mk_new wp 107 #[.int .i64 ((4 : Nat) : Int), .int .u64 (ms : Int), .int .u64 (mr : Int), .int .u64 (mn : Int), .string mv, .bool mh, .int .u64 (mhr : Int), .int .u64 (mhn : Int), .string mhv])
        go_wp2_with fail
        go_meet
        exact ⟨wp.heap.size, rfl, rfl, hbF, (by first | exact Nat.le_refl _ | exact (hN3).size), hN5⟩
    · go_simp
      have hN4 := (((New.refl w2).drew)).alloc (.cells #[.int .i64 0, .int .u64 0, .int .u64 0, .int .u64 0, .string ⟨#[]⟩, .bool false, .int .u64 0, .int .u64 0, .string ⟨#[]⟩] 107)
      have hz4 : Blk (w2.drew.alloc (.cells #[.int .i64 0, .int .u64 0, .int .u64 0, .int .u64 0, .string ⟨#[]⟩, .bool false, .int .u64 0, .int .u64 0, .string ⟨#[]⟩] 107)) w2.heap.size 107 #[.int .i64 0, .int .u64 0, .int .u64 0, .int .u64 0, .string ⟨#[]⟩, .bool false, .int .u64 0, .int .u64 0, .string ⟨#[]⟩] := Blk.mk_new w2.drew 107 #[.int .i64 0, .int .u64 0, .int .u64 0, .int .u64 0, .string ⟨#[]⟩, .bool false, .int .u64 0, .int .u64 0, .string ⟨#[]⟩]
      refine hK.out _ _ ?_ (fun hHeld => ?_)
      · exact Held.of hN4
      clear hK K
      try simp only [Act.put, List.setIfInBounds_toArray, List.set_cons_zero, List.set_cons_succ]
      refine wpAnyH_ready (rs := [2]) (by kernel_rfl) (by simp) ?_
      refine AllReadyH.cons (o := { dst := some 27, op := Op.call { callee := Callee.value (Operand.func 62), args := #[Operand.tmp 26], argTypes := #[9] }, type := 107, pos := "decree.go:180", after := #[{ on := 1, ground := Ground.data }], guard := none }) rfl (fun K hK => ?_) AllReadyH.nil
      go_simp
      refine (HPA.out _).mono ?_
      rintro e wp ⟨rfl, hnp⟩
      have hN3 := (hN4).trans hnp
      have hz3 := hz4.new hnp
      obtain ⟨zl, z0, z1, z2, z3, z4, z5, z6, z7, z8, zz⟩ := Blk9F hz3
      refine hK.out _ _ ?_ (fun hHeld => ?_)
      · exact Held.of hN3
      clear hK K
      try simp only [Act.put, List.setIfInBounds_toArray, List.set_cons_zero, List.set_cons_succ]
      refine wpAnyH_ready (rs := [6]) (by kernel_rfl) (by simp) ?_
      refine AllReadyH.cons (o := { dst := some 31, op := Op.call { callee := Callee.value (Operand.func 46), args := #[Operand.tmp 28, Operand.tmp 30], argTypes := #[53, 3] }, type := 95, pos := "decree.go:180", after := #[{ on := 3, ground := Ground.data }, { on := 5, ground := Ground.data }, { on := 2, ground := Ground.chain }], guard := none }) rfl (fun K hK => ?_) AllReadyH.nil
      go_simp
      refine (gat (HG2.out.new (hN3)) HDS.out).mono ?_
      rintro e wq ⟨rfl, hwq⟩
      subst wq
      refine hK.out _ _ ?_ (fun hHeld => ?_)
      · exact Held.of (hN3)
      clear hK K
      skip
      refine wpAnyH_ready (rs := [8]) (by kernel_rfl) (by simp) ?_
      refine AllReadyH.cons (o := { dst := none, op := Op.store 107 (Operand.tmp 7) (Operand.tmp 27), type := 0, pos := "decree.go:180", after := #[{ on := 7, ground := Ground.data }, { on := 2, ground := Ground.data }, { on := 6, ground := Ground.chain }, { on := 0, ground := Ground.phase }, { on := 1, ground := Ground.phase }, { on := 2, ground := Ground.phase }, { on := 3, ground := Ground.textOnly Departure.lateStores }, { on := 4, ground := Ground.textOnly Departure.lateStores }, { on := 5, ground := Ground.textOnly Departure.lateStores }, { on := 6, ground := Ground.textOnly Departure.lateStoresUnsure }, { on := 7, ground := Ground.phase }], guard := none }) rfl (fun K hK => ?_) AllReadyH.nil
      go_simp
      have hN5 := (New.setCell (New.setCell (New.setCell (New.setCell (New.setCell (New.setCell (New.setCell (New.setCell (New.setCell hN3 (p := ⟨w2.heap.size, 0, none⟩) (Nat.le_refl _) (.int .i64 ((4 : Nat) : Int))) (p := ⟨w2.heap.size, 1, none⟩) (Nat.le_refl _) (.int .u64 (ms : Int))) (p := ⟨w2.heap.size, 2, none⟩) (Nat.le_refl _) (.int .u64 (mr : Int))) (p := ⟨w2.heap.size, 3, none⟩) (Nat.le_refl _) (.int .u64 (mn : Int))) (p := ⟨w2.heap.size, 4, none⟩) (Nat.le_refl _) (.string mv)) (p := ⟨w2.heap.size, 5, none⟩) (Nat.le_refl _) (.bool mh)) (p := ⟨w2.heap.size, 6, none⟩) (Nat.le_refl _) (.int .u64 (mhr : Int))) (p := ⟨w2.heap.size, 7, none⟩) (Nat.le_refl _) (.int .u64 (mhn : Int))) (p := ⟨w2.heap.size, 8, none⟩) (Nat.le_refl _) (.string mhv))
      refine hK.out _ _ ?_ (fun hHeld => ?_)
      · exact Held.of hN5
      clear hK K
      skip
      refine wpAnyH_take (i := 9) (oi := { dst := some 8, op := Op.assign (Operand.tmp 31), type := 95, pos := "decree.go:180", after := #[{ on := 6, ground := Ground.data }, { on := 8, ground := Ground.chain }, { on := 0, ground := Ground.phase }, { on := 1, ground := Ground.phase }, { on := 2, ground := Ground.phase }, { on := 3, ground := Ground.phase }, { on := 4, ground := Ground.phase }, { on := 5, ground := Ground.phase }, { on := 6, ground := Ground.phase }, { on := 7, ground := Ground.phase }, { on := 8, ground := Ground.phase }], guard := none }) (v := ?_) rfl (by kernel_rfl) (by kernel_rfl) (by kernel_rfl) (fun _ _ _ h => h) (Or.inl ⟨by rfl, ?_⟩) (by assumption) ?_
      rotate_left
      · (intro wq hSw; (try dsimp only at hSw); go_simp; first | done | with_reducible rfl)
      try simp only [Act.put, List.setIfInBounds_toArray, List.set_cons_zero, List.set_cons_succ]
      refine wpAnyH_done (by kernel_rfl) ?_ _
      clear hHeld
      have hbF := (Blk.set_ (Blk.set_ (Blk.set_ (Blk.set_ (Blk.set_ (Blk.set_ (Blk.set_ (Blk.set_ (Blk.set_ hz3 0 (.int .i64 ((4 : Nat) : Int))) 1 (.int .u64 (ms : Int))) 2 (.int .u64 (mr : Int))) 3 (.int .u64 (mn : Int))) 4 (.string mv)) 5 (.bool mh)) 6 (.int .u64 (mhr : Int))) 7 (.int .u64 (mhn : Int))) 8 (.string mhv))
      go_wp2_with fail
      go_meet
      exact ⟨w2.heap.size, rfl, rfl, hbF, (by first | exact Nat.le_refl _ | exact (hN3).size), hN5⟩
  case rest =>
    obtain ⟨c, rfl, rfl, hM, hc, hn3⟩ := hcut
    have HG3 := Lib.hid (HG2.out.new hn3)
    have HR3 : Hid (RpAt wc w.heap.size d gp fr ds (str (Msg.enc ⟨4, ms, mr, mn, mv, mh, mhr, mhn, mhv⟩))) := Lib.hid ⟨HR2.out.c.new hn3, HR2.out.d.new hn3⟩
    have HN3 := Lib.hid (HN2.out.trans hn3)
    obtain ⟨p0, a0, a1, a2, a3, a4, a5, a6, a7, a8, az⟩ := Blk9F hM
    have HM := Lib.hid hM
    clear x0 xl y0 y1 y2 hDl
    have xl := HR3.out.c.lt
    have x0 := HR3.out.c.cell 0
    have dl := HR3.out.d.lt
    have d0 := HR3.out.d.cell 0
    have d1 := HR3.out.d.cell 1
    simp at x0 d0 d1
    clear hM hn3
    obtain ⟨b9, b0, b1, b2, b3, b4, b5, bz⟩ := Blk6F (HG3.out.nd ds HDS.out).blk
    dsimp only at b3 b4 b5
    have hmx : True := trivial
    have HNC := Lib.hid (show L.nb ds ≠ c from fun e => Blk.ne_ (HG3.out.nd ds HDS.out).blk HM.out (by decide) e)
    go_upto_region 15 with fail
    refine wp_region_held_drew (S := fun w' => ∀ o, w'.cell? ⟨c, o, none⟩ = wc.cell? ⟨c, o, none⟩) (by kernel_rfl) (fun _ => rfl) (fun hHeld => ?_)
    refine wpAnyH_take (i := 0) (oi := { dst := some 61, op := Op.move (Operand.tmp 8), type := 95, pos := "decree.go:190", after := #[], guard := none }) (v := ?_) rfl (by kernel_rfl) (by kernel_rfl) (by kernel_rfl) (fun _ _ _ h => h) (Or.inl ⟨by rfl, ?_⟩) (by assumption) ?_
    rotate_left
    · (intro wq hSw; (try dsimp only at hSw); go_simp; first | done | with_reducible rfl)
    try simp only [Act.put, List.setIfInBounds_toArray, List.set_cons_zero, List.set_cons_succ]
    refine wpAnyH_take (i := 1) (oi := { dst := some 62, op := Op.move (Operand.tmp 8), type := 95, pos := "decree.go:190", after := #[], guard := none }) (v := ?_) rfl (by kernel_rfl) (by kernel_rfl) (by kernel_rfl) (fun _ _ _ h => h) (Or.inl ⟨by rfl, ?_⟩) (by assumption) ?_
    rotate_left
    · (intro wq hSw; (try dsimp only at hSw); go_simp; first | done | with_reducible rfl)
    try simp only [Act.put, List.setIfInBounds_toArray, List.set_cons_zero, List.set_cons_succ]
    refine wpAnyH_take (i := 2) (oi := { dst := some 63, op := Op.nilCheck (Operand.tmp 62), type := 0, pos := "decree.go:190", after := #[{ on := 1, ground := Ground.data }], guard := none }) (v := ?_) rfl (by kernel_rfl) (by kernel_rfl) (by kernel_rfl) (fun _ _ _ h => h) (Or.inl ⟨by rfl, ?_⟩) (by assumption) ?_
    rotate_left
    · (intro wq hSw; (try dsimp only at hSw); go_simp; first | done | with_reducible rfl)
    try simp only [Act.put, List.setIfInBounds_toArray, List.set_cons_zero, List.set_cons_succ]
    refine wpAnyH_take (i := 3) (oi := { dst := some 64, op := Op.fieldAddr 100 (Operand.tmp 63) 3, type := 0, pos := "decree.go:190", after := #[{ on := 2, ground := Ground.data }], guard := none }) (v := ?_) rfl (by kernel_rfl) (by kernel_rfl) (by kernel_rfl) (fun _ _ _ h => h) (Or.inl ⟨by rfl, ?_⟩) (by assumption) ?_
    rotate_left
    · (intro wq hSw; (try dsimp only at hSw); go_simp; first | done | with_reducible rfl)
    try simp only [Act.put, List.setIfInBounds_toArray, List.set_cons_zero, List.set_cons_succ]
    refine wpAnyH_take (i := 5) (oi := { dst := some 66, op := Op.fieldAddr 107 (Operand.tmp 7) 2, type := 0, pos := "decree.go:190", after := #[], guard := none }) (v := ?_) rfl (by kernel_rfl) (by kernel_rfl) (by kernel_rfl) (fun _ _ _ h => h) (Or.inl ⟨by rfl, ?_⟩) (by assumption) ?_
    rotate_left
    · (intro wq hSw; (try dsimp only at hSw); go_simp; first | done | with_reducible rfl)
    try simp only [Act.put, List.setIfInBounds_toArray, List.set_cons_zero, List.set_cons_succ]
    refine wpAnyH_take (i := 6) (oi := { dst := some 67, op := Op.fieldAddr 31 (Operand.tmp 66) 0, type := 0, pos := "decree.go:190", after := #[{ on := 5, ground := Ground.data }], guard := none }) (v := ?_) rfl (by kernel_rfl) (by kernel_rfl) (by kernel_rfl) (fun _ _ _ h => h) (Or.inl ⟨by rfl, ?_⟩) (by assumption) ?_
    rotate_left
    · (intro wq hSw; (try dsimp only at hSw); go_simp; first | done | with_reducible rfl)
    try simp only [Act.put, List.setIfInBounds_toArray, List.set_cons_zero, List.set_cons_succ]
    refine wpAnyH_take (i := 7) (oi := { dst := some 68, op := Op.load 29 (Operand.tmp 67), type := 29, pos := "decree.go:190", after := #[{ on := 6, ground := Ground.data }], guard := none }) (v := ?_) rfl (by kernel_rfl) (by kernel_rfl) (by kernel_rfl) (fun _ _ _ h => h) (Or.inl ⟨by rfl, ?_⟩) (by assumption) ?_
    rotate_left
    · (intro wq hSw; (try dsimp only at hSw); go_simp; first | done | with_reducible rfl)
    try simp only [Act.put, List.setIfInBounds_toArray, List.set_cons_zero, List.set_cons_succ]
    refine wpAnyH_ready (rs := [4]) (by kernel_rfl) (by simp) ?_
    refine AllReadyH.cons (o := { dst := some 65, op := Op.load 29 (Operand.tmp 64), type := 29, pos := "decree.go:190", after := #[{ on := 3, ground := Ground.data }], guard := none }) rfl (fun K hK => ?_) AllReadyH.nil
    go_simp
    refine hK.out _ _ ?_ (fun hHeld => ?_)
    · exact fun _ => rfl
    clear hK K
    try simp only [Act.put, List.setIfInBounds_toArray, List.set_cons_zero, List.set_cons_succ]
    refine wpAnyH_take (i := 8) (oi := { dst := some 69, op := Op.call { callee := Callee.builtin Builtin.max, args := #[Operand.tmp 65, Operand.tmp 68], argTypes := #[29, 29] }, type := 29, pos := "decree.go:190", after := #[{ on := 4, ground := Ground.data }, { on := 7, ground := Ground.data }], guard := none }) (v := ?_) rfl (by kernel_rfl) (by kernel_rfl) (by kernel_rfl) (fun _ _ _ h => h) (Or.inl ⟨by rfl, ?_⟩) (by assumption) ?_
    rotate_left
    · (intro wq hSw; (try dsimp only at hSw); go_simp; first | done | with_reducible rfl)
    try simp only [Act.put, List.setIfInBounds_toArray, List.set_cons_zero, List.set_cons_succ]
    refine wpAnyH_take (i := 9) (oi := { dst := some 70, op := Op.nilCheck (Operand.tmp 61), type := 0, pos := "decree.go:190", after := #[{ on := 0, ground := Ground.data }, { on := 0, ground := Ground.phase }, { on := 1, ground := Ground.phase }, { on := 2, ground := Ground.phase }, { on := 3, ground := Ground.phase }, { on := 4, ground := Ground.phase }, { on := 5, ground := Ground.phase }, { on := 6, ground := Ground.phase }, { on := 7, ground := Ground.phase }, { on := 8, ground := Ground.phase }], guard := none }) (v := ?_) rfl (by kernel_rfl) (by kernel_rfl) (by kernel_rfl) (fun _ _ _ h => h) (Or.inl ⟨by rfl, ?_⟩) (by assumption) ?_
    rotate_left
    · (intro wq hSw; (try dsimp only at hSw); go_simp; first | done | with_reducible rfl)
    try simp only [Act.put, List.setIfInBounds_toArray, List.set_cons_zero, List.set_cons_succ]
    refine wpAnyH_take (i := 10) (oi := { dst := some 71, op := Op.fieldAddr 100 (Operand.tmp 70) 3, type := 0, pos := "decree.go:190", after := #[{ on := 9, ground := Ground.data }, { on := 0, ground := Ground.phase }, { on := 1, ground := Ground.phase }, { on := 2, ground := Ground.phase }, { on := 3, ground := Ground.phase }, { on := 4, ground := Ground.phase }, { on := 5, ground := Ground.phase }, { on := 6, ground := Ground.phase }, { on := 7, ground := Ground.phase }, { on := 8, ground := Ground.phase }], guard := none }) (v := ?_) rfl (by kernel_rfl) (by kernel_rfl) (by kernel_rfl) (fun _ _ _ h => h) (Or.inl ⟨by rfl, ?_⟩) (by assumption) ?_
    rotate_left
    · (intro wq hSw; (try dsimp only at hSw); go_simp; first | done | with_reducible rfl)
    try simp only [Act.put, List.setIfInBounds_toArray, List.set_cons_zero, List.set_cons_succ]
    refine wpAnyH_ready (rs := [11]) (by kernel_rfl) (by simp) ?_
    refine AllReadyH.cons (o := { dst := none, op := Op.store 29 (Operand.tmp 71) (Operand.tmp 69), type := 0, pos := "decree.go:190", after := #[{ on := 10, ground := Ground.data }, { on := 8, ground := Ground.data }, { on := 0, ground := Ground.phase }, { on := 1, ground := Ground.phase }, { on := 2, ground := Ground.phase }, { on := 3, ground := Ground.phase }, { on := 4, ground := Ground.phase }, { on := 5, ground := Ground.phase }, { on := 6, ground := Ground.phase }, { on := 7, ground := Ground.phase }, { on := 8, ground := Ground.phase }], guard := none }) rfl (fun K hK => ?_) AllReadyH.nil
    go_simp
    refine hK.out _ _ ?_ (fun hHeld => ?_)
    · exact (fun o => (World.cell?_setCell_far _ ⟨L.nb ds, 3, none⟩ ⟨c, o, none⟩ _ HNC.out))
    clear hK K
    skip
    refine wpAnyH_done (by kernel_rfl) ?_ _
    clear hHeld
    go_upto_region 16 with fail
    have hR : (if (g.nd ds).rd < mr then (mr : Int) else ((g.nd ds).rd : Int)) = ((max (g.nd ds).rd mr : Nat) : Int) := by split <;> omega
    rw [hR]
    have hu5 : Upd (· = L.nb ds) wc (wc.setCell ⟨L.nb ds, 3, none⟩ (.int .u64 ((max (g.nd ds).rd mr : Nat) : Int))).drew := ((Upd.refl _ wc).setIn 3 _).drew
    have hx3 := HG3.out.nd ds HDS.out
    have hb5 : Blk (wc.setCell ⟨L.nb ds, 3, none⟩ (.int .u64 ((max (g.nd ds).rd mr : Nat) : Int))).drew (L.nb ds) _ _ := (hx3.blk.set_ 3 (.int .u64 ((max (g.nd ds).rd mr : Nat) : Int))).drew
    have hX5 := hx3.block (B := B) hu5 hb5 (hx3.pe.upd hu5 (fun k hk e => hx3.pe.ne_blk hx3.blk (by decide) (e ▸ hk))) hx3.f2 (hx3.nw.far hx3.blk (by decide) (by decide) hu5)
    have hM5 := HM.out.upd hu5 (fun e => HNC.out e.symm)
    have HU5 := Lib.hid hu5
    have HX5 := Lib.hid (hX5.mono (fun _ h => h) (Nat.le_succ B))
    obtain ⟨q, hq⟩ := hx3.nw.ptr
    have HQ := Lib.hid hq
    have HNWA := Lib.hid hX5.nw
    clear hu5 hx3 hb5 hX5 hR hmx b9 b0 b1 b2 b3 b4 b5 bz p0 a0 a1 a2 a3 a4 a5 a6 a7 a8 az xl x0 dl d0 d1 hq
    generalize (wc.setCell ⟨L.nb ds, 3, none⟩ (.int .u64 ((max (g.nd ds).rd mr : Nat) : Int))).drew = w5 at *
    obtain ⟨p0, a0, a1, a2, a3, a4, a5, a6, a7, a8, az⟩ := Blk9F hM5
    obtain ⟨b9, b0, b1, b2, b3, b4, b5, bz⟩ := Blk6F HX5.out.blk
    dsimp only at b5
    have hnwa := HNWA.out
    dsimp only at hnwa
    clear hM5
    cases hnw : (g.nd ds).nw with
    | none =>
      rw [hnw] at hnwa
      have hpw : (L.nl ds).pw = .pointer none := hnwa
      rw [hpw] at b5
      have HR := Lib.hid (ref_none (m := ⟨4, ms, mr, mn, mv, mh, mhr, mhn, mhv⟩) hnw)
      clear hnw hnwa hpw
      go_quiet (fail)
      go_wp2_with fail
      go_ret
      refine ⟨rfl, GrPost.pre HN.out (GrPost.trans (sdGro HG1.out HU1.out HV1.out).1 (sdGro HG1.out HU1.out HV1.out).2 (GrPost.pre HN3.out ?_))⟩
      have hq9 := HG3.out.ndPost HDS.out (HU5.out.mono fun k _ e => by rw [e]; exact (HG3.out.nd ds HDS.out).f1.1) (HX5.out) (fun k hk => .inl hk) (Nat.le_succ B)
      rw [show (⟨set g.nd ds _, g.bg.eraseIdx i⟩ : Gm) = ⟨set g.nd ds ((g.nd ds).refused ⟨4, ms, mr, mn, mv, mh, mhr, mhn, mhv⟩), g.bg.eraseIdx i⟩ from by rw [HR.out]] at hq9
      exact GrPost.post hq9 ((New.refl _).drewN _)
    | some r =>
      rw [hnw] at hnwa
      obtain ⟨P, hpw, hP⟩ := hnwa
      rw [hpw] at b5
      obtain ⟨q0, e0, e1, e2, e3, e4, e5, e6, e7, ez⟩ := Blk8F hP.blk
      clear e1 e2 e3 e4 e5 e6 e7 hP
      by_cases hrs : r.s = ms
      · have HR := Lib.hid (ref_hit (m := ⟨4, ms, mr, mn, mv, mh, mhr, mhn, mhv⟩) hnw hrs)
        rw [hrs] at e0
        have HX6 := Lib.hid HX5.out.setNow0
        clear hnw hpw hrs
        go_quiet (fail)
        go_wp2_with fail
        go_ret
        refine ⟨rfl, GrPost.pre HN.out (GrPost.trans (sdGro HG1.out HU1.out HV1.out).1 (sdGro HG1.out HU1.out HV1.out).2 (GrPost.pre HN3.out ?_))⟩
        have hq9 := HG3.out.ndPost HDS.out ((HU5.out.setIn 5 _).mono fun k _ e => by rw [e]; exact (HG3.out.nd ds HDS.out).f1.1) (HX6.out) (fun k hk => .inl hk) (Nat.le_succ B)
        rw [show (⟨set g.nd ds _, g.bg.eraseIdx i⟩ : Gm) = ⟨set g.nd ds ((g.nd ds).refused ⟨4, ms, mr, mn, mv, mh, mhr, mhn, mhv⟩), g.bg.eraseIdx i⟩ from by rw [HR.out]] at hq9
        exact GrPost.post hq9 ((New.refl _).drewN _)
      · have HR := Lib.hid (ref_miss (m := ⟨4, ms, mr, mn, mv, mh, mhr, mhn, mhv⟩) hnw hrs)
        have hne : ((r.s : Int) == (ms : Int)) = false := by rw [beq_eq_false_iff_ne]; omega
        clear hnw hpw hrs
        go_quiet (fail)
        go_wp2_with fail
        go_ret
        refine ⟨rfl, GrPost.pre HN.out (GrPost.trans (sdGro HG1.out HU1.out HV1.out).1 (sdGro HG1.out HU1.out HV1.out).2 (GrPost.pre HN3.out ?_))⟩
        have hq9 := HG3.out.ndPost HDS.out (HU5.out.mono fun k _ e => by rw [e]; exact (HG3.out.nd ds HDS.out).f1.1) (HX5.out) (fun k hk => .inl hk) (Nat.le_succ B)
        rw [show (⟨set g.nd ds _, g.bg.eraseIdx i⟩ : Gm) = ⟨set g.nd ds ((g.nd ds).refused ⟨4, ms, mr, mn, mv, mh, mhr, mhn, mhv⟩), g.bg.eraseIdx i⟩ from by rw [HR.out]] at hq9
        exact GrPost.post hq9 ((New.refl _).drewN _)
end
end Go.Proofs.Ytghhcjpilcoblaa
