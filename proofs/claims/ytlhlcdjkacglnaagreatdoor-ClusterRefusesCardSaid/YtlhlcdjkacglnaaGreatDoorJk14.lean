/- Chapter 24 (replica): Submit. Printed by genRpW.py. -/
import Derived.Test.YtlhlcdjkacglnaaGreatDoorJk1
import Derived.Test.YtlhlcdjkacglnaaGreatDoorJk13
import Derived.Deep.DeepCutAuto
import Derived.Deep.CutBlock
namespace Go.Proofs.YtlhlcdjkacglnaaGreatDoor
open Go.RowKit Go.Lap C
set_option linter.unusedVariables false
set_option linter.unusedSimpArgs false
section
variable {w w' W wa : World} {S : Nat → Prop} {rp B D : Nat} {L : RpL} {x x' : Rpl} {b : BtV}
theorem rplace (h : RpAt w rp B L x) : Calls Tryz.prog 104 #[.agg #[.int .u64 (x.cf.e : Int), L.cv], .int .i64 x.id] w fun e w' => e = .returned (.int .i64 (placeC x.cf.ms x.id)) ∧ New w w' := place_any x.cf.e L.cv x.cf.ms x.id w (by have := h.cl7; omega) h.cf.slIn
theorem RpAt.offV (h : RpAt w rp B L x) : Off w 46 (RpF rp L) := h.off (by decide) (by decide) (by decide) (by decide)
theorem RpAt.offB (h : RpAt w rp B L x) : ∀ k cs, Blk w k 46 cs → ¬ RpF rp L k := h.offV
theorem RpPost.tail {p : Nat} {cs : Array Value} {u v : Value} (h : RpPost w rp B L x wa) (hb : Blk wa p 46 cs) (hp : w.heap.size ≤ p) : RpPost w rp B L x ((wa.setCell ⟨p, 0, none⟩ u).setCell ⟨p, 1, none⟩ v) := by
  obtain ⟨L', h1, h2, h3⟩ := h
  have hu : Upd (· = p) wa ((wa.setCell ⟨p, 0, none⟩ u).setCell ⟨p, 1, none⟩ v) := ((Upd.refl _ wa).setIn 0 u).setIn 1 v
  exact ⟨L', h1.upd hu (fun k hk e => h1.offB p cs hb (e ▸ hk)) (Off.blk hb (by decide)) (Off.blk hb (by decide)), h2, h3.trans hu (fun i hi e => by omega)⟩
def SubRel (W : World) (rp B : Nat) (L : RpL) (x : Rpl) (b : Btc) (s6 : Value) (wx : World) : Prop :=
  ∃ a6, s6 = .pointer (some ⟨a6, 0, none⟩) ∧ W.heap.size ≤ a6 ∧ Blk wx a6 46 #[.int .u64 ((x.j.say b).2.t : Int), .int .i64 (x.j.say b).2.e] ∧ RpAt wx rp (B + 10) L { x with j := (x.j.say b).1 } ∧ Upd (JdF L.jl) W wx
def SubPost (w : World) (rp B : Nat) (L : RpL) (r : Rpl × Vd × Int) (e : Ending) (w' : World) : Prop := e = .returned (.tuple #[.agg #[.int .u64 (r.2.1.t : Int), .int .i64 r.2.1.e], .int .i64 r.2.2]) ∧ RpPost w rp B L r.1 w'
theorem Blk2W {w : World} {g t : Nat} {a b : Value} (h : Blk w g t #[a, b]) : g < w.heap.size ∧ w.cell? ⟨g, 0, none⟩ = some a ∧ w.cell? ⟨g, 1, none⟩ = some b ∧ (∀ i, w.frozen? ⟨g, i, none⟩ = false) := ⟨h.lt, h.cell 0, h.cell 1, h.frozen⟩
set_option maxRecDepth 100000 in
set_option maxHeartbeats 16000000 in
theorem rsubmit (h : RpAt w rp B L x) (hb : BtAt w b) (hB : B ≤ 9000000) :
    Calls Tryz.prog 139 #[.pointer (some ⟨rp, 0, none⟩), b.val] w (SubPost w rp (B + 20) L (x.submit b.b)) := by
  obtain ⟨⟨c, r, s, l⟩, A, cap⟩ := b
  have HSZ := Lib.hid h.lt
  dsimp only [BtV.val, BtV.sl, batV]
  have hN := ((New.refl w).alloc (.cells #[.int .u64 (c : Int), .int .u64 (r : Int), .int .u64 (s : Int), .slice A l.length cap] 82)).alloc (.cells #[.int .u64 0, .int .i64 0] 46)
  have hM := (Blk.mk_new w 82 #[.int .u64 (c : Int), .int .u64 (r : Int), .int .u64 (s : Int), .slice A l.length cap]).alloc (.cells #[.int .u64 0, .int .i64 0] 46)
  have hZ := Blk.mk_new (w.alloc (.cells #[.int .u64 (c : Int), .int .u64 (r : Int), .int .u64 (s : Int), .slice A l.length cap] 82)) 46 #[.int .u64 0, .int .i64 0]
  rw [World.size_alloc] at hZ
  have hR := h.new hN
  have HR := Lib.hid hR
  have HN := Lib.hid hN
  have HB := Lib.hid (hb.new hN)
  have HX := Lib.hid hM
  have HZ := Lib.hid hZ
  obtain ⟨q0, q1, q2, q3, q4, qz⟩ := Blk4K hM
  obtain ⟨z0, z1, z2, zz⟩ := Blk2W hZ
  obtain ⟨g0, c0, c1, c2, c3, c4, c5, c6, cz⟩ := hR.facts
  clear h hN hM hZ hR hb
  go_enter Tryz.func139, Tryz.ntmps139
  go_upto_region 1 with fail
  generalize (w.alloc _).alloc _ = W at *
  cases hpl : decide (placeC x.cf.ms x.id = 0) with
  | false =>
    have hpl2 := of_decide_eq_false hpl
    have HF : Hid (x.submit ⟨c, r, s, l⟩ = (x, ⟨0, 0⟩, 240)) := Lib.hid (by unfold Rpl.submit; rw [if_pos hpl2])
    have HPL : Hid ((placeC x.cf.ms x.id != 0) = true) := Lib.hid (by simpa using hpl2)
    clear hpl hpl2
    obtain ⟨pl, hple⟩ : ∃ pl, placeC x.cf.ms x.id = pl := ⟨_, rfl⟩
    have HPLE := Lib.hid hple
    rw [hple] at HPL
    have hpl := HPL.out
    clear hple
    refine wp_region_held_drew (S := fun w' => Held W w') (by kernel_rfl) (Held.of (New.refl _).drew) (fun hHeld => ?_)
    refine tkN (i := 0) rfl ?_
    try simp only [Act.put, sA, sZ, sS]
    refine tkN (i := 1) rfl ?_
    try simp only [Act.put, sA, sZ, sS]
    refine tkN (i := 2) rfl ?_
    try simp only [Act.put, sA, sZ, sS]
    refine tkN (i := 3) rfl ?_
    try simp only [Act.put, sA, sZ, sS]
    refine tkN (i := 4) rfl ?_
    try simp only [Act.put, sA, sZ, sS]
    refine tkN (i := 5) rfl ?_
    try simp only [Act.put, sA, sZ, sS]
    refine tkN (i := 6) rfl ?_
    try simp only [Act.put, sA, sZ, sS]
    refine tkN (i := 7) rfl ?_
    try simp only [Act.put, sA, sZ, sS]
    refine stN (i := 8) rfl (fun K hK => ?_)
    go_simp
    have hcall := rplace (HR.out.new (New.refl W).drew)
    rw [HPLE.out] at hcall
    refine hcall.mono ?_
    rintro e w5 ⟨rfl, hn5⟩
    have hn5W : New W w5 := (New.refl W).drew.trans hn5
    refine hK.out _ _ ?_ (fun hHeld => ?_)
    · exact Held.of hn5W
    clear hK K
    try simp only [Act.put, sA, sZ, sS]
    refine tkN (i := 9) rfl ?_
    try simp only [Act.put, sA, sZ, sS]
    refine wpAnyH_done (by kernel_rfl) ?_ _
    clear hHeld
    have HN5 := Lib.hid hn5W
    have HR5 := Lib.hid (HR.out.new hn5W)
    have HX5 := Lib.hid (HX.out.new hn5W)
    have HZ5 := Lib.hid (HZ.out.new hn5W)
    have HB5 := Lib.hid (HB.out.new hn5W)
    clear hn5 hn5W g0 c0 c1 c2 c3 c4 c5 c6 cz q0 q1 q2 q3 q4 qz z0 z1 z2 zz
    obtain ⟨q0, q1, q2, q3, q4, qz⟩ := Blk4K HX5.out
    obtain ⟨z0, z1, z2, zz⟩ := Blk2W HZ5.out
    obtain ⟨g0, c0, c1, c2, c3, c4, c5, c6, cz⟩ := HR5.out.facts
    go_wp2_with fail
    rw [HF.out]
    exact bodyPost_ret (v := .tuple #[.agg #[.int .u64 0, .int .i64 0], .int .i64 240]) (by simp [results, Tryz.results139, go_sem, z1, z2]) rfl ⟨rfl, (RpPost.tail (RpPost.pre (HN.out.trans HN5.out) (RpPost.refl HR5.out)) HZ5.out (by omega)).mono (by omega)⟩
  | true =>
    have hpl2 := of_decide_eq_true hpl
    have HF : Hid (x.submit ⟨c, r, s, l⟩ = (if x.la < (x.j.say ⟨c, r, s, l⟩).1.la then ({ x with j := (x.j.say ⟨c, r, s, l⟩).1 } : Rpl).added ⟨c, r, s, l⟩ else { x with j := (x.j.say ⟨c, r, s, l⟩).1 }, (x.j.say ⟨c, r, s, l⟩).2, 0)) := Lib.hid (by unfold Rpl.submit; rw [if_neg (by omega)])
    have HPLE := Lib.hid hpl2
    clear hpl hpl2
    refine wp_region_held_drew (S := fun w' => Held W w') (by kernel_rfl) (Held.of (New.refl _).drew) (fun hHeld => ?_)
    refine tkN (i := 0) rfl ?_
    try simp only [Act.put, sA, sZ, sS]
    refine tkN (i := 1) rfl ?_
    try simp only [Act.put, sA, sZ, sS]
    refine tkN (i := 2) rfl ?_
    try simp only [Act.put, sA, sZ, sS]
    refine tkN (i := 3) rfl ?_
    try simp only [Act.put, sA, sZ, sS]
    refine tkN (i := 4) rfl ?_
    try simp only [Act.put, sA, sZ, sS]
    refine tkN (i := 5) rfl ?_
    try simp only [Act.put, sA, sZ, sS]
    refine tkN (i := 6) rfl ?_
    try simp only [Act.put, sA, sZ, sS]
    refine tkN (i := 7) rfl ?_
    try simp only [Act.put, sA, sZ, sS]
    refine stN (i := 8) rfl (fun K hK => ?_)
    go_simp
    have hcall := rplace (HR.out.new (New.refl W).drew)
    rw [HPLE.out] at hcall
    refine hcall.mono ?_
    rintro e w5 ⟨rfl, hn5⟩
    have hn5W : New W w5 := (New.refl W).drew.trans hn5
    refine hK.out _ _ ?_ (fun hHeld => ?_)
    · exact Held.of hn5W
    clear hK K
    try simp only [Act.put, sA, sZ, sS]
    refine tkN (i := 9) rfl ?_
    try simp only [Act.put, sA, sZ, sS]
    refine wpAnyH_done (by kernel_rfl) ?_ _
    clear hHeld
    have HN5 := Lib.hid hn5W
    have HR5 := Lib.hid (HR.out.new hn5W)
    have HX5 := Lib.hid (HX.out.new hn5W)
    have HZ5 := Lib.hid (HZ.out.new hn5W)
    have HB5 := Lib.hid (HB.out.new hn5W)
    clear hn5 hn5W g0 c0 c1 c2 c3 c4 c5 c6 cz q0 q1 q2 q3 q4 qz z0 z1 z2 zz
    obtain ⟨q0, q1, q2, q3, q4, qz⟩ := Blk4K HX5.out
    obtain ⟨z0, z1, z2, zz⟩ := Blk2W HZ5.out
    obtain ⟨g0, c0, c1, c2, c3, c4, c5, c6, cz⟩ := HR5.out.facts
    have HNR : Hid (¬ JdF L.jl rp) := Lib.hid HR5.out.rp_jd
    have HNA : Hid (¬ JdF L.jl w.heap.size) := Lib.hid (fun hk => by have := HSZ.out _ (.inr (.inl hk)); omega)
    have HNZ : Hid (¬ JdF L.jl (w.heap.size + 1)) := Lib.hid (fun hk => by have := HSZ.out _ (.inr (.inl hk)); omega)
    have hzz : w.heap.size + 1 < w5.heap.size := z0
    go_upto_region 3 with fail
    go_cut [6] (fun s6 wx => SubRel w5 rp B L x ⟨c, r, s, l⟩ s6 wx)
    case first =>
      refine wp_region_held_drew (S := fun w' => (∀ o, w'.cell? ⟨rp, o, none⟩ = w5.cell? ⟨rp, o, none⟩) ∧ (∀ o, w'.cell? ⟨w.heap.size, o, none⟩ = w5.cell? ⟨w.heap.size, o, none⟩)) (by kernel_rfl) (⟨fun _ => rfl, fun _ => rfl⟩) (fun hHeld => ?_)
      refine tkN (i := 0) rfl ?_
      try simp only [Act.put, sA, sZ, sS]
      refine tkN (i := 1) rfl ?_
      try simp only [Act.put, sA, sZ, sS]
      refine tkN (i := 2) rfl ?_
      try simp only [Act.put, sA, sZ, sS]
      refine tkN (i := 3) rfl ?_
      try simp only [Act.put, sA, sZ, sS]
      refine tkN (i := 4) rfl ?_
      try simp only [Act.put, sA, sZ, sS]
      refine wpAnyH_ready (rs := [5, 6]) (by kernel_rfl) (by simp) ?_
      refine rdN rfl (fun K hK => ?_) (rdN rfl (fun K hK => ?_) AllReadyH.nil)
      · go_simp
        refine (jsay (x := ⟨⟨c, r, s, l⟩, A, cap⟩) (HR5.out.j.new (New.refl w5).drew) (HB5.out.new (New.refl w5).drew) (by omega)).mono ?_
        rintro e wj hpj
        obtain ⟨rfl, hj7, hu7⟩ := hpj
        have hujW : Upd (JdF L.jl) w5 wj := (Upd.refl (JdF L.jl) w5).drew.trans hu7 (fun _ _ h => h)
        have hj8 := hj7
        refine hK.out _ _ ?_ (fun hHeld => ?_)
        · exact ⟨fun o => keepR hujW HR5.out.blk.lt HNR.out o, fun o => keepR hujW HX5.out.lt HNA.out o⟩
        clear hK K
        try simp only [Act.put, sA, sZ, sS]
        refine stN (i := 6) rfl (fun K hK => ?_)
        go_simp
        have k1 := fun o => (keepR (S := fun _ => False) (Upd.new ((New.refl wj).alloc (.cells #[.int .u64 0, .int .i64 0] 46))) (Nat.lt_of_lt_of_le HR5.out.blk.lt hujW.size) (fun h => h) o).trans (keepR hujW HR5.out.blk.lt HNR.out o)
        have k2 := fun o => (keepR (S := fun _ => False) (Upd.new ((New.refl wj).alloc (.cells #[.int .u64 0, .int .i64 0] 46))) (Nat.lt_of_lt_of_le HX5.out.lt hujW.size) (fun h => h) o).trans (keepR hujW HX5.out.lt HNA.out o)
        refine hK.out _ _ ?_ (fun hHeld => ?_)
        · exact ⟨k1, k2⟩
        clear hK K
        try simp only [Act.put, sA, sZ, sS]
        refine stN (i := 7) rfl (fun K hK => ?_)
        go_simp
        have k3 := fun o => (keepR (S := fun _ => False) (Upd.new ((New.refl wj).alloc (.cells #[.int .u64 ((x.j.say ⟨c, r, s, l⟩).2.t : Int), .int .i64 (x.j.say ⟨c, r, s, l⟩).2.e] 46))) (Nat.lt_of_lt_of_le HR5.out.blk.lt hujW.size) (fun h => h) o).trans (keepR hujW HR5.out.blk.lt HNR.out o)
        have k4 := fun o => (keepR (S := fun _ => False) (Upd.new ((New.refl wj).alloc (.cells #[.int .u64 ((x.j.say ⟨c, r, s, l⟩).2.t : Int), .int .i64 (x.j.say ⟨c, r, s, l⟩).2.e] 46))) (Nat.lt_of_lt_of_le HX5.out.lt hujW.size) (fun h => h) o).trans (keepR hujW HX5.out.lt HNA.out o)
        refine hK.out _ _ ?_ (fun hHeld => ?_)
        · exact ⟨k3, k4⟩
        clear hK K
        try simp only [Act.put, sA, sZ, sS]
        refine wpAnyH_done (by kernel_rfl) ?_ _
        clear hHeld
        go_wp2_with fail
        go_meet
        exact ⟨wj.heap.size, rfl, hujW.size, Blk.mk_new wj _ _, (HR5.out.setJ hj7 hujW (by omega)).new ((New.refl wj).alloc _), hujW.alloc _⟩
      · go_simp
        have k1 := fun o => keepR (S := fun _ => False) (Upd.new (((New.refl w5).drew).alloc (.cells #[.int .u64 0, .int .i64 0] 46))) HR5.out.blk.lt (fun h => h) o
        have k2 := fun o => keepR (S := fun _ => False) (Upd.new (((New.refl w5).drew).alloc (.cells #[.int .u64 0, .int .i64 0] 46))) HX5.out.lt (fun h => h) o
        refine hK.out _ _ ?_ (fun hHeld => ?_)
        · exact ⟨k1, k2⟩
        clear hK K
        try simp only [Act.put, sA, sZ, sS]
        refine stN (i := 5) rfl (fun K hK => ?_)
        go_simp
        refine (jsay (x := ⟨⟨c, r, s, l⟩, A, cap⟩) (HR5.out.j.new ((New.refl w5).drew.alloc (.cells #[.int .u64 0, .int .i64 0] 46))) (HB5.out.new ((New.refl w5).drew.alloc (.cells #[.int .u64 0, .int .i64 0] 46))) (by omega)).mono ?_
        rintro e wj hpj
        obtain ⟨rfl, hj7, hu7⟩ := hpj
        have hujW : Upd (JdF L.jl) w5 wj := ((Upd.refl (JdF L.jl) w5).drew.alloc (.cells #[.int .u64 0, .int .i64 0] 46)).trans hu7 (fun _ _ h => h)
        have hnz : ¬ JdF L.jl w5.heap.size := fun hk => by have := HR5.out.j.lt _ hk; omega
        have hzj : Blk wj w5.heap.size 46 #[.int .u64 0, .int .i64 0] := (Blk.mk_new w5.drew 46 #[.int .u64 0, .int .i64 0]).upd hu7 hnz
        have HZJ := Lib.hid hzj
        obtain ⟨y0, y1, y2, yz⟩ := Blk2W hzj
        refine hK.out _ _ ?_ (fun hHeld => ?_)
        · exact ⟨fun o => keepR hujW HR5.out.blk.lt HNR.out o, fun o => keepR hujW HX5.out.lt HNA.out o⟩
        clear hK K
        try simp only [Act.put, sA, sZ, sS]
        refine stN (i := 7) rfl (fun K hK => ?_)
        go_simp
        have hu9 : Upd (fun k => JdF L.jl k ∨ k = w5.heap.size) w5 ((wj.setCell ⟨w5.heap.size, 0, none⟩ (.int .u64 ((x.j.say ⟨c, r, s, l⟩).2.t : Int))).setCell ⟨w5.heap.size, 1, none⟩ (.int .i64 (x.j.say ⟨c, r, s, l⟩).2.e)) := ((hujW.mono (fun _ _ h => .inl h)).setCell (p := ⟨w5.heap.size, 0, none⟩) (fun _ => .inr rfl) _).setCell (p := ⟨w5.heap.size, 1, none⟩) (fun _ => .inr rfl) _
        have k3 := fun o => keepR hu9 HR5.out.blk.lt (fun h => h.elim HNR.out (fun e => by have := HR5.out.blk.lt; omega)) o
        have k4 := fun o => keepR hu9 HX5.out.lt (fun h => h.elim HNA.out (fun e => by have := HX5.out.lt; omega)) o
        refine hK.out _ _ ?_ (fun hHeld => ?_)
        · exact ⟨k3, k4⟩
        clear hK K
        try simp only [Act.put, sA, sZ, sS]
        refine wpAnyH_done (by kernel_rfl) ?_ _
        clear hHeld
        go_wp2_with fail
        go_meet
        have huz : Upd (· = w5.heap.size) wj ((wj.setCell ⟨w5.heap.size, 0, none⟩ (.int .u64 ((x.j.say ⟨c, r, s, l⟩).2.t : Int))).setCell ⟨w5.heap.size, 1, none⟩ (.int .i64 (x.j.say ⟨c, r, s, l⟩).2.e)) := ((Upd.refl _ wj).setIn 0 _).setIn 1 _
        have hrj := HR5.out.setJ hj7 hujW (by omega)
        exact ⟨w5.heap.size, rfl, Nat.le_refl _, (HZJ.out.set_ 0 _).set_ 1 _, hrj.upd huz (fun k hk e => hrj.offB _ _ HZJ.out (e ▸ hk)) (Off.blk HZJ.out (by decide)) (Off.blk HZJ.out (by decide)), hujW.trans huz (fun i hi e => by omega)⟩
    case rest =>
      obtain ⟨a6, rfl, ha6, hv6, hrc, huc⟩ := hcut
      have HV6 := Lib.hid hv6
      have HRC := Lib.hid hrc
      have HUC := Lib.hid huc
      have HXC := Lib.hid (HX5.out.upd huc HNA.out)
      have HZC := Lib.hid (HZ5.out.upd huc HNZ.out)
      have HBC := Lib.hid (HB5.out.upd huc (HR5.out.j.off (by decide)))
      have HUW : Hid (Upd (RpF rp L) w wc) := Lib.hid ((Upd.new (S := RpF rp L) (HN.out.trans HN5.out)).trans huc (fun _ _ h => .inr (.inl h)))
      have hza : ¬ w.heap.size + 1 = a6 := by have := HZ5.out.lt; omega
      clear g0 c0 c1 c2 c3 c4 c5 c6 cz q0 q1 q2 q3 q4 qz z0 z1 z2 zz huc
      generalize hx1 : ({ x with j := (x.j.say ⟨c, r, s, l⟩).1 } : Rpl) = x1 at *
      have hlx : x1.la = x.la := by rw [← hx1]; rfl
      have hjx : x1.j = (x.j.say ⟨c, r, s, l⟩).1 := by rw [← hx1]
      generalize (x.j.say ⟨c, r, s, l⟩).1 = j1 at *
      generalize (x.j.say ⟨c, r, s, l⟩).2 = vd at *
      have hj1 : JdAt wc (B + 10) L.jl j1 := by rw [← hjx]; exact hrc.j
      have HJ1 := Lib.hid hj1
      have HLX := Lib.hid hlx
      obtain ⟨g0, c0, c1, c2, c3, c4, c5, c6, cz⟩ := hrc.facts
      obtain ⟨q0, q1, q2, q3, q4, qz⟩ := Blk4K HXC.out
      obtain ⟨z0, z1, z2, zz⟩ := Blk2W HZC.out
      obtain ⟨v0, v1, v2, vz⟩ := Blk2W hv6
      have hll : x1.la ≤ B + 10 := hrc.ll
      clear hx1 hlx hjx hj1 hrc hv6
      go_wp2_with fail
      refine (jlast HJ1.out).mono ?_
      rintro e w7 ⟨rfl, rfl⟩
      go_wp2_with fail
      refine (rlast HRC.out (by omega)).mono ?_
      rintro e w8 ⟨rfl, rfl⟩
      by_cases hlt : x1.la < j1.la
      case neg =>
        have HF2 : Hid (x.submit ⟨c, r, s, l⟩ = (x1, vd, 0)) := Lib.hid (by rw [HF.out, if_neg (by rw [← HLX.out]; exact hlt)])
        have hd : decide (x1.la < j1.la) = false := decide_eq_false hlt
        clear hlt
        go_wp2_with fail
        rw [HF2.out]
        exact bodyPost_ret (v := .tuple #[.agg #[.int .u64 (vd.t : Int), .int .i64 vd.e], .int .i64 0]) (by simp [results, Tryz.results139, go_sem, z1, z2]) rfl ⟨rfl, (RpPost.tail (show RpPost w rp (B + 10) L x1 _ from ⟨L, HRC.out, fun _ h => .inl h, HUW.out⟩) HZC.out (by omega)).mono (by omega)⟩
      case pos =>
        have HF2 : Hid (x.submit ⟨c, r, s, l⟩ = (x1.added ⟨c, r, s, l⟩, vd, 0)) := Lib.hid (by rw [HF.out, if_pos (by rw [← HLX.out]; exact hlt)])
        have hd : decide (x1.la < j1.la) = true := decide_eq_true hlt
        have HBR : Hid (¬ w.heap.size = rp) := Lib.hid (fun e => by have := HSZ.out rp (.inl rfl); omega)
        clear hlt
        have HZW7 : Hid (w.heap.size + 1 < w8.heap.size) := Lib.hid HZC.out.lt
        go_upto_region 5 with fail
        have K0_0 := q1
        have K0_1 := q2
        have K0_2 := q3
        have K0_3 := q4
        refine wp_region_held_drew (S := fun w' => w'.cell? ⟨w.heap.size, 0, none⟩ = some (.int .u64 (c : Int)) ∧ w'.cell? ⟨w.heap.size, 1, none⟩ = some (.int .u64 (r : Int)) ∧ w'.cell? ⟨w.heap.size, 2, none⟩ = some (.int .u64 (s : Int)) ∧ w'.cell? ⟨w.heap.size, 3, none⟩ = some (.slice A l.length cap)) (by kernel_rfl) (⟨K0_0, K0_1, K0_2, K0_3⟩) (fun hHeld => ?_)
        refine tkN (i := 0) rfl ?_
        try simp only [Act.put, sA, sZ, sS]
        refine tkN (i := 1) rfl ?_
        try simp only [Act.put, sA, sZ, sS]
        refine tkN (i := 2) rfl ?_
        try simp only [Act.put, sA, sZ, sS]
        refine tkN (i := 3) rfl ?_
        try simp only [Act.put, sA, sZ, sS]
        refine tkN (i := 5) rfl ?_
        try simp only [Act.put, sA, sZ, sS]
        refine wpAnyH_ready (rs := [4, 6]) (by kernel_rfl) (by simp) ?_
        refine rdN rfl (fun K hK => ?_) (rdN rfl (fun K hK => ?_) AllReadyH.nil)
        · go_simp
          refine hK.out _ _ ?_ (fun hHeld => ?_)
          · exact hHeld
          clear hK K
          try simp only [Act.put, sA, sZ, sS]
          refine stN (i := 6) rfl (fun K hK => ?_)
          go_simp
          refine (copied_any (HBC.out.new (New.refl w8).drew)).mono ?_
          rintro e w5 ⟨y, rfl, hyb, hy5, hn5⟩
          obtain ⟨⟨yc, yr, ys, yl⟩, yA, ycap⟩ := y
          dsimp only at hyb
          cases hyb
          dsimp only [BtV.val, BtV.sl, batV]
          have hn5W : New w8 w5 := (New.refl w8).drew.trans hn5
          have HR5 := Lib.hid (HRC.out.new hn5W)
          have HY5 := Lib.hid hy5
          have HN5 := Lib.hid hn5W
          have HX5 := Lib.hid (HXC.out.new hn5W)
          obtain ⟨G0, C0, C1, C2, C3, C4, C5, C6, CZ⟩ := HR5.out.facts
          clear hy5 hn5
          have K0_0 := HX5.out.cell 0
          have K0_1 := HX5.out.cell 1
          have K0_2 := HX5.out.cell 2
          have K0_3 := HX5.out.cell 3
          (try dsimp only [NtV.cells] at K0_0 K0_1 K0_2 K0_3)
          refine hK.out _ _ ?_ (fun hHeld => ?_)
          · exact ⟨K0_0, K0_1, K0_2, K0_3⟩
          clear hK K
          try simp only [Act.put, sA, sZ, sS]
          refine stN (i := 7) rfl (fun K hK => ?_)
          go_simp
          have hn6 := (New.refl w5).alloc (.cells #[.int .u64 (c : Int), .int .u64 (r : Int), .int .u64 (s : Int), .slice yA l.length ycap] 82)
          have HP6 := Lib.hid (Blk.mk_new w5 82 #[.int .u64 (c : Int), .int .u64 (r : Int), .int .u64 (s : Int), .slice yA l.length ycap])
          have HR6 := Lib.hid (HR5.out.new hn6)
          have HY6 := Lib.hid (HY5.out.new hn6)
          have HN6 := Lib.hid (HN5.out.trans hn6)
          have HX6 := Lib.hid (HX5.out.new hn6)
          clear hn6 K0_0 K0_1 K0_2 K0_3
          generalize w5.alloc (.cells #[.int .u64 (c : Int), .int .u64 (r : Int), .int .u64 (s : Int), .slice yA l.length ycap] 82) = w6 at *
          obtain ⟨G0, C0, C1, C2, C3, C4, C5, C6, CZ⟩ := HR6.out.facts
          have K0_0 := HX6.out.cell 0
          have K0_1 := HX6.out.cell 1
          have K0_2 := HX6.out.cell 2
          have K0_3 := HX6.out.cell 3
          (try dsimp only [NtV.cells] at K0_0 K0_1 K0_2 K0_3)
          refine hK.out _ _ ?_ (fun hHeld => ?_)
          · exact ⟨K0_0, K0_1, K0_2, K0_3⟩
          clear hK K
          try simp only [Act.put, sA, sZ, sS]
          refine stN (i := 8) rfl (fun K hK => ?_)
          obtain ⟨qs, hqs, hrow, hqa⟩ := HR6.out.l
          have HQS := Lib.hid hqs
          have HQA := Lib.hid hqa
          have HROW := Lib.hid hrow
          have hql : qs.length ≤ (B + 10) := by have := HR6.out.ll; rw [← hqs, List.length_map] at this; exact this
          refine step_appR (m := [(⟨⟨c, r, s, l⟩, yA, ycap⟩ : BtV)]) btTy BtV.encOk rfl (.tmp 36) (.tmp 39) rfl rfl rfl hrow (SlIn.one HP6.out BtV.encOk rfl) (by simp; unfold maxLen; omega) (by simp; omega) (Nat.zero_le _) ?_
          intro v7 w7 h7 hg7 hv7
          have hou : Upd (fun i => L.lv.ownBlock = some i) w6 w7 := (Upd.refl _ w6).grown hg7 (fun i _ e => e)
          have hrn : ¬ L.lv.ownBlock = some rp := fun e => hrow.ne_blk HR6.out.blk (by decide) e
          have hbn : ¬ L.lv.ownBlock = some w.heap.size := fun e => by have := HSZ.out _ (.inr (.inr (.inl e))); omega
          have hcr := fun o => keepR hou G0 hrn o
          have HX7 := Lib.hid (HX6.out.upd hou hbn)
          have HYR : Hid (BtRow w7 0 v7 (x1.l ++ [⟨c, r, s, l⟩])) := Lib.hid ⟨qs ++ [(⟨⟨c, r, s, l⟩, yA, ycap⟩ : BtV)], by rw [List.map_append, HQS.out]; rfl, h7, fun p hp => (List.mem_append.1 hp).elim (fun hp => (HQA.out p hp).upd hou (Off.row HROW.out (by decide))) (fun hp => by rw [List.mem_singleton.1 hp]; exact HY6.out.upd hou (Off.row HROW.out (by decide)))⟩
          have hfz : ∀ i, w7.frozen? ⟨rp, i, none⟩ = false := (HR6.out.blk.upd hou hrn).frozen
          obtain ⟨A7, n7, c7, hs7⟩ := h7.shp
          have HS7 := Lib.hid hs7
          have HG7 := Lib.hid hg7
          have HV7 := Lib.hid hv7
          have HOU := Lib.hid hou
          rw [hs7]
          have E4 := (hcr 4).trans C4
          have gl : rp < w7.heap.size := Nat.lt_of_lt_of_le G0 hou.size
          clear hqs hqa hrow h7 hg7 hv7 hou hrn hbn hcr hql hs7 K0_0 K0_1 K0_2 K0_3
          have K0_0 := HX7.out.cell 0
          have K0_1 := HX7.out.cell 1
          have K0_2 := HX7.out.cell 2
          have K0_3 := HX7.out.cell 3
          (try dsimp only [NtV.cells] at K0_0 K0_1 K0_2 K0_3)
          refine hK.out _ _ ?_ (fun hHeld => ?_)
          · exact ⟨K0_0, K0_1, K0_2, K0_3⟩
          clear hK K
          try simp only [Act.put, sA, sZ, sS]
          refine tkN (i := 9) rfl ?_
          try simp only [Act.put, sA, sZ, sS]
          refine tkN (i := 10) rfl ?_
          try simp only [Act.put, sA, sZ, sS]
          refine stN (i := 11) rfl (fun K hK => ?_)
          go_simp
          have I0 := cell_far (u := .slice A7 n7 c7) (i := 4) K0_0 HBR.out
          have I1 := cell_far (u := .slice A7 n7 c7) (i := 4) K0_1 HBR.out
          have I2 := cell_far (u := .slice A7 n7 c7) (i := 4) K0_2 HBR.out
          have I3 := cell_far (u := .slice A7 n7 c7) (i := 4) K0_3 HBR.out
          refine hK.out _ _ ?_ (fun hHeld => ?_)
          · exact ⟨I0, I1, I2, I3⟩
          clear hK K
          try simp only [Act.put, sA, sZ, sS]
          refine wpAnyH_done (by kernel_rfl) ?_ _
          clear hHeld
          have H8 : Hid (RpAt (w7.setCell ⟨rp, 4, none⟩ (.slice A7 n7 c7)) rp ((B + 10) + 1) { L with lv := .slice A7 n7 c7 } { x1 with l := x1.l ++ [⟨c, r, s, l⟩] }) := Lib.hid (by
            have := HR6.out.setL HYR.out (by have := HR6.out.ll; rw [List.length_append, List.length_singleton]; omega) HG7.out
            rw [HS7.out] at this
            exact this)
          have H8K : Hid (∀ i, RpF rp { L with lv := .slice A7 n7 c7 } i → RpF rp L i ∨ w8.heap.size ≤ i) := Lib.hid (by
            rintro i (hi | hi | hi | hi)
            · exact .inl (.inl hi)
            · exact .inl (.inr (.inl hi))
            · rw [← HS7.out] at hi
              exact HV7.out.elim (fun e => .inl (.inr (.inr (.inl (e ▸ hi))))) (fun e => .inr (by rw [e] at hi; cases hi; exact HN6.out.size))
            · exact .inl (.inr (.inr (.inr hi))))
          have H8U : Hid (Upd (RpF rp L) w8 (w7.setCell ⟨rp, 4, none⟩ (.slice A7 n7 c7))) := Lib.hid ((((Upd.new (S := RpF rp L) HN6.out)).trans HOU.out (fun i _ hi => .inr (.inr (.inl hi)))).setCell (p := ⟨rp, 4, none⟩) (fun _ => .inl rfl) _)
          clear E4 gl hfz
          go_wp2_with fail
          refine (radded H8.out (b := ⟨c, r, s, l⟩) (m := x1.l.length) (by simp) (by simp) (by omega)).mono ?_
          rintro e w9 ⟨rfl, hp⟩
          have hz8 := (HZC.out.upd H8U.out (HRC.out.offB _ _ HZC.out))
          have hv8 := (HV6.out.upd H8U.out (HRC.out.offB _ _ HV6.out))
          have hz9 := hz8.upd (show Upd (RpF rp _) _ w9 from let ⟨_, _, _, h⟩ := hp; h) (H8.out.offB _ _ hz8)
          have hv9 := hv8.upd (show Upd (RpF rp _) _ w9 from let ⟨_, _, _, h⟩ := hp; h) (H8.out.offB _ _ hv8)
          have HPF : Hid (RpPost w rp (B + 20) L (x1.added ⟨c, r, s, l⟩) w9) := Lib.hid ((RpPost.trans H8.out (fun i hi => (H8K.out i hi).imp (fun h => h) (fun h => Nat.le_trans HUW.out.size h)) (HUW.out.trans H8U.out (fun _ _ h => h)) hp).mono (by omega))
          have HZ9 := Lib.hid hz9
          clear z0 z1 z2 zz v0 v1 v2 vz hp hz8 hv8
          obtain ⟨z0, z1, z2, zz⟩ := Blk2W hz9
          obtain ⟨v0, v1, v2, vz⟩ := Blk2W hv9
          clear hz9 hv9
          go_wp2_with fail
          rw [HF2.out]
          exact bodyPost_ret (v := .tuple #[.agg #[.int .u64 (vd.t : Int), .int .i64 vd.e], .int .i64 0]) (by simp [results, Tryz.results139, go_sem, z1, z2]) rfl ⟨rfl, RpPost.tail HPF.out HZ9.out (by omega)⟩
        · go_simp
          refine (copied_any (HBC.out.new (New.refl w8).drew)).mono ?_
          rintro e w5 ⟨y, rfl, hyb, hy5, hn5⟩
          obtain ⟨⟨yc, yr, ys, yl⟩, yA, ycap⟩ := y
          dsimp only at hyb
          cases hyb
          dsimp only [BtV.val, BtV.sl, batV]
          have hn5W : New w8 w5 := (New.refl w8).drew.trans hn5
          have HR5 := Lib.hid (HRC.out.new hn5W)
          have HY5 := Lib.hid hy5
          have HN5 := Lib.hid hn5W
          have HX5 := Lib.hid (HXC.out.new hn5W)
          obtain ⟨G0, C0, C1, C2, C3, C4, C5, C6, CZ⟩ := HR5.out.facts
          clear hy5 hn5
          have K0_0 := HX5.out.cell 0
          have K0_1 := HX5.out.cell 1
          have K0_2 := HX5.out.cell 2
          have K0_3 := HX5.out.cell 3
          (try dsimp only [NtV.cells] at K0_0 K0_1 K0_2 K0_3)
          refine hK.out _ _ ?_ (fun hHeld => ?_)
          · exact ⟨K0_0, K0_1, K0_2, K0_3⟩
          clear hK K
          try simp only [Act.put, sA, sZ, sS]
          refine wpAnyH_ready (rs := [4, 7]) (by kernel_rfl) (by simp) ?_
          refine rdN rfl (fun K hK => ?_) (rdN rfl (fun K hK => ?_) AllReadyH.nil)
          · go_simp
            refine hK.out _ _ ?_ (fun hHeld => ?_)
            · exact hHeld
            clear hK K
            try simp only [Act.put, sA, sZ, sS]
            refine stN (i := 7) rfl (fun K hK => ?_)
            go_simp
            have hn6 := (New.refl w5).alloc (.cells #[.int .u64 (c : Int), .int .u64 (r : Int), .int .u64 (s : Int), .slice yA l.length ycap] 82)
            have HP6 := Lib.hid (Blk.mk_new w5 82 #[.int .u64 (c : Int), .int .u64 (r : Int), .int .u64 (s : Int), .slice yA l.length ycap])
            have HR6 := Lib.hid (HR5.out.new hn6)
            have HY6 := Lib.hid (HY5.out.new hn6)
            have HN6 := Lib.hid (HN5.out.trans hn6)
            have HX6 := Lib.hid (HX5.out.new hn6)
            clear hn6 K0_0 K0_1 K0_2 K0_3
            generalize w5.alloc (.cells #[.int .u64 (c : Int), .int .u64 (r : Int), .int .u64 (s : Int), .slice yA l.length ycap] 82) = w6 at *
            obtain ⟨G0, C0, C1, C2, C3, C4, C5, C6, CZ⟩ := HR6.out.facts
            have K0_0 := HX6.out.cell 0
            have K0_1 := HX6.out.cell 1
            have K0_2 := HX6.out.cell 2
            have K0_3 := HX6.out.cell 3
            (try dsimp only [NtV.cells] at K0_0 K0_1 K0_2 K0_3)
            refine hK.out _ _ ?_ (fun hHeld => ?_)
            · exact ⟨K0_0, K0_1, K0_2, K0_3⟩
            clear hK K
            try simp only [Act.put, sA, sZ, sS]
            refine stN (i := 8) rfl (fun K hK => ?_)
            obtain ⟨qs, hqs, hrow, hqa⟩ := HR6.out.l
            have HQS := Lib.hid hqs
            have HQA := Lib.hid hqa
            have HROW := Lib.hid hrow
            have hql : qs.length ≤ (B + 10) := by have := HR6.out.ll; rw [← hqs, List.length_map] at this; exact this
            refine step_appR (m := [(⟨⟨c, r, s, l⟩, yA, ycap⟩ : BtV)]) btTy BtV.encOk rfl (.tmp 36) (.tmp 39) rfl rfl rfl hrow (SlIn.one HP6.out BtV.encOk rfl) (by simp; unfold maxLen; omega) (by simp; omega) (Nat.zero_le _) ?_
            intro v7 w7 h7 hg7 hv7
            have hou : Upd (fun i => L.lv.ownBlock = some i) w6 w7 := (Upd.refl _ w6).grown hg7 (fun i _ e => e)
            have hrn : ¬ L.lv.ownBlock = some rp := fun e => hrow.ne_blk HR6.out.blk (by decide) e
            have hbn : ¬ L.lv.ownBlock = some w.heap.size := fun e => by have := HSZ.out _ (.inr (.inr (.inl e))); omega
            have hcr := fun o => keepR hou G0 hrn o
            have HX7 := Lib.hid (HX6.out.upd hou hbn)
            have HYR : Hid (BtRow w7 0 v7 (x1.l ++ [⟨c, r, s, l⟩])) := Lib.hid ⟨qs ++ [(⟨⟨c, r, s, l⟩, yA, ycap⟩ : BtV)], by rw [List.map_append, HQS.out]; rfl, h7, fun p hp => (List.mem_append.1 hp).elim (fun hp => (HQA.out p hp).upd hou (Off.row HROW.out (by decide))) (fun hp => by rw [List.mem_singleton.1 hp]; exact HY6.out.upd hou (Off.row HROW.out (by decide)))⟩
            have hfz : ∀ i, w7.frozen? ⟨rp, i, none⟩ = false := (HR6.out.blk.upd hou hrn).frozen
            obtain ⟨A7, n7, c7, hs7⟩ := h7.shp
            have HS7 := Lib.hid hs7
            have HG7 := Lib.hid hg7
            have HV7 := Lib.hid hv7
            have HOU := Lib.hid hou
            rw [hs7]
            have E4 := (hcr 4).trans C4
            have gl : rp < w7.heap.size := Nat.lt_of_lt_of_le G0 hou.size
            clear hqs hqa hrow h7 hg7 hv7 hou hrn hbn hcr hql hs7 K0_0 K0_1 K0_2 K0_3
            have K0_0 := HX7.out.cell 0
            have K0_1 := HX7.out.cell 1
            have K0_2 := HX7.out.cell 2
            have K0_3 := HX7.out.cell 3
            (try dsimp only [NtV.cells] at K0_0 K0_1 K0_2 K0_3)
            refine hK.out _ _ ?_ (fun hHeld => ?_)
            · exact ⟨K0_0, K0_1, K0_2, K0_3⟩
            clear hK K
            try simp only [Act.put, sA, sZ, sS]
            refine tkN (i := 9) rfl ?_
            try simp only [Act.put, sA, sZ, sS]
            refine tkN (i := 10) rfl ?_
            try simp only [Act.put, sA, sZ, sS]
            refine stN (i := 11) rfl (fun K hK => ?_)
            go_simp
            have I0 := cell_far (u := .slice A7 n7 c7) (i := 4) K0_0 HBR.out
            have I1 := cell_far (u := .slice A7 n7 c7) (i := 4) K0_1 HBR.out
            have I2 := cell_far (u := .slice A7 n7 c7) (i := 4) K0_2 HBR.out
            have I3 := cell_far (u := .slice A7 n7 c7) (i := 4) K0_3 HBR.out
            refine hK.out _ _ ?_ (fun hHeld => ?_)
            · exact ⟨I0, I1, I2, I3⟩
            clear hK K
            try simp only [Act.put, sA, sZ, sS]
            refine wpAnyH_done (by kernel_rfl) ?_ _
            clear hHeld
            have H8 : Hid (RpAt (w7.setCell ⟨rp, 4, none⟩ (.slice A7 n7 c7)) rp ((B + 10) + 1) { L with lv := .slice A7 n7 c7 } { x1 with l := x1.l ++ [⟨c, r, s, l⟩] }) := Lib.hid (by
              have := HR6.out.setL HYR.out (by have := HR6.out.ll; rw [List.length_append, List.length_singleton]; omega) HG7.out
              rw [HS7.out] at this
              exact this)
            have H8K : Hid (∀ i, RpF rp { L with lv := .slice A7 n7 c7 } i → RpF rp L i ∨ w8.heap.size ≤ i) := Lib.hid (by
              rintro i (hi | hi | hi | hi)
              · exact .inl (.inl hi)
              · exact .inl (.inr (.inl hi))
              · rw [← HS7.out] at hi
                exact HV7.out.elim (fun e => .inl (.inr (.inr (.inl (e ▸ hi))))) (fun e => .inr (by rw [e] at hi; cases hi; exact HN6.out.size))
              · exact .inl (.inr (.inr (.inr hi))))
            have H8U : Hid (Upd (RpF rp L) w8 (w7.setCell ⟨rp, 4, none⟩ (.slice A7 n7 c7))) := Lib.hid ((((Upd.new (S := RpF rp L) HN6.out)).trans HOU.out (fun i _ hi => .inr (.inr (.inl hi)))).setCell (p := ⟨rp, 4, none⟩) (fun _ => .inl rfl) _)
            clear E4 gl hfz
            go_wp2_with fail
            refine (radded H8.out (b := ⟨c, r, s, l⟩) (m := x1.l.length) (by simp) (by simp) (by omega)).mono ?_
            rintro e w9 ⟨rfl, hp⟩
            have hz8 := (HZC.out.upd H8U.out (HRC.out.offB _ _ HZC.out))
            have hv8 := (HV6.out.upd H8U.out (HRC.out.offB _ _ HV6.out))
            have hz9 := hz8.upd (show Upd (RpF rp _) _ w9 from let ⟨_, _, _, h⟩ := hp; h) (H8.out.offB _ _ hz8)
            have hv9 := hv8.upd (show Upd (RpF rp _) _ w9 from let ⟨_, _, _, h⟩ := hp; h) (H8.out.offB _ _ hv8)
            have HPF : Hid (RpPost w rp (B + 20) L (x1.added ⟨c, r, s, l⟩) w9) := Lib.hid ((RpPost.trans H8.out (fun i hi => (H8K.out i hi).imp (fun h => h) (fun h => Nat.le_trans HUW.out.size h)) (HUW.out.trans H8U.out (fun _ _ h => h)) hp).mono (by omega))
            have HZ9 := Lib.hid hz9
            clear z0 z1 z2 zz v0 v1 v2 vz hp hz8 hv8
            obtain ⟨z0, z1, z2, zz⟩ := Blk2W hz9
            obtain ⟨v0, v1, v2, vz⟩ := Blk2W hv9
            clear hz9 hv9
            go_wp2_with fail
            rw [HF2.out]
            exact bodyPost_ret (v := .tuple #[.agg #[.int .u64 (vd.t : Int), .int .i64 vd.e], .int .i64 0]) (by simp [results, Tryz.results139, go_sem, z1, z2]) rfl ⟨rfl, RpPost.tail HPF.out HZ9.out (by omega)⟩
          · go_simp
            have hn6 := (New.refl w5).alloc (.cells #[.int .u64 (c : Int), .int .u64 (r : Int), .int .u64 (s : Int), .slice yA l.length ycap] 82)
            have HP6 := Lib.hid (Blk.mk_new w5 82 #[.int .u64 (c : Int), .int .u64 (r : Int), .int .u64 (s : Int), .slice yA l.length ycap])
            have HR6 := Lib.hid (HR5.out.new hn6)
            have HY6 := Lib.hid (HY5.out.new hn6)
            have HN6 := Lib.hid (HN5.out.trans hn6)
            have HX6 := Lib.hid (HX5.out.new hn6)
            clear hn6 K0_0 K0_1 K0_2 K0_3
            generalize w5.alloc (.cells #[.int .u64 (c : Int), .int .u64 (r : Int), .int .u64 (s : Int), .slice yA l.length ycap] 82) = w6 at *
            obtain ⟨G0, C0, C1, C2, C3, C4, C5, C6, CZ⟩ := HR6.out.facts
            have K0_0 := HX6.out.cell 0
            have K0_1 := HX6.out.cell 1
            have K0_2 := HX6.out.cell 2
            have K0_3 := HX6.out.cell 3
            (try dsimp only [NtV.cells] at K0_0 K0_1 K0_2 K0_3)
            refine hK.out _ _ ?_ (fun hHeld => ?_)
            · exact ⟨K0_0, K0_1, K0_2, K0_3⟩
            clear hK K
            try simp only [Act.put, sA, sZ, sS]
            refine stN (i := 4) rfl (fun K hK => ?_)
            go_simp
            refine hK.out _ _ ?_ (fun hHeld => ?_)
            · exact hHeld
            clear hK K
            try simp only [Act.put, sA, sZ, sS]
            refine stN (i := 8) rfl (fun K hK => ?_)
            obtain ⟨qs, hqs, hrow, hqa⟩ := HR6.out.l
            have HQS := Lib.hid hqs
            have HQA := Lib.hid hqa
            have HROW := Lib.hid hrow
            have hql : qs.length ≤ (B + 10) := by have := HR6.out.ll; rw [← hqs, List.length_map] at this; exact this
            refine step_appR (m := [(⟨⟨c, r, s, l⟩, yA, ycap⟩ : BtV)]) btTy BtV.encOk rfl (.tmp 36) (.tmp 39) rfl rfl rfl hrow (SlIn.one HP6.out BtV.encOk rfl) (by simp; unfold maxLen; omega) (by simp; omega) (Nat.zero_le _) ?_
            intro v7 w7 h7 hg7 hv7
            have hou : Upd (fun i => L.lv.ownBlock = some i) w6 w7 := (Upd.refl _ w6).grown hg7 (fun i _ e => e)
            have hrn : ¬ L.lv.ownBlock = some rp := fun e => hrow.ne_blk HR6.out.blk (by decide) e
            have hbn : ¬ L.lv.ownBlock = some w.heap.size := fun e => by have := HSZ.out _ (.inr (.inr (.inl e))); omega
            have hcr := fun o => keepR hou G0 hrn o
            have HX7 := Lib.hid (HX6.out.upd hou hbn)
            have HYR : Hid (BtRow w7 0 v7 (x1.l ++ [⟨c, r, s, l⟩])) := Lib.hid ⟨qs ++ [(⟨⟨c, r, s, l⟩, yA, ycap⟩ : BtV)], by rw [List.map_append, HQS.out]; rfl, h7, fun p hp => (List.mem_append.1 hp).elim (fun hp => (HQA.out p hp).upd hou (Off.row HROW.out (by decide))) (fun hp => by rw [List.mem_singleton.1 hp]; exact HY6.out.upd hou (Off.row HROW.out (by decide)))⟩
            have hfz : ∀ i, w7.frozen? ⟨rp, i, none⟩ = false := (HR6.out.blk.upd hou hrn).frozen
            obtain ⟨A7, n7, c7, hs7⟩ := h7.shp
            have HS7 := Lib.hid hs7
            have HG7 := Lib.hid hg7
            have HV7 := Lib.hid hv7
            have HOU := Lib.hid hou
            rw [hs7]
            have E4 := (hcr 4).trans C4
            have gl : rp < w7.heap.size := Nat.lt_of_lt_of_le G0 hou.size
            clear hqs hqa hrow h7 hg7 hv7 hou hrn hbn hcr hql hs7 K0_0 K0_1 K0_2 K0_3
            have K0_0 := HX7.out.cell 0
            have K0_1 := HX7.out.cell 1
            have K0_2 := HX7.out.cell 2
            have K0_3 := HX7.out.cell 3
            (try dsimp only [NtV.cells] at K0_0 K0_1 K0_2 K0_3)
            refine hK.out _ _ ?_ (fun hHeld => ?_)
            · exact ⟨K0_0, K0_1, K0_2, K0_3⟩
            clear hK K
            try simp only [Act.put, sA, sZ, sS]
            refine tkN (i := 9) rfl ?_
            try simp only [Act.put, sA, sZ, sS]
            refine tkN (i := 10) rfl ?_
            try simp only [Act.put, sA, sZ, sS]
            refine stN (i := 11) rfl (fun K hK => ?_)
            go_simp
            have I0 := cell_far (u := .slice A7 n7 c7) (i := 4) K0_0 HBR.out
            have I1 := cell_far (u := .slice A7 n7 c7) (i := 4) K0_1 HBR.out
            have I2 := cell_far (u := .slice A7 n7 c7) (i := 4) K0_2 HBR.out
            have I3 := cell_far (u := .slice A7 n7 c7) (i := 4) K0_3 HBR.out
            refine hK.out _ _ ?_ (fun hHeld => ?_)
            · exact ⟨I0, I1, I2, I3⟩
            clear hK K
            try simp only [Act.put, sA, sZ, sS]
            refine wpAnyH_done (by kernel_rfl) ?_ _
            clear hHeld
            have H8 : Hid (RpAt (w7.setCell ⟨rp, 4, none⟩ (.slice A7 n7 c7)) rp ((B + 10) + 1) { L with lv := .slice A7 n7 c7 } { x1 with l := x1.l ++ [⟨c, r, s, l⟩] }) := Lib.hid (by
              have := HR6.out.setL HYR.out (by have := HR6.out.ll; rw [List.length_append, List.length_singleton]; omega) HG7.out
              rw [HS7.out] at this
              exact this)
            have H8K : Hid (∀ i, RpF rp { L with lv := .slice A7 n7 c7 } i → RpF rp L i ∨ w8.heap.size ≤ i) := Lib.hid (by
              rintro i (hi | hi | hi | hi)
              · exact .inl (.inl hi)
              · exact .inl (.inr (.inl hi))
              · rw [← HS7.out] at hi
                exact HV7.out.elim (fun e => .inl (.inr (.inr (.inl (e ▸ hi))))) (fun e => .inr (by rw [e] at hi; cases hi; exact HN6.out.size))
              · exact .inl (.inr (.inr (.inr hi))))
            have H8U : Hid (Upd (RpF rp L) w8 (w7.setCell ⟨rp, 4, none⟩ (.slice A7 n7 c7))) := Lib.hid ((((Upd.new (S := RpF rp L) HN6.out)).trans HOU.out (fun i _ hi => .inr (.inr (.inl hi)))).setCell (p := ⟨rp, 4, none⟩) (fun _ => .inl rfl) _)
            clear E4 gl hfz
            go_wp2_with fail
            refine (radded H8.out (b := ⟨c, r, s, l⟩) (m := x1.l.length) (by simp) (by simp) (by omega)).mono ?_
            rintro e w9 ⟨rfl, hp⟩
            have hz8 := (HZC.out.upd H8U.out (HRC.out.offB _ _ HZC.out))
            have hv8 := (HV6.out.upd H8U.out (HRC.out.offB _ _ HV6.out))
            have hz9 := hz8.upd (show Upd (RpF rp _) _ w9 from let ⟨_, _, _, h⟩ := hp; h) (H8.out.offB _ _ hz8)
            have hv9 := hv8.upd (show Upd (RpF rp _) _ w9 from let ⟨_, _, _, h⟩ := hp; h) (H8.out.offB _ _ hv8)
            have HPF : Hid (RpPost w rp (B + 20) L (x1.added ⟨c, r, s, l⟩) w9) := Lib.hid ((RpPost.trans H8.out (fun i hi => (H8K.out i hi).imp (fun h => h) (fun h => Nat.le_trans HUW.out.size h)) (HUW.out.trans H8U.out (fun _ _ h => h)) hp).mono (by omega))
            have HZ9 := Lib.hid hz9
            clear z0 z1 z2 zz v0 v1 v2 vz hp hz8 hv8
            obtain ⟨z0, z1, z2, zz⟩ := Blk2W hz9
            obtain ⟨v0, v1, v2, vz⟩ := Blk2W hv9
            clear hz9 hv9
            go_wp2_with fail
            rw [HF2.out]
            exact bodyPost_ret (v := .tuple #[.agg #[.int .u64 (vd.t : Int), .int .i64 vd.e], .int .i64 0]) (by simp [results, Tryz.results139, go_sem, z1, z2]) rfl ⟨rfl, RpPost.tail HPF.out HZ9.out (by omega)⟩
end
end Go.Proofs.YtlhlcdjkacglnaaGreatDoor
/- Chapter 24 (replica): Fold of no commands, Adopt, Tick, Out, Clean, Config. Printed by genRpX.py. -/
namespace Go.Proofs.YtlhlcdjkacglnaaGreatDoor
open Go.RowKit Go.Lap C
set_option linter.unusedVariables false
set_option linter.unusedSimpArgs false
section
variable {w w' W wa : World} {S : Nat → Prop} {rp B D : Nat} {L : RpL} {x x' : Rpl} {b : BtV}
def FoldPost (w : World) (c : Cfg) (e : Ending) (w' : World) : Prop := ∃ A n, e = .returned (.agg #[.int .u64 (c.e : Int), .slice A c.ms.length n]) ∧ TSl w' 3 1 iEnc (.slice A c.ms.length n) c.ms ∧ New w w'
set_option maxRecDepth 100000 in
set_option maxHeartbeats 4000000 in
theorem fold0 (c : Cfg) {v : Value} (hl : c.ms.length ≤ 1000) (hs : SlIn w 1 iEnc v c.ms) :
    Calls Tryz.prog 51 #[.agg #[.int .u64 (c.e : Int), v], .slice none 0 0] w (FoldPost w c) := by
  obtain ⟨e, ms⟩ := c
  dsimp only at *
  obtain ⟨A, m, cap, rfl⟩ := hs.shape
  have hN := ((New.refl w).alloc (.cells #[.int .u64 (e : Int), .slice A m cap] 41)).alloc (.cells #[.int .u64 0, .slice none 0 0] 41)
  have hM := (Blk.mk_new w 41 #[.int .u64 (e : Int), .slice A m cap]).alloc (.cells #[.int .u64 0, .slice none 0 0] 41)
  have hZ := Blk.mk_new (w.alloc (.cells #[.int .u64 (e : Int), .slice A m cap] 41)) 41 #[.int .u64 0, .slice none 0 0]
  rw [World.size_alloc] at hZ
  have HS := Lib.hid (hs.new hN)
  have HN := Lib.hid hN
  have HM := Lib.hid hM
  have HZ := Lib.hid hZ
  obtain ⟨q0, q1, q2, qz⟩ := Blk2F hM
  obtain ⟨z0, z1, z2, zz⟩ := Blk2F hZ
  clear hN hM hZ hs
  go_enter Tryz.func51, Tryz.ntmps51
  go_upto_region 1 with fail
  generalize (w.alloc _).alloc _ = W at *
  go_wp2_with fail
  refine (clone_any _ ms W (by omega) HS.out).mono ?_
  rintro e2 w2 ⟨u, rfl, hu, hn2⟩
  have ht := Row.tsl iEncOk (Owns.row hu)
  obtain ⟨A2, c2, rfl⟩ := ht.shape
  have hm2 := HM.out.new hn2
  have hz2 := HZ.out.new hn2
  have hu3 : Upd (· = w.heap.size) w2 (w2.setCell ⟨w.heap.size, 1, none⟩ (.slice A2 ms.length c2)) := (Upd.refl _ w2).setIn 1 _
  have hm3 := hm2.set_ 1 (.slice A2 ms.length c2)
  have hz3 := hz2.upd hu3 (by omega)
  have HT3 := Lib.hid (ht.upd hu3 (Off.blk hm2 (by decide)))
  have HZ3 := Lib.hid hz3
  have HN3 : Hid (New w (w2.setCell ⟨w.heap.size, 1, none⟩ (.slice A2 ms.length c2))) := Lib.hid ((HN.out.trans hn2).upd hu3 (fun i e => by omega))
  clear q0 q1 q2 qz z0 z1 z2 zz
  obtain ⟨q0, q1, q2, qz⟩ := Blk2F hm2
  obtain ⟨p0, p1, p2, pz⟩ := Blk2F hm3
  obtain ⟨z0, z1, z2, zz⟩ := Blk2F hz3
  clear hu ht hm2 hz2 hu3 hm3 hz3 hn2
  go_upto_region 2 with fail
  clear q0 q1 q2 qz
  generalize w2.setCell ⟨w.heap.size, 1, none⟩ (.slice A2 ms.length c2) = w3 at *
  go_wp2_with fail
  go_loopw [12] (fun i wr => i = .int .i64 0 ∧ wr = w3) (fun _ _ => 0)
  case atStart => exact ⟨rfl, rfl⟩
  case round =>
    obtain ⟨rfl, rfl⟩ := hrel
    go_wp2_with fail
    have hu4 : Upd (· = w.heap.size + 1) wr ((wr.setCell ⟨w.heap.size + 1, 0, none⟩ (.int .u64 (e : Int))).setCell ⟨w.heap.size + 1, 1, none⟩ (.slice A2 ms.length c2)) := ((Upd.refl _ wr).setIn 0 _).setIn 1 _
    exact bodyPost_ret (v := .agg #[.int .u64 (e : Int), .slice A2 ms.length c2]) (by simp [results, Tryz.results51, go_sem, z1, z2]) rfl ⟨A2, c2, rfl, HT3.out.upd hu4 (Off.blk HZ3.out (by decide)), HN3.out.upd hu4 (fun i e => by omega)⟩
/-- The configuration turns. -/
theorem RpAt.setCf (h : RpAt w rp B L x) (c : Cfg) {A : Option Addr} {n : Nat} (hc : TSl w 3 1 iEnc (.slice A c.ms.length n) c.ms) (hl : c.ms.length ≤ 1000) (he : c.e < big) :
    RpAt ((w.setCell ⟨rp, 1, none⟩ (.int .u64 (c.e : Int))).setCell ⟨rp, 2, none⟩ (.slice A c.ms.length n)) rp B { L with cv := .slice A c.ms.length n } { x with cf := c } ∧ Upd (RpF rp L) w ((w.setCell ⟨rp, 1, none⟩ (.int .u64 (c.e : Int))).setCell ⟨rp, 2, none⟩ (.slice A c.ms.length n)) := by
  have hu : Upd (· = rp) w ((w.setCell ⟨rp, 1, none⟩ (.int .u64 (c.e : Int))).setCell ⟨rp, 2, none⟩ (.slice A c.ms.length n)) := ((Upd.refl _ w).setIn 1 _).setIn 2 _
  obtain ⟨ps, _, hps, _⟩ := h.l
  obtain ⟨qs, _, hqs, _⟩ := h.out
  have hWr : Off w 34 (· = rp) := Off.blk h.blk (by decide)
  have hIr : Off w 3 (· = rp) := Off.blk h.blk (by decide)
  exact ⟨⟨(h.blk.set_ 1 _).set_ 2 _, hc.upd hu hIr, hl, he, h.j.upd hu (fun k hk e => h.rp_jd (e ▸ hk)), h.l.upd hu (fun k hk e => hps.ne_blk h.blk (by decide) (e ▸ hk)) hWr, h.out.upd hu (fun k hk e => hqs.ne_blk h.blk (by decide) (e ▸ hk)) hWr, h.ll, h.ol, h.cl⟩, hu.mono (fun _ _ e => .inl e)⟩
set_option maxHeartbeats 2000000 in
theorem rclean (h : RpAt w rp B L x) : Calls Tryz.prog 27 #[.pointer (some ⟨rp, 0, none⟩)] w fun e w' => e = .returned (.int .u64 (x.cl : Int)) ∧ w' = w := by
  obtain ⟨g0, c0, c1, c2, c3, c4, c5, c6, cz⟩ := h.facts
  clear h
  go_enter Tryz.func27, Tryz.ntmps27
  go_wp2_with fail
  go_ret
  exact ⟨rfl, rfl⟩
/-- What is sent leaves the replica. -/
def OutPost (w : World) (rp B : Nat) (L : RpL) (x : Rpl) (e : Ending) (w' : World) : Prop := e = .returned L.ov ∧ RpAt w' rp B { L with ov := .slice none 0 0 } { x with out := [] } ∧ Upd (· = rp) w w' ∧ NtRow w' 0 L.ov x.out
set_option maxHeartbeats 2000000 in
theorem rout (h : RpAt w rp B L x) : Calls Tryz.prog 97 #[.pointer (some ⟨rp, 0, none⟩)] w (OutPost w rp B L x) := by
  obtain ⟨g0, c0, c1, c2, c3, c4, c5, c6, cz⟩ := h.facts
  have hu : Upd (· = rp) w (w.setCell ⟨rp, 6, none⟩ (.slice none 0 0)) := (Upd.refl _ w).setIn 6 _
  have hf : RpAt (w.setCell ⟨rp, 6, none⟩ (.slice none 0 0)) rp B { L with ov := .slice none 0 0 } { x with out := [] } ∧ NtRow (w.setCell ⟨rp, 6, none⟩ (.slice none 0 0)) 0 L.ov x.out := by
    obtain ⟨ps, _, hps, _⟩ := h.l
    obtain ⟨qs, _, hqs, _⟩ := h.out
    have hWr : Off w 34 (· = rp) := Off.blk h.blk (by decide)
    have hIr : Off w 3 (· = rp) := Off.blk h.blk (by decide)
    exact ⟨⟨h.blk.set_ 6 _, h.cf.upd hu hIr, h.cl7, h.ce, h.j.upd hu (fun k hk e => h.rp_jd (e ▸ hk)), h.l.upd hu (fun k hk e => hps.ne_blk h.blk (by decide) (e ▸ hk)) hWr, NtRow.nil _ _, h.ll, Nat.zero_le _, h.cl⟩, h.out.upd hu (fun k hk e => hqs.ne_blk h.blk (by decide) (e ▸ hk)) hWr⟩
  have HF := Lib.hid hf
  clear h hf
  go_enter Tryz.func97, Tryz.ntmps97
  go_wp2_with fail
  go_ret
  exact ⟨rfl, HF.out.1, hu, HF.out.2⟩
set_option maxRecDepth 100000 in
set_option maxHeartbeats 8000000 in
theorem rtick (h : RpAt w rp B L x) (hB : B ≤ 9000000) :
    Calls Tryz.prog 46 #[.pointer (some ⟨rp, 0, none⟩)] w (fun e w' => e = .returned (.tuple #[]) ∧ RpPost w rp (B + 10) L x.tick w') := by
  have HR := Lib.hid h
  obtain ⟨g0, c0, c1, c2, c3, c4, c5, c6, cz⟩ := h.facts
  have hcl := h.cl
  clear h
  cases hbf : nextC x.cf x.id with
  | mk y ok =>
  cases ok with
  | false =>
    have HF : Hid (x.tick = (if 0 < x.cl then x.tell else x).ask) := Lib.hid (by unfold Rpl.tick; rw [hbf]; rfl)
    have HBF := Lib.hid hbf
    clear hbf
    go_enter Tryz.func46, Tryz.ntmps46
    go_upto_region 0 with fail
    refine wp_region_held_drew (S := fun w' => Held w w') (by kernel_rfl) (Held.of (New.refl _).drew) (fun hHeld => ?_)
    refine tkN (i := 0) rfl ?_
    try simp only [Act.put, sA, sZ, sS]
    refine tkN (i := 1) rfl ?_
    try simp only [Act.put, sA, sZ, sS]
    refine tkN (i := 2) rfl ?_
    try simp only [Act.put, sA, sZ, sS]
    refine tkN (i := 3) rfl ?_
    try simp only [Act.put, sA, sZ, sS]
    refine tkN (i := 4) rfl ?_
    try simp only [Act.put, sA, sZ, sS]
    refine tkN (i := 5) rfl ?_
    try simp only [Act.put, sA, sZ, sS]
    refine tkN (i := 6) rfl ?_
    try simp only [Act.put, sA, sZ, sS]
    refine tkN (i := 7) rfl ?_
    try simp only [Act.put, sA, sZ, sS]
    refine stN (i := 8) rfl (fun K hK => ?_)
    go_simp
    have hcall := rnext (HR.out.new (New.refl w).drew)
    rw [HBF.out] at hcall
    refine hcall.mono ?_
    rintro e w5 ⟨rfl, hn5⟩
    have hn5W : New w w5 := (New.refl w).drew.trans hn5
    refine hK.out _ _ ?_ (fun hHeld => ?_)
    · exact Held.of hn5W
    clear hK K
    try simp only [Act.put, sA, sZ, sS]
    refine tkN (i := 9) rfl ?_
    try simp only [Act.put, sA, sZ, sS]
    refine tkN (i := 10) rfl ?_
    try simp only [Act.put, sA, sZ, sS]
    refine tkN (i := 11) rfl ?_
    try simp only [Act.put, sA, sZ, sS]
    refine tkN (i := 12) rfl ?_
    try simp only [Act.put, sA, sZ, sS]
    refine tkN (i := 13) rfl ?_
    try simp only [Act.put, sA, sZ, sS]
    refine wpAnyH_done (by kernel_rfl) ?_ _
    clear hHeld
    have HN5 := Lib.hid hn5W
    have HR5 := Lib.hid (HR.out.new hn5W)
    clear hn5 hn5W g0 c0 c1 c2 c3 c4 c5 c6 cz
    obtain ⟨g0, c0, c1, c2, c3, c4, c5, c6, cz⟩ := HR5.out.facts
    obtain ⟨y2, hy2⟩ : ∃ y2, y2 = x := ⟨_, rfl⟩
    have HY : Hid (RpAt w5 rp (B + 5) L y2) := Lib.hid (by rw [hy2]; exact HR5.out.mono (by omega))
    have HYK : Hid (∀ k, RpF rp L k → RpF rp L k ∨ w.heap.size ≤ k) := Lib.hid (fun k hk => .inl hk)
    have HYU : Hid (Upd (RpF rp L) w w5) := Lib.hid (Upd.new HN5.out)
    have HF2 : Hid (x.tick = (if 0 < y2.cl then y2.tell else y2).ask) := Lib.hid (by rw [HF.out, hy2])
    rw [← hy2] at c5
    clear hy2
    by_cases hcl : 0 < y2.cl
    · have HF3 : Hid (x.tick = y2.tell.ask) := Lib.hid (by rw [HF2.out, if_pos hcl])
      have hd : decide (0 < y2.cl) = true := decide_eq_true hcl
      clear hcl
      go_wp2_with fail
      refine (rtell HY.out (by omega)).mono ?_
      rintro e w7 ⟨rfl, L7, hr7, hk7, hu7⟩
      have HR7 := Lib.hid hr7
      have HK7 := Lib.hid hk7
      have HU7 := Lib.hid hu7
      clear hr7 hk7 hu7
      go_wp2_with fail
      refine (rask HR7.out (by omega)).mono ?_
      rintro e w8 ⟨rfl, hp⟩
      have HP8 := Lib.hid (RpPost.trans HR7.out HK7.out HU7.out hp)
      clear hp
      go_wp2_with fail
      go_end0
      exact ⟨rfl, by rw [HF3.out]; exact (RpPost.trans HY.out HYK.out HYU.out HP8.out).mono (by omega)⟩
    · have HF3 : Hid (x.tick = y2.ask) := Lib.hid (by rw [HF2.out, if_neg hcl])
      have hd : decide (0 < y2.cl) = false := decide_eq_false hcl
      clear hcl
      go_wp2_with fail
      refine (rask HY.out (by omega)).mono ?_
      rintro e w8 ⟨rfl, hp⟩
      go_wp2_with fail
      go_end0
      exact ⟨rfl, by rw [HF3.out]; exact (RpPost.trans HY.out HYK.out HYU.out hp).mono (by omega)⟩
  | true =>
    have HF : Hid (x.tick = (if 0 < (x.some_ y (x.cl + 1)).cl then (x.some_ y (x.cl + 1)).tell else x.some_ y (x.cl + 1)).ask) := Lib.hid (by unfold Rpl.tick; rw [hbf]; rfl)
    have HBF := Lib.hid hbf
    clear hbf
    go_enter Tryz.func46, Tryz.ntmps46
    go_upto_region 0 with fail
    refine wp_region_held_drew (S := fun w' => Held w w') (by kernel_rfl) (Held.of (New.refl _).drew) (fun hHeld => ?_)
    refine tkN (i := 0) rfl ?_
    try simp only [Act.put, sA, sZ, sS]
    refine tkN (i := 1) rfl ?_
    try simp only [Act.put, sA, sZ, sS]
    refine tkN (i := 2) rfl ?_
    try simp only [Act.put, sA, sZ, sS]
    refine tkN (i := 3) rfl ?_
    try simp only [Act.put, sA, sZ, sS]
    refine tkN (i := 4) rfl ?_
    try simp only [Act.put, sA, sZ, sS]
    refine tkN (i := 5) rfl ?_
    try simp only [Act.put, sA, sZ, sS]
    refine tkN (i := 6) rfl ?_
    try simp only [Act.put, sA, sZ, sS]
    refine tkN (i := 7) rfl ?_
    try simp only [Act.put, sA, sZ, sS]
    refine stN (i := 8) rfl (fun K hK => ?_)
    go_simp
    have hcall := rnext (HR.out.new (New.refl w).drew)
    rw [HBF.out] at hcall
    refine hcall.mono ?_
    rintro e w5 ⟨rfl, hn5⟩
    have hn5W : New w w5 := (New.refl w).drew.trans hn5
    refine hK.out _ _ ?_ (fun hHeld => ?_)
    · exact Held.of hn5W
    clear hK K
    try simp only [Act.put, sA, sZ, sS]
    refine tkN (i := 9) rfl ?_
    try simp only [Act.put, sA, sZ, sS]
    refine tkN (i := 10) rfl ?_
    try simp only [Act.put, sA, sZ, sS]
    refine tkN (i := 11) rfl ?_
    try simp only [Act.put, sA, sZ, sS]
    refine tkN (i := 12) rfl ?_
    try simp only [Act.put, sA, sZ, sS]
    refine tkN (i := 13) rfl ?_
    try simp only [Act.put, sA, sZ, sS]
    refine wpAnyH_done (by kernel_rfl) ?_ _
    clear hHeld
    have HN5 := Lib.hid hn5W
    have HR5 := Lib.hid (HR.out.new hn5W)
    clear hn5 hn5W g0 c0 c1 c2 c3 c4 c5 c6 cz
    obtain ⟨g0, c0, c1, c2, c3, c4, c5, c6, cz⟩ := HR5.out.facts
    have hwl : IntKind.u64.wrap ((x.cl : Int) + 1) = (x.cl : Int) + 1 := IntWalk.u64_in _ (by omega)
    have hsm := rsome HR5.out y (t := x.cl + 1) (by unfold big; omega) (by omega)
    rw [show ((x.cl + 1 : Nat) : Int) = (x.cl : Int) + 1 by omega] at hsm
    go_wp2_with fail
    refine hsm.mono ?_
    rintro e w6 ⟨rfl, hp6⟩
    have hp6w := RpPost.pre HN5.out hp6
    generalize x.some_ y (x.cl + 1) = y2 at *
    obtain ⟨L6, hr6, hk6, hu6⟩ := hp6w
    have HY := Lib.hid hr6
    have HYK := Lib.hid hk6
    have HYU := Lib.hid hu6
    have HF2 := HF
    clear hsm hp6 hwl g0 c0 c1 c2 c3 c4 c5 c6 cz hk6 hu6
    obtain ⟨g0, c0, c1, c2, c3, c4, c5, c6, cz⟩ := hr6.facts
    clear hr6
    by_cases hcl : 0 < y2.cl
    · have HF3 : Hid (x.tick = y2.tell.ask) := Lib.hid (by rw [HF2.out, if_pos hcl])
      have hd : decide (0 < y2.cl) = true := decide_eq_true hcl
      clear hcl
      go_wp2_with fail
      refine (rtell HY.out (by omega)).mono ?_
      rintro e w7 ⟨rfl, L7, hr7, hk7, hu7⟩
      have HR7 := Lib.hid hr7
      have HK7 := Lib.hid hk7
      have HU7 := Lib.hid hu7
      clear hr7 hk7 hu7
      go_wp2_with fail
      refine (rask HR7.out (by omega)).mono ?_
      rintro e w8 ⟨rfl, hp⟩
      have HP8 := Lib.hid (RpPost.trans HR7.out HK7.out HU7.out hp)
      clear hp
      go_wp2_with fail
      go_end0
      exact ⟨rfl, by rw [HF3.out]; exact (RpPost.trans HY.out HYK.out HYU.out HP8.out).mono (by omega)⟩
    · have HF3 : Hid (x.tick = y2.ask) := Lib.hid (by rw [HF2.out, if_neg hcl])
      have hd : decide (0 < y2.cl) = false := decide_eq_false hcl
      clear hcl
      go_wp2_with fail
      refine (rask HY.out (by omega)).mono ?_
      rintro e w8 ⟨rfl, hp⟩
      go_wp2_with fail
      go_end0
      exact ⟨rfl, by rw [HF3.out]; exact (RpPost.trans HY.out HYK.out HYU.out hp).mono (by omega)⟩
end
end Go.Proofs.YtlhlcdjkacglnaaGreatDoor
