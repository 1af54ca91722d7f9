/- Chapter 24 (replica): Adopt, List. Printed by genRpY.py. -/
import Derived.Test.YtlhlcdjkacglnaaGreatDoorJk1
import Derived.Test.YtlhlcdjkacglnaaGreatDoorJk14
import Derived.Laws.EntriesVeiled
namespace Go.Proofs.YtlhlcdjkacglnaaGreatDoor
open Go.RowKit Go.Lap C
set_option linter.unusedVariables false
set_option linter.unusedSimpArgs false
section
variable {w w' W wa : World} {S : Nat → Prop} {rp B D : Nat} {L : RpL} {x x' : Rpl} {b : BtV}
theorem ccheck (c : Cfg) {v : Value} (hl : c.ms.length ≤ 1000) (hs : SlIn w 1 iEnc v c.ms) : Calls Tryz.prog 103 #[.agg #[.int .u64 (c.e : Int), v]] w fun e w' => e = .returned (.bool (chkC c)) ∧ New w w' := C.check_any c.e v c.ms w (by omega) hs
set_option maxRecDepth 100000 in
set_option maxHeartbeats 8000000 in
theorem radopt (h : RpAt w rp B L x) (c : Cfg) {A : Option Addr} {n : Nat} (hs : SlIn w 1 iEnc (.slice A c.ms.length n) c.ms) (hl : c.ms.length ≤ 1000) (he : c.e < big) (hB : B ≤ 9000000) :
    Calls Tryz.prog 50 #[.pointer (some ⟨rp, 0, none⟩), .agg #[.int .u64 (c.e : Int), .slice A c.ms.length n]] w (fun e w' => e = .returned (.int .i64 (x.adopt c).2) ∧ RpPost w rp (B + 10) L (x.adopt c).1 w') := by
  have hN := (New.refl w).alloc (.cells #[.int .u64 (c.e : Int), .slice A c.ms.length n] 41)
  have hM := Blk.mk_new w 41 #[.int .u64 (c.e : Int), .slice A c.ms.length n]
  have HS := Lib.hid (hs.new hN)
  have hR := h.new hN
  have HR := Lib.hid hR
  have HN := Lib.hid hN
  have HM := Lib.hid hM
  have HAD : Hid (x.adopt c = if chkC c = false ∨ c.e ≤ x.cf.e then (x, 241) else if placeC c.ms x.id < 0 then ({ x with cf := c }, 0) else ((if (nextC c x.id).2 = true then ({ x with cf := c } : Rpl) else ({ x with cf := c } : Rpl).cleaned ({ x with cf := c } : Rpl).la).ask, 0)) := Lib.hid rfl
  obtain ⟨q0, q1, q2, qz⟩ := Blk2F hM
  obtain ⟨g0, c0, c1, c2, c3, c4, c5, c6, cz⟩ := hR.facts
  have hll : x.l.length ≤ B := h.ll
  clear h hN hM hR hs
  go_enter Tryz.func50, Tryz.ntmps50
  go_upto_region 1 with fail
  generalize w.alloc _ = W at *
  cases hck : chkC c with
  | false =>
    have HF : Hid (x.adopt c = (x, 241)) := Lib.hid (by rw [HAD.out, if_pos (.inl hck)])
    have HCK := Lib.hid hck
    clear hck
    refine wp_region_held_drew (S := fun w' => Held W w') (by kernel_rfl) (Held.of (New.refl _).drew) (fun hHeld => ?_)
    refine tkN (i := 0) rfl ?_
    try simp only [Act.put, sA, sZ, sS]
    refine stN (i := 1) rfl (fun K hK => ?_)
    go_simp
    have hcall := ccheck (w := W.drew) c hl (HS.out.new (New.refl W).drew)
    rw [HCK.out] at hcall
    refine hcall.mono ?_
    rintro e w5 ⟨rfl, hn5⟩
    have hn5W : New W w5 := (New.refl W).drew.trans hn5
    refine hK.out _ _ ?_ (fun hHeld => ?_)
    · exact Held.of hn5W
    clear hK K
    try simp only [Act.put, sA, sZ, sS]
    refine tkN (i := 2) rfl ?_
    try simp only [Act.put, sA, sZ, sS]
    refine tkN (i := 3) rfl ?_
    try simp only [Act.put, sA, sZ, sS]
    refine tkU (i := 4) rfl ?_
    try simp only [Act.put, sA, sZ, sS]
    refine tkU (i := 5) rfl ?_
    try simp only [Act.put, sA, sZ, sS]
    refine tkU (i := 6) rfl ?_
    try simp only [Act.put, sA, sZ, sS]
    refine tkU (i := 7) rfl ?_
    try simp only [Act.put, sA, sZ, sS]
    refine tkU (i := 8) rfl ?_
    try simp only [Act.put, sA, sZ, sS]
    refine tkU (i := 9) rfl ?_
    try simp only [Act.put, sA, sZ, sS]
    refine tkU (i := 10) rfl ?_
    try simp only [Act.put, sA, sZ, sS]
    refine tkU (i := 11) rfl ?_
    try simp only [Act.put, sA, sZ, sS]
    refine tkN (i := 12) rfl ?_
    try simp only [Act.put, sA, sZ, sS]
    refine wpAnyH_done (by kernel_rfl) ?_ _
    clear hHeld
    have HN5 := Lib.hid (HN.out.trans hn5W)
    have HR5 := Lib.hid (HR.out.new hn5W)
    have HM5 := Lib.hid (HM.out.new hn5W)
    have HS5 := Lib.hid (HS.out.new hn5W)
    clear hn5 hn5W
    go_wp2_with fail
    go_ret
    exact ⟨ret_int (a := 241) (by rw [HF.out]), by rw [HF.out]; exact (RpPost.pre HN5.out (RpPost.refl HR5.out)).mono (by omega)⟩
  | true =>
    have HCK := Lib.hid hck
    by_cases hle : c.e ≤ x.cf.e
    · have HF : Hid (x.adopt c = (x, 241)) := Lib.hid (by rw [HAD.out, if_pos (.inr hle)])
      have hd : decide (c.e ≤ x.cf.e) = true := decide_eq_true hle
      clear hck hle
      refine wp_region_held_drew (S := fun w' => Held W w') (by kernel_rfl) (Held.of (New.refl _).drew) (fun hHeld => ?_)
      refine tkN (i := 0) rfl ?_
      try simp only [Act.put, sA, sZ, sS]
      refine stN (i := 1) rfl (fun K hK => ?_)
      go_simp
      have hcall := ccheck (w := W.drew) c hl (HS.out.new (New.refl W).drew)
      rw [HCK.out] at hcall
      refine hcall.mono ?_
      rintro e w5 ⟨rfl, hn5⟩
      have hn5W : New W w5 := (New.refl W).drew.trans hn5
      refine hK.out _ _ ?_ (fun hHeld => ?_)
      · exact Held.of hn5W
      clear hK K
      try simp only [Act.put, sA, sZ, sS]
      refine tkN (i := 2) rfl ?_
      try simp only [Act.put, sA, sZ, sS]
      refine tkN (i := 3) rfl ?_
      try simp only [Act.put, sA, sZ, sS]
      refine tkN (i := 4) rfl ?_
      try simp only [Act.put, sA, sZ, sS]
      refine tkN (i := 5) rfl ?_
      try simp only [Act.put, sA, sZ, sS]
      refine tkN (i := 6) rfl ?_
      try simp only [Act.put, sA, sZ, sS]
      refine tkN (i := 7) rfl ?_
      try simp only [Act.put, sA, sZ, sS]
      refine tkN (i := 8) rfl ?_
      try simp only [Act.put, sA, sZ, sS]
      refine tkN (i := 9) rfl ?_
      try simp only [Act.put, sA, sZ, sS]
      refine tkN (i := 10) rfl ?_
      try simp only [Act.put, sA, sZ, sS]
      refine tkN (i := 11) rfl ?_
      try simp only [Act.put, sA, sZ, sS]
      refine tkN (i := 12) rfl ?_
      try simp only [Act.put, sA, sZ, sS]
      refine wpAnyH_done (by kernel_rfl) ?_ _
      clear hHeld
      have HN5 := Lib.hid (HN.out.trans hn5W)
      have HR5 := Lib.hid (HR.out.new hn5W)
      have HM5 := Lib.hid (HM.out.new hn5W)
      have HS5 := Lib.hid (HS.out.new hn5W)
      clear hn5 hn5W
      go_wp2_with fail
      go_ret
      exact ⟨ret_int (a := 241) (by rw [HF.out]), by rw [HF.out]; exact (RpPost.pre HN5.out (RpPost.refl HR5.out)).mono (by omega)⟩
    · have HF1 : Hid (x.adopt c = if placeC ({ x with cf := c } : Rpl).cf.ms ({ x with cf := c } : Rpl).id < 0 then ({ x with cf := c }, 0) else ((if (nextC ({ x with cf := c } : Rpl).cf ({ x with cf := c } : Rpl).id).2 = true then ({ x with cf := c } : Rpl) else ({ x with cf := c } : Rpl).cleaned ({ x with cf := c } : Rpl).la).ask, 0)) := Lib.hid (HAD.out.trans (if_neg (by rw [hck]; intro h; exact h.elim (by decide) hle)))
      have hd : decide (c.e ≤ x.cf.e) = false := decide_eq_false hle
      clear hck hle
      refine wp_region_held_drew (S := fun w' => Held W w') (by kernel_rfl) (Held.of (New.refl _).drew) (fun hHeld => ?_)
      refine tkN (i := 0) rfl ?_
      try simp only [Act.put, sA, sZ, sS]
      refine stN (i := 1) rfl (fun K hK => ?_)
      go_simp
      have hcall := ccheck (w := W.drew) c hl (HS.out.new (New.refl W).drew)
      rw [HCK.out] at hcall
      refine hcall.mono ?_
      rintro e w5 ⟨rfl, hn5⟩
      have hn5W : New W w5 := (New.refl W).drew.trans hn5
      refine hK.out _ _ ?_ (fun hHeld => ?_)
      · exact Held.of hn5W
      clear hK K
      try simp only [Act.put, sA, sZ, sS]
      refine tkN (i := 2) rfl ?_
      try simp only [Act.put, sA, sZ, sS]
      refine tkN (i := 3) rfl ?_
      try simp only [Act.put, sA, sZ, sS]
      refine tkN (i := 4) rfl ?_
      try simp only [Act.put, sA, sZ, sS]
      refine tkN (i := 5) rfl ?_
      try simp only [Act.put, sA, sZ, sS]
      refine tkN (i := 6) rfl ?_
      try simp only [Act.put, sA, sZ, sS]
      refine tkN (i := 7) rfl ?_
      try simp only [Act.put, sA, sZ, sS]
      refine tkN (i := 8) rfl ?_
      try simp only [Act.put, sA, sZ, sS]
      refine tkN (i := 9) rfl ?_
      try simp only [Act.put, sA, sZ, sS]
      refine tkN (i := 10) rfl ?_
      try simp only [Act.put, sA, sZ, sS]
      refine tkN (i := 11) rfl ?_
      try simp only [Act.put, sA, sZ, sS]
      refine tkN (i := 12) rfl ?_
      try simp only [Act.put, sA, sZ, sS]
      refine wpAnyH_done (by kernel_rfl) ?_ _
      clear hHeld
      have HN5 := Lib.hid (HN.out.trans hn5W)
      have HR5 := Lib.hid (HR.out.new hn5W)
      have HM5 := Lib.hid (HM.out.new hn5W)
      have HS5 := Lib.hid (HS.out.new hn5W)
      clear hn5 hn5W
      clear g0 c0 c1 c2 c3 c4 c5 c6 cz q0 q1 q2 qz
      obtain ⟨g0, c0, c1, c2, c3, c4, c5, c6, cz⟩ := HR5.out.facts
      obtain ⟨q0, q1, q2, qz⟩ := Blk2F HM5.out
      go_wp2_with fail
      refine (fold0 c hl HS5.out).mono ?_
      rintro e w6 ⟨A6, n6, rfl, ht6, hn6⟩
      obtain ⟨hr7, hu7⟩ := (HR5.out.new hn6).setCf c ht6 hl he
      have HR7 := Lib.hid hr7
      have HK7 : Hid (∀ k, RpF rp { L with cv := .slice A6 c.ms.length n6 } k → RpF rp L k ∨ w.heap.size ≤ k) := Lib.hid (fun k hk => .inl hk)
      have HU7 : Hid (Upd (RpF rp L) w ((w6.setCell ⟨rp, 1, none⟩ (.int .u64 (c.e : Int))).setCell ⟨rp, 2, none⟩ (.slice A6 c.ms.length n6))) := Lib.hid ((Upd.new (S := RpF rp L) (HN5.out.trans hn6)).trans hu7 (fun _ _ h => h))
      clear g0 c0 c1 c2 c3 c4 c5 c6 cz q0 q1 q2 qz hu7
      obtain ⟨g0, c0, c1, c2, c3, c4, c5, c6, cz⟩ := (HR5.out.new hn6).facts
      clear hr7 ht6 hn6
      go_upto_region 4 with fail
      clear g0 c0 c1 c2 c3 c4 c5 c6 cz
      generalize (w6.setCell ⟨rp, 1, none⟩ (.int .u64 (c.e : Int))).setCell ⟨rp, 2, none⟩ (.slice A6 c.ms.length n6) = w7 at *
      generalize hLL : ({ L with cv := .slice A6 c.ms.length n6 } : RpL) = L7 at *
      obtain ⟨x7, hx7⟩ : ∃ x7 : Rpl, x7 = { x with cf := c } := ⟨_, rfl⟩
      have HR7B : Hid (RpAt w7 rp B L7 x7) := Lib.hid (by rw [hx7]; exact HR7.out)
      have HF1B : Hid (x.adopt c = if placeC x7.cf.ms x7.id < 0 then (x7, 0) else ((if (nextC x7.cf x7.id).2 = true then x7 else x7.cleaned x7.la).ask, 0)) := Lib.hid (by rw [hx7]; exact HF1.out)
      have HLA : Hid (x7.la = x.l.length) := Lib.hid (by rw [hx7]; rfl)
      clear HR7 HF1 HAD hx7 hLL
      have HR7 := HR7B
      have HF1 := HF1B
      clear HR7B HF1B
      obtain ⟨g0, c0, c1, c2, c3, c4, c5, c6, cz⟩ := HR7.out.facts
      cases hpl : decide (placeC x7.cf.ms x7.id < 0) with
      | true =>
        have hpl2 := of_decide_eq_true hpl
        have HF : Hid (x.adopt c = (x7, 0)) := Lib.hid (by rw [HF1.out, if_pos hpl2])
        obtain ⟨pl, hple⟩ : ∃ pl, placeC x7.cf.ms x7.id = pl := ⟨_, rfl⟩
        have HPLE := Lib.hid hple
        rw [hple] at hpl hpl2
        clear hple
        refine wp_region_held_drew (S := fun w' => Held w7 w') (by kernel_rfl) (Held.of (New.refl _).drew) (fun hHeld => ?_)
        refine tkN (i := 0) rfl ?_
        try simp only [Act.put, sA, sZ, sS]
        refine tkN (i := 1) rfl ?_
        try simp only [Act.put, sA, sZ, sS]
        refine tkN (i := 2) rfl ?_
        try simp only [Act.put, sA, sZ, sS]
        refine tkN (i := 3) rfl ?_
        try simp only [Act.put, sA, sZ, sS]
        refine tkN (i := 4) rfl ?_
        try simp only [Act.put, sA, sZ, sS]
        refine tkN (i := 5) rfl ?_
        try simp only [Act.put, sA, sZ, sS]
        refine tkN (i := 6) rfl ?_
        try simp only [Act.put, sA, sZ, sS]
        refine tkN (i := 7) rfl ?_
        try simp only [Act.put, sA, sZ, sS]
        refine stN (i := 8) rfl (fun K hK => ?_)
        go_simp
        have hcall := rplace (HR7.out.new (New.refl w7).drew)
        rw [HPLE.out] at hcall
        refine hcall.mono ?_
        rintro e w8 ⟨rfl, hn8⟩
        have hn8W : New w7 w8 := (New.refl w7).drew.trans hn8
        refine hK.out _ _ ?_ (fun hHeld => ?_)
        · exact Held.of hn8W
        clear hK K
        try simp only [Act.put, sA, sZ, sS]
        refine tkN (i := 9) rfl ?_
        try simp only [Act.put, sA, sZ, sS]
        refine wpAnyH_done (by kernel_rfl) ?_ _
        clear hHeld
        have HN8 := Lib.hid hn8W
        have HR8 := Lib.hid (HR7.out.new hn8W)
        have HU8 := Lib.hid (HU7.out.transNew hn8W)
        clear hn8 hn8W g0 c0 c1 c2 c3 c4 c5 c6 cz
        obtain ⟨g0, c0, c1, c2, c3, c4, c5, c6, cz⟩ := HR8.out.facts
        go_wp2_with fail
        go_ret
        exact ⟨ret_int (a := 0) (by rw [HF.out]), by rw [HF.out]; exact (show RpPost w rp B L x7 w8 from ⟨_, HR8.out, HK7.out, HU8.out⟩).mono (by omega)⟩
      | false =>
        have hpl2 := of_decide_eq_false hpl
        have HF2 := Lib.hid (HF1.out.trans (if_neg hpl2))
        obtain ⟨pl, hple⟩ : ∃ pl, placeC x7.cf.ms x7.id = pl := ⟨_, rfl⟩
        have HPLE := Lib.hid hple
        rw [hple] at hpl hpl2
        clear hple
        refine wp_region_held_drew (S := fun w' => Held w7 w') (by kernel_rfl) (Held.of (New.refl _).drew) (fun hHeld => ?_)
        refine tkN (i := 0) rfl ?_
        try simp only [Act.put, sA, sZ, sS]
        refine tkN (i := 1) rfl ?_
        try simp only [Act.put, sA, sZ, sS]
        refine tkN (i := 2) rfl ?_
        try simp only [Act.put, sA, sZ, sS]
        refine tkN (i := 3) rfl ?_
        try simp only [Act.put, sA, sZ, sS]
        refine tkN (i := 4) rfl ?_
        try simp only [Act.put, sA, sZ, sS]
        refine tkN (i := 5) rfl ?_
        try simp only [Act.put, sA, sZ, sS]
        refine tkN (i := 6) rfl ?_
        try simp only [Act.put, sA, sZ, sS]
        refine tkN (i := 7) rfl ?_
        try simp only [Act.put, sA, sZ, sS]
        refine stN (i := 8) rfl (fun K hK => ?_)
        go_simp
        have hcall := rplace (HR7.out.new (New.refl w7).drew)
        rw [HPLE.out] at hcall
        refine hcall.mono ?_
        rintro e w8 ⟨rfl, hn8⟩
        have hn8W : New w7 w8 := (New.refl w7).drew.trans hn8
        refine hK.out _ _ ?_ (fun hHeld => ?_)
        · exact Held.of hn8W
        clear hK K
        try simp only [Act.put, sA, sZ, sS]
        refine tkN (i := 9) rfl ?_
        try simp only [Act.put, sA, sZ, sS]
        refine wpAnyH_done (by kernel_rfl) ?_ _
        clear hHeld
        have HN8 := Lib.hid hn8W
        have HR8 := Lib.hid (HR7.out.new hn8W)
        have HU8 := Lib.hid (HU7.out.transNew hn8W)
        clear hn8 hn8W g0 c0 c1 c2 c3 c4 c5 c6 cz
        obtain ⟨g0, c0, c1, c2, c3, c4, c5, c6, cz⟩ := HR8.out.facts
        cases hbf : nextC x7.cf x7.id with
        | mk y ok =>
        cases ok with
        | true =>
          have HF3 : Hid (x.adopt c = (x7.ask, 0)) := Lib.hid (by rw [HF2.out, hbf]; rfl)
          have HBF := Lib.hid hbf
          clear hbf
          go_upto_region 6 with fail
          refine wp_region_held_drew (S := fun w' => Held w8 w') (by kernel_rfl) (Held.of (New.refl _).drew) (fun hHeld => ?_)
          refine tkN (i := 0) rfl ?_
          try simp only [Act.put, sA, sZ, sS]
          refine tkN (i := 1) rfl ?_
          try simp only [Act.put, sA, sZ, sS]
          refine tkN (i := 2) rfl ?_
          try simp only [Act.put, sA, sZ, sS]
          refine tkN (i := 3) rfl ?_
          try simp only [Act.put, sA, sZ, sS]
          refine tkN (i := 4) rfl ?_
          try simp only [Act.put, sA, sZ, sS]
          refine tkN (i := 5) rfl ?_
          try simp only [Act.put, sA, sZ, sS]
          refine tkN (i := 6) rfl ?_
          try simp only [Act.put, sA, sZ, sS]
          refine tkN (i := 7) rfl ?_
          try simp only [Act.put, sA, sZ, sS]
          refine stN (i := 8) rfl (fun K hK => ?_)
          go_simp
          have hcall := rnext (HR8.out.new (New.refl w8).drew)
          rw [HBF.out] at hcall
          refine hcall.mono ?_
          rintro e w9 ⟨rfl, hn9⟩
          have hn9W : New w8 w9 := (New.refl w8).drew.trans hn9
          refine hK.out _ _ ?_ (fun hHeld => ?_)
          · exact Held.of hn9W
          clear hK K
          try simp only [Act.put, sA, sZ, sS]
          refine tkN (i := 9) rfl ?_
          try simp only [Act.put, sA, sZ, sS]
          refine tkN (i := 10) rfl ?_
          try simp only [Act.put, sA, sZ, sS]
          refine tkN (i := 11) rfl ?_
          try simp only [Act.put, sA, sZ, sS]
          refine tkN (i := 12) rfl ?_
          try simp only [Act.put, sA, sZ, sS]
          refine tkN (i := 13) rfl ?_
          try simp only [Act.put, sA, sZ, sS]
          refine wpAnyH_done (by kernel_rfl) ?_ _
          clear hHeld
          have HR9 := Lib.hid (HR8.out.new hn9W)
          have HU9 := Lib.hid (HU8.out.transNew hn9W)
          clear hn9 hn9W g0 c0 c1 c2 c3 c4 c5 c6 cz
          have HR10 := HR9
          have HK10 := HK7
          have HU10 := HU9
          obtain ⟨g0, c0, c1, c2, c3, c4, c5, c6, cz⟩ := HR9.out.facts
          go_wp2_with fail
          refine (rask HR10.out (by omega)).mono ?_
          rintro e w11 ⟨rfl, hp⟩
          have HP := Lib.hid (RpPost.trans HR10.out HK10.out HU10.out hp)
          clear hp
          go_wp2_with fail
          go_ret
          exact ⟨ret_int (a := 0) (by rw [HF3.out]), by rw [HF3.out]; exact HP.out.mono (by omega)⟩
        | false =>
          have HF3 : Hid (x.adopt c = ((x7.cleaned x7.la).ask, 0)) := Lib.hid (by rw [HF2.out, hbf]; rfl)
          have HBF := Lib.hid hbf
          clear hbf
          go_upto_region 6 with fail
          refine wp_region_held_drew (S := fun w' => Held w8 w') (by kernel_rfl) (Held.of (New.refl _).drew) (fun hHeld => ?_)
          refine tkN (i := 0) rfl ?_
          try simp only [Act.put, sA, sZ, sS]
          refine tkN (i := 1) rfl ?_
          try simp only [Act.put, sA, sZ, sS]
          refine tkN (i := 2) rfl ?_
          try simp only [Act.put, sA, sZ, sS]
          refine tkN (i := 3) rfl ?_
          try simp only [Act.put, sA, sZ, sS]
          refine tkN (i := 4) rfl ?_
          try simp only [Act.put, sA, sZ, sS]
          refine tkN (i := 5) rfl ?_
          try simp only [Act.put, sA, sZ, sS]
          refine tkN (i := 6) rfl ?_
          try simp only [Act.put, sA, sZ, sS]
          refine tkN (i := 7) rfl ?_
          try simp only [Act.put, sA, sZ, sS]
          refine stN (i := 8) rfl (fun K hK => ?_)
          go_simp
          have hcall := rnext (HR8.out.new (New.refl w8).drew)
          rw [HBF.out] at hcall
          refine hcall.mono ?_
          rintro e w9 ⟨rfl, hn9⟩
          have hn9W : New w8 w9 := (New.refl w8).drew.trans hn9
          refine hK.out _ _ ?_ (fun hHeld => ?_)
          · exact Held.of hn9W
          clear hK K
          try simp only [Act.put, sA, sZ, sS]
          refine tkN (i := 9) rfl ?_
          try simp only [Act.put, sA, sZ, sS]
          refine tkN (i := 10) rfl ?_
          try simp only [Act.put, sA, sZ, sS]
          refine tkN (i := 11) rfl ?_
          try simp only [Act.put, sA, sZ, sS]
          refine tkN (i := 12) rfl ?_
          try simp only [Act.put, sA, sZ, sS]
          refine tkN (i := 13) rfl ?_
          try simp only [Act.put, sA, sZ, sS]
          refine wpAnyH_done (by kernel_rfl) ?_ _
          clear hHeld
          have HR9 := Lib.hid (HR8.out.new hn9W)
          have HU9 := Lib.hid (HU8.out.transNew hn9W)
          clear hn9 hn9W g0 c0 c1 c2 c3 c4 c5 c6 cz
          obtain ⟨g0, c0, c1, c2, c3, c4, c5, c6, cz⟩ := HR9.out.facts
          go_wp2_with fail
          refine (rlast HR9.out (by omega)).mono ?_
          rintro e w9b ⟨rfl, rfl⟩
          go_wp2_with fail
          refine (rcleaned HR9.out (t := x7.la) (by have := HLA.out; omega) (by omega)).mono ?_
          rintro e w10 ⟨rfl, hp10⟩
          have hp10w := RpPost.trans HR9.out HK7.out HU9.out hp10
          obtain ⟨L10, hr10, hk10, hu10⟩ := hp10w
          have HR10 := Lib.hid hr10
          have HK10 := Lib.hid hk10
          have HU10 := Lib.hid hu10
          clear hp10 hr10 hk10 hu10 g0 c0 c1 c2 c3 c4 c5 c6 cz
          go_wp2_with fail
          refine (rask HR10.out (by omega)).mono ?_
          rintro e w11 ⟨rfl, hp⟩
          have HP := Lib.hid (RpPost.trans HR10.out HK10.out HU10.out hp)
          clear hp
          go_wp2_with fail
          go_ret
          exact ⟨ret_int (a := 0) (by rw [HF3.out]), by rw [HF3.out]; exact HP.out.mono (by omega)⟩
end
end Go.Proofs.YtlhlcdjkacglnaaGreatDoor
/- Chapter 24 (replica): List, Receive, New. Printed by genRpZ.py. -/
namespace Go.Proofs.YtlhlcdjkacglnaaGreatDoor
open Go.RowKit Go.Lap C
set_option linter.unusedVariables false
set_option linter.unusedSimpArgs false
section
variable {w w' W wa : World} {S : Nat → Prop} {rp B D : Nat} {L : RpL} {x x' : Rpl} {b : BtV}
theorem take_snocR {l : List Btc} {k : Nat} {b : Btc} (h : l[k]? = some b) : l.take (k + 1) = l.take k ++ [b] := by rw [List.take_add_one, h]; rfl
def ListPost (w : World) (l : List Btc) (e : Ending) (w' : World) : Prop := ∃ v, e = .returned v ∧ BtRow w' w.heap.size v l ∧ New w w'
theorem listStep {w0 w6 w7 : World} {ps : List BtV} {v v7 : Value} {y : BtV} {l l2 : List Btc} (hps : ps.map BtV.b = l) (hl : l2 = l ++ [y.b]) (hr : Row w6 w0.heap.size 82 4 BtV.enc v ps) (hpa : ∀ p ∈ ps, BtAt w6 p) (hy : BtAt w6 y) (hn : New w0 w6)
    (h7 : Row w7 w0.heap.size 82 4 BtV.enc v7 (ps ++ [y])) (hg : w6.grownBy w7 v.ownBlock) : BtRow w7 w0.heap.size v7 l2 ∧ New w0 w7 := by
  have hu : Upd (fun i => v.ownBlock = some i) w6 w7 := (Upd.refl _ w6).grown hg (fun i _ e => e)
  refine ⟨⟨ps ++ [y], by rw [hl, List.map_append, hps]; rfl, h7, fun p hp => ?_⟩, hn.grown hg (fun k hk => (hr.lt k hk).1)⟩
  rcases List.mem_append.1 hp with hp | hp
  · exact (hpa p hp).upd hu (Off.row hr (by decide))
  · rw [List.mem_singleton.1 hp]; exact hy.upd hu (Off.row hr (by decide))
set_option maxRecDepth 100000 in
set_option maxHeartbeats 4000000 in
theorem rlist (h : RpAt w rp B L x) (hB : B ≤ 9000000) : Calls Tryz.prog 53 #[.pointer (some ⟨rp, 0, none⟩)] w (ListPost w x.l) := by
  have hll := h.ll
  obtain ⟨A0, n0, hv0⟩ := h.l.shape
  obtain ⟨g0, c0, c1, c2, c3, c4, c5, c6, cz⟩ := h.facts
  rw [hv0] at c4
  have HL := Lib.hid h.l
  have HV0 := Lib.hid hv0
  clear h hv0
  go_enter Tryz.func53, Tryz.ntmps53
  go_wp2_with fail
  go_loopw [3, 5, 11] (fun s3 _ i wr => ∃ k : Nat, k ≤ x.l.length ∧ i = .int .i64 (k : Int) ∧ BtRow wr w.heap.size s3 (x.l.take k) ∧ New w wr) (fun _ _ i _ => x.l.length - (intOf i).toNat)
  case atStart => exact ⟨0, by omega, rfl, BtRow.nil _ _, New.refl _⟩
  case round =>
    obtain ⟨k, hk, rfl, hrow, hn⟩ := hrel
    have HROW := Lib.hid hrow
    have HNR := Lib.hid hn
    by_cases hlt : k < x.l.length
    · obtain ⟨b, hb⟩ : ∃ b, x.l[k]? = some b := ⟨_, List.getElem?_eq_getElem hlt⟩
      obtain ⟨g, off, cap, A, cp, hv, hcap, hba, e0, e1, e2, e3, hg⟩ := (HL.out.new hn).at_ hb
      rw [HV0.out] at hv
      cases hv
      have hlt2 : (k : Int) < (x.l.length : Int) := by omega
      have hk0 : (0 : Int) ≤ (k : Int) := by omega
      have HTK : Hid (x.l.take (k + 1) = x.l.take k ++ [b]) := Lib.hid (take_snocR hb)
      obtain ⟨bc, br, bs, bl⟩ := b
      dsimp only at e0 e1 e2 e3 hba
      have hnx := (New.refl wr).alloc (.cells #[.int .u64 (bc : Int), .int .u64 (br : Int), .int .u64 (bs : Int), .slice A bl.length cp] 82)
      have HBX := Lib.hid (hba.new hnx)
      have HXB := Lib.hid (Blk.mk_new wr 82 #[.int .u64 (bc : Int), .int .u64 (br : Int), .int .u64 (bs : Int), .slice A bl.length cp])
      have HNX := Lib.hid hnx
      have HNU := Lib.hid (hn.trans hnx)
      clear hb hba hnx hrow hn
      go_upto_region 5 with fail
      generalize wr.alloc (.cells #[.int .u64 (bc : Int), .int .u64 (br : Int), .int .u64 (bs : Int), .slice A bl.length cp] 82) = wx at *
      clear e0 e1 e2 e3
      have hbx := HXB.out
      obtain ⟨d0, d1, d2, d3, d4, dz⟩ := Blk4K hbx
      clear hbx
      go_wp2_with fail
      refine (copied_any HBX.out).mono ?_
      rintro e w5 ⟨y, rfl, hyb, hy5, hn5⟩
      obtain ⟨⟨yc, yr, ys, yl⟩, yA, ycap⟩ := y
      dsimp only at hyb
      cases hyb
      dsimp only [BtV.val, BtV.sl, batV]
      have hn6 := (New.refl w5).alloc (.cells #[.int .u64 (bc : Int), .int .u64 (br : Int), .int .u64 (bs : Int), .slice yA bl.length ycap] 82)
      have hp6 := Blk.mk_new w5 82 #[.int .u64 (bc : Int), .int .u64 (br : Int), .int .u64 (bs : Int), .slice yA bl.length ycap]
      obtain ⟨ps, hps, hrw, hpa⟩ := HROW.out
      have hn56 := (HNX.out.trans hn5).trans hn6
      have HRW := Lib.hid (hrw.new hn56)
      have HPA : Hid (∀ p ∈ ps, BtAt (w5.alloc (.cells #[.int .u64 (bc : Int), .int .u64 (br : Int), .int .u64 (bs : Int), .slice yA bl.length ycap] 82)) p) := Lib.hid (fun p hp => (hpa p hp).new hn56)
      have HPS := Lib.hid hps
      have HY6 := Lib.hid (hy5.new hn6)
      have HP6 := Lib.hid hp6
      have HN6 := Lib.hid ((HNU.out.trans hn5).trans hn6)
      have HPL : Hid (ps.length = k) := Lib.hid (by have := congrArg List.length hps; rw [List.length_map, List.length_take] at this; omega)
      clear hps hrw hpa hn56 hy5 hn5 hn6 hp6 d0 d1 d2 d3 d4 dz
      have HBS : Hid (w.heap.size ≤ (w5.alloc (.cells #[.int .u64 (bc : Int), .int .u64 (br : Int), .int .u64 (bs : Int), .slice yA bl.length ycap] 82)).heap.size) := Lib.hid HN6.out.size
      go_wp2_with (at_builtin; refine wpList_appR (m := [(⟨⟨bc, br, bs, bl⟩, yA, ycap⟩ : BtV)]) btTy BtV.encOk rfl (.tmp 15) (.tmp 18) rfl rfl rfl HRW.out (SlIn.one HP6.out BtV.encOk rfl) (by have := HPL.out; simp; unfold maxLen; omega) (by have := HPL.out; simp; omega) HBS.out ?_; intro v7 w7 h7 hg7 hv7; have HF : Hid (BtRow w7 w.heap.size v7 (x.l.take (k + 1)) ∧ New w w7) := Lib.hid (listStep HPS.out HTK.out HRW.out HPA.out HY6.out HN6.out h7 hg7); clear h7 hg7 hv7)
      go_roundw
      case rel => exact ⟨k + 1, by omega, by go_num, HF.out.1, HF.out.2⟩
      case measure => simp [intOf]; omega
    · obtain rfl : k = x.l.length := by omega
      have hlt2 : ¬ ((x.l.length : Nat) : Int) < (x.l.length : Int) := by omega
      have HF : Hid (BtRow wr w.heap.size u3 x.l) := Lib.hid (by have := HROW.out; rw [List.take_length] at this; exact this)
      clear hrow hn
      go_wp2_with fail
      go_ret
      exact ⟨u3, rfl, HF.out, HNR.out⟩
end
end Go.Proofs.YtlhlcdjkacglnaaGreatDoor
