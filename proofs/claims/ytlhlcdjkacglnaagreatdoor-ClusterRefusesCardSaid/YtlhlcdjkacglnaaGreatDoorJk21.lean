/- Chapter 5 (batch): a reader beside a batch in work. -/
import Derived.Test.YtlhlcdjkacglnaaGreatDoorJk20
namespace Go.Proofs.YtlhlcdjkacglnaaGreatDoor.D
open Go.RowKit Go.Lap
set_option linter.unusedVariables false

theorem wTy : SlTy Tryz.prog 23 34 (.agg #[.string ⟨#[]⟩, .string ⟨#[]⟩, .bool false]) 3 40 := ⟨Tryz.underlying23, by kernel_rfl, rfl, by decide⟩

/-- The reader's bytes do not lie in the slice's block. -/
def OffV (vO u : Value) (bs : List UInt8) : Prop := bs = [] ∨ ∀ k, u.ownBlock = some k → vO.ownBlock ≠ some k

/-- A batch in work at p, beside a reader at g. -/
structure GS (w0 wr : World) (g p : Nat) (n1 n2 n3 : Nat) (u : Value) (bs : List UInt8) (err : Int) (vO : Value) (acc : List Wri) : Prop where
  rd : RdAt wr g u bs err
  blk : Blk wr p 82 #[.int .u64 (n1 : Int), .int .u64 (n2 : Int), .int .u64 (n3 : Int), vO]
  own : Owns wr (p + 1) 34 3 Wri.enc vO acc
  off : Off p u bs
  offV : OffV vO u bs
  new : New w0 wr
  gp : g < p
  wp : w0.heap.size ≤ g

section
variable {w0 wr w' : World} {g p n1 n2 n3 : Nat} {u u' vO : Value} {bs bs' : List UInt8} {err err' : Int} {acc : List Wri}

theorem GS.read (h : GS w0 wr g p n1 n2 n3 u bs err vO acc) (hr : RdAt w' g u' bs' err') (hu : Upd (· = g) wr w') (hf : Fr wr u u') (hl : bs'.length ≤ bs.length) : GS w0 w' g p n1 n2 n3 u' bs' err' vO acc := by
  have hgp := h.gp
  refine ⟨hr, h.blk.upd hu (by omega), h.own.upd hu (fun k hk e => by have := (h.own.lt k hk).1; omega), h.off.read hf h.blk.lt hl, ?_, h.new.upd hu (fun i hi => by have := h.wp; omega), h.gp, h.wp⟩
  rcases h.offV with rfl | ho
  · exact .inl (List.eq_nil_of_length_eq_zero (by simpa using hl))
  · right
    intro k hk hv
    rcases hf k hk with h1 | h1
    · exact ho k h1 hv
    · have := (h.own.lt k hv).2
      omega
theorem GS.keep (h : GS w0 wr g p n1 n2 n3 u bs err vO acc) (hn : New wr w') : GS w0 w' g p n1 n2 n3 u bs err vO acc :=
  ⟨h.rd.new hn, h.blk.new hn, h.own.new hn, h.off, h.offV, h.new.trans hn, h.gp, h.wp⟩
/-- A store into a block of the round's own. -/
theorem GS.far (h : GS w0 wr g p n1 n2 n3 u bs err vO acc) {x : Nat} (hx : Off x u bs) (hp : p < x) (hv : vO.ownBlock ≠ some x) (i : Nat) (c : Value) : GS w0 (wr.setCell ⟨x, i, none⟩ c) g p n1 n2 n3 u bs err vO acc := by
  have hgp := h.gp
  have hu : Upd (· = x) wr (wr.setCell ⟨x, i, none⟩ c) := (Upd.refl _ wr).setIn i c
  exact ⟨h.rd.off hx hu (by omega) (fun k hk => hk), h.blk.upd hu (by omega), h.own.upd hu (fun k hk e => hv (by rw [hk, e])), h.off, h.offV, h.new.upd hu (fun k hk => by have := h.wp; omega), h.gp, h.wp⟩
theorem GS.blkG (h : GS w0 wr g p n1 n2 n3 u bs err vO acc) (hg : wr.grownBy w' vO.ownBlock) : Blk w' p 82 #[.int .u64 (n1 : Int), .int .u64 (n2 : Int), .int .u64 (n3 : Int), vO] :=
  h.blk.upd ((Upd.refl _ wr).grown (S := fun k => vO.ownBlock = some k) hg (fun k _ hk => hk)) (fun e => by have := (h.own.lt p e).1; omega)
theorem GS.resG (h : GS w0 wr g p n1 n2 n3 u bs err vO acc) (hg : wr.grownBy w' vO.ownBlock) {R t : Nat} {cs : Array Value} (hR : Blk wr R t cs) (hl : R < p) : Blk w' R t cs :=
  hR.upd ((Upd.refl _ wr).grown (S := fun k => vO.ownBlock = some k) hg (fun k _ hk => hk)) (fun e => by have := (h.own.lt R e).1; omega)
/-- One more write is appended, and the slice laid back. -/
theorem GS.app (h : GS w0 wr g p n1 n2 n3 u bs err vO acc) {v' : Value} {x : Wri} (ho : Owns w' (p + 1) 34 3 Wri.enc v' (acc ++ [x])) (hg : wr.grownBy w' vO.ownBlock) (hv : v'.ownBlock = vO.ownBlock ∨ v'.ownBlock = some wr.heap.size) :
    GS w0 (w'.setCell ⟨p, 3, none⟩ v') g p n1 n2 n3 u bs err v' (acc ++ [x]) := by
  have hgp := h.gp
  have hwp := h.wp
  have hP := h.blk.lt
  have hu1 : Upd (fun k => vO.ownBlock = some k) wr w' := (Upd.refl _ wr).grown hg (fun k _ hk => hk)
  have hb1 := h.blk.upd hu1 (fun e => by have := (h.own.lt p e).1; omega)
  have hu2 : Upd (· = p) w' (w'.setCell ⟨p, 3, none⟩ v') := (Upd.refl _ w').setIn 3 v'
  have hr1 : RdAt w' g u bs err := by
    refine ⟨h.rd.1.upd hu1 (fun e => by have := (h.own.lt g e).1; omega), ?_, h.rd.2.2⟩
    rcases h.offV with rfl | ho
    · obtain ⟨A, c, rfl, hc, _⟩ := h.rd.2.1
      exact ⟨A, c, rfl, hc, .inl rfl⟩
    · exact h.rd.2.1.upd hu1 (fun k hk hs => ho k hk hs)
  refine ⟨hr1.off h.off hu2 (by omega) (fun k hk => hk), hb1.set_ 3 v', ho.upd hu2 (fun k hk e => by have := (ho.lt k hk).1; omega), h.off, ?_, ?_, h.gp, h.wp⟩
  · by_cases hne : bs = []
    · exact .inl hne
    · right
      intro k hk hk'
      rcases hv with e | e
      · rcases h.offV with h1 | h1
        · exact hne h1
        · exact h1 k hk (by rw [← e]; exact hk')
      · have := h.rd.own_lt hne k hk
        rw [e] at hk'
        injection hk' with hk'
        omega
  · exact (h.new.upd hu1 (fun k hk => by have := (h.own.lt k hk).1; omega)).upd hu2 (fun k hk => by omega)
end

/-- One write read. -/
def rdW (bs : List UInt8) (err : Int) : Wri × List UInt8 × Int :=
  let r1 := textR bs err
  let r2 := flagR r1.2.1 r1.2.2
  if r2.1 = true then (⟨str r1.1, str [], true⟩, r2.2) else
    let r3 := textR r2.2.1 r2.2.2
    (⟨str r1.1, str r3.1, false⟩, r3.2)
def rdWs : Nat → List UInt8 → Int → List Wri × List UInt8 × Int
  | 0, bs, err => ([], bs, err)
  | n + 1, bs, err => ((rdW bs err).1 :: (rdWs n (rdW bs err).2.1 (rdW bs err).2.2).1, (rdWs n (rdW bs err).2.1 (rdW bs err).2.2).2)

/-- A batch as it is read. -/
structure BatR where
  c : Nat
  r : Nat
  s : Nat
  l : List Wri

/-- The batch of bytes, as the code reads it. -/
def getC (bs : List UInt8) : Option BatR :=
  let r1 := numR bs 0
  let r2 := numR r1.2.1 r1.2.2
  let r3 := numR r2.2.1 r2.2.2
  let r4 := countR r3.2.1 r3.2.2 8
  let ws := rdWs r4.1 r4.2.1 r4.2.2
  if endR ws.2.1 ws.2.2 = 0 then if chk ws.1 = 0 then some ⟨r1.1, r2.1, r3.1, ws.1⟩ else none else none

theorem countR_lenE (bs : List UInt8) (err most : Int) : (countR bs err most).2.1.length ≤ bs.length := by simpa [takeF] using takeF_lenP 3 most bs err
end Go.Proofs.YtlhlcdjkacglnaaGreatDoor.D
/- Chapter 5 (batch): Get. Printed by genBat8.py. -/
namespace Go.Proofs.YtlhlcdjkacglnaaGreatDoor.D
open Go.RowKit Go.Lap
set_option linter.unusedVariables false

/-- What Get answers. -/
def GetPostB (w : World) (o : Option BatR) (e : Ending) (w' : World) : Prop := New w w' ∧
  ((o = none ∧ e = .returned (.tuple #[.agg #[.int .u64 0, .int .u64 0, .int .u64 0, .slice none 0 0], .int .i64 55])) ∨ ∃ (a : BatR) (u : Value), o = some a ∧ e = .returned (.tuple #[.agg #[.int .u64 (a.c : Int), .int .u64 (a.r : Int), .int .u64 (a.s : Int), u], .int .i64 0]) ∧ Owns w' w.heap.size 34 3 Wri.enc u a.l)

/-- So many writes are read. -/
def GetRel (w0 wr : World) (R g p n1 n2 n3 n : Nat) (b4 : List UInt8) (e4 : Int) (L k : Nat) : Prop := ∃ (u : Value) (bs : List UInt8) (err : Int) (vO : Value) (acc : List Wri),
  GS w0 wr g p n1 n2 n3 u bs err vO acc ∧ Blk wr R 82 #[.int .u64 0, .int .u64 0, .int .u64 0, .slice none 0 0] ∧ bs.length ≤ L ∧ acc.length = k ∧ rdWs n b4 e4 = (acc ++ (rdWs (n - k) bs err).1, (rdWs (n - k) bs err).2)

theorem rdWs_step {n k : Nat} (h : k < n) (bs : List UInt8) (err : Int) : rdWs (n - k) bs err = ((rdW bs err).1 :: (rdWs (n - (k + 1)) (rdW bs err).2.1 (rdW bs err).2.2).1, (rdWs (n - (k + 1)) (rdW bs err).2.1 (rdW bs err).2.2).2) := by
  rw [show n - k = (n - (k + 1)) + 1 by omega]
  rfl

set_option maxRecDepth 100000 in
set_option maxHeartbeats 8000000 in
theorem getB_any (bs : List UInt8) (v : Value) (w : World) (hb : bs.length ≤ 100000000) (hs : SlIn w 1 bEnc v bs) :
    Calls Tryz.prog 137 #[v] w (GetPostB w (getC bs)) := by
  obtain ⟨sA, sn, sc, rfl⟩ := hs.shape
  have hRw := Blk.mk_new w 82 #[.int .u64 0, .int .u64 0, .int .u64 0, .slice none 0 0]
  have hNw := (New.refl w).alloc (.cells #[.int .u64 0, .int .u64 0, .int .u64 0, .slice none 0 0] 82)
  have hs1 := hs.new hNw
  go_enter Tryz.func137, Tryz.ntmps137
  go_wp2_with fail
  refine (read_any bs _ _ (by omega) hs1).mono ?_
  rintro e w1 ⟨g, u1, rfl, hg1, _, hr1, hn1⟩
  rw [World.size_alloc] at hg1
  have hR1 := hRw.new hn1
  have hN1 := hNw.trans hn1
  have hgw : w.heap.size ≤ g := by omega
  have hRg : w.heap.size ≠ g := by omega
  clear hs hs1 hRw hNw hn1
  go_wp2_with fail
  refine (rnum_any g u1 bs 0 w1 hr1 (by omega)).mono ?_
  rintro e w2 ⟨u2, rfl, hr2, hu2, hf2⟩
  have hN2 := RdAt.step hN1 hgw hu2
  have hR2 := hR1.upd hu2 hRg
  have hl1 := numR_lenE bs 0
  generalize hE1 : numR bs 0 = r1 at *
  have HE1 := Lib.hid hE1
  obtain ⟨n1, b1, e1⟩ := r1
  simp only at hr2 hl1 ⊢
  clear hE1 hr1 hu2 hf2 hN1 hR1
  go_wp2_with fail
  refine (rnum_any g u2 b1 e1 w2 hr2 (by omega)).mono ?_
  rintro e w3 ⟨u3, rfl, hr3, hu3, hf3⟩
  have hN3 := RdAt.step hN2 hgw hu3
  have hR3 := hR2.upd hu3 hRg
  have hl2 := numR_lenE b1 e1
  generalize hE2 : numR b1 e1 = r2 at *
  have HE2 := Lib.hid hE2
  obtain ⟨n2, b2, e2⟩ := r2
  simp only at hr3 hl2 ⊢
  clear hE2 hr2 hu3 hf3 hN2 hR2
  go_wp2_with fail
  refine (rnum_any g u3 b2 e2 w3 hr3 (by omega)).mono ?_
  rintro e w4 ⟨u4, rfl, hr4, hu4, hf4⟩
  have hN4 := RdAt.step hN3 hgw hu4
  have hR4 := hR3.upd hu4 hRg
  have hl3 := numR_lenE b2 e2
  generalize hE3 : numR b2 e2 = r3 at *
  have HE3 := Lib.hid hE3
  obtain ⟨n3, b3, e3⟩ := r3
  simp only at hr4 hl3 ⊢
  clear hE3 hr3 hu4 hf4 hN3 hR3
  have hg4 := hr4.1.lt
  have hnP := (New.refl w4).alloc (.cells #[.int .u64 (n1 : Int), .int .u64 (n2 : Int), .int .u64 (n3 : Int), .slice none 0 0] 82)
  have hGS : GS w (w4.alloc (.cells #[.int .u64 (n1 : Int), .int .u64 (n2 : Int), .int .u64 (n3 : Int), .slice none 0 0] 82)) g w4.heap.size n1 n2 n3 u4 b3 e3 (.slice none 0 0) [] := ⟨hr4.new hnP, Blk.mk_new w4 _ _, Owns.nil _ _ _ _ _, Off.start hr4 (Nat.le_refl _), .inr (fun k _ h => by simp [Value.ownBlock] at h), hN4.trans hnP, hg4, hgw⟩
  have hR5 := hR4.new hnP
  have hRp : w.heap.size < w4.heap.size := hR4.lt
  clear hr4 hN4 hR4
  go_wp2_with fail
  refine (count_any g u4 b3 e3 8 _ hGS.rd (by omega) (by decide) (by decide)).mono ?_
  rintro e w5 ⟨u5, rfl, hr5, hu5, hf5⟩
  have hl4 := countR_lenE b3 e3 8
  have hG5 := hGS.read hr5 hu5 hf5 hl4
  have hR6 := hR5.upd hu5 hRg
  have hcl := countR_le b3 e3 8
  generalize w4.heap.size = p at *
  generalize hE4 : countR b3 e3 8 = r4 at *
  have HE4 := Lib.hid hE4
  obtain ⟨n, b4, e4⟩ := r4
  simp only at hG5 hl4 hcl ⊢
  clear hE4 hr5 hu5 hf5 hGS hR5 hnP hg4
  have hn8 : n ≤ 8 := by omega
  have hR0 : GetRel w w5 w.heap.size g p n1 n2 n3 n b4 e4 bs.length 0 := ⟨u5, b4, e4, _, [], hG5, hR6, by omega, rfl, by simp⟩
  have HR0 := Lib.hid hR0
  have hfin : getC bs = if endR (rdWs n b4 e4).2.1 (rdWs n b4 e4).2.2 = 0 then if chk (rdWs n b4 e4).1 = 0 then some ⟨n1, n2, n3, (rdWs n b4 e4).1⟩ else none else none := by unfold getC; simp only [HE1.out, HE2.out, HE3.out, HE4.out]
  have HF := Lib.hid hfin
  clear hfin hG5 hR6 hR0 HE1 HE2 HE3 HE4 hcl
  go_wp2_with fail
  go_loopw [7, 20] (fun _ i wr => ∃ k : Nat, k ≤ n ∧ i = .int .i64 k ∧ GetRel w wr w.heap.size g p n1 n2 n3 n b4 e4 bs.length k) (fun _ i _ => n - (intOf i).toNat)
  case atStart => exact ⟨0, by omega, rfl, HR0.out⟩
  case round =>
    clear HR0
    obtain ⟨k, hk, rfl, u, bx, er, vO, acc, hG, hR, hbl, hal, hws⟩ := hrel
    have HWS := Lib.hid hws
    clear hws
    have hpR : w.heap.size ≠ p := by omega
    by_cases hlt : k < n
    · have hlt2 : (k : Int) < (n : Int) := by omega
      have hk0 : (0 : Int) ≤ (k : Int) := by omega
      have hst := HWS.out
      rw [rdWs_step hlt bx er] at hst
      have HST := Lib.hid hst
      clear hst
      have hrw : rdW bx er = if (flagR (textR bx er).2.1 (textR bx er).2.2).1 = true then (⟨str (textR bx er).1, str [], true⟩, (flagR (textR bx er).2.1 (textR bx er).2.2).2) else (⟨str (textR bx er).1, str (textR (flagR (textR bx er).2.1 (textR bx er).2.2).2.1 (flagR (textR bx er).2.1 (textR bx er).2.2).2.2).1, false⟩, (textR (flagR (textR bx er).2.1 (textR bx er).2.2).2.1 (flagR (textR bx er).2.1 (textR bx er).2.2).2.2).2) := rfl
      have HRW := Lib.hid hrw
      clear hrw
      go_wp2_with fail
      refine (rtext_any g u bx er wr hG.rd (by omega)).mono ?_
      rintro e w6 ⟨u6, rfl, hr6, hu6, hf6⟩
      have hl6 := textR_lenE bx er
      have hG6 := hG.read hr6 hu6 hf6 hl6
      have hR6 := hR.upd hu6 hRg
      generalize hE6 : textR bx er = r6 at *
      have HE6 := Lib.hid hE6
      obtain ⟨s6, b6, e6⟩ := r6
      simp only at hG6 hl6 ⊢
      clear hE6 hr6 hu6 hf6 hG hR
      go_wp2_with fail
      refine (rflag_any g u6 b6 e6 w6 hG6.rd (by omega)).mono ?_
      rintro e w7 ⟨u7, rfl, hr7, hu7, hf7⟩
      have hl7 := flagR_lenE b6 e6
      have hG7 := hG6.read hr7 hu7 hf7 hl7
      have hR7 := hR6.upd hu7 hRg
      generalize hE7 : flagR b6 e6 = r7 at *
      have HE7 := Lib.hid hE7
      obtain ⟨yes, b7, e7⟩ := r7
      simp only at hG7 hl7 ⊢
      clear hE7 hr7 hu7 hf7 hG6 hR6
      have hX := Blk.mk_new w7 34 #[.string (str s6), .string ⟨#[]⟩, .bool yes]
      have hnX := (New.refl w7).alloc (.cells #[.string (str s6), .string ⟨#[]⟩, .bool yes] 34)
      have hoX := Off.start hG7.rd (p := w7.heap.size) (Nat.le_refl _)
      have hpX := hG7.blk.lt
      have hvX : vO.ownBlock ≠ some w7.heap.size := fun h => by have := (hG7.own.lt _ h).2; omega
      have hgX := hG7.rd.1.lt
      have hG8 := hG7.keep hnX
      have hR8 := hR7.new hnX
      have HM1 := Lib.hid (show acc.length + 1 ≤ maxLen by unfold maxLen; omega)
      have HM2 := Lib.hid (show (acc.length + 1) * 40 ≤ 140737488355328 by omega)
      cases yes with
      | true =>
        have hrd : rdW bx er = (⟨str s6, ⟨#[]⟩, true⟩, b7, e7) := by rw [HRW.out]; rfl
        have hw9 : rdWs n b4 e4 = ((acc ++ [⟨str s6, ⟨#[]⟩, true⟩]) ++ (rdWs (n - (k + 1)) b7 e7).1, (rdWs (n - (k + 1)) b7 e7).2) := by rw [HST.out, hrd]; simp
        have HW9 := Lib.hid hw9
        clear hw9 hrd
        obtain ⟨p0, p1, p2, p3, p4, pz⟩ := Blk4F hG8.blk
        obtain ⟨x0, x1, x2, x3, xz⟩ := Blk3F hX
        have hY := hG8.keep ((New.refl (w7.alloc (.cells #[.string (str s6), .string ⟨#[]⟩, .bool true] 34))).alloc (.cells #[.string (str s6), .string ⟨#[]⟩, .bool true] 34))
        have hRY := hR8.new ((New.refl (w7.alloc (.cells #[.string (str s6), .string ⟨#[]⟩, .bool true] 34))).alloc (.cells #[.string (str s6), .string ⟨#[]⟩, .bool true] 34))
        have hYb := Blk.mk_new (w7.alloc (.cells #[.string (str s6), .string ⟨#[]⟩, .bool true] 34)) 34 #[.string (str s6), .string ⟨#[]⟩, .bool true]
        rw [World.size_alloc] at hYb
        have HM3 := Lib.hid (show p + 1 ≤ ((w7.alloc (.cells #[.string (str s6), .string ⟨#[]⟩, .bool true] 34)).alloc (.cells #[.string (str s6), .string ⟨#[]⟩, .bool true] 34)).heap.size by simp only [World.size_alloc]; omega)
        go_wp2_with (at_builtin; refine wpList_app wTy Wri.encOk rfl _ _ rfl rfl rfl (hY.own) (SlIn.one (x := ⟨str s6, ⟨#[]⟩, true⟩) hYb Wri.encOk rfl) HM1.out HM2.out HM3.out ?_; intro v9 w9 ho9 hg9 hb9; obtain ⟨A9, n9, c9, rfl⟩ := (Owns.slIn Wri.encOk ho9).shape; obtain ⟨t0, t1, t2, t3, t4, tz⟩ := Blk4F (hY.blkG hg9))
        have hZ := hY.app ho9 hg9 hb9
        have hRZ := (hY.resG hg9 hRY (by omega)).far (p := ⟨p, 3, none⟩) (by omega) (.slice A9 n9 c9)
        go_roundw
        case rel => exact ⟨k + 1, by omega, by go_num, u7, b7, e7, _, acc ++ [⟨str s6, ⟨#[]⟩, true⟩], hZ, hRZ, by omega, by simp [hal], HW9.out⟩
        case measure => simp [intOf]; omega
      | false =>
        obtain ⟨x0, x1, x2, x3, xz⟩ := Blk3F hX
        go_wp2_with fail
        refine (rtext_any g u7 b7 e7 _ hG8.rd (by omega)).mono ?_
        rintro e w8 ⟨u8, rfl, hr8, hu8, hf8⟩
        have hl8 := textR_lenE b7 e7
        have hG9 := hG8.read hr8 hu8 hf8 hl8
        have hX9 := hX.upd hu8 (by omega)
        have hR9 := hR8.upd hu8 hRg
        have hoX9 := hoX.read hf8 x0 hl8
        generalize hE8 : textR b7 e7 = r8 at *
        have HE8 := Lib.hid hE8
        obtain ⟨s8, b8, e8⟩ := r8
        simp only at hG9 hl8 hoX9 ⊢
        have hG10 := hG9.far hoX9 hpX hvX 1 (.string (str s8))
        have hR10 := hR9.far (p := ⟨w7.heap.size, 1, none⟩) (by show w.heap.size ≠ w7.heap.size; omega) (.string (str s8))
        have hX10 : Blk (w8.setCell ⟨w7.heap.size, 1, none⟩ (.string (str s8))) w7.heap.size 34 #[.string (str s6), .string (str s8), .bool false] := hX9.set_ 1 (.string (str s8))
        obtain ⟨y0, y1, y2, y3, yz⟩ := Blk3F hX9
        clear hE8 hr8 hu8 hf8 x0 x1 x2 x3 xz hX9 hR9 hoX9 hG9
        have hrd : rdW bx er = (⟨str s6, str s8, false⟩, b8, e8) := by rw [HRW.out]; rfl
        have hw9 : rdWs n b4 e4 = ((acc ++ [⟨str s6, str s8, false⟩]) ++ (rdWs (n - (k + 1)) b8 e8).1, (rdWs (n - (k + 1)) b8 e8).2) := by rw [HST.out, hrd]; simp
        have HW9 := Lib.hid hw9
        clear hw9 hrd
        obtain ⟨p0, p1, p2, p3, p4, pz⟩ := Blk4F hG10.blk
        obtain ⟨x0, x1, x2, x3, xz⟩ := Blk3F hX10
        have hY := hG10.keep ((New.refl (w8.setCell ⟨w7.heap.size, 1, none⟩ (.string (str s8)))).alloc (.cells #[.string (str s6), .string (str s8), .bool false] 34))
        have hRY := hR10.new ((New.refl (w8.setCell ⟨w7.heap.size, 1, none⟩ (.string (str s8)))).alloc (.cells #[.string (str s6), .string (str s8), .bool false] 34))
        have hYb := Blk.mk_new (w8.setCell ⟨w7.heap.size, 1, none⟩ (.string (str s8))) 34 #[.string (str s6), .string (str s8), .bool false]
        rw [World.size_setCell] at hYb
        have HM3 := Lib.hid (show p + 1 ≤ ((w8.setCell ⟨w7.heap.size, 1, none⟩ (.string (str s8))).alloc (.cells #[.string (str s6), .string (str s8), .bool false] 34)).heap.size by simp only [World.size_alloc, World.size_setCell]; omega)
        go_wp2_with (at_builtin; refine wpList_app wTy Wri.encOk rfl _ _ rfl rfl rfl (hY.own) (SlIn.one (x := ⟨str s6, (str s8), false⟩) hYb Wri.encOk rfl) HM1.out HM2.out HM3.out ?_; intro v9 w9 ho9 hg9 hb9; obtain ⟨A9, n9, c9, rfl⟩ := (Owns.slIn Wri.encOk ho9).shape; obtain ⟨t0, t1, t2, t3, t4, tz⟩ := Blk4F (hY.blkG hg9))
        have hZ := hY.app ho9 hg9 hb9
        have hRZ := (hY.resG hg9 hRY (by omega)).far (p := ⟨p, 3, none⟩) (by omega) (.slice A9 n9 c9)
        go_roundw
        case rel => exact ⟨k + 1, by omega, by go_num, u8, b8, e8, _, acc ++ [⟨str s6, (str s8), false⟩], hZ, hRZ, by omega, by simp [hal], HW9.out⟩
        case measure => simp [intOf]; omega
    · have hlt2 : ¬ (k : Int) < (n : Int) := by omega
      have hkn : n - k = 0 := by omega
      have hws2 := HWS.out
      rw [hkn] at hws2
      have hw3 : rdWs n b4 e4 = (acc, bx, er) := by rw [hws2]; simp [rdWs]
      have hf2 := HF.out
      rw [hw3] at hf2
      simp only at hf2
      have HF2 := Lib.hid hf2
      clear hf2 hw3 hws2 hkn HWS HF
      obtain ⟨p0, p1, p2, p3, p4, pz⟩ := Blk4F hG.blk
      obtain ⟨q0, q1, q2, q3, q4, qz⟩ := Blk4F hR
      have hNw := hG.new
      have hgp := hG.gp
      go_wp2_with fail
      refine (end_any g u bx er wr hG.rd (by omega)).mono ?_
      rintro e wb ⟨rfl, rfl⟩
      generalize endR bx er = ee at *
      by_cases hend : ee = 0
      rotate_left
      · have hne : ((ee : Int) != 0) = true := by simpa using hend
        have HF3 : Hid (getC bs = none) := Lib.hid (by rw [HF2.out, if_neg hend])
        clear hend HF2
        go_wp2_with fail
        refine bodyPost_ret (v := .tuple #[.agg #[.int .u64 0, .int .u64 0, .int .u64 0, .slice none 0 0], .int .i64 55]) (by simp [results, Tryz.results137, go_sem, q1, q2, q3, q4]) rfl ⟨?_, .inl ⟨HF3.out, rfl⟩⟩
        exact (((hNw.setCell (Nat.le_refl _) _).setCell (Nat.le_refl _) _).setCell (Nat.le_refl _) _).setCell (Nat.le_refl _) _
      subst hend
      have HF3 : Hid (getC bs = if chk acc = 0 then some ⟨n1, n2, n3, acc⟩ else none) := Lib.hid (by rw [HF2.out, if_pos rfl])
      clear HF2
      have hso := Owns.slIn Wri.encOk hG.own
      obtain ⟨vA, vn, vc, rfl⟩ := hso.shape
      go_wp2_with fail
      refine (check_any n1 n2 n3 _ acc wr (by omega) hso).mono ?_
      rintro e w9 ⟨rfl, hn9⟩
      have hP9 := hG.blk.new hn9
      have hR9 := hR.new hn9
      have hN9 := hNw.trans hn9
      have hO9 := hG.own.new hn9
      clear p0 p1 p2 p3 p4 pz q0 q1 q2 q3 q4 qz
      obtain ⟨p0, p1, p2, p3, p4, pz⟩ := Blk4F hP9
      obtain ⟨q0, q1, q2, q3, q4, qz⟩ := Blk4F hR9
      generalize hcx : chk acc = cx at *
      by_cases hc0 : cx = 0
      rotate_left
      · have hne : ((cx : Int) != 0) = true := by simpa using hc0
        have HF4 : Hid (getC bs = none) := Lib.hid (by rw [HF3.out, if_neg hc0])
        clear hc0 HF3 hcx
        go_wp2_with fail
        refine bodyPost_ret (v := .tuple #[.agg #[.int .u64 0, .int .u64 0, .int .u64 0, .slice none 0 0], .int .i64 55]) (by simp [results, Tryz.results137, go_sem, q1, q2, q3, q4]) rfl ⟨?_, .inl ⟨HF4.out, rfl⟩⟩
        exact (((hN9.setCell (Nat.le_refl _) _).setCell (Nat.le_refl _) _).setCell (Nat.le_refl _) _).setCell (Nat.le_refl _) _
      subst hc0
      have HF4 : Hid (getC bs = some ⟨n1, n2, n3, acc⟩) := Lib.hid (by rw [HF3.out, if_pos rfl])
      clear HF3 hcx
      go_wp2_with fail
      refine bodyPost_ret (v := .tuple #[.agg #[.int .u64 (n1 : Int), .int .u64 (n2 : Int), .int .u64 (n3 : Int), .slice vA vn vc], .int .i64 0]) (by simp [results, Tryz.results137, go_sem, q1, q2, q3, q4]) rfl ⟨?_, .inr ⟨_, _, HF4.out, rfl, ?_⟩⟩
      · exact (((hN9.setCell (Nat.le_refl _) _).setCell (Nat.le_refl _) _).setCell (Nat.le_refl _) _).setCell (Nat.le_refl _) _
      · have hu : Upd (· = w.heap.size) w9 ((((w9.setCell ⟨w.heap.size, 0, none⟩ (.int .u64 (n1 : Int))).setCell ⟨w.heap.size, 1, none⟩ (.int .u64 (n2 : Int))).setCell ⟨w.heap.size, 2, none⟩ (.int .u64 (n3 : Int))).setCell ⟨w.heap.size, 3, none⟩ (.slice vA vn vc)) := ((((Upd.refl _ w9).setIn 0 _).setIn 1 _).setIn 2 _).setIn 3 _
        exact (hO9.upd hu (fun k hk e => by have := (hO9.lt k hk).1; omega)).lower (by omega)
end Go.Proofs.YtlhlcdjkacglnaaGreatDoor.D
