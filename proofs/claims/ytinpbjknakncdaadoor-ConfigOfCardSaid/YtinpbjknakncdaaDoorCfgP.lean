/- Chapter 23 (config): a configuration is read: the program's. Printed by genCfgP.py. -/
import Derived.Test.YtinpbjknakncdaaDoorCfgN
import Derived.Test.YtinpbjknakncdaaDoorCodeQ
namespace Go.Proofs.YtinpbjknakncdaaDoor
open Go.RowKit Go.Lap
set_option linter.unusedVariables false

/-- The reader's bytes do not lie in the slice's block. -/
def OffV (vO u : Value) (bs : List UInt8) : Prop := bs = [] ∨ ∀ k, u.ownBlock = some k → vO.ownBlock ≠ some k

/-- A configuration in work at p, beside a reader at g. -/
structure KS (w0 wr : World) (g p : Nat) (ep : Nat) (u : Value) (bs : List UInt8) (err : Int) (vO : Value) (acc : List Int) : Prop where
  rd : RdAt wr g u bs err
  blk : Blk wr p 25 #[.int .u64 (ep : Int), vO]
  own : Owns wr (p + 1) 3 1 iEnc vO acc
  off : Off p u bs
  offV : OffV vO u bs
  new : New w0 wr
  gp : g < p
  wp : w0.heap.size ≤ g

section
variable {w0 wr w' : World} {g p ep : Nat} {u u' vO : Value} {bs bs' : List UInt8} {err err' : Int} {acc : List Int}

theorem KS.read (h : KS w0 wr g p ep u bs err vO acc) (hr : RdAt w' g u' bs' err') (hu : Upd (· = g) wr w') (hf : Fr wr u u') (hl : bs'.length ≤ bs.length) : KS w0 w' g p ep u' bs' err' vO acc := by
  have hgp := h.gp
  refine ⟨hr, h.blk.upd hu (by omega), h.own.upd hu (fun k hk e => by have := (h.own.lt k hk).1; omega), h.off.read hf h.blk.lt hl, ?_, h.new.upd hu (fun i hi => by have := h.wp; omega), h.gp, h.wp⟩
  rcases h.offV with rfl | ho
  · exact .inl (List.eq_nil_of_length_eq_zero (by simpa using hl))
  · right
    intro k hk hv
    rcases hf k hk with h1 | h1
    · exact ho k h1 hv
    · have := (h.own.lt k hv).2
      omega
theorem KS.keep (h : KS w0 wr g p ep u bs err vO acc) (hn : New wr w') : KS w0 w' g p ep u bs err vO acc :=
  ⟨h.rd.new hn, h.blk.new hn, h.own.new hn, h.off, h.offV, h.new.trans hn, h.gp, h.wp⟩
/-- A store into a block of the round's own. -/
theorem KS.far (h : KS w0 wr g p ep u bs err vO acc) {x : Nat} (hx : Off x u bs) (hp : p < x) (hv : vO.ownBlock ≠ some x) (i : Nat) (c : Value) : KS w0 (wr.setCell ⟨x, i, none⟩ c) g p ep u bs err vO acc := by
  have hgp := h.gp
  have hu : Upd (· = x) wr (wr.setCell ⟨x, i, none⟩ c) := (Upd.refl _ wr).setIn i c
  exact ⟨h.rd.off hx hu (by omega) (fun k hk => hk), h.blk.upd hu (by omega), h.own.upd hu (fun k hk e => hv (by rw [hk, e])), h.off, h.offV, h.new.upd hu (fun k hk => by have := h.wp; omega), h.gp, h.wp⟩
theorem KS.blkG (h : KS w0 wr g p ep u bs err vO acc) (hg : wr.grownBy w' vO.ownBlock) : Blk w' p 25 #[.int .u64 (ep : Int), vO] :=
  h.blk.upd ((Upd.refl _ wr).grown (S := fun k => vO.ownBlock = some k) hg (fun k _ hk => hk)) (fun e => by have := (h.own.lt p e).1; omega)
theorem KS.resG (h : KS w0 wr g p ep u bs err vO acc) (hg : wr.grownBy w' vO.ownBlock) {R t : Nat} {cs : Array Value} (hR : Blk wr R t cs) (hl : R < p) : Blk w' R t cs :=
  hR.upd ((Upd.refl _ wr).grown (S := fun k => vO.ownBlock = some k) hg (fun k _ hk => hk)) (fun e => by have := (h.own.lt R e).1; omega)
/-- One more write is appended, and the slice laid back. -/
theorem KS.app (h : KS w0 wr g p ep u bs err vO acc) {v' : Value} {x : Int} (ho : Owns w' (p + 1) 3 1 iEnc v' (acc ++ [x])) (hg : wr.grownBy w' vO.ownBlock) (hv : v'.ownBlock = vO.ownBlock ∨ v'.ownBlock = some wr.heap.size) :
    KS w0 (w'.setCell ⟨p, 1, none⟩ v') g p ep u bs err v' (acc ++ [x]) := by
  have hgp := h.gp
  have hwp := h.wp
  have hP := h.blk.lt
  have hu1 : Upd (fun k => vO.ownBlock = some k) wr w' := (Upd.refl _ wr).grown hg (fun k _ hk => hk)
  have hb1 := h.blk.upd hu1 (fun e => by have := (h.own.lt p e).1; omega)
  have hu2 : Upd (· = p) w' (w'.setCell ⟨p, 1, none⟩ v') := (Upd.refl _ w').setIn 1 v'
  have hr1 : RdAt w' g u bs err := by
    refine ⟨h.rd.1.upd hu1 (fun e => by have := (h.own.lt g e).1; omega), ?_, h.rd.2.2⟩
    rcases h.offV with rfl | ho
    · obtain ⟨A, c, rfl, hc, _⟩ := h.rd.2.1
      exact ⟨A, c, rfl, hc, .inl rfl⟩
    · exact h.rd.2.1.upd hu1 (fun k hk hs => ho k hk hs)
  refine ⟨hr1.off h.off hu2 (by omega) (fun k hk => hk), hb1.set_ 1 v', ho.upd hu2 (fun k hk e => by have := (ho.lt k hk).1; omega), h.off, ?_, ?_, h.gp, h.wp⟩
  · by_cases hne : bs = []
    · exact .inl hne
    · right
      intro k hk hk'
      rcases hv with e | e
      · rcases h.offV with h1 | h1
        · exact hne h1
        · exact h1 k hk (by rw [← e]; exact hk')
      · have := h.rd.own_lt hne k hk
        rw [e] at hk'
        injection hk' with hk'
        omega
  · exact (h.new.upd hu1 (fun k hk => by have := (h.own.lt k hk).1; omega)).upd hu2 (fun k hk => by omega)
end

theorem countR_lenC (bs : List UInt8) (err most : Int) : (countR bs err most).2.1.length ≤ bs.length := by simpa [takeF] using takeF_lenP 3 most bs err
/-- So many members are read. -/
def rdMs : Nat → List UInt8 → Int → List Int × List UInt8 × Int
  | 0, bs, err => ([], bs, err)
  | n + 1, bs, err => (((countR bs err 63).1 : Int) :: (rdMs n (countR bs err 63).2.1 (countR bs err 63).2.2).1, (rdMs n (countR bs err 63).2.1 (countR bs err 63).2.2).2)
theorem rdMs_step {n k : Nat} (h : k < n) (bs : List UInt8) (err : Int) : rdMs (n - k) bs err = (((countR bs err 63).1 : Int) :: (rdMs (n - (k + 1)) (countR bs err 63).2.1 (countR bs err 63).2.2).1, (rdMs (n - (k + 1)) (countR bs err 63).2.1 (countR bs err 63).2.2).2) := by
  rw [show n - k = (n - (k + 1)) + 1 by omega]
  rfl
/-- The configuration of bytes, as the program reads it. -/
def ofCf (bs : List UInt8) : Option Cfg :=
  let r1 := numR bs 0
  let r2 := countR r1.2.1 r1.2.2 7
  let r3 := rdMs r2.1 r2.2.1 r2.2.2
  if endR r3.2.1 r3.2.2 = 0 then if chkC ⟨r1.1, r3.1⟩ = true then some ⟨r1.1, r3.1⟩ else none else none
/-- What Of answers. -/
def OfPostC (w : World) (x : Option Cfg) (e : Ending) (w' : World) : Prop := New w w' ∧
  ((x = none ∧ e = .returned (.tuple #[.agg #[.int .u64 0, .slice none 0 0], .int .i64 230])) ∨ ∃ (a : Cfg) (u : Value), x = some a ∧ e = .returned (.tuple #[.agg #[.int .u64 (a.e : Int), u], .int .i64 0]) ∧ SlIn w' 1 iEnc u a.ms)
/-- So many members are read, and laid. -/
def OfRel (w0 wr : World) (R g p ep n : Nat) (b4 : List UInt8) (e4 : Int) (L k : Nat) : Prop := ∃ (u : Value) (bs : List UInt8) (err : Int) (vO : Value) (acc : List Int),
  KS w0 wr g p ep u bs err vO acc ∧ Blk wr R 25 #[.int .u64 0, .slice none 0 0] ∧ bs.length ≤ L ∧ acc.length = k ∧ rdMs n b4 e4 = (acc ++ (rdMs (n - k) bs err).1, (rdMs (n - k) bs err).2)

set_option maxRecDepth 100000 in
set_option maxHeartbeats 8000000 in
theorem cfgOf_any (bs : List UInt8) (v : Value) (w : World) (hb : bs.length ≤ 100000000) (hs : SlIn w 1 bEnc v bs) :
    Calls Tryd.prog 27 #[v] w (OfPostC w (ofCf bs)) := by
  obtain ⟨sA, sn, sc, rfl⟩ := hs.shape
  have hRw := Blk.mk_new w 25 #[.int .u64 0, .slice none 0 0]
  have hNw := (New.refl w).alloc (.cells #[.int .u64 0, .slice none 0 0] 25)
  have hs1 := hs.new hNw
  go_enter Tryd.func27, Tryd.ntmps27
  go_wp2_with fail
  refine (read_any bs _ _ (by omega) hs1).mono ?_
  rintro e w1 ⟨g, u1, rfl, hg1, _, hr1, hn1⟩
  rw [World.size_alloc] at hg1
  have hR1 := hRw.new hn1
  have hN1 := hNw.trans hn1
  have hgw : w.heap.size ≤ g := by omega
  have hRg : w.heap.size ≠ g := by omega
  clear hs hs1 hRw hNw hn1
  go_wp2_with fail
  refine (rnum_any g u1 bs 0 w1 hr1 (by omega)).mono ?_
  rintro e w2 ⟨u2, rfl, hr2, hu2, hf2⟩
  have hN2 := RdAt.step hN1 hgw hu2
  have hR2 := hR1.upd hu2 hRg
  have hl1 := numR_lenE bs 0
  generalize hE1 : numR bs 0 = r1 at *
  have HE1 := Lib.hid hE1
  obtain ⟨n1, b1, e1⟩ := r1
  simp only at hr2 hl1 ⊢
  clear hE1 hr1 hu2 hf2 hN1 hR1
  have hg4 := hr2.1.lt
  have hnP := (New.refl w2).alloc (.cells #[.int .u64 (n1 : Int), .slice none 0 0] 25)
  have hKS : KS w (w2.alloc (.cells #[.int .u64 (n1 : Int), .slice none 0 0] 25)) g w2.heap.size n1 u2 b1 e1 (.slice none 0 0) [] := ⟨hr2.new hnP, Blk.mk_new w2 _ _, Owns.nil _ _ _ _ _, Off.start hr2 (Nat.le_refl _), .inr (fun k _ h => by simp [Value.ownBlock] at h), hN2.trans hnP, hg4, hgw⟩
  have hR5 := hR2.new hnP
  have hRp : w.heap.size < w2.heap.size := hR2.lt
  clear hr2 hN2 hR2
  go_wp2_with fail
  refine (count_any g u2 b1 e1 7 _ hKS.rd (by omega) (by decide) (by decide)).mono ?_
  rintro e w5 ⟨u5, rfl, hr5, hu5, hf5⟩
  have hl4 := countR_lenC b1 e1 7
  have hK5 := hKS.read hr5 hu5 hf5 hl4
  have hR6 := hR5.upd hu5 hRg
  have hcl := countR_le b1 e1 7
  generalize w2.heap.size = p at *
  generalize hE4 : countR b1 e1 7 = r4 at *
  have HE4 := Lib.hid hE4
  obtain ⟨n, b4, e4⟩ := r4
  simp only at hK5 hl4 hcl ⊢
  clear hE4 hr5 hu5 hf5 hKS hR5 hnP hg4
  have hn8 : n ≤ 7 := by omega
  have hR0 : OfRel w w5 w.heap.size g p n1 n b4 e4 bs.length 0 := ⟨u5, b4, e4, _, [], hK5, hR6, by omega, rfl, by simp⟩
  have HR0 := Lib.hid hR0
  have hfin : ofCf bs = if endR (rdMs n b4 e4).2.1 (rdMs n b4 e4).2.2 = 0 then if chkC ⟨n1, (rdMs n b4 e4).1⟩ = true then some ⟨n1, (rdMs n b4 e4).1⟩ else none else none := by unfold ofCf; simp only [HE1.out, HE4.out]
  have HF := Lib.hid hfin
  clear hfin hK5 hR6 hR0 HE1 HE4 hcl
  go_wp2_with fail
  go_loopw [13] (fun i wr => ∃ k : Nat, k ≤ n ∧ i = .int .i64 k ∧ OfRel w wr w.heap.size g p n1 n b4 e4 bs.length k) (fun i _ => n - (intOf i).toNat)
  case atStart => exact ⟨0, by omega, rfl, HR0.out⟩
  case round =>
    clear HR0
    obtain ⟨k, hk, rfl, u, bx, er, vO, acc, hG, hR, hbl, hal, hws⟩ := hrel
    have HWS := Lib.hid hws
    clear hws
    have hpR : w.heap.size ≠ p := by omega
    by_cases hlt : k < n
    · have hlt2 : (k : Int) < (n : Int) := by omega
      have hk0 : (0 : Int) ≤ (k : Int) := by omega
      have hst := HWS.out
      rw [rdMs_step hlt bx er] at hst
      have HST := Lib.hid hst
      clear hst
      have hl6 := countR_lenC bx er 63
      have hct : ∀ wx, KS w wx g p n1 u bx er vO acc → Calls Tryd.prog 44 #[.pointer (some ⟨g, 0, none⟩), .int .i64 63] wx (RdPost wx g u (.int .i64 (countR bx er 63).1) (countR bx er 63).2.1 (countR bx er 63).2.2) := fun wx hx => count_any g u bx er 63 wx hx.rd (by omega) (by decide) (by decide)
      generalize hE6 : countR bx er 63 = r6 at *
      obtain ⟨x, b6, e6⟩ := r6
      dsimp only at hl6 hct HST
      have hw9 : rdMs n b4 e4 = ((acc ++ [(x : Int)]) ++ (rdMs (n - (k + 1)) b6 e6).1, (rdMs (n - (k + 1)) b6 e6).2) := by rw [HST.out]; simp
      have HW9 := Lib.hid hw9
      clear hw9 hE6 HST HWS
      have HM1 := Lib.hid (show acc.length + [(x : Int)].length ≤ maxLen by unfold maxLen; simp only [List.length_singleton]; omega)
      have HM2 := Lib.hid (show (acc.length + [(x : Int)].length) * 8 ≤ 140737488355328 by simp only [List.length_singleton]; omega)
      have HAL := Lib.hid hal
      have HBL := Lib.hid (show b6.length ≤ bs.length by omega)
      have HL6 := Lib.hid hl6
      clear hal hl6 hbl
      obtain ⟨vA, vn, vc, rfl⟩ := (Owns.slIn iEncOk hG.own).shape
      have HG := Lib.hid hG
      have HR := Lib.hid hR
      clear hG hR
      go_upto_region 5 with fail
      refine wp_region_held_drew (S := fun w' => New w w') (by kernel_rfl) (HG.out.new.drew) (fun hHeld => ?_)
      refine wpAnyH_take (i := 0) (oi := { dst := some 15, op := Op.fieldAddr 25 (Operand.tmp 5) 1, type := 0, pos := "config.go:137", after := #[], guard := none }) (v := ?_) rfl (by kernel_rfl) (by kernel_rfl) (by kernel_rfl) (fun _ _ _ h => h) (Or.inl ⟨by rfl, ?_⟩) (by assumption) ?_
      rotate_left
      · (intro wq hSw; (try dsimp only at hSw); go_simp; first | done | with_reducible rfl)
      try simp only [Act.put, List.setIfInBounds_toArray, List.set_cons_zero, List.set_cons_succ]
      refine wpAnyH_take (i := 2) (oi := { dst := some 17, op := Op.move (Operand.tmp 4), type := 61, pos := "config.go:137", after := #[], guard := none }) (v := ?_) rfl (by kernel_rfl) (by kernel_rfl) (by kernel_rfl) (fun _ _ _ h => h) (Or.inl ⟨by rfl, ?_⟩) (by assumption) ?_
      rotate_left
      · (intro wq hSw; (try dsimp only at hSw); go_simp; first | done | with_reducible rfl)
      try simp only [Act.put, List.setIfInBounds_toArray, List.set_cons_zero, List.set_cons_succ]
      refine wpAnyH_ready (rs := [1, 3]) (by kernel_rfl) (by simp) ?_
      refine AllReadyH.cons (o := { dst := some 16, op := Op.load 23 (Operand.tmp 15), type := 23, pos := "config.go:137", after := #[{ on := 0, ground := Ground.data }], guard := none }) rfl (fun K hK => ?_) (AllReadyH.cons (o := { dst := some 18, op := Op.call { callee := Callee.value (Operand.func 44), args := #[Operand.tmp 17, Operand.const (Value.int IntKind.i64 63)], argTypes := #[61, 3] }, type := 3, pos := "config.go:137", after := #[{ on := 2, ground := Ground.data }], guard := none }) rfl (fun K hK => ?_) AllReadyH.nil)
      · obtain ⟨o0, o1, o2, oz⟩ := Blk2F (HG.out.keep (New.refl wr).drew).blk
        go_simp
        refine hK.out _ _ ?_ (fun hHeld => ?_)
        · exact (HG.out.keep (New.refl wr).drew).new
        clear hK K
        try simp only [Act.put, List.setIfInBounds_toArray, List.set_cons_zero, List.set_cons_succ]
        refine wpAnyH_ready (rs := [3]) (by kernel_rfl) (by simp) ?_
        refine AllReadyH.cons (o := { dst := some 18, op := Op.call { callee := Callee.value (Operand.func 44), args := #[Operand.tmp 17, Operand.const (Value.int IntKind.i64 63)], argTypes := #[61, 3] }, type := 3, pos := "config.go:137", after := #[{ on := 2, ground := Ground.data }], guard := none }) rfl (fun K hK => ?_) AllReadyH.nil
        go_simp
        refine (hct _ (HG.out.keep (New.refl wr).drew)).mono ?_
        rintro e9 w6 ⟨u6, rfl, hr6, hu6, hf6⟩
        have hK6 := (HG.out.keep (New.refl wr).drew).read hr6 hu6 hf6 HL6.out
        have hR6 := (HR.out.new (New.refl wr).drew).upd hu6 hRg
        refine hK.out _ _ ?_ (fun hHeld => ?_)
        · exact hK6.new
        clear hK K
        try simp only [Act.put, List.setIfInBounds_toArray, List.set_cons_zero, List.set_cons_succ]
        refine wpAnyH_ready (rs := [4]) (by kernel_rfl) (by simp) ?_
        refine AllReadyH.cons (o := { dst := some 19, op := Op.buildSlice 23 1 #[(0, Operand.tmp 18)], type := 23, pos := "config.go:137", after := #[{ on := 3, ground := Ground.data }], guard := none }) rfl (fun K hK => ?_) AllReadyH.nil
        go_simp
        have hX7 := Blk.mk_new w6 3 #[.int .i64 (x : Int)]
        have hn7 := (New.refl w6).alloc (.cells #[.int .i64 (x : Int)] 3)
        have hK7 := hK6.keep hn7
        have hR7 := hR6.new hn7
        refine hK.out _ _ ?_ (fun hHeld => ?_)
        · exact hK7.new
        clear hK K
        try simp only [Act.put, List.setIfInBounds_toArray, List.set_cons_zero, List.set_cons_succ]
        refine wpAnyH_ready (rs := [5]) (by kernel_rfl) (by simp) ?_
        refine AllReadyH.cons (o := { dst := some 20, op := Op.call { callee := Callee.builtin Builtin.append, args := #[Operand.tmp 16, Operand.tmp 19], argTypes := #[23, 23] }, type := 23, pos := "config.go:137", after := #[{ on := 1, ground := Ground.data }, { on := 4, ground := Ground.data }, { on := 3, ground := Ground.chain }], guard := none }) rfl (fun K hK => ?_) AllReadyH.nil
        refine step_app iTy iEncOk rfl (.tmp 16) (.tmp 19) rfl rfl rfl hK7.own (SlIn.one (x := (x : Int)) hX7 iEncOk rfl) HM1.out HM2.out hK7.blk.lt ?_
        intro va wa hoa hga hba
        obtain ⟨xa, ya, za, rfl⟩ := (Owns.slIn iEncOk hoa).shape
        refine hK.out _ _ ?_ (fun hHeld => ?_)
        · exact (hK7.new.grown hga (fun k0 hk0 => by have h1 := hK7.own.blockGe k0 hk0; omega))
        clear hK K
        try simp only [Act.put, List.setIfInBounds_toArray, List.set_cons_zero, List.set_cons_succ]
        refine wpAnyH_take (i := 6) (oi := { dst := some 21, op := Op.fieldAddr 25 (Operand.tmp 5) 1, type := 0, pos := "config.go:137", after := #[{ on := 0, ground := Ground.phase }, { on := 1, ground := Ground.phase }, { on := 2, ground := Ground.phase }, { on := 3, ground := Ground.phase }, { on := 4, ground := Ground.phase }, { on := 5, ground := Ground.phase }], guard := none }) (v := ?_) rfl (by kernel_rfl) (by kernel_rfl) (by kernel_rfl) (fun _ _ _ h => h) (Or.inl ⟨by rfl, ?_⟩) (by assumption) ?_
        rotate_left
        · (intro wq hSw; (try dsimp only at hSw); go_simp; first | done | with_reducible rfl)
        try simp only [Act.put, List.setIfInBounds_toArray, List.set_cons_zero, List.set_cons_succ]
        refine wpAnyH_ready (rs := [7]) (by kernel_rfl) (by simp) ?_
        refine AllReadyH.cons (o := { dst := none, op := Op.store 23 (Operand.tmp 21) (Operand.tmp 20), type := 0, pos := "config.go:137", after := #[{ on := 6, ground := Ground.data }, { on := 5, ground := Ground.data }, { on := 5, ground := Ground.chain }, { on := 0, ground := Ground.phase }, { on := 1, ground := Ground.phase }, { on := 2, ground := Ground.phase }, { on := 3, ground := Ground.phase }, { on := 4, ground := Ground.phase }, { on := 5, ground := Ground.phase }], guard := none }) rfl (fun K hK => ?_) AllReadyH.nil
        obtain ⟨o0, o1, o2, oz⟩ := Blk2F (hK7.blkG hga)
        go_simp
        have hK8 := hK7.app hoa hga hba
        have hR8 := (hK7.resG hga hR7 (by omega)).far (p := ⟨p, 1, none⟩) (by omega) (.slice xa ya za)
        have HN8 : Hid (OfRel w (wa.setCell ⟨p, 1, none⟩ (.slice xa ya za)) w.heap.size g p n1 n b4 e4 bs.length (k + 1)) := Lib.hid ⟨u6, b6, e6, _, _, hK8, hR8, HBL.out, by simp [HAL.out], HW9.out⟩
        refine hK.out _ _ ?_ (fun hHeld => ?_)
        · exact hK8.new
        clear hK K
        try simp only [Act.put, List.setIfInBounds_toArray, List.set_cons_zero, List.set_cons_succ]
        refine wpAnyH_done (by kernel_rfl) ?_ _
        clear hHeld
        go_wp2_with fail
        go_roundw
        case rel => exact ⟨k + 1, by omega, by go_num, HN8.out⟩
        case measure => simp [intOf]; omega
      · go_simp
        refine (hct _ (HG.out.keep (New.refl wr).drew)).mono ?_
        rintro e9 w6 ⟨u6, rfl, hr6, hu6, hf6⟩
        have hK6 := (HG.out.keep (New.refl wr).drew).read hr6 hu6 hf6 HL6.out
        have hR6 := (HR.out.new (New.refl wr).drew).upd hu6 hRg
        refine hK.out _ _ ?_ (fun hHeld => ?_)
        · exact hK6.new
        clear hK K
        try simp only [Act.put, List.setIfInBounds_toArray, List.set_cons_zero, List.set_cons_succ]
        refine wpAnyH_ready (rs := [1, 4]) (by kernel_rfl) (by simp) ?_
        refine AllReadyH.cons (o := { dst := some 16, op := Op.load 23 (Operand.tmp 15), type := 23, pos := "config.go:137", after := #[{ on := 0, ground := Ground.data }], guard := none }) rfl (fun K hK => ?_) (AllReadyH.cons (o := { dst := some 19, op := Op.buildSlice 23 1 #[(0, Operand.tmp 18)], type := 23, pos := "config.go:137", after := #[{ on := 3, ground := Ground.data }], guard := none }) rfl (fun K hK => ?_) AllReadyH.nil)
        · obtain ⟨o0, o1, o2, oz⟩ := Blk2F hK6.blk
          go_simp
          refine hK.out _ _ ?_ (fun hHeld => ?_)
          · exact hK6.new
          clear hK K
          try simp only [Act.put, List.setIfInBounds_toArray, List.set_cons_zero, List.set_cons_succ]
          refine wpAnyH_ready (rs := [4]) (by kernel_rfl) (by simp) ?_
          refine AllReadyH.cons (o := { dst := some 19, op := Op.buildSlice 23 1 #[(0, Operand.tmp 18)], type := 23, pos := "config.go:137", after := #[{ on := 3, ground := Ground.data }], guard := none }) rfl (fun K hK => ?_) AllReadyH.nil
          go_simp
          have hX7 := Blk.mk_new w6 3 #[.int .i64 (x : Int)]
          have hn7 := (New.refl w6).alloc (.cells #[.int .i64 (x : Int)] 3)
          have hK7 := hK6.keep hn7
          have hR7 := hR6.new hn7
          refine hK.out _ _ ?_ (fun hHeld => ?_)
          · exact hK7.new
          clear hK K
          try simp only [Act.put, List.setIfInBounds_toArray, List.set_cons_zero, List.set_cons_succ]
          refine wpAnyH_ready (rs := [5]) (by kernel_rfl) (by simp) ?_
          refine AllReadyH.cons (o := { dst := some 20, op := Op.call { callee := Callee.builtin Builtin.append, args := #[Operand.tmp 16, Operand.tmp 19], argTypes := #[23, 23] }, type := 23, pos := "config.go:137", after := #[{ on := 1, ground := Ground.data }, { on := 4, ground := Ground.data }, { on := 3, ground := Ground.chain }], guard := none }) rfl (fun K hK => ?_) AllReadyH.nil
          refine step_app iTy iEncOk rfl (.tmp 16) (.tmp 19) rfl rfl rfl hK7.own (SlIn.one (x := (x : Int)) hX7 iEncOk rfl) HM1.out HM2.out hK7.blk.lt ?_
          intro va wa hoa hga hba
          obtain ⟨xa, ya, za, rfl⟩ := (Owns.slIn iEncOk hoa).shape
          refine hK.out _ _ ?_ (fun hHeld => ?_)
          · exact (hK7.new.grown hga (fun k0 hk0 => by have h1 := hK7.own.blockGe k0 hk0; omega))
          clear hK K
          try simp only [Act.put, List.setIfInBounds_toArray, List.set_cons_zero, List.set_cons_succ]
          refine wpAnyH_take (i := 6) (oi := { dst := some 21, op := Op.fieldAddr 25 (Operand.tmp 5) 1, type := 0, pos := "config.go:137", after := #[{ on := 0, ground := Ground.phase }, { on := 1, ground := Ground.phase }, { on := 2, ground := Ground.phase }, { on := 3, ground := Ground.phase }, { on := 4, ground := Ground.phase }, { on := 5, ground := Ground.phase }], guard := none }) (v := ?_) rfl (by kernel_rfl) (by kernel_rfl) (by kernel_rfl) (fun _ _ _ h => h) (Or.inl ⟨by rfl, ?_⟩) (by assumption) ?_
          rotate_left
          · (intro wq hSw; (try dsimp only at hSw); go_simp; first | done | with_reducible rfl)
          try simp only [Act.put, List.setIfInBounds_toArray, List.set_cons_zero, List.set_cons_succ]
          refine wpAnyH_ready (rs := [7]) (by kernel_rfl) (by simp) ?_
          refine AllReadyH.cons (o := { dst := none, op := Op.store 23 (Operand.tmp 21) (Operand.tmp 20), type := 0, pos := "config.go:137", after := #[{ on := 6, ground := Ground.data }, { on := 5, ground := Ground.data }, { on := 5, ground := Ground.chain }, { on := 0, ground := Ground.phase }, { on := 1, ground := Ground.phase }, { on := 2, ground := Ground.phase }, { on := 3, ground := Ground.phase }, { on := 4, ground := Ground.phase }, { on := 5, ground := Ground.phase }], guard := none }) rfl (fun K hK => ?_) AllReadyH.nil
          obtain ⟨o0, o1, o2, oz⟩ := Blk2F (hK7.blkG hga)
          go_simp
          have hK8 := hK7.app hoa hga hba
          have hR8 := (hK7.resG hga hR7 (by omega)).far (p := ⟨p, 1, none⟩) (by omega) (.slice xa ya za)
          have HN8 : Hid (OfRel w (wa.setCell ⟨p, 1, none⟩ (.slice xa ya za)) w.heap.size g p n1 n b4 e4 bs.length (k + 1)) := Lib.hid ⟨u6, b6, e6, _, _, hK8, hR8, HBL.out, by simp [HAL.out], HW9.out⟩
          refine hK.out _ _ ?_ (fun hHeld => ?_)
          · exact hK8.new
          clear hK K
          try simp only [Act.put, List.setIfInBounds_toArray, List.set_cons_zero, List.set_cons_succ]
          refine wpAnyH_done (by kernel_rfl) ?_ _
          clear hHeld
          go_wp2_with fail
          go_roundw
          case rel => exact ⟨k + 1, by omega, by go_num, HN8.out⟩
          case measure => simp [intOf]; omega
        · go_simp
          have hX7 := Blk.mk_new w6 3 #[.int .i64 (x : Int)]
          have hn7 := (New.refl w6).alloc (.cells #[.int .i64 (x : Int)] 3)
          have hK7 := hK6.keep hn7
          have hR7 := hR6.new hn7
          refine hK.out _ _ ?_ (fun hHeld => ?_)
          · exact hK7.new
          clear hK K
          try simp only [Act.put, List.setIfInBounds_toArray, List.set_cons_zero, List.set_cons_succ]
          refine wpAnyH_ready (rs := [1]) (by kernel_rfl) (by simp) ?_
          refine AllReadyH.cons (o := { dst := some 16, op := Op.load 23 (Operand.tmp 15), type := 23, pos := "config.go:137", after := #[{ on := 0, ground := Ground.data }], guard := none }) rfl (fun K hK => ?_) AllReadyH.nil
          obtain ⟨o0, o1, o2, oz⟩ := Blk2F hK7.blk
          go_simp
          refine hK.out _ _ ?_ (fun hHeld => ?_)
          · exact hK7.new
          clear hK K
          try simp only [Act.put, List.setIfInBounds_toArray, List.set_cons_zero, List.set_cons_succ]
          refine wpAnyH_ready (rs := [5]) (by kernel_rfl) (by simp) ?_
          refine AllReadyH.cons (o := { dst := some 20, op := Op.call { callee := Callee.builtin Builtin.append, args := #[Operand.tmp 16, Operand.tmp 19], argTypes := #[23, 23] }, type := 23, pos := "config.go:137", after := #[{ on := 1, ground := Ground.data }, { on := 4, ground := Ground.data }, { on := 3, ground := Ground.chain }], guard := none }) rfl (fun K hK => ?_) AllReadyH.nil
          refine step_app iTy iEncOk rfl (.tmp 16) (.tmp 19) rfl rfl rfl hK7.own (SlIn.one (x := (x : Int)) hX7 iEncOk rfl) HM1.out HM2.out hK7.blk.lt ?_
          intro va wa hoa hga hba
          obtain ⟨xa, ya, za, rfl⟩ := (Owns.slIn iEncOk hoa).shape
          refine hK.out _ _ ?_ (fun hHeld => ?_)
          · exact (hK7.new.grown hga (fun k0 hk0 => by have h1 := hK7.own.blockGe k0 hk0; omega))
          clear hK K
          try simp only [Act.put, List.setIfInBounds_toArray, List.set_cons_zero, List.set_cons_succ]
          refine wpAnyH_take (i := 6) (oi := { dst := some 21, op := Op.fieldAddr 25 (Operand.tmp 5) 1, type := 0, pos := "config.go:137", after := #[{ on := 0, ground := Ground.phase }, { on := 1, ground := Ground.phase }, { on := 2, ground := Ground.phase }, { on := 3, ground := Ground.phase }, { on := 4, ground := Ground.phase }, { on := 5, ground := Ground.phase }], guard := none }) (v := ?_) rfl (by kernel_rfl) (by kernel_rfl) (by kernel_rfl) (fun _ _ _ h => h) (Or.inl ⟨by rfl, ?_⟩) (by assumption) ?_
          rotate_left
          · (intro wq hSw; (try dsimp only at hSw); go_simp; first | done | with_reducible rfl)
          try simp only [Act.put, List.setIfInBounds_toArray, List.set_cons_zero, List.set_cons_succ]
          refine wpAnyH_ready (rs := [7]) (by kernel_rfl) (by simp) ?_
          refine AllReadyH.cons (o := { dst := none, op := Op.store 23 (Operand.tmp 21) (Operand.tmp 20), type := 0, pos := "config.go:137", after := #[{ on := 6, ground := Ground.data }, { on := 5, ground := Ground.data }, { on := 5, ground := Ground.chain }, { on := 0, ground := Ground.phase }, { on := 1, ground := Ground.phase }, { on := 2, ground := Ground.phase }, { on := 3, ground := Ground.phase }, { on := 4, ground := Ground.phase }, { on := 5, ground := Ground.phase }], guard := none }) rfl (fun K hK => ?_) AllReadyH.nil
          obtain ⟨o0, o1, o2, oz⟩ := Blk2F (hK7.blkG hga)
          go_simp
          have hK8 := hK7.app hoa hga hba
          have hR8 := (hK7.resG hga hR7 (by omega)).far (p := ⟨p, 1, none⟩) (by omega) (.slice xa ya za)
          have HN8 : Hid (OfRel w (wa.setCell ⟨p, 1, none⟩ (.slice xa ya za)) w.heap.size g p n1 n b4 e4 bs.length (k + 1)) := Lib.hid ⟨u6, b6, e6, _, _, hK8, hR8, HBL.out, by simp [HAL.out], HW9.out⟩
          refine hK.out _ _ ?_ (fun hHeld => ?_)
          · exact hK8.new
          clear hK K
          try simp only [Act.put, List.setIfInBounds_toArray, List.set_cons_zero, List.set_cons_succ]
          refine wpAnyH_done (by kernel_rfl) ?_ _
          clear hHeld
          go_wp2_with fail
          go_roundw
          case rel => exact ⟨k + 1, by omega, by go_num, HN8.out⟩
          case measure => simp [intOf]; omega
    · have hlt2 : ¬ (k : Int) < (n : Int) := by omega
      have hkn : n - k = 0 := by omega
      have hws2 := HWS.out
      rw [hkn] at hws2
      have hw3 : rdMs n b4 e4 = (acc, bx, er) := by rw [hws2]; simp [rdMs]
      have hf2 := HF.out
      rw [hw3] at hf2
      simp only at hf2
      have HF2 := Lib.hid hf2
      clear hf2 hw3 hws2 hkn HWS HF
      obtain ⟨p0, p1, p2, pz⟩ := Blk2F hG.blk
      obtain ⟨q0, q1, q2, qz⟩ := Blk2F hR
      have hNw := hG.new
      have hgp := hG.gp
      have hso := Owns.slIn iEncOk hG.own
      obtain ⟨vA, vn, vc, rfl⟩ := hso.shape
      have hend := end_any g u bx er wr hG.rd (by omega)
      generalize endR bx er = ee at *
      by_cases h0 : ee = 0
      rotate_left
      · have hne : ((ee : Int) != 0) = true := by simpa using h0
        have HF3 : Hid (ofCf bs = none) := Lib.hid (by rw [HF2.out, if_neg h0])
        clear h0 HF2
        go_wp2_with fail
        refine hend.mono ?_
        rintro e wb ⟨rfl, rfl⟩
        go_wp2_with fail
        refine bodyPost_ret (v := .tuple #[.agg #[.int .u64 0, .slice none 0 0], .int .i64 230]) (by simp [results, Tryd.results27, go_sem, q1, q2]) rfl ⟨?_, .inl ⟨HF3.out, rfl⟩⟩
        exact (hNw.setCell (Nat.le_refl _) _).setCell (Nat.le_refl _) _
      subst h0
      have HF3 : Hid (ofCf bs = if chkC ⟨n1, acc⟩ = true then some ⟨n1, acc⟩ else none) := Lib.hid (by rw [HF2.out, if_pos rfl])
      clear HF2
      have hck := check_any n1 _ acc wr (by omega) hso
      have hal2 := Lib.hid hal
      clear hal
      cases hcx : chkC ⟨n1, acc⟩ with
      | false =>
        rw [hcx] at hck
        have HF4 : Hid (ofCf bs = none) := Lib.hid (by rw [HF3.out, hcx]; rfl)
        clear HF3 hcx
        go_wp2_with fail
        refine hend.mono ?_
        rintro e wb ⟨rfl, rfl⟩
        go_wp2_with fail
        refine hck.mono ?_
        rintro e w9 ⟨rfl, hn9⟩
        have hR9 := hR.new hn9
        have hN9 := hNw.trans hn9
        clear p0 p1 p2 pz q0 q1 q2 qz
        obtain ⟨q0, q1, q2, qz⟩ := Blk2F hR9
        go_wp2_with fail
        refine bodyPost_ret (v := .tuple #[.agg #[.int .u64 0, .slice none 0 0], .int .i64 230]) (by simp [results, Tryd.results27, go_sem, q1, q2]) rfl ⟨?_, .inl ⟨HF4.out, rfl⟩⟩
        exact (hN9.setCell (Nat.le_refl _) _).setCell (Nat.le_refl _) _
      | true =>
        rw [hcx] at hck
        have HF4 : Hid (ofCf bs = some ⟨n1, acc⟩) := Lib.hid (by rw [HF3.out, hcx]; rfl)
        clear HF3 hcx
        go_wp2_with fail
        refine hend.mono ?_
        rintro e wb ⟨rfl, rfl⟩
        go_wp2_with fail
        refine hck.mono ?_
        rintro e w9 ⟨rfl, hn9⟩
        have hP9 := hG.blk.new hn9
        have hR9 := hR.new hn9
        have hN9 := hNw.trans hn9
        have hO9 := hG.own.new hn9
        clear p0 p1 p2 pz q0 q1 q2 qz
        obtain ⟨p0, p1, p2, pz⟩ := Blk2F hP9
        obtain ⟨q0, q1, q2, qz⟩ := Blk2F hR9
        go_wp2_with fail
        refine bodyPost_ret (v := .tuple #[.agg #[.int .u64 (n1 : Int), .slice vA vn vc], .int .i64 0]) (by simp [results, Tryd.results27, go_sem, q1, q2]) rfl ⟨?_, .inr ⟨_, _, HF4.out, rfl, ?_⟩⟩
        · exact (hN9.setCell (Nat.le_refl _) _).setCell (Nat.le_refl _) _
        · have hu : Upd (· = w.heap.size) w9 ((w9.setCell ⟨w.heap.size, 0, none⟩ (.int .u64 (n1 : Int))).setCell ⟨w.heap.size, 1, none⟩ (.slice vA vn vc)) := ((Upd.refl _ w9).setIn 0 _).setIn 1 _
          exact Owns.slIn iEncOk (hO9.upd hu (fun k hk e => by have := (hO9.lt k hk).1; omega))
end Go.Proofs.YtinpbjknakncdaaDoor
