/- Chapter 26 (cluster): an answer arrives. Printed by genCu12.py. -/
import Derived.Test.YtlhlcdjkacglnaaGreatDoorJk1
import Derived.Test.YtlhlcdjkacglnaaGreatDoorJk23
namespace Go.Proofs.YtlhlcdjkacglnaaGreatDoor
open Go.RowKit Go.Lap C
set_option linter.unusedVariables false
set_option linter.unusedSimpArgs false
section
variable {w w' W w1 : World} {S F : Nat → Prop} {up B C g n m : Nat} {L : CuL} {x x' : Clu}
/-- An act beside a reader. -/
def TurnG (w : World) (g up C : Nat) (L : CuL) (x' : Clu) (w' : World) : Prop := ∃ L', Sm L L' ∧ CuAt w' up C L' x' ∧ (∀ p k, CuF up L' p k → (∃ q, CuF up L q k) ∨ w.heap.size ≤ k) ∧ Upd (fun k => (∃ p, CuF up L p k) ∨ k = g) w w'
theorem TurnG.of (hu : Upd (· = g) w W) (h : Turned W up C L x' w') : TurnG w g up C L x' w' := by
  obtain ⟨L', h1, h3, h4, h5⟩ := h
  exact ⟨L', h1, h3, fun p k hk => (h4 p k hk).imp id (fun h => Nat.le_trans hu.size h), (hu.mono fun k _ e => (.inr e : (∃ p, CuF up L p k) ∨ k = g)).trans h5 (fun k _ h => .inl h)⟩
theorem TurnG.close (hn : New w W) (hg : w.heap.size ≤ g) (h : TurnG W g up C L x' w') : Turned w up C L x' w' := by
  obtain ⟨L', h1, h3, h4, h5⟩ := h
  exact ⟨L', h1, h3, fun p k hk => (h4 p k hk).imp id (fun h => Nat.le_trans hn.size h), (Upd.new (S := fun k => ∃ p, CuF up L p k) hn).trans h5 (fun k hlt h => h.elim id (fun e => by omega))⟩
theorem TurnG.mono {D : Nat} (h : TurnG w g up C L x' w') (hD : C ≤ D) : TurnG w g up D L x' w' := by
  obtain ⟨L', h1, h3, h4, h5⟩ := h
  exact ⟨L', h1, h3.mono hD, h4, h5⟩
/-- A cluster, and a reader beside it. -/
structure RC (w : World) (up B : Nat) (L : CuL) (x : Clu) (g : Nat) (v : Value) (bs : List UInt8) : Prop where
  cu : CuAt w up B L x
  rd : D.RdAt w g v bs 0
  off : ∀ p, ¬ CuF up L p g
theorem RC.new {v : Value} {bs : List UInt8} (h : RC w up B L x g v bs) (hn : New w w') : RC w' up B L x g v bs := ⟨h.cu.new hn, h.rd.new hn, h.off⟩
theorem RC.read {v v' : Value} {bs bs' : List UInt8} (h : RC w up B L x g v bs) (hr : D.RdAt w' g v' bs' 0) (hu : Upd (· = g) w w') : RC w' up B L x g v' bs' :=
  ⟨h.cu.upd hu (fun p k hk e => h.off p (e ▸ hk)) (Off.blk h.rd.1 (by decide)) (Off.blk h.rd.1 (by decide)), hr, h.off⟩
/-- r.Num(). -/
theorem rnumC {v : Value} {k : Nat} {rest : List UInt8} (h : RC w up B L x g v (varB k ++ rest)) (hk : k < big) (hl : (varB k ++ rest).length ≤ 1000000) :
    Calls Tryz.prog 140 #[.pointer (some ⟨g, 0, none⟩)] w fun e w' => ∃ v', e = .returned (.int .u64 (k : Int)) ∧ RC w' up B L x g v' rest ∧ Upd (· = g) w w' := by
  refine (D.rnum_any g v _ 0 w h.rd (by omega)).mono ?_
  rintro e w2 ⟨v2, rfl, hr2, hu2, hf2⟩
  rw [D.numR_enc k rest hk] at hr2
  refine ⟨v2, ?_, h.read hr2 hu2, hu2⟩
  rw [D.numR_enc k rest hk]
/-- r.Count(most). -/
theorem rcountC {v : Value} {k : Nat} {rest : List UInt8} (h : RC w up B L x g v (varB k ++ rest)) {most : Int} (hk : (k : Int) ≤ most) (hm : most ≤ 1000) (hl : (varB k ++ rest).length ≤ 1000000) :
    Calls Tryz.prog 59 #[.pointer (some ⟨g, 0, none⟩), .int .i64 most] w fun e w' => ∃ v', e = .returned (.int .i64 (k : Int)) ∧ RC w' up B L x g v' rest ∧ Upd (· = g) w w' := by
  refine (D.count_any g v _ 0 most w h.rd (by omega) (by omega) (by omega)).mono ?_
  rintro e w2 ⟨v2, rfl, hr2, hu2, hf2⟩
  rw [countR_enc k rest (by omega) hk] at hr2
  refine ⟨v2, ?_, h.read hr2 hu2, hu2⟩
  rw [countR_enc k rest (by omega) hk]
/-- r.Text(), of a batch's bytes. -/
theorem rtextC {v : Value} {bs rest : List UInt8} (h : RC w up B L x g v (txtB bs ++ rest)) (hb : bs.length ≤ 5000) (hl : rest.length ≤ 1000) :
    Calls Tryz.prog 138 #[.pointer (some ⟨g, 0, none⟩)] w fun e w' => ∃ v', e = .returned (.string (str bs)) ∧ RC w' up B L x g v' rest ∧ Upd (· = g) w w' := by
  have hlt := varB_len10 (n := bs.length) (by omega)
  refine (D.rtext_any g v _ 0 w h.rd (by simp only [txtB, List.length_append]; omega)).mono ?_
  rintro e w2 ⟨v2, rfl, hr2, hu2, hf2⟩
  rw [textR_encL bs rest (by omega)] at hr2
  refine ⟨v2, ?_, h.read hr2 hu2, hu2⟩
  rw [textR_encL bs rest (by omega)]
/-- A client takes an answer. -/
theorem canswerC (h : CuAt w up B L x) {j : Nat} {c : Cli} (hc : x.cs[j]? = some c) (rq vt : Nat) (ve : Int) :
    Calls Tryz.prog 142 #[.pointer (some ⟨L.cp j, 0, none⟩), .int .u64 (rq : Int), .agg #[.int .u64 (vt : Int), .int .i64 ve]] w fun e w' => ∃ r, e = .returned (.bool r) ∧ Turned w up B L (x.setC (j : Int) (c.answer rq ⟨vt, ve⟩)) w' ∧ Upd (CliF (L.cp j) (L.cl j)) w w' := by
  have hC := h.pt (.cl j) c hc
  have hno : (∀ b t, c.now = some (b, t) → b.r ≠ rq) → c.answer rq ⟨vt, ve⟩ = c := fun hn => by
    unfold Cli.answer
    split
    · rename_i b t hb
      exact if_neg (hn b _ hb)
    · rfl
  cases hn : c.now with
  | none =>
    have h1 : ∀ b t, c.now = some (b, t) → b.r ≠ rq := fun b t e => by rw [hn] at e; cases e
    refine (canswer_no hC rq vt ve h1).mono ?_
    rintro e w2 ⟨rfl, hn2⟩
    exact ⟨false, rfl, by rw [hno h1, setC_self hc]; exact Turned.new h hn2, Upd.new hn2⟩
  | some p =>
    obtain ⟨b, t⟩ := p
    by_cases hb : b.r = rq
    · subst hb
      refine (canswer_yes hC hn vt ve).mono ?_
      rintro e w2 ⟨r, L', rfl, hc2, hu2, hk2⟩
      exact ⟨r, rfl, h.turnC hc hc2 hu2 hk2, hu2⟩
    · have h1 : ∀ b t, c.now = some (b, t) → b.r ≠ rq := fun b2 t2 e => by rw [hn] at e; cases e; exact hb
      refine (canswer_no hC rq vt ve h1).mono ?_
      rintro e w2 ⟨rfl, hn2⟩
      exact ⟨false, rfl, by rw [hno h1, setC_self hc]; exact Turned.new h hn2, Upd.new hn2⟩
set_option maxRecDepth 100000 in
set_option maxHeartbeats 4000000 in
theorem cAnswered {v : Value} {rq vt : Nat} {ve : Int} (h : RC w up B L x g v (varB rq ++ (varB vt ++ (varB ve.toNat ++ [])))) (hrq : rq < big) (hvt : vt < big) (hve : 0 ≤ ve ∧ ve ≤ 1000) (fr : Int) {j : Nat} (hj : j < L.m) (s : ByteArray) (m : CMsg) :
    Calls Tryz.prog 83 #[.pointer (some ⟨up, 0, none⟩), .agg #[.int .i64 fr, .int .i64 (100 + (j : Int)), .string s], .pointer (some ⟨g, 0, none⟩)] w (fun e w' => e = .returned (.tuple #[]) ∧ TurnG w g up B L (x.answered ⟨fr, 100 + (j : Int), m⟩ rq ⟨vt, ve⟩) w') := by
  obtain ⟨c, hc⟩ := h.cu.cs_at hj
  have HEQ : Hid (x.answered ⟨fr, 100 + (j : Int), m⟩ rq ⟨vt, ve⟩ = x.setC (j : Int) (c.answer rq ⟨vt, ve⟩)) := Lib.hid (by
    unfold Clu.answered
    dsimp only
    rw [show (100 + (j : Int)) - 100 = (j : Int) by omega, atL_nat, hc])
  have hj4 : j < 4 := by have := h.cu.nm; omega
  have hws : IntKind.i64.wrap ((100 + (j : Int)) - 100) = (j : Int) := by rw [IntWalk.i64_in _ (by omega)]; omega
  obtain ⟨k, hkk⟩ : ∃ k : Nat, ve = (k : Int) := ⟨ve.toNat, by omega⟩
  subst hkk
  rw [Int.toNat_natCast] at h
  have hwk : IntKind.i64.wrap (k : Int) = (k : Int) := IntWalk.i64_in _ (by omega)
  have hN0 := (New.refl w).alloc (.cells #[.int .i64 fr, .int .i64 (100 + (j : Int)), .string s] 111)
  have HPB0 := Lib.hid (Blk.mk_new w 111 #[.int .i64 fr, .int .i64 (100 + (j : Int)), .string s])
  have H0 := Lib.hid (h.new hN0)
  have HU0 : Hid (Upd (· = g) w (w.alloc (.cells #[.int .i64 fr, .int .i64 (100 + (j : Int)), .string s] 111))) := Lib.hid (Upd.new hN0)
  have HG : Hid (w.heap.size ≠ g) := Lib.hid (fun e => by have := h.rd.1.lt; omega)
  have HCLT : Hid (∀ p k, CuF up L p k → k < w.heap.size) := Lib.hid (fun p k hk => (h.cu.cln p k hk).1)
  have l1 := varB_len10 hrq
  have l2 := varB_len10 hvt
  have l3 := varB_len10 (n := k) (by omega)
  have HJ := Lib.hid hj
  have HCA := Lib.hid hc
  have hk64 : k < 18446744073709551616 := by omega
  clear h hc hN0 hj
  go_enter Tryz.func83, Tryz.ntmps83
  go_upto_region 1 with fail
  generalize w.alloc _ = w0 at *
  go_wp2_with fail
  refine (rnumC H0.out hrq (by simp only [List.length_append, List.length_nil]; omega)).mono ?_
  rintro e w1 ⟨v1, rfl, h1, hu1⟩
  have H1 := Lib.hid h1
  have HU1 := Lib.hid (HU0.out.trans hu1 (fun _ _ e => e))
  have HPB1 := Lib.hid (HPB0.out.upd hu1 HG.out)
  clear h1 hu1
  go_wp2_with fail
  refine (rnumC H1.out hvt (by simp only [List.length_append, List.length_nil]; omega)).mono ?_
  rintro e w2 ⟨v2, rfl, h2, hu2⟩
  have H2 := Lib.hid h2
  have HU2 := Lib.hid (HU1.out.trans hu2 (fun _ _ e => e))
  have HPB2 := Lib.hid (HPB1.out.upd hu2 HG.out)
  clear h2 hu2
  go_wp2_with fail
  refine (rnumC H2.out hk64 (by simp only [List.length_append, List.length_nil]; omega)).mono ?_
  rintro e w3 ⟨v3, rfl, h3, hu3⟩
  have hn4 := (New.refl w3).alloc (.cells #[.int .u64 (vt : Int), .int .i64 (k : Int)] 46)
  have HC := Lib.hid (h3.new hn4)
  have HU := Lib.hid ((HU2.out.trans hu3 (fun _ _ e => e)).transNew hn4)
  have HPB := Lib.hid ((HPB2.out.upd hu3 HG.out).new hn4)
  have HVB := Lib.hid (Blk.mk_new w3 46 #[.int .u64 (vt : Int), .int .i64 (k : Int)])
  have HS3 : Hid (w.heap.size ≤ w3.heap.size) := Lib.hid (HU2.out.trans hu3 (fun _ _ e => e)).size
  clear h3 hu3 hn4
  go_upto_region 3 with fail
  generalize w3.alloc _ = W at *
  obtain ⟨vb, hvb⟩ : ∃ vb, w3.heap.size = vb := ⟨_, rfl⟩
  rw [hvb] at HVB HS3 ⊢
  clear hvb
  have HO1 : Hid (¬ CliF (L.cp j) (L.cl j) w.heap.size) := Lib.hid (fun hk => by have := HCLT.out (.cl j) _ ⟨HJ.out, hk⟩; omega)
  have HO2 : Hid (¬ CliF (L.cp j) (L.cl j) vb) := Lib.hid (fun hk => by have := HCLT.out (.cl j) _ ⟨HJ.out, hk⟩; have := HS3.out; omega)
  have k1 : W.cell? ⟨w.heap.size, 1, none⟩ = some (.int .i64 (100 + (j : Int))) := HPB.out.cell 1
  have k2 : W.cell? ⟨vb, 0, none⟩ = some (.int .u64 (vt : Int)) := HVB.out.cell 0
  have k3 : W.cell? ⟨vb, 1, none⟩ = some (.int .i64 (k : Int)) := HVB.out.cell 1
  refine wp_region_held_drew (S := fun w' => w'.cell? ⟨w.heap.size, 1, none⟩ = some (.int .i64 (100 + (j : Int))) ∧ w'.cell? ⟨vb, 0, none⟩ = some (.int .u64 (vt : Int)) ∧ w'.cell? ⟨vb, 1, none⟩ = some (.int .i64 (k : Int))) (by kernel_rfl) (⟨k1, k2, k3⟩) (fun hHeld => ?_)
  refine tkN (i := 0) rfl ?_
  try simp only [Act.put, sA, sZ, sS]
  refine tkN (i := 1) rfl ?_
  try simp only [Act.put, sA, sZ, sS]
  refine tkN (i := 2) rfl ?_
  try simp only [Act.put, sA, sZ, sS]
  refine tkN (i := 3) rfl ?_
  try simp only [Act.put, sA, sZ, sS]
  refine tkN (i := 5) rfl ?_
  try simp only [Act.put, sA, sZ, sS]
  refine tkN (i := 6) rfl ?_
  try simp only [Act.put, sA, sZ, sS]
  refine stN (i := 4) rfl (fun K hK => ?_)
  go_simp
  refine (cclient (HC.out.cu.new (New.refl W).drew) HJ.out).mono ?_
  rintro e w4 ⟨rfl, rfl⟩
  refine hK.out _ _ ?_ (fun hHeld => ?_)
  · exact ⟨k1, k2, k3⟩
  clear hK K
  try simp only [Act.put, sA, sZ, sS]
  refine stN (i := 7) rfl (fun K hK => ?_)
  go_simp
  refine (canswerC (HC.out.cu.new (New.refl W).drew) HCA.out rq vt (k : Int)).mono ?_
  rintro e w5 ⟨r5, rfl, ht5, hu5⟩
  have HF : Hid (TurnG w g up B L (x.setC (j : Int) (c.answer rq ⟨vt, (k : Int)⟩)) w5) := Lib.hid (TurnG.of HU.out (Turned.pre ((New.refl W).drew) ht5))
  have l1 := (keepR hu5 (b := w.heap.size) HPB.out.lt HO1.out 1).trans k1
  have l2 := (keepR hu5 (b := vb) HVB.out.lt HO2.out 0).trans k2
  have l3 := (keepR hu5 (b := vb) HVB.out.lt HO2.out 1).trans k3
  clear ht5 hu5
  refine hK.out _ _ ?_ (fun hHeld => ?_)
  · exact ⟨l1, l2, l3⟩
  clear hK K
  try simp only [Act.put, sA, sZ, sS]
  refine wpAnyH_done (by kernel_rfl) ?_ _
  clear hHeld
  refine bodyPost_end (v := .tuple #[]) (by kernel_rfl) rfl ⟨rfl, ?_⟩
  rw [HEQ.out]
  exact HF.out
  rotate_left
end
end Go.Proofs.YtlhlcdjkacglnaaGreatDoor
/- Chapter 26 (cluster): a note arrives. Printed by genCu13.py. -/
namespace Go.Proofs.YtlhlcdjkacglnaaGreatDoor
open Go.RowKit Go.Lap C
set_option linter.unusedVariables false
set_option linter.unusedSimpArgs false
section
variable {w w' W w1 : World} {S F : Nat → Prop} {up B C g n m : Nat} {L : CuL} {x x' : Clu}
/-- The batch of a packet's bytes. -/
theorem getBB {b : Btc} (hb : b.Ok) {v : Value} (hs : SlIn w 1 bEnc v (bB b)) : Calls Tryz.prog 137 #[v] w fun e w' => ∃ (y : BtV) (er : Int), e = .returned (.tuple #[y.val, .int .i64 er]) ∧ y.b = wireB b ∧ BtAt w' y ∧ New w w' := by
  refine (D.getB_any (bB b) v w (by have := bB_len b hb; omega) hs).mono ?_
  rintro e w2 ⟨hn, h⟩
  rw [getC_bB b hb] at h
  unfold wireB
  by_cases hc : chk b.l = 0
  · rw [if_pos hc] at h ⊢
    rcases h with ⟨h, _⟩ | ⟨a, u, h, rfl, hu⟩
    · cases h
    · cases h
      have ht := Row.tsl Wri.encOk (Owns.row hu)
      obtain ⟨A, c, rfl⟩ := ht.shape
      exact ⟨⟨b, A, c⟩, 0, rfl, rfl, ⟨ht, hb⟩, hn⟩
  · rw [if_neg hc] at h ⊢
    rcases h with ⟨_, rfl⟩ | ⟨a, u, h, _⟩
    · exact ⟨BtV.nil, 55, rfl, rfl, BtAt.nil _, hn⟩
    · cases h
theorem Blk9N {w : World} {g t : Nat} {a b c d e f i j k : Value} (h : Blk w g t #[a, b, c, d, e, f, i, j, k]) : g < w.heap.size ∧ w.cell? ⟨g, 0, none⟩ = some a ∧ w.cell? ⟨g, 1, none⟩ = some b ∧ w.cell? ⟨g, 2, none⟩ = some c ∧ w.cell? ⟨g, 3, none⟩ = some d ∧ w.cell? ⟨g, 4, none⟩ = some e ∧ w.cell? ⟨g, 5, none⟩ = some f ∧ w.cell? ⟨g, 6, none⟩ = some i ∧ w.cell? ⟨g, 7, none⟩ = some j ∧ w.cell? ⟨g, 8, none⟩ = some k ∧ (∀ i, w.frozen? ⟨g, i, none⟩ = false) :=
  ⟨h.lt, h.cell 0, h.cell 1, h.cell 2, h.cell 3, h.cell 4, h.cell 5, h.cell 6, h.cell 7, h.cell 8, h.frozen⟩
theorem Blk9set {w : World} {nb t : Nat} {a0 a1 a2 a3 a4 a5 a6 a7 a8 b0 b1 b2 b3 b4 b5 b6 b7 b8 : Value} (h : Blk w nb t #[a0, a1, a2, a3, a4, a5, a6, a7, a8]) :
    Blk (((((((((w.setCell ⟨nb, 0, none⟩ b0).setCell ⟨nb, 1, none⟩ b1).setCell ⟨nb, 2, none⟩ b2).setCell ⟨nb, 3, none⟩ b3).setCell ⟨nb, 4, none⟩ b4).setCell ⟨nb, 5, none⟩ b5).setCell ⟨nb, 6, none⟩ b6).setCell ⟨nb, 7, none⟩ b7).setCell ⟨nb, 8, none⟩ b8) nb t #[b0, b1, b2, b3, b4, b5, b6, b7, b8] ∧
    Upd (· = nb) w (((((((((w.setCell ⟨nb, 0, none⟩ b0).setCell ⟨nb, 1, none⟩ b1).setCell ⟨nb, 2, none⟩ b2).setCell ⟨nb, 3, none⟩ b3).setCell ⟨nb, 4, none⟩ b4).setCell ⟨nb, 5, none⟩ b5).setCell ⟨nb, 6, none⟩ b6).setCell ⟨nb, 7, none⟩ b7).setCell ⟨nb, 8, none⟩ b8) := by
  refine ⟨?_, (((((((((Upd.refl _ w).setIn 0 _).setIn 1 _).setIn 2 _).setIn 3 _).setIn 4 _).setIn 5 _).setIn 6 _).setIn 7 _).setIn 8 _⟩
  have := ((((((((h.set_ 0 b0).set_ 1 b1).set_ 2 b2).set_ 3 b3).set_ 4 b4).set_ 5 b5).set_ 6 b6).set_ 7 b7).set_ 8 b8
  simpa using this
theorem Blk9tail {w : World} {nb t : Nat} {a0 a1 a2 a3 a4 a5 a6 a7 a8 b5 b6 b7 b8 : Value} (h : Blk w nb t #[a0, a1, a2, a3, a4, a5, a6, a7, a8]) :
    Blk ((((w.setCell ⟨nb, 5, none⟩ b5).setCell ⟨nb, 6, none⟩ b6).setCell ⟨nb, 7, none⟩ b7).setCell ⟨nb, 8, none⟩ b8) nb t #[a0, a1, a2, a3, a4, b5, b6, b7, b8] ∧
    Upd (· = nb) w ((((w.setCell ⟨nb, 5, none⟩ b5).setCell ⟨nb, 6, none⟩ b6).setCell ⟨nb, 7, none⟩ b7).setCell ⟨nb, 8, none⟩ b8) := by
  refine ⟨?_, ((((Upd.refl _ w).setIn 5 _).setIn 6 _).setIn 7 _).setIn 8 _⟩
  have := (((h.set_ 5 b5).set_ 6 b6).set_ 7 b7).set_ 8 b8
  simpa using this
/-- A new block of another kind turns. -/
theorem RC.far {v : Value} {bs : List UInt8} (h : RC w up B L x g v bs) {nb : Nat} {cs : Array Value} (hu : Upd (· = nb) w w') (hb : Blk w nb 177 cs) (hcs : ∀ (i : Nat) (z : Int), cs[i]? ≠ some (.int .u8 z)) (hg : nb ≠ g) (hn : ∀ p, ¬ CuF up L p nb) : RC w' up B L x g v bs := by
  refine ⟨h.cu.upd hu (fun p k hk e => hn p (e ▸ hk)) (Off.blk hb (by decide)) (Off.blk hb (by decide)), ⟨h.rd.1.upd hu (fun e => hg e.symm), ?_, h.rd.2.2⟩, h.off⟩
  obtain ⟨A, c, hv, hc, h3⟩ := h.rd.2.1
  refine ⟨A, c, hv, hc, ?_⟩
  rcases h3 with h3 | ⟨b, off, hA, hbl, h3⟩
  · exact .inl h3
  · by_cases hbs : bs = []
    · exact .inl hbs
    · refine .inr ⟨b, off, hA, Nat.lt_of_lt_of_le hbl hu.size, fun k y hy j u hj => ?_⟩
      have hne : b ≠ nb := fun e => by
        subst e
        obtain ⟨y0, ys, rfl⟩ := List.exists_cons_of_ne_nil hbs
        have := h3 0 y0 rfl 0 _ rfl
        rw [hb.cell] at this
        exact hcs _ _ this
      exact (keepR hu hbl hne _).trans (h3 k y hy j u hj)
theorem noU8 {a b c d e : Int} {f g h : Int} {A : Option Addr} {n m : Nat} : ∀ (i : Nat) (z : Int), (#[Value.int .i64 a, .int .i64 b, .int .i64 c, .int .u64 d, .int .u64 e, .int .u64 f, .int .u64 g, .int .u64 h, .slice A n m] : Array Value)[i]? ≠ some (.int .u8 z) := by
  intro i z hi
  have := Array.mem_of_getElem? hi
  simp at this
set_option maxRecDepth 100000 in
set_option maxHeartbeats 8000000 in
theorem cNoted {v : Value} {k ep t : Nat} {b : Btc} (h : RC w up B L x g v (varB k ++ (varB ep ++ (varB t ++ (txtB (bB b) ++ []))))) (hok : CluOk L.m B x) (hB : B ≤ 8000000) (hk : k ≤ 2) (hep : ep < big) (ht : t < big) (hb : b.Ok) (hwb : wireB b = b) {fr ds : Int} (hds : inI ds) (s : ByteArray) (m : CMsg) :
    Calls Tryz.prog 82 #[.pointer (some ⟨up, 0, none⟩), .agg #[.int .i64 fr, .int .i64 ds, .string s], .pointer (some ⟨g, 0, none⟩)] w (fun e w' => e = .returned (.tuple #[]) ∧ TurnG w g up (B + 30) L (x.noted ⟨fr, ds, m⟩ (k : Int) ep t b) w') := by
  obtain ⟨R, hR⟩ : ∃ R, x.noted ⟨fr, ds, m⟩ (k : Int) ep t b = R := ⟨_, rfl⟩
  rw [hR]
  have HRR := Lib.hid hR
  have HOK := Lib.hid hok
  have hN0 := (New.refl w).alloc (.cells #[.int .i64 fr, .int .i64 ds, .string s] 111)
  have HPB := Lib.hid (Blk.mk_new w 111 #[.int .i64 fr, .int .i64 ds, .string s])
  have H := Lib.hid (h.new hN0)
  have HU : Hid (Upd (· = g) w (w.alloc (.cells #[.int .i64 fr, .int .i64 ds, .string s] 111))) := Lib.hid (Upd.new hN0)
  have HG : Hid (w.heap.size ≠ g) := Lib.hid (fun e => by have := h.rd.1.lt; omega)
  have HCLT : Hid (∀ p k, CuF up L p k → k < w.heap.size) := Lib.hid (fun p k hk => (h.cu.cln p k hk).1)
  have l1 := varB_len10 (n := k) (by omega)
  have l2 := varB_len10 hep
  have l3 := varB_len10 ht
  have l4 := bB_len b hb
  have l5 := varB_len10 (n := (bB b).length) (by omega)
  have HL : Hid ((txtB (bB b)).length ≤ 5000) := Lib.hid (by unfold txtB; rw [List.length_append]; omega)
  have HB := Lib.hid hb
  have HWB := Lib.hid hwb
  have HDS := Lib.hid hds
  have HEP := Lib.hid hep
  have HT := Lib.hid ht
  clear h hN0 hok hR hb hwb hds hep ht
  go_enter Tryz.func82, Tryz.ntmps82
  go_upto_region 1 with fail
  generalize w.alloc _ = W at *
  have k1 : W.cell? ⟨w.heap.size, 0, none⟩ = some (.int .i64 fr) := HPB.out.cell 0
  have k2 : W.cell? ⟨w.heap.size, 1, none⟩ = some (.int .i64 ds) := HPB.out.cell 1
  refine wp_region_held_drew (S := fun w' => w'.cell? ⟨w.heap.size, 0, none⟩ = some (.int .i64 fr) ∧ w'.cell? ⟨w.heap.size, 1, none⟩ = some (.int .i64 ds)) (by kernel_rfl) (⟨k1, k2⟩) (fun hHeld => ?_)
  refine tkN (i := 0) rfl ?_
  try simp only [Act.put, sA, sZ, sS]
  refine tkN (i := 2) rfl ?_
  try simp only [Act.put, sA, sZ, sS]
  refine tkN (i := 3) rfl ?_
  try simp only [Act.put, sA, sZ, sS]
  refine tkN (i := 4) rfl ?_
  try simp only [Act.put, sA, sZ, sS]
  refine tkN (i := 5) rfl ?_
  try simp only [Act.put, sA, sZ, sS]
  refine tkN (i := 6) rfl ?_
  try simp only [Act.put, sA, sZ, sS]
  refine tkN (i := 8) rfl ?_
  try simp only [Act.put, sA, sZ, sS]
  refine wpAnyH_ready (rs := [1, 11]) (by kernel_rfl) (by simp) ?_
  refine rdN rfl (fun K hK => ?_) (rdN rfl (fun K hK => ?_) AllReadyH.nil)
  go_simp
  refine (rcountC (H.out.new (New.refl W).drew) (by omega) (by omega) (by have := HL.out; simp only [List.length_append, List.length_nil]; omega)).mono ?_
  rintro e w1 ⟨v1, rfl, h1, hu1⟩
  have H1 := Lib.hid h1
  have HU1 := Lib.hid (HU.out.drew.trans hu1 (fun _ _ e => e))
  have HPB1 := Lib.hid (HPB.out.drew.upd hu1 HG.out)
  clear h1 hu1
  refine hK.out _ _ ?_ (fun hHeld => ?_)
  · exact ⟨HPB1.out.cell 0, HPB1.out.cell 1⟩
  clear hK K
  try simp only [Act.put, sA, sZ, sS]
  refine wpAnyH_ready (rs := [7, 11]) (by kernel_rfl) (by simp) ?_
  refine rdN rfl (fun K hK => ?_) (rdN rfl (fun K hK => ?_) AllReadyH.nil)
  go_simp
  refine (rnumC H1.out HEP.out (by have := HL.out; simp only [List.length_append, List.length_nil]; omega)).mono ?_
  rintro e w7 ⟨v7, rfl, h7, hu7⟩
  have H7 := Lib.hid h7
  have HU7 := Lib.hid (HU1.out.trans hu7 (fun _ _ e => e))
  have HPB7 := Lib.hid (HPB1.out.upd hu7 HG.out)
  clear h7 hu7
  refine hK.out _ _ ?_ (fun hHeld => ?_)
  · exact ⟨HPB7.out.cell 0, HPB7.out.cell 1⟩
  clear hK K
  try simp only [Act.put, sA, sZ, sS]
  refine wpAnyH_ready (rs := [9, 11]) (by kernel_rfl) (by simp) ?_
  refine rdN rfl (fun K hK => ?_) (rdN rfl (fun K hK => ?_) AllReadyH.nil)
  go_simp
  refine (rnumC H7.out HT.out (by have := HL.out; simp only [List.length_append, List.length_nil]; omega)).mono ?_
  rintro e w9 ⟨v9, rfl, h9, hu9⟩
  have H9 := Lib.hid h9
  have HU9 := Lib.hid (HU7.out.trans hu9 (fun _ _ e => e))
  have HPB9 := Lib.hid (HPB7.out.upd hu9 HG.out)
  clear h9 hu9
  refine hK.out _ _ ?_ (fun hHeld => ?_)
  · exact ⟨HPB9.out.cell 0, HPB9.out.cell 1⟩
  clear hK K
  try simp only [Act.put, sA, sZ, sS]
  refine tkN (i := 10) rfl ?_
  try simp only [Act.put, sA, sZ, sS]
  refine stN (i := 11) rfl (fun K hK => ?_)
  go_simp
  have hz := Blk.mk_new w9 177 #[.int .i64 0, .int .i64 0, .int .i64 0, .int .u64 0, .int .u64 0, .int .u64 0, .int .u64 0, .int .u64 0, .slice none 0 0]
  obtain ⟨z0, z1, z2, z3, z4, z5, z6, z7, z8, zz⟩ := Blk9N hz
  have hn9 := (New.refl w9).alloc (.cells #[.int .i64 0, .int .i64 0, .int .i64 0, .int .u64 0, .int .u64 0, .int .u64 0, .int .u64 0, .int .u64 0, .slice none 0 0] 177)
  have k1 := (HPB9.out.new hn9).cell 0
  have k2 := (HPB9.out.new hn9).cell 1
  refine hK.out _ _ ?_ (fun hHeld => ?_)
  · exact ⟨k1, k2⟩
  clear hK K
  try simp only [Act.put, sA, sZ, sS]
  refine stN (i := 12) rfl (fun K hK => ?_)
  go_simp
  refine hK.out _ _ ?_ (fun hHeld => ?_)
  · exact ⟨(HPB9.out.new ((New.refl w9).alloc (.cells #[.int .i64 (k : Int), .int .i64 fr, .int .i64 ds, .int .u64 (ep : Int), .int .u64 (t : Int), .int .u64 0, .int .u64 0, .int .u64 0, .slice none 0 0] 177))).cell 0, (HPB9.out.new ((New.refl w9).alloc (.cells #[.int .i64 (k : Int), .int .i64 fr, .int .i64 ds, .int .u64 (ep : Int), .int .u64 (t : Int), .int .u64 0, .int .u64 0, .int .u64 0, .slice none 0 0] 177))).cell 1⟩
  clear hK K
  try simp only [Act.put, sA, sZ, sS]
  refine wpAnyH_done (by kernel_rfl) ?_ _
  clear hHeld hz k1 k2 z0 z1 z2 z3 z4 z5 z6 z7 z8 zz hn9
  have HX := Lib.hid (H9.out.new ((New.refl w9).alloc (.cells #[.int .i64 (k : Int), .int .i64 fr, .int .i64 ds, .int .u64 (ep : Int), .int .u64 (t : Int), .int .u64 0, .int .u64 0, .int .u64 0, .slice none 0 0] 177)))
  have HUX := Lib.hid (HU9.out.transNew ((New.refl w9).alloc (.cells #[.int .i64 (k : Int), .int .i64 fr, .int .i64 ds, .int .u64 (ep : Int), .int .u64 (t : Int), .int .u64 0, .int .u64 0, .int .u64 0, .slice none 0 0] 177)))
  have HPX := Lib.hid (HPB9.out.new ((New.refl w9).alloc (.cells #[.int .i64 (k : Int), .int .i64 fr, .int .i64 ds, .int .u64 (ep : Int), .int .u64 (t : Int), .int .u64 0, .int .u64 0, .int .u64 0, .slice none 0 0] 177)))
  have HNX := Lib.hid (Blk.mk_new w9 177 #[.int .i64 (k : Int), .int .i64 fr, .int .i64 ds, .int .u64 (ep : Int), .int .u64 (t : Int), .int .u64 0, .int .u64 0, .int .u64 0, .slice none 0 0])
  have HNG : Hid (w9.heap.size ≠ g) := Lib.hid (fun e => by have := H9.out.rd.1.lt; omega)
  have HNS : Hid (w.heap.size ≤ w9.heap.size) := Lib.hid HU9.out.size
  obtain ⟨vX, HX⟩ : ∃ vX, Hid (RC (w9.alloc (.cells #[.int .i64 (k : Int), .int .i64 fr, .int .i64 ds, .int .u64 (ep : Int), .int .u64 (t : Int), .int .u64 0, .int .u64 0, .int .u64 0, .slice none 0 0] 177)) up B L x g vX (txtB (bB b) ++ [])) := ⟨_, HX⟩
  clear H9 HU9 HPB9
  generalize w9.alloc (.cells #[.int .i64 (k : Int), .int .i64 fr, .int .i64 ds, .int .u64 (ep : Int), .int .u64 (t : Int), .int .u64 0, .int .u64 0, .int .u64 0, .slice none 0 0] 177) = wx at *
  generalize w9.heap.size = nb at *
  rotate_left
  go_simp
  have hna := (New.refl w7).alloc (.cells #[.int .i64 0, .int .i64 0, .int .i64 0, .int .u64 0, .int .u64 0, .int .u64 0, .int .u64 0, .int .u64 0, .slice none 0 0] 177)
  have H7A := Lib.hid (H7.out.new hna)
  have HU7A := Lib.hid (HU7.out.transNew hna)
  have HPB7A := Lib.hid (HPB7.out.new hna)
  have HNB7A : Hid (Blk (w7.alloc (.cells #[.int .i64 0, .int .i64 0, .int .i64 0, .int .u64 0, .int .u64 0, .int .u64 0, .int .u64 0, .int .u64 0, .slice none 0 0] 177)) w7.heap.size 177 #[.int .i64 0, .int .i64 0, .int .i64 0, .int .u64 0, .int .u64 0, .int .u64 0, .int .u64 0, .int .u64 0, .slice none 0 0]) := Lib.hid (Blk.mk_new w7 177 #[.int .i64 0, .int .i64 0, .int .i64 0, .int .u64 0, .int .u64 0, .int .u64 0, .int .u64 0, .int .u64 0, .slice none 0 0])
  have HNG : Hid (w7.heap.size ≠ g) := Lib.hid (fun e => by have := H7.out.rd.1.lt; omega)
  have HNS : Hid (w.heap.size ≤ w7.heap.size) := Lib.hid HU7.out.size
  clear hna
  generalize w7.alloc (.cells #[.int .i64 0, .int .i64 0, .int .i64 0, .int .u64 0, .int .u64 0, .int .u64 0, .int .u64 0, .int .u64 0, .slice none 0 0] 177) = w7A at *
  generalize w7.heap.size = nb at *
  refine hK.out _ _ ?_ (fun hHeld => ?_)
  · exact ⟨HPB7A.out.cell 0, HPB7A.out.cell 1⟩
  clear hK K
  try simp only [Act.put, sA, sZ, sS]
  refine stN (i := 9) rfl (fun K hK => ?_)
  go_simp
  refine (rnumC H7A.out HT.out (by have := HL.out; simp only [List.length_append, List.length_nil]; omega)).mono ?_
  rintro e w9a ⟨v9a, rfl, h9a, hu9a⟩
  have H9a := Lib.hid h9a
  have HU9a := Lib.hid (HU7A.out.trans hu9a (fun _ _ e => e))
  have HPB9a := Lib.hid (HPB7A.out.upd hu9a HG.out)
  have HNB9a := Lib.hid (HNB7A.out.upd hu9a HNG.out)
  clear h9a hu9a
  refine hK.out _ _ ?_ (fun hHeld => ?_)
  · exact ⟨HPB9a.out.cell 0, HPB9a.out.cell 1⟩
  clear hK K
  try simp only [Act.put, sA, sZ, sS]
  refine tkN (i := 10) rfl ?_
  try simp only [Act.put, sA, sZ, sS]
  refine stN (i := 12) rfl (fun K hK => ?_)
  obtain ⟨z0, z1, z2, z3, z4, z5, z6, z7, z8, zz⟩ := Blk9N HNB9a.out
  have h9 := Blk9set (b0 := .int .i64 (k : Int)) (b1 := .int .i64 fr) (b2 := .int .i64 ds) (b3 := .int .u64 (ep : Int)) (b4 := .int .u64 (t : Int)) (b5 := .int .u64 0) (b6 := .int .u64 0) (b7 := .int .u64 0) (b8 := .slice none 0 0) HNB9a.out
  have HNX := Lib.hid h9.1
  have HUP := Lib.hid h9.2
  have HNP : Hid (w.heap.size ≠ nb) := Lib.hid (fun e => Blk.ne_ HPB9a.out HNB9a.out (by decide) e)
  clear h9
  go_simp
  refine hK.out _ _ ?_ (fun hHeld => ?_)
  · exact ⟨(HPB9a.out.upd HUP.out HNP.out).cell 0, (HPB9a.out.upd HUP.out HNP.out).cell 1⟩
  clear hK K
  try simp only [Act.put, sA, sZ, sS]
  refine wpAnyH_done (by kernel_rfl) ?_ _
  clear hHeld z0 z1 z2 z3 z4 z5 z6 z7 z8 zz
  have HX := Lib.hid (H9a.out.far HUP.out HNB9a.out noU8 HNG.out (fun p hp => by have := (HCLT.out p nb hp); have := HNS.out; omega))
  have HUX := Lib.hid (HU9a.out.trans HUP.out (fun k hk e => by have := HNS.out; omega))
  have HPX := Lib.hid (HPB9a.out.upd HUP.out HNP.out)
  obtain ⟨vX, HX⟩ : ∃ vX, Hid (RC ((((((((((w9a).setCell ⟨nb, 0, none⟩ (.int .i64 (k : Int))).setCell ⟨nb, 1, none⟩ (.int .i64 fr)).setCell ⟨nb, 2, none⟩ (.int .i64 ds)).setCell ⟨nb, 3, none⟩ (.int .u64 (ep : Int))).setCell ⟨nb, 4, none⟩ (.int .u64 (t : Int))).setCell ⟨nb, 5, none⟩ (.int .u64 0)).setCell ⟨nb, 6, none⟩ (.int .u64 0)).setCell ⟨nb, 7, none⟩ (.int .u64 0)).setCell ⟨nb, 8, none⟩ (.slice none 0 0)) up B L x g vX (txtB (bB b) ++ [])) := ⟨_, HX⟩
  clear HUP HNB9a HPB9a HNP H9a HU9a
  generalize (((((((((w9a).setCell ⟨nb, 0, none⟩ (.int .i64 (k : Int))).setCell ⟨nb, 1, none⟩ (.int .i64 fr)).setCell ⟨nb, 2, none⟩ (.int .i64 ds)).setCell ⟨nb, 3, none⟩ (.int .u64 (ep : Int))).setCell ⟨nb, 4, none⟩ (.int .u64 (t : Int))).setCell ⟨nb, 5, none⟩ (.int .u64 0)).setCell ⟨nb, 6, none⟩ (.int .u64 0)).setCell ⟨nb, 7, none⟩ (.int .u64 0)).setCell ⟨nb, 8, none⟩ (.slice none 0 0) = wx at *
  rotate_left
  go_simp
  have hna := (New.refl w1).alloc (.cells #[.int .i64 0, .int .i64 0, .int .i64 0, .int .u64 0, .int .u64 0, .int .u64 0, .int .u64 0, .int .u64 0, .slice none 0 0] 177)
  have H1A := Lib.hid (H1.out.new hna)
  have HU1A := Lib.hid (HU1.out.transNew hna)
  have HPB1A := Lib.hid (HPB1.out.new hna)
  have HNB1A : Hid (Blk (w1.alloc (.cells #[.int .i64 0, .int .i64 0, .int .i64 0, .int .u64 0, .int .u64 0, .int .u64 0, .int .u64 0, .int .u64 0, .slice none 0 0] 177)) w1.heap.size 177 #[.int .i64 0, .int .i64 0, .int .i64 0, .int .u64 0, .int .u64 0, .int .u64 0, .int .u64 0, .int .u64 0, .slice none 0 0]) := Lib.hid (Blk.mk_new w1 177 #[.int .i64 0, .int .i64 0, .int .i64 0, .int .u64 0, .int .u64 0, .int .u64 0, .int .u64 0, .int .u64 0, .slice none 0 0])
  have HNG : Hid (w1.heap.size ≠ g) := Lib.hid (fun e => by have := H1.out.rd.1.lt; omega)
  have HNS : Hid (w.heap.size ≤ w1.heap.size) := Lib.hid HU1.out.size
  clear hna
  generalize w1.alloc (.cells #[.int .i64 0, .int .i64 0, .int .i64 0, .int .u64 0, .int .u64 0, .int .u64 0, .int .u64 0, .int .u64 0, .slice none 0 0] 177) = w1A at *
  generalize w1.heap.size = nb at *
  refine hK.out _ _ ?_ (fun hHeld => ?_)
  · exact ⟨HPB1A.out.cell 0, HPB1A.out.cell 1⟩
  clear hK K
  try simp only [Act.put, sA, sZ, sS]
  refine stN (i := 7) rfl (fun K hK => ?_)
  go_simp
  refine (rnumC H1A.out HEP.out (by have := HL.out; simp only [List.length_append, List.length_nil]; omega)).mono ?_
  rintro e w7a ⟨v7a, rfl, h7a, hu7a⟩
  have H7a := Lib.hid h7a
  have HU7a := Lib.hid (HU1A.out.trans hu7a (fun _ _ e => e))
  have HPB7a := Lib.hid (HPB1A.out.upd hu7a HG.out)
  have HNB7a := Lib.hid (HNB1A.out.upd hu7a HNG.out)
  clear h7a hu7a
  refine hK.out _ _ ?_ (fun hHeld => ?_)
  · exact ⟨HPB7a.out.cell 0, HPB7a.out.cell 1⟩
  clear hK K
  try simp only [Act.put, sA, sZ, sS]
  refine stN (i := 9) rfl (fun K hK => ?_)
  go_simp
  refine (rnumC H7a.out HT.out (by have := HL.out; simp only [List.length_append, List.length_nil]; omega)).mono ?_
  rintro e w9a ⟨v9a, rfl, h9a, hu9a⟩
  have H9a := Lib.hid h9a
  have HU9a := Lib.hid (HU7a.out.trans hu9a (fun _ _ e => e))
  have HPB9a := Lib.hid (HPB7a.out.upd hu9a HG.out)
  have HNB9a := Lib.hid (HNB7a.out.upd hu9a HNG.out)
  clear h9a hu9a
  refine hK.out _ _ ?_ (fun hHeld => ?_)
  · exact ⟨HPB9a.out.cell 0, HPB9a.out.cell 1⟩
  clear hK K
  try simp only [Act.put, sA, sZ, sS]
  refine tkN (i := 10) rfl ?_
  try simp only [Act.put, sA, sZ, sS]
  refine stN (i := 12) rfl (fun K hK => ?_)
  obtain ⟨z0, z1, z2, z3, z4, z5, z6, z7, z8, zz⟩ := Blk9N HNB9a.out
  have h9 := Blk9set (b0 := .int .i64 (k : Int)) (b1 := .int .i64 fr) (b2 := .int .i64 ds) (b3 := .int .u64 (ep : Int)) (b4 := .int .u64 (t : Int)) (b5 := .int .u64 0) (b6 := .int .u64 0) (b7 := .int .u64 0) (b8 := .slice none 0 0) HNB9a.out
  have HNX := Lib.hid h9.1
  have HUP := Lib.hid h9.2
  have HNP : Hid (w.heap.size ≠ nb) := Lib.hid (fun e => Blk.ne_ HPB9a.out HNB9a.out (by decide) e)
  clear h9
  go_simp
  refine hK.out _ _ ?_ (fun hHeld => ?_)
  · exact ⟨(HPB9a.out.upd HUP.out HNP.out).cell 0, (HPB9a.out.upd HUP.out HNP.out).cell 1⟩
  clear hK K
  try simp only [Act.put, sA, sZ, sS]
  refine wpAnyH_done (by kernel_rfl) ?_ _
  clear hHeld z0 z1 z2 z3 z4 z5 z6 z7 z8 zz
  have HX := Lib.hid (H9a.out.far HUP.out HNB9a.out noU8 HNG.out (fun p hp => by have := (HCLT.out p nb hp); have := HNS.out; omega))
  have HUX := Lib.hid (HU9a.out.trans HUP.out (fun k hk e => by have := HNS.out; omega))
  have HPX := Lib.hid (HPB9a.out.upd HUP.out HNP.out)
  obtain ⟨vX, HX⟩ : ∃ vX, Hid (RC ((((((((((w9a).setCell ⟨nb, 0, none⟩ (.int .i64 (k : Int))).setCell ⟨nb, 1, none⟩ (.int .i64 fr)).setCell ⟨nb, 2, none⟩ (.int .i64 ds)).setCell ⟨nb, 3, none⟩ (.int .u64 (ep : Int))).setCell ⟨nb, 4, none⟩ (.int .u64 (t : Int))).setCell ⟨nb, 5, none⟩ (.int .u64 0)).setCell ⟨nb, 6, none⟩ (.int .u64 0)).setCell ⟨nb, 7, none⟩ (.int .u64 0)).setCell ⟨nb, 8, none⟩ (.slice none 0 0)) up B L x g vX (txtB (bB b) ++ [])) := ⟨_, HX⟩
  clear HUP HNB9a HPB9a HNP H9a HU9a
  generalize (((((((((w9a).setCell ⟨nb, 0, none⟩ (.int .i64 (k : Int))).setCell ⟨nb, 1, none⟩ (.int .i64 fr)).setCell ⟨nb, 2, none⟩ (.int .i64 ds)).setCell ⟨nb, 3, none⟩ (.int .u64 (ep : Int))).setCell ⟨nb, 4, none⟩ (.int .u64 (t : Int))).setCell ⟨nb, 5, none⟩ (.int .u64 0)).setCell ⟨nb, 6, none⟩ (.int .u64 0)).setCell ⟨nb, 7, none⟩ (.int .u64 0)).setCell ⟨nb, 8, none⟩ (.slice none 0 0) = wx at *
  rotate_left
  go_simp
  have hna := ((New.refl W).alloc (.cells #[.int .i64 0, .int .i64 0, .int .i64 0, .int .u64 0, .int .u64 0, .int .u64 0, .int .u64 0, .int .u64 0, .slice none 0 0] 177)).drew
  have HA := Lib.hid (H.out.new hna)
  have HUA := Lib.hid (HU.out.transNew hna)
  have HPBA := Lib.hid (HPB.out.new hna)
  have HNBA : Hid (Blk ((W.alloc (.cells #[.int .i64 0, .int .i64 0, .int .i64 0, .int .u64 0, .int .u64 0, .int .u64 0, .int .u64 0, .int .u64 0, .slice none 0 0] 177)).drew) W.heap.size 177 #[.int .i64 0, .int .i64 0, .int .i64 0, .int .u64 0, .int .u64 0, .int .u64 0, .int .u64 0, .int .u64 0, .slice none 0 0]) := Lib.hid (Blk.mk_new W 177 #[.int .i64 0, .int .i64 0, .int .i64 0, .int .u64 0, .int .u64 0, .int .u64 0, .int .u64 0, .int .u64 0, .slice none 0 0])
  have HNG : Hid (W.heap.size ≠ g) := Lib.hid (fun e => by have := H.out.rd.1.lt; omega)
  have HNS : Hid (w.heap.size ≤ W.heap.size) := Lib.hid HU.out.size
  clear hna
  generalize (W.alloc (.cells #[.int .i64 0, .int .i64 0, .int .i64 0, .int .u64 0, .int .u64 0, .int .u64 0, .int .u64 0, .int .u64 0, .slice none 0 0] 177)).drew = wA at *
  obtain ⟨nb, hnb⟩ : ∃ nb, W.heap.size = nb := ⟨_, rfl⟩
  rw [hnb] at HNBA HNG HNS ⊢
  clear hnb
  refine hK.out _ _ ?_ (fun hHeld => ?_)
  · exact ⟨HPBA.out.cell 0, HPBA.out.cell 1⟩
  clear hK K
  try simp only [Act.put, sA, sZ, sS]
  refine stN (i := 1) rfl (fun K hK => ?_)
  go_simp
  refine (rcountC HA.out (by omega) (by omega) (by have := HL.out; simp only [List.length_append, List.length_nil]; omega)).mono ?_
  rintro e w1a ⟨v1a, rfl, h1a, hu1a⟩
  have H1a := Lib.hid h1a
  have HU1a := Lib.hid (HUA.out.trans hu1a (fun _ _ e => e))
  have HPB1a := Lib.hid (HPBA.out.upd hu1a HG.out)
  have HNB1a := Lib.hid (HNBA.out.upd hu1a HNG.out)
  clear h1a hu1a
  refine hK.out _ _ ?_ (fun hHeld => ?_)
  · exact ⟨HPB1a.out.cell 0, HPB1a.out.cell 1⟩
  clear hK K
  try simp only [Act.put, sA, sZ, sS]
  refine stN (i := 7) rfl (fun K hK => ?_)
  go_simp
  refine (rnumC H1a.out HEP.out (by have := HL.out; simp only [List.length_append, List.length_nil]; omega)).mono ?_
  rintro e w7a ⟨v7a, rfl, h7a, hu7a⟩
  have H7a := Lib.hid h7a
  have HU7a := Lib.hid (HU1a.out.trans hu7a (fun _ _ e => e))
  have HPB7a := Lib.hid (HPB1a.out.upd hu7a HG.out)
  have HNB7a := Lib.hid (HNB1a.out.upd hu7a HNG.out)
  clear h7a hu7a
  refine hK.out _ _ ?_ (fun hHeld => ?_)
  · exact ⟨HPB7a.out.cell 0, HPB7a.out.cell 1⟩
  clear hK K
  try simp only [Act.put, sA, sZ, sS]
  refine stN (i := 9) rfl (fun K hK => ?_)
  go_simp
  refine (rnumC H7a.out HT.out (by have := HL.out; simp only [List.length_append, List.length_nil]; omega)).mono ?_
  rintro e w9a ⟨v9a, rfl, h9a, hu9a⟩
  have H9a := Lib.hid h9a
  have HU9a := Lib.hid (HU7a.out.trans hu9a (fun _ _ e => e))
  have HPB9a := Lib.hid (HPB7a.out.upd hu9a HG.out)
  have HNB9a := Lib.hid (HNB7a.out.upd hu9a HNG.out)
  clear h9a hu9a
  refine hK.out _ _ ?_ (fun hHeld => ?_)
  · exact ⟨HPB9a.out.cell 0, HPB9a.out.cell 1⟩
  clear hK K
  try simp only [Act.put, sA, sZ, sS]
  refine tkN (i := 10) rfl ?_
  try simp only [Act.put, sA, sZ, sS]
  refine stN (i := 12) rfl (fun K hK => ?_)
  obtain ⟨z0, z1, z2, z3, z4, z5, z6, z7, z8, zz⟩ := Blk9N HNB9a.out
  have h9 := Blk9set (b0 := .int .i64 (k : Int)) (b1 := .int .i64 fr) (b2 := .int .i64 ds) (b3 := .int .u64 (ep : Int)) (b4 := .int .u64 (t : Int)) (b5 := .int .u64 0) (b6 := .int .u64 0) (b7 := .int .u64 0) (b8 := .slice none 0 0) HNB9a.out
  have HNX := Lib.hid h9.1
  have HUP := Lib.hid h9.2
  have HNP : Hid (w.heap.size ≠ nb) := Lib.hid (fun e => Blk.ne_ HPB9a.out HNB9a.out (by decide) e)
  clear h9
  go_simp
  refine hK.out _ _ ?_ (fun hHeld => ?_)
  · exact ⟨(HPB9a.out.upd HUP.out HNP.out).cell 0, (HPB9a.out.upd HUP.out HNP.out).cell 1⟩
  clear hK K
  try simp only [Act.put, sA, sZ, sS]
  refine wpAnyH_done (by kernel_rfl) ?_ _
  clear hHeld z0 z1 z2 z3 z4 z5 z6 z7 z8 zz
  have HX := Lib.hid (H9a.out.far HUP.out HNB9a.out noU8 HNG.out (fun p hp => by have := (HCLT.out p nb hp); have := HNS.out; omega))
  have HUX := Lib.hid (HU9a.out.trans HUP.out (fun k hk e => by have := HNS.out; omega))
  have HPX := Lib.hid (HPB9a.out.upd HUP.out HNP.out)
  obtain ⟨vX, HX⟩ : ∃ vX, Hid (RC ((((((((((w9a).setCell ⟨nb, 0, none⟩ (.int .i64 (k : Int))).setCell ⟨nb, 1, none⟩ (.int .i64 fr)).setCell ⟨nb, 2, none⟩ (.int .i64 ds)).setCell ⟨nb, 3, none⟩ (.int .u64 (ep : Int))).setCell ⟨nb, 4, none⟩ (.int .u64 (t : Int))).setCell ⟨nb, 5, none⟩ (.int .u64 0)).setCell ⟨nb, 6, none⟩ (.int .u64 0)).setCell ⟨nb, 7, none⟩ (.int .u64 0)).setCell ⟨nb, 8, none⟩ (.slice none 0 0)) up B L x g vX (txtB (bB b) ++ [])) := ⟨_, HX⟩
  clear HUP HNB9a HPB9a HNP H9a HU9a
  generalize (((((((((w9a).setCell ⟨nb, 0, none⟩ (.int .i64 (k : Int))).setCell ⟨nb, 1, none⟩ (.int .i64 fr)).setCell ⟨nb, 2, none⟩ (.int .i64 ds)).setCell ⟨nb, 3, none⟩ (.int .u64 (ep : Int))).setCell ⟨nb, 4, none⟩ (.int .u64 (t : Int))).setCell ⟨nb, 5, none⟩ (.int .u64 0)).setCell ⟨nb, 6, none⟩ (.int .u64 0)).setCell ⟨nb, 7, none⟩ (.int .u64 0)).setCell ⟨nb, 8, none⟩ (.slice none 0 0) = wx at *
  rotate_left
  all_goals
    try clear k1 k2
    go_wp2_with fail
    refine (rtextC HX.out (by omega) (by simp)).mono ?_
    rintro e w10 ⟨v10, rfl, h10, hu10⟩
    obtain ⟨vb, wb, hrun, hslb, hnb⟩ := D.run_bytesP (str (bB b)) w10
    rw [show (str (bB b)).data.toList = bB b from D.str_list _] at hslb
    have HN10 := Lib.hid ((HNX.out.upd hu10 HNG.out).new hnb)
    have HP10 := Lib.hid ((HPX.out.upd hu10 HG.out).new hnb)
    have H10 := Lib.hid (h10.new hnb)
    have HU10 := Lib.hid ((HUX.out.trans hu10 (fun _ _ e => e)).transNew hnb)
    have HSL := Lib.hid hslb
    clear h10 hu10 hnb hslb
    go_wp2_with fail
    refine (getBB HB.out HSL.out).mono ?_
    rintro e w11 ⟨y, er, rfl, hyb, hy11, hn11⟩
    rw [HWB.out] at hyb
    subst hyb
    have HN11 := Lib.hid (HN10.out.new hn11)
    have HP11 := Lib.hid (HP10.out.new hn11)
    have H11 := Lib.hid (H10.out.new hn11)
    have HU11 := Lib.hid (HU10.out.transNew hn11)
    have HY11 := Lib.hid hy11
    obtain ⟨⟨yc, yr, ys, yl⟩, yA, ycap⟩ := y
    obtain ⟨z0, z1, z2, z3, z4, z5, z6, z7, z8, zz⟩ := Blk9N HN11.out
    clear hrun hy11 hn11
    dsimp only [BtV.val, BtV.sl, batV]
    go_upto_region 3 with fail
    have h9 := Blk9tail (b5 := .int .u64 (yc : Int)) (b6 := .int .u64 (yr : Int)) (b7 := .int .u64 (ys : Int)) (b8 := .slice yA yl.length ycap) HN11.out
    have HN12 := Lib.hid h9.1
    have HU9 := Lib.hid h9.2
    have H12 := Lib.hid (H11.out.far h9.2 HN11.out noU8 HNG.out (fun p hp => by have := (HCLT.out p nb hp); have := HNS.out; omega))
    have HP12 := Lib.hid (HP11.out.upd h9.2 (fun e => Blk.ne_ HP11.out HN11.out (by decide) e))
    have HU12 := Lib.hid (HU11.out.trans h9.2 (fun k hk e => by have := HNS.out; omega))
    have HY12 := Lib.hid (HY11.out.upd h9.2 (Off.blk HN11.out (by decide)))
    clear h9 z0 z1 z2 z3 z4 z5 z6 z7 z8 zz
    generalize World.setCell _ ⟨nb, 8, none⟩ _ = w12 at *
    obtain ⟨z0, z1, z2, z3, z4, z5, z6, z7, z8, zz⟩ := Blk9N HN12.out
    have k2 : w12.cell? ⟨w.heap.size, 1, none⟩ = some (.int .i64 ds) := HP12.out.cell 1
    cases hx : x.rep ds with
    | none =>
      obtain rfl : x = R := by rw [← HRR.out]; unfold Clu.noted; dsimp only; rw [hx]
      have HX2 := Lib.hid hx
      clear hx
      go_wp2_with fail
      refine (Replica_no H12.out.cu ds HDS.out HX2.out).mono ?_
      rintro e w13 ⟨rfl, rfl⟩
      go_wp2_with fail
      refine bodyPost_end (v := .tuple #[]) (by kernel_rfl) rfl ⟨rfl, ?_⟩
      exact (TurnG.of HU12.out (Turned.refl H12.out.cu)).mono (by omega)
    | some r =>
      obtain ⟨i, rfl, hr, hg⟩ := rep_at hx
      obtain rfl : (x.setR (i : Int) (r.receive ⟨(k : Int), fr, (i : Int), ep, t, ⟨yc, yr, ys, yl⟩⟩)).flush (i : Int) = R := by rw [← HRR.out]; unfold Clu.noted; dsimp only; rw [hx]
      have HR := Lib.hid hr
      have HGO := Lib.hid hg
      have HRP := Lib.hid (H12.out.cu.pt (.rp i) r hr)
      have HRN := Lib.hid (rpn_of H12.out.cu HOK.out (by omega) hr)
      clear hx hr hg
      go_wp2_with fail
      refine (Replica_yes H12.out.cu HR.out HGO.out).mono ?_
      rintro e w13 ⟨rfl, rfl⟩
      go_wp2_with fail
      refine (rreceive HRP.out ⟨(k : Int), fr, (i : Int), ep, t, ⟨⟨yc, yr, ys, yl⟩, yA, ycap⟩⟩ HY12.out HT.out (by omega)).mono ?_
      rintro e w14 ⟨rfl, hp14⟩
      have HP14 := Lib.hid hp14
      have k3 : w14.cell? ⟨w.heap.size, 1, none⟩ = some (.int .i64 (i : Int)) := by
        obtain ⟨L', _, _, hu⟩ := hp14
        exact (keepR hu (b := w.heap.size) HP12.out.lt (fun hk => by have := HCLT.out (.rp i) _ ⟨H12.out.cu.rlt HR.out, hk⟩; omega) 1).trans k2
      have k4 : w.heap.size < w14.heap.size := by
        obtain ⟨L', _, _, hu⟩ := hp14
        exact Nat.lt_of_lt_of_le HP12.out.lt hu.size
      clear hp14 z0 z1 z2 z3 z4 z5 z6 z7 z8 zz k2
      go_wp2_with fail
      refine (cFlushAfter H12.out.cu (by omega) (by omega) HR.out HP14.out (HRN.out.receive _ (by have := HRP.out.ll; omega)) (HOK.out.wt _)).mono ?_
      rintro e w15 ⟨rfl, ht15⟩
      have HT15 := Lib.hid ((TurnG.of HU12.out ht15).mono (show B + 20 + 1 ≤ B + 30 by omega))
      clear ht15
      go_wp2_with fail
      refine bodyPost_end (v := .tuple #[]) (by kernel_rfl) rfl ⟨rfl, ?_⟩
      exact HT15.out
end
end Go.Proofs.YtlhlcdjkacglnaaGreatDoor
/- Chapter 26 (cluster): a client's batch arrives. Printed by genCu14.py. -/
namespace Go.Proofs.YtlhlcdjkacglnaaGreatDoor
open Go.RowKit Go.Lap C
set_option linter.unusedVariables false
set_option linter.unusedSimpArgs false
section
variable {w w' W w1 : World} {S F : Nat → Prop} {up B C g n m : Nat} {L : CuL} {x x' : Clu}
theorem TurnG.go {L0 : CuL} (hs : Sm L0 L) (hf : ∀ p k, CuF up L p k → (∃ q, CuF up L0 q k) ∨ w.heap.size ≤ k) (hu : Upd (fun k => (∃ p, CuF up L0 p k) ∨ k = g) w W) (h : Turned W up C L x' w') : TurnG w g up C L0 x' w' := by
  obtain ⟨L', h1, h3, h4, h5⟩ := h
  refine ⟨L', hs.trans h1, h3, fun p k hk => ?_, hu.trans h5 (fun k hlt ⟨p, hk⟩ => ?_)⟩
  · rcases h4 p k hk with ⟨q, hq⟩ | h6
    · exact hf q k hq
    · exact .inr (Nat.le_trans hu.size h6)
  · rcases hf p k hk with h6 | h6
    · exact .inl h6
    · omega
set_option maxRecDepth 100000 in
set_option maxHeartbeats 16000000 in
theorem cRequested {v : Value} {b : Btc} (h : RC w up B L x g v (txtB (bB b) ++ [])) (hok : CluOk L.m B x) (hB : B ≤ 8000000) (hb : b.Ok) (hwb : wireB b = b) {fr ds : Int} (hfr : isCl L.m fr) (hds : inI ds) (s : ByteArray) (m : CMsg) :
    Calls Tryz.prog 81 #[.pointer (some ⟨up, 0, none⟩), .agg #[.int .i64 fr, .int .i64 ds, .string s], .pointer (some ⟨g, 0, none⟩)] w (fun e w' => e = .returned (.tuple #[]) ∧ TurnG w g up (B + 60) L (x.requested ⟨fr, ds, m⟩ b) w') := by
  obtain ⟨R, hR⟩ : ∃ R, x.requested ⟨fr, ds, m⟩ b = R := ⟨_, rfl⟩
  rw [hR]
  have HRR := Lib.hid hR
  have HOK := Lib.hid hok
  have hN0 := (New.refl w).alloc (.cells #[.int .i64 fr, .int .i64 ds, .string s] 111)
  have HPB := Lib.hid (Blk.mk_new w 111 #[.int .i64 fr, .int .i64 ds, .string s])
  have H := Lib.hid (h.new hN0)
  have HU : Hid (Upd (· = g) w (w.alloc (.cells #[.int .i64 fr, .int .i64 ds, .string s] 111))) := Lib.hid (Upd.new hN0)
  have HG : Hid (w.heap.size ≠ g) := Lib.hid (fun e => by have := h.rd.1.lt; omega)
  have HCLT : Hid (∀ p k, CuF up L p k → k < w.heap.size) := Lib.hid (fun p k hk => (h.cu.cln p k hk).1)
  have l4 := bB_len b hb
  have HB := Lib.hid hb
  have HWB := Lib.hid hwb
  have HDS := Lib.hid hds
  have HFR := Lib.hid hfr
  clear h hN0 hok hR hb hwb hds hfr
  go_enter Tryz.func81, Tryz.ntmps81
  go_upto_region 1 with fail
  have HSW : Hid (w.heap.size < (w.alloc (.cells #[.int .i64 fr, .int .i64 ds, .string s] 111)).heap.size) := Lib.hid HPB.out.lt
  generalize w.alloc _ = w0 at *
  obtain ⟨pb, hpb⟩ : ∃ pb, w.heap.size = pb := ⟨_, rfl⟩
  rw [hpb] at HPB HG HSW ⊢
  have HPBW := Lib.hid hpb
  clear hpb
  have k2 : w0.cell? ⟨pb, 1, none⟩ = some (.int .i64 ds) := HPB.out.cell 1
  cases hx : x.rep ds with
  | none =>
    obtain rfl : x = R := by rw [← HRR.out]; unfold Clu.requested; dsimp only; rw [hx]
    have HX2 := Lib.hid hx
    clear hx
    go_wp2_with fail
    refine (Replica_no H.out.cu ds HDS.out HX2.out).mono ?_
    rintro e w13 ⟨rfl, rfl⟩
    go_wp2_with fail
    refine (rtextC H.out (by omega) (by simp)).mono ?_
    rintro e w10 ⟨v10, rfl, h10, hu10⟩
    obtain ⟨vb, wb, hrun, hslb, hnb⟩ := D.run_bytesP (str (bB b)) w10
    rw [show (str (bB b)).data.toList = bB b from D.str_list _] at hslb
    have H10 := Lib.hid (h10.new hnb)
    have HU10 := Lib.hid ((HU.out.trans hu10 (fun _ _ e => e)).transNew hnb)
    have HSL := Lib.hid hslb
    clear h10 hu10 hnb hslb
    go_wp2_with fail
    refine (getBB HB.out HSL.out).mono ?_
    rintro e w11 ⟨y, er, rfl, hyb, hy11, hn11⟩
    obtain ⟨⟨yc, yr, ys, yl⟩, yA, ycap⟩ := y
    have hn12 := hn11.alloc (.cells #[.int .u64 (yc : Int), .int .u64 (yr : Int), .int .u64 (ys : Int), .slice yA yl.length ycap] 82)
    have HT := Lib.hid ((TurnG.of (HU10.out.transNew hn12) (Turned.refl (H10.out.new hn12).cu)).mono (show B ≤ B + 60 by omega))
    clear hrun hy11 hn11 hyb hn12
    dsimp only [BtV.val, BtV.sl, batV]
    go_wp2_with fail
    exact bodyPost_ret (v := .tuple #[]) (by simp [results, Tryz.results81, go_sem]) rfl ⟨rfl, HT.out⟩
  | some r =>
    obtain ⟨i, rfl, hr, hg⟩ := rep_at hx
    have HX2 := Lib.hid hx
    have HR := Lib.hid hr
    have HGO := Lib.hid hg
    clear hx hr hg
    go_wp2_with fail
    refine (Replica_yes H.out.cu HR.out HGO.out).mono ?_
    rintro e w13 ⟨rfl, rfl⟩
    go_wp2_with fail
    refine (rtextC H.out (by omega) (by simp)).mono ?_
    rintro e w10 ⟨v10, rfl, h10, hu10⟩
    obtain ⟨vb, wb, hrun, hslb, hnb⟩ := D.run_bytesP (str (bB b)) w10
    rw [show (str (bB b)).data.toList = bB b from D.str_list _] at hslb
    have H10 := Lib.hid (h10.new hnb)
    have HU10 := Lib.hid ((HU.out.trans hu10 (fun _ _ e => e)).transNew hnb)
    have HP10 := Lib.hid ((HPB.out.upd hu10 HG.out).new hnb)
    have HSL := Lib.hid hslb
    clear h10 hu10 hnb hslb
    go_wp2_with fail
    refine (getBB HB.out HSL.out).mono ?_
    rintro e w11 ⟨y, er0, rfl, hyb, hy11, hn11⟩
    rw [HWB.out] at hyb
    subst hyb
    obtain ⟨⟨yc, yr, ys, yl⟩, yA, ycap⟩ := y
    have HN11S : Hid (wb.heap.size ≤ w11.heap.size) := Lib.hid hn11.size
    have hn12 := hn11.alloc (.cells #[.int .u64 (yc : Int), .int .u64 (yr : Int), .int .u64 (ys : Int), .slice yA yl.length ycap] 82)
    have H12 := Lib.hid (H10.out.new hn12)
    have HU12 := Lib.hid (HU10.out.transNew hn12)
    have HP12 := Lib.hid (HP10.out.new hn12)
    have HY12 := Lib.hid (hy11.new ((New.refl w11).alloc (.cells #[.int .u64 (yc : Int), .int .u64 (yr : Int), .int .u64 (ys : Int), .slice yA yl.length ycap] 82)))
    have HBB := Lib.hid (Blk.mk_new w11 82 #[.int .u64 (yc : Int), .int .u64 (yr : Int), .int .u64 (ys : Int), .slice yA yl.length ycap])
    clear hrun hy11 hn11 hn12 k2
    dsimp only [BtV.val, BtV.sl, batV]
    go_upto_region 3 with fail
    generalize w11.alloc _ = w12 at *
    obtain ⟨bb, hbb⟩ : ∃ bb, w11.heap.size = bb := ⟨_, rfl⟩
    rw [hbb] at HBB ⊢
    have HNBB : Hid (∀ p, ¬ CuF up L p bb) := Lib.hid (fun p hp => by have := HCLT.out p bb hp; have := HU10.out.size; have := HN11S.out; omega)
    clear hbb
    have HRP := Lib.hid (H12.out.cu.pt (.rp i) r HR.out)
    have HRN := Lib.hid (rpn_of H12.out.cu HOK.out (by omega) HR.out)
    have HOKI : Hid (CluOk L.m B x) := HOK
    obtain ⟨b0, b1, b2, b3, b4, bz⟩ := Blk4K HBB.out
    go_wp2_with fail
    refine (rsubmit HRP.out HY12.out (by omega)).mono ?_
    rintro e w13 ⟨rfl, hp13⟩
    have HEQ : Hid (x.requested ⟨fr, (i : Int), m⟩ ⟨yc, yr, ys, yl⟩ = (if (r.submit ⟨yc, yr, ys, yl⟩).2.2 = 0 ∧ ((r.submit ⟨yc, yr, ys, yl⟩).2.1.e = 0 ∨ (r.submit ⟨yc, yr, ys, yl⟩).2.1.e = 191) then
        ({ x.setR (i : Int) (r.submit ⟨yc, yr, ys, yl⟩).1 with wt := setD x.wt (i : Int) (x.wt (i : Int) ++ [⟨fr, yr, (r.submit ⟨yc, yr, ys, yl⟩).2.1, if (r.submit ⟨yc, yr, ys, yl⟩).2.1.e = 191 then (r.submit ⟨yc, yr, ys, yl⟩).1.l.length else (r.submit ⟨yc, yr, ys, yl⟩).2.1.t⟩]) } : Clu) else x.setR (i : Int) (r.submit ⟨yc, yr, ys, yl⟩).1).flush (i : Int)) := Lib.hid (by
      unfold Clu.requested
      dsimp only
      rw [HX2.out]
      rfl)
    have hsv := submitV (HOK.out.rp i r HR.out).2.2.2 ⟨yc, yr, ys, yl⟩
    have hrn := HRN.out.submit ⟨yc, yr, ys, yl⟩ (by have := HRP.out.ll; omega)
    dsimp only at hp13
    generalize r.submit ⟨yc, yr, ys, yl⟩ = sb at *
    obtain ⟨r', ⟨vt, ve⟩, er⟩ := sb
    dsimp only at hsv hrn hp13 HEQ ⊢
    obtain ⟨L1, hs1, ha1, hf1, hu1⟩ := H12.out.cu.turnR HR.out (show B ≤ B + 20 by omega) hp13
    have hrs1 : (x.setR (i : Int) r').rs[i]? = some r' := by
      show (x.rs.set (i : Int).toNat r')[i]? = _
      rw [Int.toNat_natCast, List.getElem?_set_self (by have := H12.out.cu.rl; have := H12.out.cu.rlt HR.out; omega)]
    have hrp1 := ha1.pt (.rp i) r' hrs1
    have hla : r'.j.la ≤ B + 20 := hrp1.j.la
    have hll : r'.l.length ≤ B + 20 := hrp1.ll
    have HVT : Hid (vt ≤ B + 20 ∧ 0 ≤ ve ∧ ve ≤ 1000) := Lib.hid ⟨Nat.le_trans hsv.2.1 hla, hsv.2.2⟩
    have HLL := Lib.hid hll
    have hu1g : Upd (fun k => (∃ p, CuF up L p k) ∨ k = g) w w13 := (HU12.out.mono fun k _ e => (.inr e : (∃ p, CuF up L p k) ∨ k = g)).trans hu1 (fun k _ h => .inl h)
    have hwsz : pb < w12.heap.size := HP12.out.lt
    have hnp : ∀ p, ¬ CuF up L1 p pb := fun p hp => by
      rcases hf1 p pb hp with ⟨q, hq⟩ | h3
      · have := HCLT.out q pb hq; have := HPBW.out; omega
      · omega
    have hnbb : ∀ p, ¬ CuF up L p bb := fun p hp => by
      have h3 := (H12.out.cu.cln p bb hp).1
      exact HNBB.out p hp
    have HP13 := Lib.hid (HP12.out.upd hu1 (fun ⟨p, hp⟩ => by have := HCLT.out p pb hp; have := HPBW.out; omega))
    have HB13 := Lib.hid (HBB.out.upd hu1 (fun ⟨p, hp⟩ => hnbb p hp))
    have hn5 := ((New.refl w13).alloc (.cells #[.int .u64 (vt : Int), .int .i64 ve] 46)).alloc (.cells #[.int .i64 fr, .int .u64 (yr : Int), .int .u64 (vt : Int), .int .i64 ve, .int .u64 (vt : Int)] 180)
    have HA5 := Lib.hid (ha1.new hn5)
    have HS5 := Lib.hid hs1
    have HF5 : Hid (∀ p k, CuF up L1 p k → (∃ q, CuF up L q k) ∨ w.heap.size ≤ k) := Lib.hid (fun p k hk => (hf1 p k hk).imp id (fun h => Nat.le_trans HU12.out.size h))
    have HU5 := Lib.hid (hu1g.transNew hn5)
    have HP5 := Lib.hid (HP13.out.new hn5)
    have HV5 := Lib.hid ((Blk.mk_new w13 46 #[.int .u64 (vt : Int), .int .i64 ve]).alloc (.cells #[.int .i64 fr, .int .u64 (yr : Int), .int .u64 (vt : Int), .int .i64 ve, .int .u64 (vt : Int)] 180))
    have HY5 := Lib.hid (alloc2 w13 (.cells #[.int .u64 (vt : Int), .int .i64 ve] 46) 180 #[.int .i64 fr, .int .u64 (yr : Int), .int .u64 (vt : Int), .int .i64 ve, .int .u64 (vt : Int)])
    have HNP := Lib.hid hnp
    have HVW : Hid (w.heap.size ≤ w13.heap.size) := Lib.hid hu1g.size
    have HNY : Hid (∀ p, ¬ CuF up L1 p (w13.heap.size + 1)) := Lib.hid (fun p hp => by have := (ha1.cln p _ hp).1; omega)
    have HRS1 := Lib.hid hrs1
    have HRN1 := Lib.hid hrn
    have HWO : Hid (∀ z ∈ x.wt (i : Int), z.Ok L.m) := Lib.hid (HOK.out.wt _)
    have HYR : Hid (yr < big) := Lib.hid HB.out.r
    clear hsv hrn hs1 ha1 hf1 hu1 hrs1 hrp1 hla hll hu1g hwsz hnp hnbb hn5 hp13 b0 b1 b2 b3 b4 bz HRN HRP
    obtain ⟨b0, b1, b2, b3, b4, bz⟩ := Blk4K HB13.out
    have p0 : w13.cell? ⟨pb, 0, none⟩ = some (.int .i64 fr) := HP13.out.cell 0
    have pl : pb < w13.heap.size := HP13.out.lt
    go_upto_region 6 with fail
    clear b0 b1 b2 b3 b4 bz p0 pl
    generalize (w13.alloc _).alloc _ = w5 at *
    generalize w13.heap.size = vb at *
    obtain ⟨yb, hyb⟩ : ∃ yb, vb + 1 = yb := ⟨_, rfl⟩
    rw [hyb] at HY5 HNY ⊢
    have HYW : Hid (w.heap.size ≤ yb) := Lib.hid (by have := HVW.out; omega)
    clear hyb
    have v0 : w5.cell? ⟨vb, 0, none⟩ = some (.int .u64 (vt : Int)) := HV5.out.cell 0
    have v1 : w5.cell? ⟨vb, 1, none⟩ = some (.int .i64 ve) := HV5.out.cell 1
    have vl : vb < w5.heap.size := HV5.out.lt
    obtain ⟨y0, y1, y2, y3, y4, y5, yz⟩ := Blk5U HY5.out
    have HRL : Hid (RpAt w5 (L.rp i) (B + 20) (L1.rl i) r') := Lib.hid (by have := HA5.out.pt (.rp i) r' HRS1.out; rw [HS5.out.2.2.1] at this; exact this)
    have hlen : r'.l.length ≤ 9000000 := by have := HLL.out; omega
    have hwu : IntKind.u64.wrap (r'.l.length : Int) = (r'.l.length : Int) := by rw [IntKind.wrap_u64]; omega
    have hwm : (r'.l.length : Int) % 18446744073709551616 = (r'.l.length : Int) := by omega
    by_cases h191 : ve = 191
    focus
      have q1 : (ve == 191) = true := by simpa using h191
      have q3 : (ve == 0) = false := by rw [h191]; decide
      have HUN0 : Hid (r'.l.length = if ve = 191 then r'.l.length else vt) := Lib.hid (if_pos h191).symm
      have HOR : Hid (ve = 0 ∨ ve = 191) := Lib.hid (.inr h191)
      clear h191
      go_wp2_with fail
      refine (rlist HRL.out (by omega)).mono ?_
      rintro e w6 ⟨lv, rfl, hlr, hn6⟩
      obtain ⟨lA, lc, rfl⟩ := hlr.shape
      have HY6 := Lib.hid (HY5.out.new hn6)
      have HN6 := Lib.hid hn6
      clear hlr hn6 v0 v1 vl y0 y1 y2 y3 y4 y5 yz
      obtain ⟨y0, y1, y2, y3, y4, y5, yz⟩ := Blk5U HY6.out
      go_upto_region 8 with fail
      have hu : Upd (· = yb) w6 (w6.setCell ⟨yb, 4, none⟩ (.int .u64 (r'.l.length : Int))) := (Upd.refl _ w6).setIn 4 _
      have hhy : yb < w5.heap.size := HY5.out.lt
      have HY : Hid (Blk (w6.setCell ⟨yb, 4, none⟩ (.int .u64 (r'.l.length : Int))) yb 180 #[.int .i64 fr, .int .u64 (yr : Int), .int .u64 (vt : Int), .int .i64 ve, .int .u64 (r'.l.length : Int)]) := Lib.hid (HY6.out.set_ 4 (.int .u64 (r'.l.length : Int)))
      have HA := Lib.hid ((HA5.out.new HN6.out).upd hu (fun p k hk e => HNY.out p (e ▸ hk)) (Off.blk HY6.out (by decide)) (Off.blk HY6.out (by decide)))
      have HUW := Lib.hid ((HU5.out.transNew HN6.out).trans hu (fun k hk e => by have := HYW.out; omega))
      have HP := Lib.hid ((HP5.out.new HN6.out).upd hu (fun e => Blk.ne_ HP5.out HY5.out (by decide) e))
      have HV := Lib.hid ((HV5.out.new HN6.out).upd hu (fun e => Blk.ne_ HV5.out HY5.out (by decide) e))
      clear hu y0 y1 y2 y3 y4 y5 yz hhy HN6 HY6
      generalize w6.setCell ⟨yb, 4, none⟩ (.int .u64 (r'.l.length : Int)) = W at *
      obtain ⟨un, hun⟩ : ∃ un, un = r'.l.length := ⟨_, rfl⟩
      rw [← hun] at HY
      have HUN : Hid (un = if ve = 191 then r'.l.length else vt) := by rw [hun]; exact HUN0
      have HUNB : Hid (un < big) := Lib.hid (by rw [hun]; unfold big; omega)
      clear hun
      by_cases her : er = 0
      focus
        have q2 : (er == 0) = true := by simpa using her
        have HYES : Hid (er = 0 ∧ (ve = 0 ∨ ve = 191)) := Lib.hid ⟨her, HOR.out⟩
        clear her
      rotate_left
      focus
        have q2 : (er == 0) = false := by simpa using her
        have HNC : Hid (¬ (er = 0 ∧ (ve = 0 ∨ ve = 191))) := Lib.hid (fun h => her h.1)
        clear her
      rotate_left
    rotate_left
    rotate_left
    focus
      have q1 : (ve == 191) = false := by simpa using h191
      have HUN0 : Hid (vt = if ve = 191 then r'.l.length else vt) := Lib.hid (if_neg h191).symm
      have HN191 := Lib.hid h191
      clear h191
      go_upto_region 8 with fail
      have HY0 := HY5
      have HA := HA5
      have HUW := HU5
      have HP := HP5
      have HV := HV5
      obtain ⟨un, hun⟩ : ∃ un, un = vt := ⟨_, rfl⟩
      have HY : Hid (Blk w5 yb 180 #[.int .i64 fr, .int .u64 (yr : Int), .int .u64 (vt : Int), .int .i64 ve, .int .u64 (un : Int)]) := by rw [hun]; exact HY0
      have HUN : Hid (un = if ve = 191 then r'.l.length else vt) := by rw [hun]; exact HUN0
      have HUNB : Hid (un < big) := Lib.hid (by rw [hun]; have := HVT.out.1; unfold big; omega)
      clear hun HUN0 HY0 v0 v1 vl y0 y1 y2 y3 y4 y5 yz
      obtain ⟨W, hW⟩ : ∃ W, w5 = W := ⟨_, rfl⟩
      rw [hW] at HY HA HUW HP HV ⊢
      clear hW HA5 HU5 HP5 HV5 HRL HY5
      by_cases hcd : er = 0 ∧ ve = 0
      focus
        have q2 : (er == 0) = true := by simpa using hcd.1
        have q3 : (ve == 0) = true := by simpa using hcd.2
        have HYES : Hid (er = 0 ∧ (ve = 0 ∨ ve = 191)) := Lib.hid ⟨hcd.1, .inl hcd.2⟩
        clear hcd
      rotate_left
      focus
        have HNC : Hid (¬ (er = 0 ∧ (ve = 0 ∨ ve = 191))) := Lib.hid (fun h => h.2.elim (fun e => hcd ⟨h.1, e⟩) HN191.out)
        by_cases her : er = 0
        focus
          have q2 : (er == 0) = true := by simpa using her
          have q3 : (ve == 0) = false := by simpa using fun e => hcd ⟨her, e⟩
          clear her hcd
        rotate_left
        focus
          have q2 : (er == 0) = false := by simpa using her
          clear her hcd
    all_goals
      have v0 : W.cell? ⟨vb, 0, none⟩ = some (.int .u64 (vt : Int)) := HV.out.cell 0
      have v1 : W.cell? ⟨vb, 1, none⟩ = some (.int .i64 ve) := HV.out.cell 1
      have vl : vb < W.heap.size := HV.out.lt
      have p1 : W.cell? ⟨pb, 1, none⟩ = some (.int .i64 (i : Int)) := HP.out.cell 1
      have pl : pb < W.heap.size := HP.out.lt
    all_goals first
      | (have hyes := HYES; clear hyes; skip)
      | (rw [if_neg HNC.out] at HEQ
         go_wp2_with fail
         refine (cFlush HA.out (by omega) HRS1.out HRN1.out.out (by rw [HS5.out.2.1]; exact HWO.out)).mono ?_
         rintro e w9 ⟨rfl, ht9⟩
         have HT := Lib.hid ((TurnG.go HS5.out HF5.out HUW.out ht9).mono (show B + 20 + 1 ≤ B + 60 by omega))
         clear ht9
         go_wp2_with fail
         refine bodyPost_end (v := .tuple #[]) (by kernel_rfl) rfl ⟨rfl, ?_⟩
         rw [← HRR.out, HEQ.out]
         exact HT.out)
    all_goals
      go_upto_region 9 with fail
      have HWTA : Hid (WtAt W L1.n (B + 20) L1.wm L1.wv x.wt) := Lib.hid (HA.out.pt .wt)
      have HIL : Hid (i < L1.n) := Lib.hid (HA.out.rlt HRS1.out)
      have HI : Hid (D.okI (i : Int)) := Lib.hid (okI_of (by have := HA.out.nm; have := HIL.out; exact ⟨by omega, by omega⟩))
      obtain ⟨wv, hwv, hrow, hown⟩ := WtAt.look HWTA.out HIL.out
      obtain ⟨m1, hm1, hmp1⟩ := HWTA.out.mp
      have HWV := Lib.hid hwv
      have HROW := Lib.hid hrow
      have HOWN := Lib.hid hown
      have HM := Lib.hid hmp1
      have HML := Lib.hid hm1
      have HWL : Hid ((x.wt (i : Int)).length ≤ B + 20) := Lib.hid (HWTA.out.row i HIL.out).2
      have hown2 : ∀ k, wv.ownBlock = some k → CuF up L1 .wt k := fun k hk => .inr ⟨i, HIL.out, hown k hk⟩
      have HQ0 : Hid (¬ wv.ownBlock = some up) := Lib.hid (fun h => HA.out.dj .top .wt (by simp) up rfl (hown2 _ h))
      have HQ1 : Hid (¬ wv.ownBlock = some pb) := Lib.hid (fun h => HNP.out .wt (hown2 _ h))
      have HQ2 : Hid (¬ wv.ownBlock = some yb) := Lib.hid (fun h => HNY.out .wt (hown2 _ h))
      have HQW : Hid (¬ wv.ownBlock = some L1.wm) := Lib.hid (fun h => Row.ne_map hrow hmp1 h)
      have HR0 : Hid (¬ up = L1.wm) := Lib.hid (fun h => HA.out.dj .top .wt (by simp) up rfl (.inl h))
      have HR1 : Hid (¬ pb = L1.wm) := Lib.hid (fun h => HNP.out .wt (.inl h))
      have HR2 : Hid (¬ yb = L1.wm) := Lib.hid (fun h => HNY.out .wt (.inl h))
      have c0 := HA.out.top.c7
      have g0 := HA.out.top.lt
      have c1 : W.cell? ⟨pb, 1, none⟩ = some (.int .i64 (i : Int)) := HP.out.cell 1
      have gp := HP.out.lt
      obtain ⟨gy, c2, c3, c4, c5, c6, cz⟩ := Blk5U HY.out
      have HWMS : Hid (L1.wm < W.heap.size) := Lib.hid hmp1.lt
      clear hwv hrow hown hmp1 hm1 hown2 v0 v1 vl p1 pl
      refine wp_region_held_drew (S := fun w' => w'.cell? ⟨up, 7, none⟩ = some (.map (some L1.wm)) ∧ w'.cell? ⟨pb, 1, none⟩ = some (.int .i64 (i : Int)) ∧ w'.cell? ⟨yb, 0, none⟩ = some (.int .i64 fr) ∧ w'.cell? ⟨yb, 1, none⟩ = some (.int .u64 (yr : Int)) ∧ w'.cell? ⟨yb, 2, none⟩ = some (.int .u64 (vt : Int)) ∧ w'.cell? ⟨yb, 3, none⟩ = some (.int .i64 ve) ∧ w'.cell? ⟨yb, 4, none⟩ = some (.int .u64 (un : Int))) (by kernel_rfl) (⟨c0, c1, c2, c3, c4, c5, c6⟩) (fun hHeld => ?_)
      refine tkN (i := 0) rfl ?_
      try simp only [Act.put, sA, sZ, sS]
      refine tkN (i := 1) rfl ?_
      try simp only [Act.put, sA, sZ, sS]
      refine tkN (i := 2) rfl ?_
      try simp only [Act.put, sA, sZ, sS]
      refine tkN (i := 3) rfl ?_
      try simp only [Act.put, sA, sZ, sS]
      refine tkN (i := 4) rfl ?_
      try simp only [Act.put, sA, sZ, sS]
      refine tkN (i := 5) rfl ?_
      try simp only [Act.put, sA, sZ, sS]
      refine tkN (i := 6) rfl ?_
      try simp only [Act.put, sA, sZ, sS]
      refine tkN (i := 7) rfl ?_
      try simp only [Act.put, sA, sZ, sS]
      refine tkN (i := 8) rfl ?_
      try simp only [Act.put, sA, sZ, sS]
      refine tkN (i := 9) rfl ?_
      try simp only [Act.put, sA, sZ, sS]
      refine tkN (i := 10) rfl ?_
      try simp only [Act.put, sA, sZ, sS]
      refine tkN (i := 11) rfl ?_
      try simp only [Act.put, sA, sZ, sS]
      refine tkN (i := 13) rfl ?_
      try simp only [Act.put, sA, sZ, sS]
      refine wpAnyH_ready (rs := [12, 14]) (by kernel_rfl) (by simp) ?_
      refine rdN rfl (fun K hK => ?_) (rdN rfl (fun K hK => ?_) AllReadyH.nil)
      have hlk := mpGetR D.keyI64 (HM.out.new (New.refl W).drew) Tryz.underlying98 (zeroW _) (i : Int) HI.out
      rw [HWV.out] at hlk
      go_simp
      refine hK.out _ _ ?_ (fun hHeld => ?_)
      · exact ⟨c0, c1, c2, c3, c4, c5, c6⟩
      clear hK K
      try simp only [Act.put, sA, sZ, sS]
      refine stN (i := 14) rfl (fun K hK => ?_)
      go_simp
      have HNA : Hid (New W (W.alloc (.cells #[.int .i64 fr, .int .u64 (yr : Int), .int .u64 (vt : Int), .int .i64 ve, .int .u64 (un : Int)] 180)).drew) := Lib.hid ((New.refl W).alloc _).drew
      have HPA : Hid (Blk (W.alloc (.cells #[.int .i64 fr, .int .u64 (yr : Int), .int .u64 (vt : Int), .int .i64 ve, .int .u64 (un : Int)] 180)).drew W.heap.size 180 #[.int .i64 fr, .int .u64 (yr : Int), .int .u64 (vt : Int), .int .i64 ve, .int .u64 (un : Int)]) := Lib.hid (Blk.mk_new W _ _)
      generalize (W.alloc (.cells #[.int .i64 fr, .int .u64 (yr : Int), .int .u64 (vt : Int), .int .i64 ve, .int .u64 (un : Int)] 180)).drew = wa at *
      have d0 := (HNA.out.cells.1 _ _ g0).trans c0
      have d1 := (HNA.out.cells.1 _ _ gp).trans c1
      have d2 := (HNA.out.cells.1 _ _ gy).trans c2
      have d3 := (HNA.out.cells.1 _ _ gy).trans c3
      have d4 := (HNA.out.cells.1 _ _ gy).trans c4
      have d5 := (HNA.out.cells.1 _ _ gy).trans c5
      have d6 := (HNA.out.cells.1 _ _ gy).trans c6
      refine hK.out _ _ ?_ (fun hHeld => ?_)
      · exact ⟨d0, d1, d2, d3, d4, d5, d6⟩
      clear hK K
      try simp only [Act.put, sA, sZ, sS]
      refine stN (i := 15) rfl (fun K hK => ?_)
      refine step_appR (v := wv) (vx := .slice (some ⟨W.heap.size, 0, none⟩) 1 1) (m := [⟨fr, yr, ⟨vt, ve⟩, un⟩]) wtTy Wt.encOk rfl (.tmp 71) (.tmp 73) rfl rfl rfl (HROW.out.new HNA.out) (SlIn.one (x := (⟨fr, yr, ⟨vt, ve⟩, un⟩ : Wt)) HPA.out Wt.encOk rfl) (by have := HWL.out; simp only [List.length_singleton]; unfold maxLen; omega) (by have := HWL.out; simp only [List.length_singleton]; omega) (Nat.zero_le _) ?_
      intro lf w7 h7 hg7 hv7
      have HU7 : Hid (Upd (fun k => (wv : Value).ownBlock = some k) wa w7) := Lib.hid ((Upd.refl _ wa).grown hg7 (fun k _ e => e))
      have H7 := Lib.hid h7
      have HV7 := Lib.hid hv7
      have e0 := (keepR HU7.out (Nat.lt_of_lt_of_le g0 HNA.out.size) HQ0.out _).trans d0
      have e1 := (keepR HU7.out (Nat.lt_of_lt_of_le gp HNA.out.size) HQ1.out _).trans d1
      have e2 := (keepR HU7.out (Nat.lt_of_lt_of_le gy HNA.out.size) HQ2.out _).trans d2
      have e3 := (keepR HU7.out (Nat.lt_of_lt_of_le gy HNA.out.size) HQ2.out _).trans d3
      have e4 := (keepR HU7.out (Nat.lt_of_lt_of_le gy HNA.out.size) HQ2.out _).trans d4
      have e5 := (keepR HU7.out (Nat.lt_of_lt_of_le gy HNA.out.size) HQ2.out _).trans d5
      have e6 := (keepR HU7.out (Nat.lt_of_lt_of_le gy HNA.out.size) HQ2.out _).trans d6
      clear h7 hg7 hv7
      refine hK.out _ _ ?_ (fun hHeld => ?_)
      · exact ⟨e0, e1, e2, e3, e4, e5, e6⟩
      clear hK K
      try simp only [Act.put, sA, sZ, sS]
      refine stN (i := 16) rfl (fun K hK => ?_)
      obtain ⟨w8, hrun, hm8, hu8⟩ := mpPutR D.keyI64 ((HM.out.new HNA.out).upd HU7.out HQW.out) Tryz.underlying98 (by have := HML.out; unfold maxLen; omega) (i : Int) HI.out lf
      have HM8 := Lib.hid hm8
      have HU8 := Lib.hid hu8
      have f0 := (keepR hu8 (Nat.lt_of_lt_of_le (Nat.lt_of_lt_of_le g0 HNA.out.size) HU7.out.size) HR0.out _).trans e0
      have f1 := (keepR hu8 (Nat.lt_of_lt_of_le (Nat.lt_of_lt_of_le gp HNA.out.size) HU7.out.size) HR1.out _).trans e1
      have f2 := (keepR hu8 (Nat.lt_of_lt_of_le (Nat.lt_of_lt_of_le gy HNA.out.size) HU7.out.size) HR2.out _).trans e2
      have f3 := (keepR hu8 (Nat.lt_of_lt_of_le (Nat.lt_of_lt_of_le gy HNA.out.size) HU7.out.size) HR2.out _).trans e3
      have f4 := (keepR hu8 (Nat.lt_of_lt_of_le (Nat.lt_of_lt_of_le gy HNA.out.size) HU7.out.size) HR2.out _).trans e4
      have f5 := (keepR hu8 (Nat.lt_of_lt_of_le (Nat.lt_of_lt_of_le gy HNA.out.size) HU7.out.size) HR2.out _).trans e5
      have f6 := (keepR hu8 (Nat.lt_of_lt_of_le (Nat.lt_of_lt_of_le gy HNA.out.size) HU7.out.size) HR2.out _).trans e6
      clear hm8 hu8
      go_simp
      refine hK.out _ _ ?_ (fun hHeld => ?_)
      · exact ⟨f0, f1, f2, f3, f4, f5, f6⟩
      clear hK K
      try simp only [Act.put, sA, sZ, sS]
      refine wpAnyH_done (by kernel_rfl) ?_ _
      clear hHeld
      rotate_left
      go_simp
      have HNA : Hid (New W (W.alloc (.cells #[.int .i64 fr, .int .u64 (yr : Int), .int .u64 (vt : Int), .int .i64 ve, .int .u64 (un : Int)] 180)).drew) := Lib.hid ((New.refl W).alloc _).drew
      have HPA : Hid (Blk (W.alloc (.cells #[.int .i64 fr, .int .u64 (yr : Int), .int .u64 (vt : Int), .int .i64 ve, .int .u64 (un : Int)] 180)).drew W.heap.size 180 #[.int .i64 fr, .int .u64 (yr : Int), .int .u64 (vt : Int), .int .i64 ve, .int .u64 (un : Int)]) := Lib.hid (Blk.mk_new W _ _)
      generalize (W.alloc (.cells #[.int .i64 fr, .int .u64 (yr : Int), .int .u64 (vt : Int), .int .i64 ve, .int .u64 (un : Int)] 180)).drew = wa at *
      have d0 := (HNA.out.cells.1 _ _ g0).trans c0
      have d1 := (HNA.out.cells.1 _ _ gp).trans c1
      have d2 := (HNA.out.cells.1 _ _ gy).trans c2
      have d3 := (HNA.out.cells.1 _ _ gy).trans c3
      have d4 := (HNA.out.cells.1 _ _ gy).trans c4
      have d5 := (HNA.out.cells.1 _ _ gy).trans c5
      have d6 := (HNA.out.cells.1 _ _ gy).trans c6
      refine hK.out _ _ ?_ (fun hHeld => ?_)
      · exact ⟨d0, d1, d2, d3, d4, d5, d6⟩
      clear hK K
      try simp only [Act.put, sA, sZ, sS]
      refine stN (i := 12) rfl (fun K hK => ?_)
      have hlk := mpGetR D.keyI64 (HM.out.new HNA.out) Tryz.underlying98 (zeroW _) (i : Int) HI.out
      rw [HWV.out] at hlk
      go_simp
      refine hK.out _ _ ?_ (fun hHeld => ?_)
      · exact ⟨d0, d1, d2, d3, d4, d5, d6⟩
      clear hK K
      try simp only [Act.put, sA, sZ, sS]
      refine stN (i := 15) rfl (fun K hK => ?_)
      refine step_appR (v := wv) (vx := .slice (some ⟨W.heap.size, 0, none⟩) 1 1) (m := [⟨fr, yr, ⟨vt, ve⟩, un⟩]) wtTy Wt.encOk rfl (.tmp 71) (.tmp 73) rfl rfl rfl (HROW.out.new HNA.out) (SlIn.one (x := (⟨fr, yr, ⟨vt, ve⟩, un⟩ : Wt)) HPA.out Wt.encOk rfl) (by have := HWL.out; simp only [List.length_singleton]; unfold maxLen; omega) (by have := HWL.out; simp only [List.length_singleton]; omega) (Nat.zero_le _) ?_
      intro lf w7 h7 hg7 hv7
      have HU7 : Hid (Upd (fun k => (wv : Value).ownBlock = some k) wa w7) := Lib.hid ((Upd.refl _ wa).grown hg7 (fun k _ e => e))
      have H7 := Lib.hid h7
      have HV7 := Lib.hid hv7
      have e0 := (keepR HU7.out (Nat.lt_of_lt_of_le g0 HNA.out.size) HQ0.out _).trans d0
      have e1 := (keepR HU7.out (Nat.lt_of_lt_of_le gp HNA.out.size) HQ1.out _).trans d1
      have e2 := (keepR HU7.out (Nat.lt_of_lt_of_le gy HNA.out.size) HQ2.out _).trans d2
      have e3 := (keepR HU7.out (Nat.lt_of_lt_of_le gy HNA.out.size) HQ2.out _).trans d3
      have e4 := (keepR HU7.out (Nat.lt_of_lt_of_le gy HNA.out.size) HQ2.out _).trans d4
      have e5 := (keepR HU7.out (Nat.lt_of_lt_of_le gy HNA.out.size) HQ2.out _).trans d5
      have e6 := (keepR HU7.out (Nat.lt_of_lt_of_le gy HNA.out.size) HQ2.out _).trans d6
      clear h7 hg7 hv7
      refine hK.out _ _ ?_ (fun hHeld => ?_)
      · exact ⟨e0, e1, e2, e3, e4, e5, e6⟩
      clear hK K
      try simp only [Act.put, sA, sZ, sS]
      refine stN (i := 16) rfl (fun K hK => ?_)
      obtain ⟨w8, hrun, hm8, hu8⟩ := mpPutR D.keyI64 ((HM.out.new HNA.out).upd HU7.out HQW.out) Tryz.underlying98 (by have := HML.out; unfold maxLen; omega) (i : Int) HI.out lf
      have HM8 := Lib.hid hm8
      have HU8 := Lib.hid hu8
      have f0 := (keepR hu8 (Nat.lt_of_lt_of_le (Nat.lt_of_lt_of_le g0 HNA.out.size) HU7.out.size) HR0.out _).trans e0
      have f1 := (keepR hu8 (Nat.lt_of_lt_of_le (Nat.lt_of_lt_of_le gp HNA.out.size) HU7.out.size) HR1.out _).trans e1
      have f2 := (keepR hu8 (Nat.lt_of_lt_of_le (Nat.lt_of_lt_of_le gy HNA.out.size) HU7.out.size) HR2.out _).trans e2
      have f3 := (keepR hu8 (Nat.lt_of_lt_of_le (Nat.lt_of_lt_of_le gy HNA.out.size) HU7.out.size) HR2.out _).trans e3
      have f4 := (keepR hu8 (Nat.lt_of_lt_of_le (Nat.lt_of_lt_of_le gy HNA.out.size) HU7.out.size) HR2.out _).trans e4
      have f5 := (keepR hu8 (Nat.lt_of_lt_of_le (Nat.lt_of_lt_of_le gy HNA.out.size) HU7.out.size) HR2.out _).trans e5
      have f6 := (keepR hu8 (Nat.lt_of_lt_of_le (Nat.lt_of_lt_of_le gy HNA.out.size) HU7.out.size) HR2.out _).trans e6
      clear hm8 hu8
      go_simp
      refine hK.out _ _ ?_ (fun hHeld => ?_)
      · exact ⟨f0, f1, f2, f3, f4, f5, f6⟩
      clear hK K
      try simp only [Act.put, sA, sZ, sS]
      refine wpAnyH_done (by kernel_rfl) ?_ _
      clear hHeld
      rotate_left
      all_goals
        have hu8 : Upd (fun k => k = L1.wm ∨ (L1.wv i).ownBlock = some k) W w8 := ((Upd.new (S := fun k => k = L1.wm ∨ (L1.wv i).ownBlock = some k) HNA.out).trans HU7.out (fun k _ hk => .inr (HOWN.out k hk))).trans HU8.out (fun k _ hk => .inl hk)
        have hset := WtAt.set_ (w' := w8) HWTA.out (Nat.le_succ (B + 20)) HIL.out (v := lf) (l := x.wt (i : Int) ++ [⟨fr, yr, ⟨vt, ve⟩, un⟩]) (m := _) (by have := HML.out; split <;> omega) (HM8.out.congr fun j _ => by by_cases hj : j = (i : Int) <;> simp [hj])
          (H7.out.upd HU8.out (fun k hk e => by
            subst e
            rcases HV7.out with e2 | e2
            · rw [e2] at hk; exact HQW.out hk
            · rw [e2] at hk; injection hk with hk; have := HWMS.out; have := HNA.out.size; omega)) (by have := HWL.out; rw [List.length_append, List.length_singleton]; omega) hu8
          (fun k hk => by
            rcases HV7.out with e2 | e2
            · rw [e2] at hk; exact .inl (HOWN.out k hk)
            · refine .inr fun hw => ?_
              rw [e2] at hk; injection hk with hk
              have := (HWTA.out.cln _ hw).1; have := HNA.out.size; omega)
        obtain ⟨k1, k2, k3⟩ := hset
        obtain ⟨L9, hs9, ha9, hf9, hu9⟩ := HA.out.turnW (C := B + 20 + 1) (by omega) k1 k2 (fun k hk => by
          rcases k3 k hk with h4 | h4
          · exact .inl h4
          · rcases HV7.out with e2 | e2
            · rw [e2] at h4; exact .inl (.inr ⟨i, HIL.out, HOWN.out k h4⟩)
            · rw [e2] at h4; injection h4 with h4; exact .inr (by rw [← h4]; exact HNA.out.size))
        have HA9 := Lib.hid ha9
        have HS9 := Lib.hid hs9
        have HF9 := Lib.hid hf9
        have HU9 := Lib.hid hu9
        rw [if_pos HYES.out] at HEQ
        have HYK : Hid ((⟨fr, yr, ⟨vt, ve⟩, un⟩ : Wt).Ok L.m) := Lib.hid ⟨HFR.out, HYR.out, ⟨by have := HVT.out.1; show vt < big; unfold big; omega, HVT.out.2⟩, HUNB.out⟩
        clear hu8 k1 k2 k3 ha9 hs9 hf9 hu9 e0 e1 e2 e3 e4 e5 e6
        have hh1 := f1
        have hh2 : pb < w8.heap.size := Nat.lt_of_lt_of_le (Nat.lt_of_lt_of_le (Nat.lt_of_lt_of_le gp HNA.out.size) HU7.out.size) HU8.out.size
        clear c0 c1 c2 c3 c4 c5 c6 cz g0 gp gy f0 f1 f2 f3 f4 f5 f6 hrun
        go_wp2_with fail
        refine (cFlush HA9.out (by omega) HRS1.out HRN1.out.out (by
          rw [HS9.out.2.1, HS5.out.2.1]
          intro z hz
          have hz2 : z ∈ setD x.wt (i : Int) (x.wt (i : Int) ++ [⟨fr, yr, ⟨vt, ve⟩, un⟩]) (i : Int) := hz
          rw [setD_same] at hz2
          rcases List.mem_append.1 hz2 with h | h
          · exact HWO.out z h
          · rw [List.mem_singleton.1 h]; exact HYK.out)).mono ?_
        rintro e w9 ⟨rfl, ht9⟩
        have HT := Lib.hid ((TurnG.go HS5.out HF5.out HUW.out (Turned.trans HS9.out HF9.out HU9.out ht9)).mono (show B + 20 + 1 + 1 ≤ B + 60 by omega))
        rw [HUN.out] at HT
        clear ht9
        go_wp2_with fail
        refine bodyPost_end (v := .tuple #[]) (by kernel_rfl) rfl ⟨rfl, ?_⟩
        rw [← HRR.out, HEQ.out]
        exact HT.out
end
end Go.Proofs.YtlhlcdjkacglnaaGreatDoor
