/- Chapter 24: what ReplicaRestores leans on. Printed by genRsL.py. -/
import Derived.Test.YtecniafnihpjmaaGreatDoorRsJ
import Derived.Test.YtecniafnihpjmaaGreatDoorRsK
namespace Go.Proofs.YtecniafnihpjmaaGreatDoor
open Go.RowKit Go.Lap C
set_option linter.unusedVariables false
set_option linter.unusedSimpArgs false
section
variable {w w' W wr : World} {B : Nat} {y : RrV} {x : Rpl} {b : BtV}
/-- A batch among the arguments. -/
structure BvOk (W : World) (p : BtV) : Prop where
  sl : SlIn W 3 Wri.enc p.sl p.b.l
  ll : p.b.l.length ≤ maxLen
  c : p.b.c < big
  r : p.b.r < big
  s : p.b.s < big
theorem bv_at {v : Value} {l : List BtV} (h : SlIn W 4 BtV.enc v l) {k : Nat} {p : BtV} (hk : l[k]? = some p) (hn : New W wr) : ∃ g off cap, v = .slice (some ⟨g, off, none⟩) l.length cap ∧ g < W.heap.size ∧
    wr.cell? ⟨g, off + k * 4, none⟩ = some (.int .u64 (p.b.c : Int)) ∧ wr.cell? ⟨g, off + k * 4 + 1, none⟩ = some (.int .u64 (p.b.r : Int)) ∧ wr.cell? ⟨g, off + k * 4 + 2, none⟩ = some (.int .u64 (p.b.s : Int)) ∧ wr.cell? ⟨g, off + k * 4 + 3, none⟩ = some (.slice p.A p.b.l.length p.c) := by
  obtain ⟨A, c, rfl, _, hh⟩ := h
  rcases hh with rfl | ⟨g, off, rfl, hg, hc⟩
  · simp at hk
  have e := fun j u hu => (hn.cells.1 g (off + k * 4 + j) hg).trans (hc k p hk j u hu)
  exact ⟨g, off, c, rfl, hg, e 0 _ rfl, e 1 _ rfl, e 2 _ rfl, e 3 _ rfl⟩
def cutA (l : List BtV) : List Btc := l.map fun p => p.b.cut
theorem cutA_next {l : List BtV} {k : Nat} {p : BtV} (h : l[k]? = some p) : cutA (l.take (k + 1)) = cutA (l.take k) ++ [p.b.cut] := by unfold cutA; rw [List.take_add_one, h, List.map_append]; rfl
def ldR (id : Int) (c : Cfg) (l : List Btc) : Rpl := l.foldl Rpl.loaded (Rpl.new_ id c)
theorem ldR_next (id : Int) (c : Cfg) (l : List Btc) (b : Btc) : ldR id c (l ++ [b]) = (ldR id c l).loaded b := by unfold ldR; rw [List.foldl_append]; rfl
def okR (c : Cfg) (l : List Btc) : Bool := chkC c && l.all fun b => decide (chk b.l = 0)
theorem okR_next (c : Cfg) (l : List Btc) (b : Btc) : okR c (l ++ [b]) = (okR c l && decide (chk b.l = 0)) := by unfold okR; rw [List.all_append]; simp [Bool.and_assoc]
theorem load_err {j : Jd} {b : Btc} (hla : j.la < maxT) : (j.load b).2 = chk b.l := by
  unfold Jd.load
  by_cases h : chk b.l = 0
  · rw [if_neg (fun h2 => h2 h), if_neg (by omega), h]
    dsimp only
    cases j.sn b.c with
    | none => rfl
    | some p =>
      obtain ⟨q, v⟩ := p
      dsimp only
      split <;> rfl
  · rw [if_pos h]
theorem load_la {j : Jd} {b : Btc} : (j.load b).1.la ≤ j.la + 1 := by
  unfold Jd.load
  by_cases h : chk b.l = 0
  · rw [if_neg (fun h2 => h2 h)]
    split
    · exact Nat.le_succ _
    · dsimp only
      cases j.sn b.c with
      | none => exact Nat.le_refl _
      | some p =>
        obtain ⟨q, v⟩ := p
        dsimp only
        split <;> exact Nat.le_refl _
  · rw [if_pos h]; exact Nat.le_succ _
/-- What is taken one by one is what is taken at once. -/
theorem restC_ld : ∀ (l : List Btc) (x : Rpl), x.j.la + l.length < maxT → (restC x l = if (l.all fun b => decide (chk b.l = 0)) = true then some (l.foldl Rpl.loaded x) else none)
  | [], x, _ => rfl
  | b :: l, x, h => by
    rw [List.length_cons] at h
    unfold restC
    rw [load_err (by omega), List.all_cons]
    by_cases hc : chk b.l = 0
    · rw [if_pos hc, restC_ld l _ (by have := load_la (j := x.j) (b := b); dsimp only; omega)]
      rw [decide_eq_true hc, Bool.true_and, List.foldl_cons, Rpl.loaded_ok (by rw [load_err (by omega)]; exact hc)]
    · rw [if_neg hc, decide_eq_false hc, Bool.false_and, if_neg Bool.false_ne_true]
theorem restO_ld (id : Int) (c : Cfg) (l : List Btc) (h : l.length ≤ 1000) : restO id c l = if okR c l = true then some (ldR id c l) else none := by
  unfold restO okR ldR
  cases chkC c
  · rfl
  · rw [if_pos rfl, restC_ld l _ (by show 0 + l.length < maxT; unfold maxT; omega), Bool.true_and]
theorem ld_keep (id : Int) (c : Cfg) : ∀ (l : List Btc), (ldR id c l).id = id ∧ (ldR id c l).cf = c ∧ (ldR id c l).cl = 0 ∧ (ldR id c l).out = [] := by
  intro l
  have : ∀ (l : List Btc) (x : Rpl), (l.foldl Rpl.loaded x).id = x.id ∧ (l.foldl Rpl.loaded x).cf = x.cf ∧ (l.foldl Rpl.loaded x).cl = x.cl ∧ (l.foldl Rpl.loaded x).out = x.out := by
    intro l
    induction l with
    | nil => intro x; exact ⟨rfl, rfl, rfl, rfl⟩
    | cons b l ih =>
      intro x
      rw [List.foldl_cons]
      have h := ih (x.loaded b)
      by_cases hc : (x.j.load b).2 = 0
      · rw [Rpl.loaded_ok hc] at h ⊢; exact h
      · rw [Rpl.loaded_no hc] at h ⊢; exact h
  exact this l _
theorem nextC_no {c : Cfg} {id : Int} (h0 : 0 ≤ placeC c.ms id) : (nextC c id).2 = false ↔ placeC c.ms id = (c.ms.length : Int) - 1 := by
  have hb := place_bd c.ms id
  unfold nextC
  generalize placeC c.ms id = i at *
  obtain ⟨k, rfl⟩ := Int.eq_ofNat_of_zero_le h0
  by_cases hk : k + 1 < c.ms.length
  · obtain ⟨x, hx⟩ : ∃ x, c.ms[k + 1]? = some x := ⟨_, List.getElem?_eq_getElem hk⟩
    have := at_yes (i := (k : Int)) h0 hx
    rw [show ((k : Int) + 1) = ((k + 1 : Nat) : Int) by omega, this]
    exact ⟨fun h => Bool.noConfusion h, fun h => by omega⟩
  · rw [at_no (.inr (.inr (by omega)))]
    exact ⟨fun _ => by omega, fun _ => rfl⟩
theorem fin_yes {x : Rpl} (h0 : 0 ≤ placeC x.cf.ms x.id) (h1 : placeC x.cf.ms x.id = (x.cf.ms.length : Int) - 1) : x.fin_ = { x with cl := x.l.length } := if_pos ⟨(nextC_no h0).2 h1, h0⟩
theorem fin_no {x : Rpl} (h : ¬ (0 ≤ placeC x.cf.ms x.id ∧ placeC x.cf.ms x.id = (x.cf.ms.length : Int) - 1)) : x.fin_ = x := if_neg (fun h2 => h ⟨h2.2, (nextC_no h2.2).1 h2.1⟩)
theorem restC_l : ∀ (l : List Btc) (x y : Rpl), restC x l = some y → y.l = x.l ++ l
  | [], x, y, h => by cases h; rw [List.append_nil]
  | b :: l, x, y, h => by
    unfold restC at h
    split at h
    · have := restC_l l _ y h
      rw [this]
      dsimp only
      rw [List.append_assoc]; rfl
    · cases h
theorem restO_l {id : Int} {c : Cfg} {l : List Btc} {y : Rpl} (h : restO id c l = some y) : y.l = l := by
  unfold restO at h
  split at h
  · exact restC_l l _ y h
  · cases h
/-- Behind i batches of the first list. -/
structure LR1 (w wr : World) (g9 : Nat) (id : Int) (c : Cfg) (cv : Value) (l0 : List BtV) (i : Nat) (v7 : Value) (ok : Bool) (y : RrV) : Prop where
  il : i ≤ l0.length
  row : BtRow wr w.heap.size v7 (cutA (l0.take i))
  okE : ok = okR c (cutA (l0.take i))
  rr : RrAt wr i y (ldR id c (cutA (l0.take i)))
  bx : Blk wr g9 36 y.cells
  gg : w.heap.size ≤ g9
  nf : ∀ k, RrF y k → k ≠ g9
  nl : ∀ k, RrF y k → v7.ownBlock ≠ some k
  ge : ∀ k, RrF y k → cvF cv k ∨ w.heap.size ≤ k
  nw : New w wr
/-- One batch more. -/
theorem LR1.next {g9 : Nat} {id : Int} {c : Cfg} {cv : Value} {l0 : List BtV} {i : Nat} {v7 v8 : Value} {ok ok' : Bool} {y y' : RrV} {p : BtV} {w4 w5 w6 w7 : World} (h : LR1 w wr g9 id c cv l0 i v7 ok y) (hp : l0[i]? = some p)
    (hn4 : New wr w4) (hrow : BtRow w5 w.heap.size v8 (cutA (l0.take i) ++ [p.b.cut])) (hg : w4.grownBy w5 v7.ownBlock) (hv : v8.ownBlock = v7.ownBlock ∨ v8.ownBlock = some w4.heap.size) (hok : ok' = (ok && decide (chk p.b.cut.l = 0)))
    (hn6 : New w5 w6) (hr : RrAt w6 (i + 1) y' ((ldR id c (cutA (l0.take i))).loaded p.b.cut)) (hf : ∀ k, RrF y' k → RrF y k ∨ w5.heap.size ≤ k) (hu : Upd (· = g9) w6 w7) (hb : Blk w7 g9 36 y'.cells) (hlt : i < l0.length) : LR1 w w7 g9 id c cv l0 (i + 1) v8 ok' y' := by
  have hgr : w4.heap.size ≤ w5.heap.size := hg.size
  have hb4 := h.bx.new hn4
  have hbg : v7.ownBlock ≠ some g9 := by
    obtain ⟨ps, _, hps, _⟩ := h.row
    intro e
    exact hps.ne_blk h.bx (by decide) e
  have hb5 : Blk w5 g9 36 y.cells := hb4.grown hg (fun e => hbg e.symm)
  have hb6 := hb5.new hn6
  have hg9 : g9 < wr.heap.size := h.bx.lt
  have hlt4 := hn4.size
  have hnf : ∀ k, RrF y' k → k ≠ g9 := fun k hk e => (hf k hk).elim (fun h2 => h.nf k h2 e) (fun h2 => by omega)
  have hnw5 : New w w5 := (h.nw.trans hn4).grown hg (fun k hk => (h.row.lt k hk).1)
  have hrw6 := hrow.new hn6
  obtain ⟨ps, hps1, hps2, hps3⟩ := hrw6
  refine ⟨hlt, ?_, ?_, ?_, hb, h.gg, hnf, ?_, ?_, (hnw5.trans hn6).upd hu (fun j e => by rw [e]; exact h.gg)⟩
  · rw [cutA_next hp]
    exact BtRow.upd ⟨ps, hps1, hps2, hps3⟩ hu (fun k hk e => hps2.ne_blk hb6 (by decide) (by rw [hk, e])) (Off.blk hb6 (by decide))
  · rw [cutA_next hp, okR_next, ← h.okE]; exact hok
  · rw [cutA_next hp, ldR_next]
    exact hr.box hb6 hu hnf (by decide)
  · intro k hk e
    rcases hf k hk with h2 | h2
    · rcases hv with h3 | h3
      · exact h.nl k h2 (h3 ▸ e)
      · rw [h3] at e; cases e
        have := h.rr.lt _ h2
        omega
    · have := (hrow.lt k e).2
      omega
  · intro k hk
    rcases hf k hk with h2 | h2
    · exact h.ge k h2
    · have := hnw5.size
      exact .inr (by omega)
theorem FewPost.form {b : Btc} {e : Ending} (h : FewPost w b e w') : ∃ (A : Option Addr) (n : Nat), e = .returned (.agg #[.int .u64 (b.c : Int), .int .u64 (b.r : Int), .int .u64 (b.s : Int), .slice A b.cut.l.length n]) ∧ TSl w' 97 3 Wri.enc (.slice A b.cut.l.length n) b.cut.l ∧ New w w' := h
theorem RrSub.form {id6 : Int} {ep6 : Nat} {ms6 : List Int} {j6 : Jd} {l6 : List Btc} {cl6 : Nat} {out6 : List Nt} {vd : Vd} {er : Int} {y0 : RrV} {e : Ending} (h : RrSub w B y0 ((⟨id6, ⟨ep6, ms6⟩, j6, l6, cl6, out6⟩ : Rpl), vd, er) e w') : ∃ (la6 : Nat) (L6 : List SdV) (cA6 : Option Addr) (cc6 : Nat) (sA6 : Option Addr) (sc6 : Nat) (tA6 : Option Addr) (tc6 : Nat) (lA6 : Option Addr) (lc6 : Nat) (oA6 : Option Addr) (oc6 : Nat),
    e = .returned (.tuple #[.agg #[.int .i64 id6, .int .u64 (ep6 : Int), .slice cA6 ms6.length cc6, .int .u64 0, .int .u64 (la6 : Int), .slice sA6 L6.length sc6, .slice tA6 L6.length tc6, .slice lA6 l6.length lc6, .int .u64 (cl6 : Int), .slice oA6 out6.length oc6], .agg #[.int .u64 (vd.t : Int), .int .i64 vd.e], .int .i64 er]) ∧ RrAt w' B (⟨id6, ep6, .slice cA6 ms6.length cc6, ⟨la6, L6, .slice sA6 L6.length sc6, .slice tA6 L6.length tc6⟩, .slice lA6 l6.length lc6, cl6, .slice oA6 out6.length oc6⟩ : RrV) (⟨id6, ⟨ep6, ms6⟩, j6, l6, cl6, out6⟩ : Rpl) ∧ New w w' ∧ ∀ k, RrF (⟨id6, ep6, .slice cA6 ms6.length cc6, ⟨la6, L6, .slice sA6 L6.length sc6, .slice tA6 L6.length tc6⟩, .slice lA6 l6.length lc6, cl6, .slice oA6 out6.length oc6⟩ : RrV) k → RrF y0 k ∨ w.heap.size ≤ k := by
  obtain ⟨y, rfl, h1, h2, h3⟩ := h
  obtain ⟨la, L, cA, cc, sA, sc, tA, tc, lA, lc, oA, oc, rfl⟩ := h1.form
  exact ⟨la, L, cA, cc, sA, sc, tA, tc, lA, lc, oA, oc, rfl, h1, h2, h3⟩
/-- Behind i batches of the second list. -/
structure LR2 (w wr : World) (g9 rp i : Nat) (y : RrV) (L : RpL) (x : Rpl) : Prop where
  il : i ≤ 20
  rr : RrAt wr (300 + 20 * i) y x
  ra : RpAt wr rp (300 + 20 * i) L x
  bx : Blk wr g9 36 y.cells
  gg : w.heap.size ≤ g9
  nf : ∀ k, RrF y k → k ≠ g9
  nr : ¬ RpF rp L g9
  dj : ∀ k, RrF y k → ¬ RpF rp L k
  gp : ∀ k, RpF rp L k → w.heap.size ≤ k
  nw : New w wr
/-- What the reference's Submit leaves in the law's slots. -/
def SubR (wr : World) (B : Nat) (y0 : RrV) (r : Rpl × Vd × Int) (s15 s16 s17 : Value) (wx : World) : Prop := ∃ (a15 a16 : Nat) (y : RrV), s15 = .pointer (some ⟨a15, 0, none⟩) ∧ s16 = .pointer (some ⟨a16, 0, none⟩) ∧ s17 = .int .i64 r.2.2 ∧
  Blk wx a15 36 y.cells ∧ Blk wx a16 49 #[.int .u64 (r.2.1.t : Int), .int .i64 r.2.1.e] ∧ RrAt wx (B + 3) y r.1 ∧ (∀ k, RrF y k → RrF y0 k ∨ wr.heap.size ≤ k) ∧ New wr wx ∧ wr.heap.size ≤ a15 ∧ wr.heap.size ≤ a16
theorem LR1.two {g9 : Nat} {id : Int} {c : Cfg} {cv : Value} {l0 : List BtV} {v7 : Value} {y : RrV} {rp : Nat} {L : RpL} {w2 w3 : World} {cl' : Nat} (h : LR1 w wr g9 id c cv l0 l0.length v7 true y) (hl : l0.length ≤ 20)
    (hr : RpAt w2 rp (11 * l0.length) L (ldR id c (cutA l0)).fin_) (hge : ∀ k, RpF rp L k → wr.heap.size ≤ k) (hn2 : New wr w2) (hx : (ldR id c (cutA l0)).fin_ = { ldR id c (cutA l0) with cl := cl' }) (hcl : cl' ≤ 20) (hu : Upd (· = g9) w2 w3) (hb : Blk w3 g9 36 ({ y with cl := cl' } : RrV).cells) :
    LR2 w w3 g9 rp 0 { y with cl := cl' } L (ldR id c (cutA l0)).fin_ := by
  have hb2 := h.bx.new hn2
  have hg9 := h.bx.lt
  have hrr := h.rr
  rw [List.take_length] at hrr
  have hr2 := hrr.new hn2
  have hr3 := hr2.box hb2 hu h.nf (by decide)
  have hnr : ¬ RpF rp L g9 := fun hk => by have := hge _ hk; omega
  refine ⟨by omega, ?_, (hr.upd hu (fun k hk e => hnr (e ▸ hk)) (Off.blk hb2 (by decide)) (Off.blk hb2 (by decide))).mono (by omega), hb, h.gg, h.nf, hnr, fun k hk hk2 => ?_, fun k hk => ?_, (h.nw.trans hn2).upd hu (fun j e => by rw [e]; exact h.gg)⟩
  · rw [hx]
    exact { (hr3.mono (C := 300 + 20 * 0) (by omega)) with cl := rfl, cb := by show cl' ≤ _; omega }
  · have h1 := hge k hk2
    have h2 := hrr.lt k hk
    omega
  · have h1 := hge k hk
    have h2 := h.nw.size
    omega
/-- One batch more. -/
theorem LR2.next {g9 rp i : Nat} {y y' : RrV} {L : RpL} {x x' : Rpl} {w4 w5 w6 w7 w8 : World} (h : LR2 w wr g9 rp i y L x) (hi : i < 20) (hn4 : New wr w4) (hr : RrAt w4 (300 + 20 * i + 3) y' x') (hf : ∀ k, RrF y' k → RrF y k ∨ wr.heap.size ≤ k)
    (hu : Upd (· = g9) w4 w5) (hb : Blk w5 g9 36 y'.cells) (hn6 : New w5 w6) (hp : RpPost w6 rp (300 + 20 * i + 20) L x' w7) (hn8 : New w7 w8) : ∃ L', LR2 w w8 g9 rp (i + 1) y' L' x' := by
  obtain ⟨L', h1, h2, h3⟩ := hp
  have hb4 := h.bx.new hn4
  have hg9 := h.bx.lt
  have hs4 := hn4.size
  have hs5 := hu.size
  have hs6 := hn6.size
  have hnf : ∀ k, RrF y' k → k ≠ g9 := fun k hk e => (hf k hk).elim (fun h9 => h.nf k h9 e) (fun h9 => by omega)
  have ha6 : RpAt w6 rp (300 + 20 * i) L x := ((h.ra.new hn4).upd hu (fun k hk e => h.nr (e ▸ hk)) (Off.blk hb4 (by decide)) (Off.blk hb4 (by decide))).new hn6
  have hd : ∀ k, RrF y' k → ¬ RpF rp L k := fun k hk hk2 => (hf k hk).elim (fun h9 => h.dj k h9 hk2) (fun h9 => by have := h.ra.lt k hk2; omega)
  refine ⟨L', by omega, ((((hr.box hb4 hu hnf (by decide)).new hn6).upd h3 hd ha6.offW).new hn8).mono (by omega), (h1.new hn8).mono (by omega), ((hb.new hn6).upd h3 h.nr).new hn8, h.gg, hnf, fun hk => ?_, fun k hk hk2 => ?_, fun k hk => ?_, ?_⟩
  · rcases h2 _ hk with h9 | h9
    · exact h.nr h9
    · omega
  · rcases h2 _ hk2 with h9 | h9
    · exact hd k hk h9
    · have := hr.lt k hk; omega
  · rcases h2 _ hk with h9 | h9
    · exact h.gp k h9
    · have := h.nw.size; omega
  · exact (((((h.nw.trans hn4).upd hu (fun j e => by rw [e]; exact h.gg)).trans hn6).upd h3 h.gp).trans hn8)
end
end Go.Proofs.YtecniafnihpjmaaGreatDoor
