/- Chapter 26 (cluster), plain: who isn't there is refused. -/
import Derived.Test.YtlhlcdjkacglnaaGreatDoorJk28
import Derived.Deep.Cut
namespace Go.Proofs.YtlhlcdjkacglnaaGreatDoor
open Go.RowKit Go.Lap C
set_option linter.unusedVariables false
set_option linter.unusedSimpArgs false
def kW : Wri := ⟨⟨#[107]⟩, ⟨#[]⟩, false⟩
/-- Nothing has been delivered: all lists are empty, all know the first configuration, nobody was told, nobody is gone. -/
structure Rf (n m b : Nat) (x : Clu) : Prop where
  rl : x.rs.length = n
  cl : x.cs.length = m
  rs : ∀ (k : Nat) (r : Rpl), x.rs[k]? = some r → r.l = [] ∧ r.cf.e = 1
  cs : ∀ (i : Nat) (c : Cli), x.cs[i]? = some c → c.la = (0, ⟨0, 0⟩)
  gone : ∀ i, x.gone i = false
  lg : ∀ i, (x.g.nd i).log = []
  wt : ∀ i, x.wt i = []
  bg : x.bg.length ≤ b
section
variable {n m b : Nat} {x : Clu}
theorem rs_new (n m : Nat) {k : Nat} (h : k < n) : (Clu.new_ n m).rs[k]? = some (Rpl.new_ (k : Int) (firstC n)) := by
  show ((List.range n).map fun (i : Nat) => Rpl.new_ (i : Int) (firstC n))[k]? = _
  rw [List.getElem?_map, List.getElem?_range h]; rfl
theorem cs_new (n m : Nat) {k : Nat} (h : k < m) : (Clu.new_ n m).cs[k]? = some (Cli.new_ k) := by
  show ((List.range m).map fun (i : Nat) => Cli.new_ i)[k]? = _
  rw [List.getElem?_map, List.getElem?_range h]; rfl
theorem Rf.new_ (n m : Nat) : Rf n m 0 (Clu.new_ n m) := by
  have hr : (Clu.new_ n m).rs.length = n := by simp [Clu.new_]
  have hc : (Clu.new_ n m).cs.length = m := by simp [Clu.new_]
  refine ⟨hr, hc, fun k r h => ?_, fun i c h => ?_, fun _ => rfl, fun _ => rfl, fun _ => rfl, Nat.le_refl _⟩
  · have hk := (List.getElem?_eq_some_iff.1 h).1
    rw [rs_new n m (by omega)] at h
    cases h
    exact ⟨rfl, rfl⟩
  · have hk := (List.getElem?_eq_some_iff.1 h).1
    rw [cs_new n m (by omega)] at h
    cases h
    rfl
theorem Rf.setC (h : Rf n m b x) {i : Nat} {c : Cli} (hc : c.la = (0, ⟨0, 0⟩)) : Rf n m b (x.setC (i : Int) c) := by
  refine ⟨h.rl, by rw [← h.cl]; exact List.length_set .., h.rs, fun j d hd => ?_, h.gone, h.lg, h.wt, h.bg⟩
  replace hd : (x.cs.set (i : Int).toNat c)[j]? = some d := hd
  rw [Int.toNat_natCast] at hd
  by_cases e : i = j
  · subst e
    by_cases hl : i < x.cs.length
    · rw [List.getElem?_set_self hl] at hd; cases hd; exact hc
    · rw [List.getElem?_eq_none (by rw [List.length_set]; omega)] at hd; cases hd
  · rw [List.getElem?_set_ne e] at hd; exact h.cs j d hd
theorem Rf.send (h : Rf n m b x) (p : CPk) : Rf n m (b + 1) (x.send p) := by
  unfold Clu.send
  split
  · exact ⟨h.rl, h.cl, h.rs, h.cs, h.gone, h.lg, h.wt, by have := h.bg; show (x.bg ++ [p]).length ≤ _; simp; omega⟩
  · exact { h with bg := by have := h.bg; omega }
theorem Rf.sends (p : List CPk) : ∀ {b : Nat} {x : Clu}, Rf n m b x → Rf n m (b + p.length) (p.foldl Clu.send x) := by
  induction p with
  | nil => intro b x h; exact h
  | cons q l ih =>
    intro b x h
    have := ih (h.send q)
    rw [List.foldl_cons]
    rw [List.length_cons]
    have e : b + (l.length + 1) = b + 1 + l.length := by omega
    rw [e]
    exact this
theorem rf_rep (h : Rf n m b x) (nd : Int) : (¬ (0 ≤ nd ∧ nd < (n : Int)) ∧ x.rep nd = none ∧ atL x.rs nd = none) ∨ ∃ (k : Nat) (r : Rpl), nd = (k : Int) ∧ k < n ∧ x.rs[k]? = some r ∧ x.rep nd = some r := by
  rcases atL_cases n nd with ⟨k, rfl, hk⟩ | hno
  · have hr : ∃ r, x.rs[k]? = some r := ⟨_, List.getElem?_eq_getElem (by rw [h.rl]; exact hk)⟩
    obtain ⟨r, hr⟩ := hr
    exact .inr ⟨k, r, rfl, hk, hr, by unfold Clu.rep; rw [h.gone, if_neg (by decide), atL_nat, hr]⟩
  · have ha : atL x.rs nd = none := atL_none (l := x.rs) (by rw [h.rl]; exact hno)
    exact .inl ⟨hno, by unfold Clu.rep; rw [h.gone, if_neg (by decide), ha], ha⟩
/-- The first request. -/
def ciW (i : Nat) : Cli := ⟨i, 2, some (⟨i, 1, 0, [kW]⟩, 1), (0, ⟨0, 0⟩), 0⟩
theorem rf_start (n m : Nat) (cl : Int) : ∃ q x1, (Clu.new_ n m).start cl 0 [kW] = (x1, q, if 0 ≤ cl ∧ cl < (m : Int) then 0 else 261) ∧ Rf n m 0 x1 ∧ (∀ k, k < n → x1.rs[k]? = some (Rpl.new_ (k : Int) (firstC n))) ∧ ((¬ (0 ≤ cl ∧ cl < (m : Int)) ∧ atL x1.cs cl = none) ∨ ∃ i : Nat, cl = (i : Int) ∧ i < m ∧ x1.cs[i]? = some (ciW i)) := by
  have hN := Rf.new_ n m
  rcases atL_cases m cl with ⟨i, rfl, hi⟩ | hno
  · refine ⟨1, (Clu.new_ n m).setC (i : Int) (ciW i), ?_, hN.setC rfl, fun k hk => rs_new n m hk, .inr ⟨i, rfl, hi, ?_⟩⟩
    · rw [if_pos (by omega)]
      unfold Clu.start
      rw [atL_nat, cs_new n m hi]
      rfl
    · show ((Clu.new_ n m).cs.set (i : Int).toNat (ciW i))[i]? = _
      rw [Int.toNat_natCast, List.getElem?_set_self (by rw [hN.cl]; exact hi)]
  · have ha : atL (Clu.new_ n m).cs cl = none := atL_none (by rw [hN.cl]; exact hno)
    refine ⟨0, Clu.new_ n m, ?_, hN, fun k hk => rs_new n m hk, .inl ⟨hno, ha⟩⟩
    rw [if_neg hno]
    unfold Clu.start
    rw [ha]
theorem rf_ask {x1 : Clu} (h : Rf n m 0 x1) (hr : ∀ k, k < n → x1.rs[k]? = some (Rpl.new_ (k : Int) (firstC n))) (cl nd : Int) (hc : (¬ (0 ≤ cl ∧ cl < (m : Int)) ∧ atL x1.cs cl = none) ∨ ∃ i : Nat, cl = (i : Int) ∧ i < m ∧ x1.cs[i]? = some (ciW i)) :
    ∃ x2, x1.ask cl nd = (x2, if (0 ≤ nd ∧ nd < (n : Int)) ∧ (0 ≤ cl ∧ cl < (m : Int)) then 0 else 261) ∧ Rf n m 1 x2 ∧ (∀ k, k < n → x2.rs[k]? = some (Rpl.new_ (k : Int) (firstC n))) := by
  have h1 : Rf n m 1 x1 := { h with bg := Nat.le_succ_of_le h.bg }
  rcases hc with ⟨hno, ha⟩ | ⟨i, rfl, hi, hci⟩
  · refine ⟨x1, ?_, h1, hr⟩
    rw [if_neg (fun e => hno e.2)]
    unfold Clu.ask
    rw [ha]
  · rcases atL_cases n nd with ⟨k, rfl, hk⟩ | hno
    · refine ⟨_, ?_, (h.setC (i := i) (c := { ciW i with now := some (⟨i, 1, 0, [kW]⟩, 2) }) rfl).send ⟨100 + (i : Int), (k : Int), .req (wireB ⟨i, 1, 0, [kW]⟩)⟩, ?_⟩
      · rw [if_pos ⟨by omega, by omega⟩]
        unfold Clu.ask
        rw [atL_nat, atL_nat, hci, hr k hk]
        rfl
      · intro j hj
        have hs : ∀ (y : Clu) (p : CPk), (y.send p).rs = y.rs := fun y p => by unfold Clu.send; split <;> rfl
        rw [hs]
        exact hr j hj
    · refine ⟨x1, ?_, h1, hr⟩
      rw [if_neg (fun e => hno e.1)]
      unfold Clu.ask
      rw [atL_nat, hci, atL_none (l := x1.rs) (by rw [h.rl]; exact hno)]
theorem tick_new : ∀ n : Nat, n < 6 → ∀ k : Nat, k < n → (Rpl.new_ (k : Int) (firstC n)).tick.out.length ≤ 2 ∧ (Rpl.new_ (k : Int) (firstC n)).tick.l.length = 0 ∧ (Rpl.new_ (k : Int) (firstC n)).tick.cf.e = 1 := by decide +kernel
theorem rf_flush (h : Rf n m b x) {k : Nat} {r : Rpl} (hr : x.rs[k]? = some r) : Rf n m (b + r.out.length) (x.flush (k : Int)) := by
  unfold Clu.flush
  rw [atL_nat, hr]
  dsimp only
  have hk := (List.getElem?_eq_some_iff.1 hr).1
  have h1 : Rf n m b (x.setR (k : Int) { r with out := [] }) := by
    refine ⟨by rw [← h.rl]; exact List.length_set .., h.cl, fun j d hd => ?_, h.cs, h.gone, h.lg, h.wt, h.bg⟩
    replace hd : (x.rs.set (k : Int).toNat { r with out := [] })[j]? = some d := hd
    rw [Int.toNat_natCast] at hd
    by_cases e : k = j
    · subst e
      rw [List.getElem?_set_self hk] at hd; cases hd; exact h.rs k r hr
    · rw [List.getElem?_set_ne e] at hd; exact h.rs j d hd
  have h2 := h1.sends (r.out.map (notePk (k : Int)))
  rw [List.length_map] at h2
  generalize (r.out.map (notePk (k : Int))).foldl Clu.send (x.setR (k : Int) { r with out := [] }) = y at *
  rw [h2.wt]
  have h3 : ((([] : List Wt).filter fun y => decide (y.un ≤ r.cl)).map (ansPk (k : Int))).foldl Clu.send y = y := rfl
  rw [h3]
  exact ⟨h2.rl, h2.cl, h2.rs, h2.cs, h2.gone, h2.lg, fun i => by
    show setD y.wt (k : Int) ((y.wt (k : Int)).filter fun y => !decide (y.un ≤ r.cl)) i = []
    unfold setD
    split
    · rw [h2.wt]; rfl
    · exact h2.wt i, h2.bg⟩
theorem rf_tick {x2 : Clu} (hn : n < 6) (h : Rf n m 1 x2) (hr : ∀ k, k < n → x2.rs[k]? = some (Rpl.new_ (k : Int) (firstC n))) (nd : Int) :
    ∃ x3, x2.tick nd = (x3, if 0 ≤ nd ∧ nd < (n : Int) then 0 else 261) ∧ Rf n m 3 x3 := by
  rcases rf_rep h nd with ⟨hno, hp, _⟩ | ⟨k, r, rfl, hk, hrk, hp⟩
  · refine ⟨x2, ?_, { h with bg := by have := h.bg; omega }⟩
    rw [if_neg hno]
    unfold Clu.tick
    rw [hp]
  · rw [if_pos (by omega)]
    rw [hr k hk] at hrk
    cases hrk
    obtain ⟨t1, t2, t3⟩ := tick_new n hn k hk
    refine ⟨_, by unfold Clu.tick; rw [hp], ?_⟩
    have h1 : Rf n m 1 (x2.setR (k : Int) (Rpl.new_ (k : Int) (firstC n)).tick) := by
      refine ⟨by rw [← h.rl]; exact List.length_set .., h.cl, fun j d hd => ?_, h.cs, h.gone, h.lg, h.wt, h.bg⟩
      replace hd : (x2.rs.set (k : Int).toNat (Rpl.new_ (k : Int) (firstC n)).tick)[j]? = some d := hd
      rw [Int.toNat_natCast] at hd
      by_cases e : k = j
      · subst e
        rw [List.getElem?_set_self (by rw [h.rl]; exact hk)] at hd; cases hd; exact ⟨List.eq_nil_of_length_eq_zero t2, t3⟩
      · rw [List.getElem?_set_ne e] at hd; exact h.rs j d hd
    have h2 := rf_flush h1 (setR_atk (hr k hk))
    exact { h2 with bg := by have := h2.bg; omega }
theorem rf_suspect {x3 : Clu} (h : Rf n m b x3) (ms nd : Int) : ∃ x4, x3.suspect ms nd = (x4, if (0 ≤ nd ∧ nd < (n : Int)) ∧ (0 ≤ ms ∧ ms < 3) then 0 else 261) ∧ Rf n m b x4 := by
  rcases rf_rep h nd with ⟨hno, _, hp⟩ | ⟨k, r, rfl, hk, hrk, _⟩
  · refine ⟨x3, ?_, h⟩
    rw [if_neg (fun e => hno e.1)]
    unfold Clu.suspect
    rw [hp]
  · by_cases hm : 0 ≤ ms ∧ ms < 3
    · rw [if_pos ⟨by omega, hm⟩]
      refine ⟨{ x3 with g := x3.g.propose ms.toNat (str (showL false (x3.config ms).e (k : Int).toNat)) }, by unfold Clu.suspect; rw [atL_nat, hrk]; dsimp only; rw [if_pos hm], ⟨h.rl, h.cl, h.rs, h.cs, h.gone, fun i => ?_, h.wt, h.bg⟩⟩
      have hp : ∀ (g : D.Gm) (q : Nat) (v : ByteArray), (∀ i, (g.nd i).log = []) → ((g.propose q v).nd i).log = [] := fun g q v hg => by
        show (D.set g.nd q _ i).log = []
        unfold D.set
        split
        · exact hg q
        · exact hg i
      exact hp _ _ _ h.lg
    · rw [if_neg (fun e => hm e.2)]
      exact ⟨x3, by unfold Clu.suspect; rw [atL_nat, hrk]; dsimp only; rw [if_neg hm], h⟩
theorem rf_config (h : Rf n m b x) (ms : Int) : x.config ms = if 0 ≤ ms ∧ ms < 3 then firstC n else ⟨0, []⟩ := by
  unfold Clu.config
  rw [h.lg, h.rl]
  rfl
theorem rf_learn {x4 : Clu} (h : Rf n m b x4) (nd ms : Int) : x4.learn nd ms = (x4, if (0 ≤ nd ∧ nd < (n : Int)) ∧ (0 ≤ ms ∧ ms < 3) then 262 else 261) := by
  unfold Clu.learn
  rcases rf_rep h nd with ⟨hno, hp, _⟩ | ⟨k, r, rfl, hk, hrk, hp⟩
  · rw [hp, if_neg (fun e => hno e.1)]
  · rw [hp]
    dsimp only
    by_cases hm : 0 ≤ ms ∧ ms < 3
    · rw [if_pos hm, rf_config h, if_pos hm]
      have ha : r.adopt (firstC n) = (r, 241) := by
        unfold Rpl.adopt
        rw [if_pos (.inr (by rw [(h.rs k r hrk).2]; exact Nat.le_refl _))]
      rw [ha]
      dsimp only
      rw [if_neg (show ¬ (241 : Int) = 0 by decide), if_pos ⟨⟨by omega, by omega⟩, hm⟩]
      unfold Clu.setR
      rw [Int.toNat_natCast, set_sameL hrk]
    · rw [if_neg hm, if_neg (fun e => hm e.2)]
theorem rf_list (h : Rf n m b x) (nd : Int) : x.list nd = [] := by
  unfold Clu.list
  rcases rf_rep h nd with ⟨hno, _, hp⟩ | ⟨k, r, rfl, hk, hrk, hp⟩
  · rw [hp]
  · rw [atL_nat, hrk]; exact (h.rs k r hrk).1
theorem rf_kill {x5 : Clu} (h : Rf n m b x5) (nd : Int) : ∃ x6, x5.kill nd = (x6, if 0 ≤ nd ∧ nd < (n : Int) then 0 else 261) ∧ x6.rep nd = none ∧ x6.cs = x5.cs ∧ x6.bg = x5.bg := by
  unfold Clu.kill
  rcases rf_rep h nd with ⟨hno, hp, hp2⟩ | ⟨k, r, rfl, hk, hrk, hp⟩
  · rw [hp2, if_neg hno]
    exact ⟨x5, rfl, hp, rfl, rfl⟩
  · rw [atL_nat, hrk, if_pos (by omega)]
    refine ⟨_, rfl, ?_, rfl, rfl⟩
    unfold Clu.rep
    rw [if_pos (by show setD x5.gone (k : Int) true (k : Int) = true; unfold setD; rw [if_pos rfl])]
theorem rf_told (h : Rf n m b x) {x6 : Clu} (hc : x6.cs = x.cs) (cl : Int) : x6.told cl = (0, ⟨0, 0⟩, false) := by
  unfold Clu.told
  rw [hc]
  rcases atL_cases m cl with ⟨i, rfl, hi⟩ | hno
  · have hi2 : i < x.cs.length := by rw [h.cl]; exact hi
    rw [atL_nat, List.getElem?_eq_getElem hi2]
    dsimp only
    have := h.cs i _ (List.getElem?_eq_getElem hi2)
    rw [this]
    rfl
  · rw [atL_none (l := x.cs) (by rw [h.cl]; exact hno)]
theorem gone_tick {x6 : Clu} {nd : Int} (h : x6.rep nd = none) : x6.tick nd = (x6, 261) := by unfold Clu.tick; rw [h]
theorem gone_learn {x6 : Clu} {nd ms : Int} (h : x6.rep nd = none) : x6.learn nd ms = (x6, 261) := by unfold Clu.learn; rw [h]
theorem copyV {x6 : Clu} (h : x6.bg.length ≤ 200) (i : Int) : ∃ x7, x6.copy i = (x7, if 0 ≤ i ∧ i < (x6.bg.length : Int) then 0 else 212) ∧ x6.bg.length ≤ x7.bg.length ∧ (¬ (0 ≤ i ∧ i < (x6.bg.length : Int)) → x7 = x6) := by
  unfold Clu.copy
  rcases atL_cases x6.bg.length i with ⟨k, rfl, hk⟩ | hno
  · rw [atL_nat, List.getElem?_eq_getElem hk, if_pos (by omega)]
    dsimp only
    rw [if_neg (by omega)]
    exact ⟨_, rfl, by show _ ≤ (x6.bg ++ [_]).length; simp, fun e => absurd ⟨by omega, by omega⟩ e⟩
  · rw [atL_none (l := x6.bg) hno, if_neg hno]
    exact ⟨x6, rfl, Nat.le_refl _, fun _ => rfl⟩
theorem deliverV (x7 : Clu) (i : Int) : (x7.deliver i).2 = if 0 ≤ i ∧ i < (x7.bg.length : Int) then 0 else 212 := by
  unfold Clu.deliver
  rcases atL_cases x7.bg.length i with ⟨k, rfl, hk⟩ | hno
  · rw [atL_nat, List.getElem?_eq_getElem hk, if_pos (by omega)]
  · rw [atL_none (l := x7.bg) hno, if_neg hno]
end
end Go.Proofs.YtlhlcdjkacglnaaGreatDoor
/- ClusterRefuses, what the walk leans on. Printed by genLaw26r.py and halves. -/
namespace Go.Proofs.YtlhlcdjkacglnaaGreatDoor
open Go.RowKit Go.Lap C
set_option linter.unusedVariables false
set_option linter.unusedSimpArgs false
section
def cde (b : Bool) (c : Int) : Int := if b = true then c else 261
theorem refc {P : Prop} [Decidable P] {b : Bool} (h : decide P = b) (c : Int) : (if P then c else 261) = cde b c := by subst h; unfold cde; simp
theorem refc2 {P Q : Prop} [Decidable P] [Decidable Q] {b d : Bool} (h : decide P = b) (h2 : decide Q = d) (c : Int) : (if P ∧ Q then c else 261) = cde (b && d) c := by subst h h2; unfold cde; simp
theorem refN {x y : Int} (h : x < 0) : false = decide (0 ≤ x ∧ x < y) := (decide_eq_false (fun e => by omega)).symm
theorem refY {x y : Int} (h : 0 ≤ x) : decide (x < y) = decide (0 ≤ x ∧ x < y) := by simp [h]
theorem refP {W0 wr : World} {pb up n m B : Nat} {L : CuL} {X : Clu} {kd cl nd ms at_ to_ : Int} {st : Nat} {wv : Value} (hP : Blk W0 pb 25 #[.int .i64 kd, .int .i64 cl, .int .i64 nd, .int .i64 ms, .int .i64 at_, .int .i64 to_, .int .u64 (st : Int), wv]) (h : CLv W0 up n m B L X wr) :
    wr.cell? ⟨pb, 1, none⟩ = some (.int .i64 cl) ∧ wr.cell? ⟨pb, 2, none⟩ = some (.int .i64 nd) ∧ wr.cell? ⟨pb, 3, none⟩ = some (.int .i64 ms) ∧ wr.cell? ⟨pb, 4, none⟩ = some (.int .i64 at_) :=
  have hq := hP.new h.new
  ⟨hq.cell 1, hq.cell 2, hq.cell 3, hq.cell 4⟩
theorem fldC (v u : Value) (w : World) : (Instr.field 41 (.agg #[v, u]) 0).run Tryz.prog w = .ok v w := by kernel_rfl
theorem cRep {w : World} {up n m b B : Nat} {L : CuL} {x : Clu} {nd : Int} {bN : Bool} (h : CuAt w up B L x) (hI : inI nd) (hr : Rf n m b x) (hb : decide (0 ≤ nd ∧ nd < (n : Int)) = bN) :
    ∃ a, Calls Tryz.prog 14 #[.pointer (some ⟨up, 0, none⟩), .int .i64 nd] w fun e w' => e = .returned (.pointer (if bN = true then some a else none)) ∧ w' = w := by
  subst hb
  rcases rf_rep hr nd with ⟨hno, hp, _⟩ | ⟨k, r, rfl, hk, hrk, hp⟩
  · rw [decide_eq_false hno]
    exact ⟨⟨0, 0, none⟩, Replica_no h nd hI hp⟩
  · rw [decide_eq_true (show 0 ≤ (k : Int) ∧ (k : Int) < (n : Int) by omega)]
    exact ⟨_, Replica_yes h hrk (hr.gone _)⟩
theorem cConf {w : World} {up B : Nat} {L : CuL} {x : Clu} (h : CuAt w up B L x) (hB : B ≤ 9000000) (henv : C.Env w) (m : Int) : Calls Tryz.prog 15 #[.pointer (some ⟨up, 0, none⟩), .int .i64 m] w (CfgPost w (x.config m)) := by
  rcases atL_cases 3 m with ⟨k, rfl, hk⟩ | hno
  · exact cConfig h hB henv hk
  · exact cConfig_no m hno
end
end Go.Proofs.YtlhlcdjkacglnaaGreatDoor
