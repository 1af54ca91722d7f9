/- Chapter 20 (accept), the law AcceptOne: what lies in memory beside what has happened. -/
import Derived.Test.YtghhcjpilcoblaaOne1
namespace Go.Proofs.Ytghhcjpilcoblaa
open Go.RowKit Go.Lap Go.Lap.Pax
set_option linter.unusedVariables false

def balR (c : Nat) : Nat := if c = 0 then 0 else (c - 1) / 3 + 1
def balN (c : Nat) : Nat := if c = 0 then 0 else (c - 1) % 3
theorem bal_less (a b : Nat) : lessB (balR a) (balN a) (balR b) (balN b) = decide (a < b) := by
  unfold lessB balR balN
  rw [Bool.eq_iff_iff, decide_eq_true_eq, decide_eq_true_eq]
  by_cases ha : a = 0 <;> by_cases hb : b = 0 <;> simp [ha, hb] <;> omega
theorem balR_le {c m : Nat} (h : c ≤ m) : balR c ≤ m + 1 := by unfold balR; split <;> omega
theorem balN_le (c : Nat) : balN c ≤ 2 := by unfold balN; split <;> omega
def acR (a : Ac) : Nat := match a.a with | none => 0 | some y => balR (y.1 + 1)
def acN (a : Ac) : Nat := match a.a with | none => 0 | some y => balN (y.1 + 1)
def acV (a : Ac) : ByteArray := match a.a with | none => ⟨#[]⟩ | some y => y.2
/-- An acceptor in memory. -/
def AcIs (w : World) (g : Nat) (a : Ac) : Prop := AccAt w g (balR a.p) (balN a.p) a.a.isSome (acR a) (acN a) (acV a)
def proOf (o : Option (Nat × ByteArray)) : Pro := match o with | none => ⟨false, 0, 0, ⟨#[]⟩⟩ | some y => ⟨true, (balR (y.1 + 1) : Nat), (balN (y.1 + 1) : Nat), y.2⟩
theorem best_is (own : ByteArray) (l : List (Option (Nat × ByteArray))) : Pro.best own (l.map proOf) = match bestA own l with | none => ⟨false, 0, 0, own⟩ | some y => proOf (some y) := by
  induction l using rev_ind with
  | h0 => rfl
  | h1 l x ih =>
    rw [List.map_append, bestA_snoc]
    unfold Pro.best at ih ⊢
    rw [List.foldl_append, ih]
    show Pro.take _ (proOf x) = _
    cases hb : bestA own l with
    | none =>
      cases x with
      | none => rfl
      | some z => rfl
    | some y =>
      cases x with
      | none => rfl
      | some z =>
        dsimp only
        unfold Pro.take betterB proOf
        dsimp only
        rw [bal_less]
        by_cases h : y.1 < z.1
        · rw [if_pos h, decide_eq_true (show y.1 + 1 < z.1 + 1 by omega)]; rfl
        · rw [if_neg h, decide_eq_false (show ¬ y.1 + 1 < z.1 + 1 by omega)]; rfl
theorem best_val (own : ByteArray) (l : List (Option (Nat × ByteArray))) : (Pro.best own (l.map proOf)).v = bestV own l := by
  rw [best_is]
  unfold bestV
  cases bestA own l <;> rfl
theorem promEnc : Enc Pro.enc 4 := fun x => ⟨rfl, by simp [Pro.enc, Value.oneCell']⟩
theorem promTy : SlTy Try.prog 33 45 (.agg #[.bool false, .int .u64 0, .int .u64 0, .string ⟨#[]⟩]) 4 40 := ⟨Try.underlying33, by kernel_rfl, rfl, by decide⟩

/-- A proposal in memory. -/
structure PM where
  r : Nat
  n : Nat
  A : Option Addr
  ln : Nat
  cp : Nat
  fr : Nat → Bool
  by_ : Nat → Bool
  val : ByteArray
  has : Bool
def PM.pv (x : PM) : Value := .slice x.A x.ln x.cp
def pmE (x : PM) : List Value := [.int .u64 (x.r : Int), .int .u64 (x.n : Int), .slice x.A x.ln x.cp, .bool (x.fr 0), .bool (x.fr 1), .bool (x.fr 2), .bool (x.fr 3), .bool (x.fr 4), .bool (x.fr 5), .bool (x.fr 6), .bool (x.fr 7),
  .bool (x.by_ 0), .bool (x.by_ 1), .bool (x.by_ 2), .bool (x.by_ 3), .bool (x.by_ 4), .bool (x.by_ 5), .bool (x.by_ 6), .bool (x.by_ 7), .string x.val, .bool x.has]
theorem pmOk : Enc pmE 21 := fun x => ⟨rfl, by simp [pmE, Value.oneCell']⟩
theorem pmTy : SlTy Try.prog 28 36 (.agg #[.int .u64 0, .int .u64 0, .slice none 0 0, .bool false, .bool false, .bool false, .bool false, .bool false, .bool false, .bool false, .bool false, .bool false, .bool false, .bool false, .bool false, .bool false, .bool false, .bool false, .bool false, .string ⟨#[]⟩, .bool false]) 21 80 := ⟨Try.underlying28, by kernel_rfl, rfl, by decide⟩
theorem flat_set {α : Type} {enc : α → List Value} {size : Nat} (hE : Enc enc size) {x' : α} {u : Value} {j : Nat} (hj : j < size) : ∀ (l : List α) (i : Nat) (x : α), l[i]? = some x → enc x' = (enc x).set j u → (l.flatMap enc).set (i * size + j) u = (l.set i x').flatMap enc
  | [], i, x, h, _ => by simp at h
  | y :: l, 0, x, h, hx => by
    simp at h
    subst h
    rw [List.set_cons_zero, List.flatMap_cons, List.flatMap_cons, Nat.zero_mul, Nat.zero_add, List.set_append_left _ _ (by rw [(hE y).1]; exact hj), hx]
  | y :: l, i + 1, x, h, hx => by
    rw [List.set_cons_succ, List.flatMap_cons, List.flatMap_cons, List.set_append_right _ _ (by rw [(hE y).1, Nat.add_mul]; omega), (hE y).1]
    rw [show (i + 1) * size + j - size = i * size + j by rw [Nat.add_mul]; omega]
    rw [flat_set hE hj l i x (by simpa using h) hx]
theorem owns_setF {α : Type} {enc : α → List Value} {size : Nat} {w : World} {base e g cap : Nat} {l : List α} (hE : Enc enc size) (h : Owns w base e size enc (.slice (some ⟨g, 0, none⟩) l.length cap) l) {i j : Nat} {x x' : α} {u : Value} (hx : l[i]? = some x) (hj : j < size) (hx' : enc x' = (enc x).set j u) :
    Owns (w.setCell ⟨g, i * size + j, none⟩ u) base e size enc (.slice (some ⟨g, 0, none⟩) l.length cap) (l.set i x') := by
  have := (World.ownsRow.stored h (i * size + j) u).1
  rw [flat_set hE hj l i x hx hx'] at this
  show World.ownsRow _ _ _ _ _ (l.set i x').length _
  rw [List.length_set]
  exact this
def pt (n : Nat) (g : Nat → Nat) (j : Nat) : Value := if j < n then .pointer (some ⟨g j, 0, none⟩) else .pointer none
def pts (n : Nat) (g : Nat → Nat) : Array Value := #[pt n g 0, pt n g 1, pt n g 2, pt n g 3, pt n g 4, pt n g 5, pt n g 6, pt n g 7]
theorem pts_at (n : Nat) (g : Nat → Nat) {i : Nat} (h : i < 8) : (pts n g)[i]? = some (pt n g i) := by
  match i, h with
  | 0, _ => rfl
  | 1, _ => rfl
  | 2, _ => rfl
  | 3, _ => rfl
  | 4, _ => rfl
  | 5, _ => rfl
  | 6, _ => rfl
  | 7, _ => rfl
theorem pts_set (n : Nat) (g : Nat → Nat) {i : Nat} (h : i < 8) (hn : i < n) (g' : Nat) : (pts n g).setIfInBounds i (.pointer (some ⟨g', 0, none⟩)) = pts n (upd g i g') := by
  have hk : ∀ j, j ≠ i → pt n (upd g i g') j = pt n g j := fun j hj => by unfold pt; rw [upd_ne _ _ hj]
  have hi : pt n (upd g i g') i = .pointer (some ⟨g', 0, none⟩) := by unfold pt; rw [if_pos hn, upd_same]
  unfold pts
  match i, h with
  | 0, _ => rw [hi, hk 1 (by decide), hk 2 (by decide), hk 3 (by decide), hk 4 (by decide), hk 5 (by decide), hk 6 (by decide), hk 7 (by decide)]; rfl
  | 1, _ => rw [hi, hk 0 (by decide), hk 2 (by decide), hk 3 (by decide), hk 4 (by decide), hk 5 (by decide), hk 6 (by decide), hk 7 (by decide)]; rfl
  | 2, _ => rw [hi, hk 0 (by decide), hk 1 (by decide), hk 3 (by decide), hk 4 (by decide), hk 5 (by decide), hk 6 (by decide), hk 7 (by decide)]; rfl
  | 3, _ => rw [hi, hk 0 (by decide), hk 1 (by decide), hk 2 (by decide), hk 4 (by decide), hk 5 (by decide), hk 6 (by decide), hk 7 (by decide)]; rfl
  | 4, _ => rw [hi, hk 0 (by decide), hk 1 (by decide), hk 2 (by decide), hk 3 (by decide), hk 5 (by decide), hk 6 (by decide), hk 7 (by decide)]; rfl
  | 5, _ => rw [hi, hk 0 (by decide), hk 1 (by decide), hk 2 (by decide), hk 3 (by decide), hk 4 (by decide), hk 6 (by decide), hk 7 (by decide)]; rfl
  | 6, _ => rw [hi, hk 0 (by decide), hk 1 (by decide), hk 2 (by decide), hk 3 (by decide), hk 4 (by decide), hk 5 (by decide), hk 7 (by decide)]; rfl
  | 7, _ => rw [hi, hk 0 (by decide), hk 1 (by decide), hk 2 (by decide), hk 3 (by decide), hk 4 (by decide), hk 5 (by decide), hk 6 (by decide)]; rfl
structure PmIs (i : Nat) (x : PM) (q : Pp) : Prop where
  r : x.r = balR (i + 1)
  n : x.n = balN (i + 1)
  fr : x.fr = q.fr
  by_ : x.by_ = q.by_
  val : x.val = q.val
  has : x.has = q.has
/-- What lies in memory: the acceptors, the proposals. -/
structure OM (w wx : World) (n ab pb pc : Nat) (g : Nat → Nat) (L : List PM) (s : St) : Prop where
  nw : New w wx
  abk : Blk wx ab 25 (pts n g)
  abw : w.heap.size ≤ ab
  ac : ∀ k, k < n → AcIs wx (g k) (s.ac k) ∧ w.heap.size ≤ g k
  inj : ∀ i j, i < n → j < n → g i = g j → i = j
  pbo : Owns wx w.heap.size 36 21 pmE (.slice (some ⟨pb, 0, none⟩) L.length pc) L
  row : ∀ (i : Nat) (x : PM), L[i]? = some x → PmIs i x (s.pp i) ∧ Owns wx w.heap.size 45 4 Pro.enc x.pv ((s.pp i).prom.map proOf)
  dj : ∀ (i j : Nat) (x y : PM), i ≠ j → L[i]? = some x → L[j]? = some y → ∀ b, x.pv.ownBlock = some b → y.pv.ownBlock ≠ some b
section
variable {w wx wy : World} {n ab pb pc : Nat} {g : Nat → Nat} {L : List PM} {s : St}
theorem OM.new (h : OM w wx n ab pb pc g L s) (hn : New wx wy) : OM w wy n ab pb pc g L s :=
  ⟨h.nw.trans hn, h.abk.new hn, h.abw, fun k hk => ⟨AccAt.new (h.ac k hk).1 hn, (h.ac k hk).2⟩, h.inj, h.pbo.new hn, fun i x hx => ⟨(h.row i x hx).1, (h.row i x hx).2.new hn⟩, h.dj⟩
/-- One acceptor turns. -/
theorem OM.setAc (h : OM w wx n ab pb pc g L s) {k : Nat} (hk : k < n) (hu : Upd (· = g k) wx wy) {a' : Ac} (ha : AcIs wy (g k) a') : OM w wy n ab pb pc g L { s with ac := upd s.ac k a' } := by
  obtain ⟨ho, hge⟩ := h.ac k hk
  have hab : ab ≠ g k := fun e => Blk.ne_ h.abk ho (by decide) e
  refine ⟨h.nw.upd hu (fun i hi => by omega), h.abk.upd hu hab, h.abw, fun j hj => ?_, h.inj, h.pbo.upd hu (fun b hb e => Owns.ne_blk h.pbo ho (by decide) (e ▸ hb)), fun i x hx => ⟨(h.row i x hx).1, (h.row i x hx).2.upd hu (fun b hb e => Owns.ne_blk (h.row i x hx).2 ho (by decide) (e ▸ hb))⟩, h.dj⟩
  by_cases hjk : j = k
  · subst hjk
    dsimp only
    rw [upd_same]
    exact ⟨ha, hge⟩
  · dsimp only
    rw [upd_ne _ _ hjk]
    exact ⟨Blk.upd (h.ac j hj).1 hu (fun e => hjk (h.inj j k hj hk e)), (h.ac j hj).2⟩
/-- An acceptor is made anew. -/
theorem OM.again (h : OM w wx n ab pb pc g L s) {k g' : Nat} (hk : k < n) (hk8 : k < 8) (hn : New wx wy) (hg : wx.heap.size ≤ g') (ha : AcIs wy g' (s.ac k)) : OM w (wy.setCell ⟨ab, k, none⟩ (.pointer (some ⟨g', 0, none⟩))) n ab pb pc (upd g k g') L s := by
  have h1 := h.new hn
  have hu : Upd (· = ab) wy (wy.setCell ⟨ab, k, none⟩ (.pointer (some ⟨g', 0, none⟩))) := (Upd.refl _ wy).setIn k _
  have hne : ∀ j, j < n → g j ≠ g' := fun j hj e => by have := Blk.lt (h.ac j hj).1; omega
  refine ⟨h1.nw.upd hu (fun i hi => by have := h.abw; omega), ?_, h.abw, fun j hj => ?_, fun i j hi hj e => ?_, h1.pbo.upd hu (fun b hb e => Owns.ne_blk h1.pbo h1.abk (by decide) (e ▸ hb)), fun i x hx => ⟨(h.row i x hx).1, (h1.row i x hx).2.upd hu (fun b hb e => Owns.ne_blk (h1.row i x hx).2 h1.abk (by decide) (e ▸ hb))⟩, h.dj⟩
  · have := h1.abk.set_ k (.pointer (some ⟨g', 0, none⟩))
    rw [pts_set n g hk8 hk] at this
    exact this
  · by_cases hjk : j = k
    · subst hjk
      rw [upd_same]
      exact ⟨Blk.upd ha hu (fun e => Blk.ne_ ha h1.abk (by decide) e), Nat.le_trans h.nw.size hg⟩
    · rw [upd_ne _ _ hjk]
      exact ⟨Blk.upd (h1.ac j hj).1 hu (fun e => Blk.ne_ (h1.ac j hj).1 h1.abk (by decide) e), (h.ac j hj).2⟩
  · by_cases hik : i = k <;> by_cases hjk : j = k
    · rw [hik, hjk]
    · rw [hik, upd_same, upd_ne _ _ hjk] at e; exact absurd e.symm (hne j hj)
    · rw [hjk, upd_same, upd_ne _ _ hik] at e; exact absurd e (hne i hi)
    · rw [upd_ne _ _ hik, upd_ne _ _ hjk] at e; exact h.inj i j hi hj e
/-- One cell of a proposal turns (not its promises). -/
theorem OM.setP (h : OM w wx n ab pb pc g L s) {p j : Nat} {x x' : PM} {u : Value} {q : Pp} (hx : L[p]? = some x) (hj : j < 21) (hx' : pmE x' = (pmE x).set j u) (hpv : x'.pv = x.pv) (hq : PmIs p x' q) (hpr : q.prom = (s.pp p).prom) :
    OM w (wx.setCell ⟨pb, p * 21 + j, none⟩ u) n ab pb pc g (L.set p x') { s with pp := upd s.pp p q } := by
  have hu : Upd (· = pb) wx (wx.setCell ⟨pb, p * 21 + j, none⟩ u) := (Upd.refl _ wx).setIn (p * 21 + j) _
  have hpbw : w.heap.size ≤ pb := (h.pbo.lt pb rfl).1
  obtain ⟨cs, hpb⟩ : ∃ cs, Blk wx pb 36 cs := by
    rcases h.pbo.2 with h2 | ⟨g, cap, cur, hv, _, hh, _⟩
    · cases h2.1
    · cases hv; exact ⟨cur, hh⟩
  have hl := (List.getElem?_eq_some_iff.1 hx).1
  have hget : ∀ i y, (L.set p x')[i]? = some y → (i = p ∧ y = x') ∨ (i ≠ p ∧ L[i]? = some y) := fun i y hy => by
    rw [List.getElem?_set] at hy
    by_cases hip : p = i
    · subst hip; rw [if_pos rfl, if_pos hl] at hy; cases hy; exact .inl ⟨rfl, rfl⟩
    · rw [if_neg hip] at hy; exact .inr ⟨fun e => hip e.symm, hy⟩
  refine ⟨h.nw.upd hu (fun i hi => by omega), h.abk.upd hu (fun e => Blk.ne_ h.abk hpb (by decide) e), h.abw, fun k hk => ⟨Blk.upd (h.ac k hk).1 hu (fun e => Blk.ne_ (h.ac k hk).1 hpb (by decide) e), (h.ac k hk).2⟩, h.inj, ?_, fun i y hy => ?_, fun i j x1 y1 hij h1 h2 b hb => ?_⟩
  · have := owns_setF pmOk h.pbo hx hj hx'
    rw [List.length_set]
    exact this
  · rcases hget i y hy with ⟨rfl, rfl⟩ | ⟨hip, hy⟩
    · dsimp only
      rw [upd_same, hpv, hpr]
      exact ⟨hq, (h.row i x hx).2.upd hu (fun b hb e => Owns.ne_blk (h.row i x hx).2 hpb (by decide) (e ▸ hb))⟩
    · dsimp only
      rw [upd_ne _ _ hip]
      exact ⟨(h.row i y hy).1, (h.row i y hy).2.upd hu (fun b hb e => Owns.ne_blk (h.row i y hy).2 hpb (by decide) (e ▸ hb))⟩
  · rcases hget i x1 h1 with ⟨rfl, rfl⟩ | ⟨hip, k1⟩ <;> rcases hget j y1 h2 with ⟨e2, rfl⟩ | ⟨hjp, k2⟩
    · exact absurd e2.symm hij
    · rw [hpv] at hb; exact h.dj i j x y1 hij hx k2 b hb
    · subst e2; rw [hpv]; exact h.dj i j x1 x hij k1 hx b hb
    · exact h.dj i j x1 y1 hij k1 k2 b hb
/-- A promise is put behind a proposal's promises. -/
theorem OM.addR (h : OM w wx n ab pb pc g L s) {p : Nat} {x x' : PM} {q : Option (Nat × ByteArray)} {c : Pp} (hx : L[p]? = some x) (hg : wx.grownBy wy x.pv.ownBlock) (ho : Owns wy w.heap.size 45 4 Pro.enc x'.pv ((s.pp p).prom.map proOf ++ [proOf q]))
    (hb : x'.pv.ownBlock = x.pv.ownBlock ∨ x'.pv.ownBlock = some wx.heap.size) (hx' : pmE x' = (pmE x).set 2 x'.pv) (hq : PmIs p x' c) (hc : c.prom = (s.pp p).prom ++ [q]) :
    OM w (wy.setCell ⟨pb, p * 21 + 2, none⟩ x'.pv) n ab pb pc g (L.set p x') { s with pp := upd s.pp p c } := by
  have hrow := (h.row p x hx).2
  have hU : Upd (fun k => x.pv.ownBlock = some k) wx wy := (Upd.refl _ wx).grown hg (fun k _ hk => hk)
  have hu : Upd (· = pb) wy (wy.setCell ⟨pb, p * 21 + 2, none⟩ x'.pv) := (Upd.refl _ wy).setIn (p * 21 + 2) _
  have hpbw : w.heap.size ≤ pb := (h.pbo.lt pb rfl).1
  obtain ⟨cs, hpb⟩ : ∃ cs, Blk wx pb 36 cs := by
    rcases h.pbo.2 with h2 | ⟨g, cap, cur, hv, _, hh, _⟩
    · cases h2.1
    · cases hv; exact ⟨cur, hh⟩
  have hpbo : x.pv.ownBlock ≠ some pb := Owns.ne_blk hrow hpb (by decide)
  have hpb2 := hpb.upd hU hpbo
  have habo : x.pv.ownBlock ≠ some ab := Owns.ne_blk hrow h.abk (by decide)
  have hab2 := h.abk.upd hU habo
  have hl := (List.getElem?_eq_some_iff.1 hx).1
  have hget : ∀ i y, (L.set p x')[i]? = some y → (i = p ∧ y = x') ∨ (i ≠ p ∧ L[i]? = some y) := fun i y hy => by
    rw [List.getElem?_set] at hy
    by_cases hip : p = i
    · subst hip; rw [if_pos rfl, if_pos hl] at hy; cases hy; exact .inl ⟨rfl, rfl⟩
    · rw [if_neg hip] at hy; exact .inr ⟨fun e => hip e.symm, hy⟩
  have hn2 : New w wy := h.nw.upd hU (fun i hi => (hrow.lt i hi).1)
  refine ⟨hn2.upd hu (fun i hi => by omega), hab2.upd hu (fun e => Blk.ne_ hab2 hpb2 (by decide) e), h.abw, fun k hk => ?_, h.inj, ?_, fun i y hy => ?_, fun i j x1 y1 hij h1 h2 b hb1 => ?_⟩
  · have h3 := Blk.upd (h.ac k hk).1 hU (Owns.ne_blk hrow (h.ac k hk).1 (by decide))
    exact ⟨Blk.upd h3 hu (fun e => Blk.ne_ h3 hpb2 (by decide) e), (h.ac k hk).2⟩
  · have h3 := h.pbo.upd hU (fun b hb e => hpbo (by cases hb; exact e))
    have := owns_setF pmOk h3 hx (by decide) hx'
    rw [List.length_set]
    exact this
  · rcases hget i y hy with ⟨rfl, rfl⟩ | ⟨hip, hy⟩
    · dsimp only
      rw [upd_same, hc, List.map_append]
      exact ⟨hq, ho.upd hu (fun b hb e => Owns.ne_blk ho hpb2 (by decide) (e ▸ hb))⟩
    · dsimp only
      rw [upd_ne _ _ hip]
      have h3 := (h.row i y hy).2.upd hU (fun b hb e => h.dj p i x y (fun e => hip e.symm) hx hy b e hb)
      exact ⟨(h.row i y hy).1, h3.upd hu (fun b hb e => Owns.ne_blk h3 hpb2 (by decide) (e ▸ hb))⟩
  · have hfresh : ∀ (i : Nat) (y : PM), L[i]? = some y → y.pv.ownBlock ≠ some wx.heap.size := fun i y hy e => by have := ((h.row i y hy).2.lt _ e).2; omega
    rcases hget i x1 h1 with ⟨rfl, rfl⟩ | ⟨hip, k1⟩ <;> rcases hget j y1 h2 with ⟨e2, rfl⟩ | ⟨hjp, k2⟩
    · exact absurd e2.symm hij
    · rcases hb with hb | hb
      · rw [hb] at hb1; exact h.dj i j x y1 hij hx k2 b hb1
      · rw [hb] at hb1; cases hb1; exact hfresh j y1 k2
    · subst e2
      rcases hb with hb | hb
      · rw [hb]; exact h.dj i j x1 x hij k1 hx b hb1
      · rw [hb]; intro e; cases e; exact hfresh i x1 k1 hb1
    · exact h.dj i j x1 y1 hij k1 k2 b hb1
theorem OM.cell (h : OM w wx n ab pb pc g L s) {p j : Nat} {y : PM} {u : Value} (hy : L[p]? = some y) (hu : (pmE y)[j]? = some u) : wx.cell? ⟨pb, p * 21 + j, none⟩ = some u := by
  obtain ⟨A, c, hv, _, hor⟩ := Owns.slIn pmOk h.pbo
  rcases hor with hor | ⟨b, off, hA, hb, hc⟩
  · rw [hor] at hy; simp at hy
  · subst hA
    cases hv
    have := hc p y hy j u hu
    simpa using this
theorem OM.pbf (h : OM w wx n ab pb pc g L s) : pb < wx.heap.size ∧ ∀ i, wx.frozen? ⟨pb, i, none⟩ = false := by
  rcases h.pbo.2 with h2 | ⟨g, cap, cur, hv, _, hh, _⟩
  · cases h2.1
  · cases hv; exact ⟨Blk.lt (t := 36) (cs := cur) hh, Blk.frozen (t := 36) (cs := cur) hh⟩
theorem OM.updNew {w0 : World} {s0 : St} {S : Nat → Prop} (h0 : OM w w0 n ab pb pc g L s0) (h : OM w wx n ab pb pc g L s) (hu : Upd S wx wy) (hS : ∀ i, S i → w0.heap.size ≤ i) : OM w wy n ab pb pc g L s := by
  have hw := h0.nw.size
  refine ⟨h.nw.upd hu (fun i hi => by have := hS i hi; omega), h.abk.upd hu (fun hs => by have := hS _ hs; have := h0.abk.lt; omega), h.abw, fun k hk => ⟨Blk.upd (h.ac k hk).1 hu (fun hs => by have := hS _ hs; have := Blk.lt (h0.ac k hk).1; omega), (h.ac k hk).2⟩, h.inj, h.pbo.upd hu (fun b hb hs => by have := hS _ hs; have := (h0.pbo.lt b hb).2; omega), fun i x hx => ⟨(h.row i x hx).1, (h.row i x hx).2.upd hu (fun b hb hs => by have := hS _ hs; have := ((h0.row i x hx).2.lt b hb).2; omega)⟩, h.dj⟩
end
end Go.Proofs.Ytghhcjpilcoblaa
