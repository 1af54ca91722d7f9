/- Chapter 22 (decree): one node ticks and all is delivered: what each packet makes of the group as seen from one slot; what holds all the while; the run to its end; a turn whole. No program here. -/
import Derived.Test.YtghhcjpilcoblaaDcS
namespace Go.Proofs.Ytghhcjpilcoblaa
open Go.RowKit Go.Lap
set_option linter.unusedVariables false
/-- The group as seen from a slot and from the node that ticks. -/
structure Vw where
  A : Nat → Acr
  L : Nat → Nat → Option ByteArray
  pe : List ByteArray
  nw : Option Prs
  rd : Nat
def vw (i s : Nat) (g : Gm) : Vw := ⟨fun k => (g.nd k).acr s, fun k => (g.nd k).lg, (g.nd i).pe, (g.nd i).nw, (g.nd i).rd⟩
/-- The node that ticks comes to know a value; another one does. -/
def Vw.know (x : Vw) (i t : Nat) (v : ByteArray) : Vw :=
  if (x.L i t).isSome then x else
    if x.pe.head? = some v then { x with L := set x.L i (set (x.L i) t (some v)), pe := x.pe.tail, nw := none }
    else { x with L := set x.L i (set (x.L i) t (some v)), nw := match x.nw with | some p => if p.s = t then none else some p | none => none }
def Vw.kno (x : Vw) (k t : Nat) (v : ByteArray) : Vw := if (x.L k t).isSome then x else { x with L := set x.L k (set (x.L k) t (some v)) }
/-- The packets that can be under way. -/
inductive Shp (n i s r : Nat) (x : Vw) : Pkt → Prop where
  | prep (k : Nat) : k < n → Shp n i s r x ⟨i, k, mPrep s r i⟩
  | ask (k : Nat) : k < n → k ≠ i → Shp n i s r x ⟨i, k, mAsk s⟩
  | prom (k : Nat) (a : Acr) : k < n → Shp n i s r x ⟨k, i, mProm s r i a⟩
  | prop (k : Nat) (v : ByteArray) : k < n → Shp n i s r x ⟨i, k, mProp s r i v⟩
  | acc (k : Nat) : k < n → Shp n i s r x ⟨k, i, mAcc s r i⟩
  | refu (k pr pn : Nat) : k < n → Shp n i s r x ⟨k, i, mRef s pr pn⟩
  | learn (k t : Nat) (v : ByteArray) : k < n → s ≤ t → t < s + 5 → (∃ k', k' < n ∧ (x.L k' t).isSome = true) → Shp n i s r x ⟨k, i, mLearn t v⟩
  | told (k : Nat) (v : ByteArray) : k < n → k ≠ i → (x.L i s).isSome = true → Shp n i s r x ⟨i, k, mLearn s v⟩
def fiveP (x : Vw) (i s k : Nat) : List Pkt := (List.range 5).filterMap fun j => (x.L k (s + j)).map fun v => ⟨k, i, mLearn (s + j) v⟩
def isQ (s r i : Nat) (m : Msg) : Prop := m = mPrep s r i ∨ ∃ u, m = mProp s r i u
/-- What a packet's arrival makes of it. -/
inductive Ev (n i s r : Nat) (x : Vw) : Pkt → Vw → List Pkt → Prop where
  | known (k : Nat) (v : ByteArray) (m : Msg) : k < n → x.L k s = some v → isQ s r i m → Ev n i s r x ⟨i, k, m⟩ x [⟨k, i, mLearn s v⟩]
  | refuse (k : Nat) (m : Msg) : k < n → x.L k s = none → bal r i < (x.A k).pb → isQ s r i m → Ev n i s r x ⟨i, k, m⟩ x [⟨k, i, mRef s (x.A k).r (x.A k).n⟩]
  | prom (k : Nat) : k < n → x.L k s = none → (x.A k).pb ≤ bal r i → Ev n i s r x ⟨i, k, mPrep s r i⟩ { x with A := set x.A k { x.A k with r := r, n := i } } [⟨k, i, mProm s r i (x.A k)⟩]
  | acc (k : Nat) (v : ByteArray) : k < n → x.L k s = none → (x.A k).pb ≤ bal r i → Ev n i s r x ⟨i, k, mProp s r i v⟩ { x with A := set x.A k ⟨r, i, true, r, i, v⟩ } [⟨k, i, mAcc s r i⟩]
  | promNo (k : Nat) (a : Acr) : k < n → (∀ p, x.nw = some p → p.ch = true ∨ (k : Int) ∈ p.fr) → Ev n i s r x ⟨k, i, mProm s r i a⟩ x []
  | promAdd (k : Nat) (a : Acr) (p : Prs) : k < n → x.nw = some p → p.ch = false → ¬ (k : Int) ∈ p.fr → p.fr.length + 1 < quor n → Ev n i s r x ⟨k, i, mProm s r i a⟩ { x with nw := some { p with fr := p.fr ++ [(k : Int)], pm := p.pm ++ [(mProm s r i a).pro] } } []
  | promAll (k : Nat) (a : Acr) (p : Prs) (v : ByteArray) : k < n → x.nw = some p → p.ch = false → ¬ (k : Int) ∈ p.fr → quor n ≤ p.fr.length + 1 → v = (Pro.best (x.pe.headD E0) (p.pm ++ [(mProm s r i a).pro])).v →
      Ev n i s r x ⟨k, i, mProm s r i a⟩ { x with nw := some { p with fr := p.fr ++ [(k : Int)], pm := p.pm ++ [(mProm s r i a).pro], v := v, ch := true } } ((allOf n).map fun d => ⟨i, d, mProp s r i v⟩)
  | accNo (k : Nat) : k < n → (∀ p, x.nw = some p → p.ch = false) → Ev n i s r x ⟨k, i, mAcc s r i⟩ x []
  | accAdd (k : Nat) (p : Prs) : k < n → x.nw = some p → p.ch = true → (addL p.by_ (k : Int)).length < quor n → Ev n i s r x ⟨k, i, mAcc s r i⟩ { x with nw := some { p with by_ := addL p.by_ (k : Int) } } []
  | accAll (k : Nat) (p : Prs) : k < n → x.nw = some p → p.ch = true → quor n ≤ (addL p.by_ (k : Int)).length → Ev n i s r x ⟨k, i, mAcc s r i⟩ (({ x with nw := some { p with by_ := addL p.by_ (k : Int) } } : Vw).know i s p.v) ((othersOf n i).map fun d => ⟨i, d, mLearn s p.v⟩)
  | refused (k pr pn : Nat) : k < n → Ev n i s r x ⟨k, i, mRef s pr pn⟩ { x with rd := max x.rd pr, nw := none } []
  | learn (k t : Nat) (v : ByteArray) : k < n → s ≤ t → t < s + 5 → (∃ k', k' < n ∧ (x.L k' t).isSome = true) → Ev n i s r x ⟨k, i, mLearn t v⟩ (x.know i t v) []
  | told (k : Nat) (v : ByteArray) : k < n → k ≠ i → (x.L i s).isSome = true → Ev n i s r x ⟨i, k, mLearn s v⟩ (x.kno k s v) []
  | ask (k : Nat) : k < n → k ≠ i → Ev n i s r x ⟨i, k, mAsk s⟩ x (fiveP x i s k)
/-- All others do nothing of their own. -/
def Idle (n i : Nat) (g : Gm) : Prop := ∀ k, k < n → k ≠ i → (g.nd k).pe = [] ∧ (g.nd k).nw = none
theorem sendTo_app {fr : Nat} {m : Msg} : ∀ {l : List Nat} {b : List Pkt}, b.length + l.length ≤ 256 → sendTo b fr m l = b ++ l.map fun d => ⟨fr, d, m⟩
  | [], b, _ => by simp [sendTo]
  | d :: l, b, h => by
    have h1 : sendB b ⟨fr, d, m⟩ = b ++ [⟨fr, d, m⟩] := by unfold sendB; rw [if_pos (by simp at h; omega)]
    have : sendTo b fr m (d :: l) = sendTo (sendB b ⟨fr, d, m⟩) fr m l := rfl
    rw [this, h1, sendTo_app (l := l) (by simp at h ⊢; omega), List.map_cons, List.append_assoc]
    rfl
theorem foldB_app : ∀ {l : List Pkt} {b : List Pkt}, b.length + l.length ≤ 256 → l.foldl sendB b = b ++ l
  | [], b, _ => by simp
  | d :: l, b, h => by
    have h1 : sendB b d = b ++ [d] := by unfold sendB; rw [if_pos (by simp at h; omega)]
    rw [List.foldl_cons, h1, foldB_app (l := l) (by simp at h ⊢; omega), List.append_assoc]
    rfl
theorem sendB_app {b : List Pkt} {p : Pkt} (h : b.length + 1 ≤ 256) : sendB b p = b ++ [p] := by unfold sendB; rw [if_pos (by omega)]
section
variable {n i s r B : Nat} {g : Gm} {b : List Pkt}
theorem vw_acr {k : Nat} {y : Nod} (hl : y.lg = (g.nd k).lg) (hpe : k = i → y.pe = (g.nd i).pe) (hnw : k = i → y.nw = (g.nd i).nw) (hrd : k = i → y.rd = (g.nd i).rd) :
    vw i s ⟨set g.nd k y, b⟩ = { vw i s g with A := set (vw i s g).A k (y.acr s) } := by
  unfold vw
  dsimp only
  congr 1
  · exact set_acr g.nd k y s
  · funext j; by_cases hj : j = k
    · rw [hj, set_same, hl]
    · rw [set_ne _ _ hj]
  · by_cases h : i = k
    · subst h; rw [set_same]; exact hpe rfl
    · rw [set_ne _ _ h]
  · by_cases h : i = k
    · subst h; rw [set_same]; exact hnw rfl
    · rw [set_ne _ _ h]
  · by_cases h : i = k
    · subst h; rw [set_same]; exact hrd rfl
    · rw [set_ne _ _ h]
theorem vw_pro {y : Nod} (ha : ∀ t, y.acr t = (g.nd i).acr t) : vw i s ⟨set g.nd i y, b⟩ = ⟨(vw i s g).A, set (vw i s g).L i y.lg, y.pe, y.nw, y.rd⟩ := by
  unfold vw
  dsimp only
  rw [set_same]
  congr 1
  · rw [set_acr, ha]; exact set_self (fun k => (g.nd k).acr s) i
  · funext j; by_cases hj : j = i
    · rw [hj, set_same, set_same]
    · rw [set_ne _ _ hj, set_ne _ _ hj]
theorem vw_know {y : Nod} {t : Nat} {v : ByteArray} {x : Vw} (hx : vw i s ⟨set g.nd i y, b⟩ = x) (ha : ∀ t, y.acr t = (g.nd i).acr t) : vw i s ⟨set g.nd i (y.know t v), b⟩ = x.know i t v := by
  rw [vw_pro ha] at hx
  subst hx
  rw [vw_pro (fun t' => by rw [know_acr, ha])]
  have hL : (⟨(vw i s g).A, set (vw i s g).L i y.lg, y.pe, y.nw, y.rd⟩ : Vw).L i = y.lg := set_same _ _ _
  unfold Vw.know
  rw [hL]
  by_cases h1 : (y.lg t).isSome = true
  · have : y.know t v = y := by unfold Nod.know; rw [if_pos h1]
    rw [this, if_pos h1]
  · rw [if_neg h1]
    dsimp only
    by_cases h2 : y.pe.head? = some v
    · have : y.know t v = { y with lg := set y.lg t (some v), pe := y.pe.tail, nw := none } := by unfold Nod.know; rw [if_neg h1]; dsimp only; rw [if_pos h2]
      rw [this, if_pos h2, set_set]
    · have : y.know t v = { y with lg := set y.lg t (some v), nw := match y.nw with | some p => if p.s = t then none else some p | none => none } := by unfold Nod.know; rw [if_neg h1]; dsimp only; rw [if_neg h2]; cases y.nw <;> rfl
      rw [this, if_neg h2, set_set]
theorem vw_kno {k : Nat} (hk : k ≠ i) (hpe : (g.nd k).pe = []) (hnw : (g.nd k).nw = none) {t : Nat} {v : ByteArray} : vw i s ⟨set g.nd k ((g.nd k).know t v), b⟩ = (vw i s g).kno k t v := by
  have h1 := know_acr (g.nd k) t v s
  unfold vw
  dsimp only
  rw [set_ne _ _ (Ne.symm hk), set_acr, h1, set_self (fun k => (g.nd k).acr s) k]
  unfold Vw.kno
  dsimp only
  have : (fun j => (set g.nd k ((g.nd k).know t v) j).lg) = set (fun j => (g.nd j).lg) k ((g.nd k).know t v).lg := by
    funext j; by_cases hj : j = k
    · rw [hj, set_same, set_same]
    · rw [set_ne _ _ hj, set_ne _ _ hj]
  rw [this]
  unfold Nod.know
  split
  · rw [set_self (fun j => (g.nd j).lg) k]
  · rw [hpe, hnw]
    simp
theorem idle_set (h : Idle n i g) {k : Nat} {y : Nod} (hy : k ≠ i → y.pe = [] ∧ y.nw = none) : Idle n i ⟨set g.nd k y, b⟩ := fun j hj hji => by
  show (set g.nd k y j).pe = [] ∧ (set g.nd k y j).nw = none
  by_cases hjk : j = k
  · rw [hjk, set_same]; exact hy (hjk ▸ hji)
  · rw [set_ne _ _ hjk]; exact h j hj hji
/-- What else of the group stays. -/
structure Els (n i s : Nat) (g g' : Gm) : Prop where
  idle : Idle n i g'
  ac : ∀ k t, t ≠ s → (g'.nd k).acr t = (g.nd k).acr t
theorem els_set (h : Idle n i g) {k : Nat} {y : Nod} (hy : k ≠ i → y.pe = [] ∧ y.nw = none) (ha : ∀ t, t ≠ s → y.acr t = (g.nd k).acr t) : Els n i s g ⟨set g.nd k y, b⟩ :=
  ⟨idle_set h hy, fun j t ht => by
    show (set g.nd k y j).acr t = _
    by_cases hjk : j = k
    · rw [hjk, set_same]; exact ha t ht
    · rw [set_ne _ _ hjk]⟩
theorem dcAsk_known {x : Nod} {m : Msg} {v : ByteArray} (h : x.lg m.s = some v) : x.asked m = (x, mLearn m.s v) := by unfold Nod.asked; rw [h]
theorem dcAsk_ref {x : Nod} {m : Msg} (h : x.lg m.s = none) (hl : lessB m.r m.n (x.acr m.s).r (x.acr m.s).n = true) : x.asked m = ({ x with ac := set x.ac m.s (some (x.acr m.s)) }, mRef m.s (x.acr m.s).r (x.acr m.s).n) := by
  unfold Nod.asked; rw [h]; dsimp only; rw [if_pos hl]
theorem dcAsk_prep {x : Nod} {m : Msg} (h : x.lg m.s = none) (hl : lessB m.r m.n (x.acr m.s).r (x.acr m.s).n = false) (hk : m.k = 0) : x.asked m = ({ x with ac := set x.ac m.s (some { x.acr m.s with r := m.r, n := m.n }) }, mProm m.s m.r m.n (x.acr m.s)) := by
  unfold Nod.asked; rw [h]; dsimp only; rw [hl, if_neg (by decide), if_pos hk]
theorem dcAsk_prop {x : Nod} {m : Msg} (h : x.lg m.s = none) (hl : lessB m.r m.n (x.acr m.s).r (x.acr m.s).n = false) (hk : m.k ≠ 0) : x.asked m = ({ x with ac := set x.ac m.s (some ⟨m.r, m.n, true, m.r, m.n, m.v⟩) }, mAcc m.s m.r m.n) := by
  unfold Nod.asked; rw [h]; dsimp only; rw [hl, if_neg (by decide), if_neg hk]
theorem ex_out {x : Vw} {p : Pkt} {G : Gm} {x' : Vw} {out : List Pkt} {C : Prop} (h1 : Ev n i s r x p x' out) (h2 : C → vw i s G = x' ∧ G.bg = b ++ out ∧ Els n i s g G) (hC : b.length + out.length ≤ 256 → C) :
    ∃ x' out, Ev n i s r x p x' out ∧ (b.length + out.length ≤ 256 → vw i s G = x' ∧ G.bg = b ++ out ∧ Els n i s g G) := ⟨x', out, h1, fun h => h2 (hC h)⟩
theorem acr_else (x : Nod) {t t' : Nat} (h : t' ≠ t) (a : Acr) : ({ x with ac := set x.ac t (some a) } : Nod).acr t' = x.acr t' := by rw [acr_set, if_neg h]
theorem acr_same (x : Nod) (t : Nat) (a : Acr) : ({ x with ac := set x.ac t (some a) } : Nod).acr t = a := by rw [acr_set, if_pos rfl]
/-- Who is asked. -/
theorem ev_asked (hok : GmOk n B g) (hn : n ≤ 7) (hi : i < n) (hid : Idle n i g) {k : Nat} (hk : k < n) {m : Msg} (hB : 0 < B) (hm : isQ s r i m) :
    ∃ x' out, Ev n i s r (vw i s g) ⟨i, k, m⟩ x' out ∧ (b.length + out.length ≤ 256 → vw i s ⟨set g.nd k ((g.nd k).asked m).1, sendB b ⟨k, i, ((g.nd k).asked m).2⟩⟩ = x' ∧ (⟨set g.nd k ((g.nd k).asked m).1, sendB b ⟨k, i, ((g.nd k).asked m).2⟩⟩ : Gm).bg = b ++ out ∧ Els n i s g ⟨set g.nd k ((g.nd k).asked m).1, sendB b ⟨k, i, ((g.nd k).asked m).2⟩⟩) := by
  have hms : m.s = s := by rcases hm with rfl | ⟨u, rfl⟩ <;> rfl
  have hmr : m.r = r := by rcases hm with rfl | ⟨u, rfl⟩ <;> rfl
  have hmn : m.n = i := by rcases hm with rfl | ⟨u, rfl⟩ <;> rfl
  have hidk := hid k hk
  have han := ((hok.nd k hk).acr hB s).n
  have hless : lessB m.r m.n ((g.nd k).acr m.s).r ((g.nd k).acr m.s).n = decide (bal r i < ((g.nd k).acr s).pb) := by
    rw [hms, hmr, hmn]; exact lessB_bal (by omega) han
  cases hl : (g.nd k).lg s with
  | some v =>
    rw [dcAsk_known (v := v) (by rw [hms]; exact hl), hms]
    refine ⟨_, _, .known k v m hk hl hm, fun hb => ⟨?_, sendB_app hb, els_set hid hidk fun t _ => rfl⟩⟩
    rw [vw_acr rfl (fun h => by rw [h]) (fun h => by rw [h]) (fun h => by rw [h])]
    have : set (vw i s g).A k ((g.nd k).acr s) = (vw i s g).A := set_self (fun k => (g.nd k).acr s) k
    rw [this]
  | none =>
    by_cases hlt : bal r i < ((g.nd k).acr s).pb
    · rw [decide_eq_true hlt] at hless
      rw [dcAsk_ref (by rw [hms]; exact hl) hless, hms]
      refine ⟨_, _, .refuse k m hk hl hlt hm, fun hb => ⟨?_, sendB_app hb, els_set hid hidk fun t ht => acr_else _ ht _⟩⟩
      refine (vw_acr (y := { g.nd k with ac := set (g.nd k).ac s (some ((g.nd k).acr s)) }) rfl (fun h => by subst h; rfl) (fun h => by subst h; rfl) (fun h => by subst h; rfl)).trans ?_
      rw [acr_same]
      have : set (vw i s g).A k ((g.nd k).acr s) = (vw i s g).A := set_self (fun k => (g.nd k).acr s) k
      rw [this]
    · rw [decide_eq_false hlt] at hless
      rcases hm with rfl | ⟨u, rfl⟩
      · rw [dcAsk_prep hl hless rfl]
        refine ⟨_, _, .prom k hk hl (by show ((g.nd k).acr s).pb ≤ _; omega), fun hb => ⟨?_, sendB_app hb, els_set hid hidk fun t ht => acr_else _ ht _⟩⟩
        refine (vw_acr (y := { g.nd k with ac := set (g.nd k).ac s (some { (g.nd k).acr s with r := r, n := i }) }) rfl (fun h => by subst h; rfl) (fun h => by subst h; rfl) (fun h => by subst h; rfl)).trans ?_
        exact congrArg (fun a => ({ vw i s g with A := set (vw i s g).A k a } : Vw)) (acr_same (g.nd k) s _)
      · rw [dcAsk_prop hl hless (by show (2 : Nat) ≠ 0; omega)]
        refine ⟨_, _, .acc k u hk hl (by show ((g.nd k).acr s).pb ≤ _; omega), fun hb => ⟨?_, sendB_app hb, els_set hid hidk fun t ht => acr_else _ ht _⟩⟩
        refine (vw_acr (y := { g.nd k with ac := set (g.nd k).ac s (some ⟨r, i, true, r, i, u⟩) }) rfl (fun h => by subst h; rfl) (fun h => by subst h; rfl) (fun h => by subst h; rfl)).trans ?_
        exact congrArg (fun a => ({ vw i s g with A := set (vw i s g).A k a } : Vw)) (acr_same (g.nd k) s _)
theorem vw_same {y : Nod} (hl : y.lg = (g.nd i).lg) (ha : ∀ t, y.acr t = (g.nd i).acr t) : vw i s ⟨set g.nd i y, b⟩ = { vw i s g with pe := y.pe, nw := y.nw, rd := y.rd } := by
  rw [vw_pro ha, hl]
  have : set (vw i s g).L i (g.nd i).lg = (vw i s g).L := set_self (fun k => (g.nd k).lg) i
  rw [this]
theorem set_own (g : Gm) (i : Nat) (b : List Pkt) : (⟨set g.nd i (g.nd i), b⟩ : Gm) = ⟨g.nd, b⟩ := by rw [set_self]
theorem els_own (hid : Idle n i g) : Els n i s g ⟨g.nd, b⟩ := ⟨hid, fun _ _ _ => rfl⟩
/-- A packet arrives. -/
theorem arrive_ev (hok : GmOk n B g) (hB : 0 < B) (hn : n ≤ 7) (hi : i < n) (hid : Idle n i g) {p : Pkt} (hs : Shp n i s r (vw i s g) p) (hnw : ∀ q, (g.nd i).nw = some q → q.s = s ∧ q.r = r ∧ q.n = i) :
    ∃ x' out, Ev n i s r (vw i s g) p x' out ∧ (b.length + out.length ≤ 256 → vw i s (g.arrive n p b) = x' ∧ (g.arrive n p b).bg = b ++ out ∧ Els n i s g (g.arrive n p b)) := by
  have hidi : i ≠ i → (g.nd i).pe = [] ∧ (g.nd i).nw = none := fun h => absurd rfl h
  cases hs with
  | prep k hk => exact ev_asked hok hn hi hid hk hB (.inl rfl)
  | prop k v hk => exact ev_asked hok hn hi hid hk hB (.inr ⟨v, rfl⟩)
  | ask k hk hki =>
    refine ⟨_, _, .ask k hk hki, fun hb => ?_⟩
    have e : g.arrive n ⟨i, k, mAsk s⟩ b = ⟨g.nd, b ++ fiveP (vw i s g) i s k⟩ := by
      show (⟨g.nd, ((g.nd k).five s).foldl (fun b m => sendB b ⟨k, i, m⟩) b⟩ : Gm) = _
      have e1 : ∀ (l : List Msg) (b : List Pkt), l.foldl (fun b m => sendB b ⟨k, i, m⟩) b = (l.map fun m => (⟨k, i, m⟩ : Pkt)).foldl sendB b := fun l b => by rw [List.foldl_map]
      have e2 : ((g.nd k).five s).map (fun m => (⟨k, i, m⟩ : Pkt)) = fiveP (vw i s g) i s k := by
        unfold Nod.five fiveP
        rw [List.map_filterMap]
        congr 1
        funext j
        rw [Option.map_map]; rfl
      rw [e1, e2, foldB_app hb]
    rw [e]
    exact ⟨rfl, rfl, els_own hid⟩
  | refu k pr pn hk =>
    refine ⟨_, _, .refused k pr pn hk, fun hb => ?_⟩
    have e : g.arrive n ⟨k, i, mRef s pr pn⟩ b = ⟨set g.nd i ((g.nd i).refused (mRef s pr pn)), b⟩ := rfl
    rw [e]
    refine ⟨?_, by simp, els_set hid (fun h => absurd rfl h) fun t _ => rfl⟩
    refine Eq.trans (vw_same ?_ ?_) ?_
    · rfl
    · exact fun _ => rfl
    have : ((g.nd i).refused (mRef s pr pn)).nw = none := by
      unfold Nod.refused
      dsimp only
      cases hq : (g.nd i).nw with
      | none => rfl
      | some q => exact if_pos (hnw q hq).1
    rw [this]; rfl
  | learn k t v hk h1 h2 h3 =>
    refine ⟨_, _, .learn k t v hk h1 h2 h3, fun hb => ?_⟩
    have e : g.arrive n ⟨k, i, mLearn t v⟩ b = ⟨set g.nd i ((g.nd i).know t v), b⟩ := rfl
    rw [e]
    exact ⟨vw_know (y := g.nd i) (by rw [set_own]; rfl) (fun _ => rfl), by simp, els_set hid (fun h => absurd rfl h) fun t' _ => know_acr _ _ _ _⟩
  | told k v hk hki h3 =>
    refine ⟨_, _, .told k v hk hki h3, fun hb => ?_⟩
    have e : g.arrive n ⟨i, k, mLearn s v⟩ b = ⟨set g.nd k ((g.nd k).know s v), b⟩ := rfl
    obtain ⟨hpe, hno⟩ := hid k hk hki
    rw [e]
    refine ⟨vw_kno hki hpe hno, by simp, els_set hid (fun _ => ?_) fun t' _ => know_acr _ _ _ _⟩
    unfold Nod.know
    split
    · exact ⟨hpe, hno⟩
    · rw [hpe, hno]; exact ⟨rfl, rfl⟩
  | prom k a hk =>
    have hself : ∀ (h : ∀ p, (g.nd i).nw = some p → p.ch = true ∨ (k : Int) ∈ p.fr), g.arrive n ⟨k, i, mProm s r i a⟩ b = ⟨g.nd, b⟩ := fun h => by
      have e : g.arrive n ⟨k, i, mProm s r i a⟩ b = ⟨set g.nd i ((g.nd i).promised n k (mProm s r i a)).1, match ((g.nd i).promised n k (mProm s r i a)).2 with | some m => sendTo b i m (allOf n) | none => b⟩ := rfl
      have : (g.nd i).promised n k (mProm s r i a) = (g.nd i, none) := by
        unfold Nod.promised
        cases hq : (g.nd i).nw with
        | none => rfl
        | some q => exact if_pos (.inr (h q hq))
      rw [e, this, set_own]
    by_cases h : ∀ p, (g.nd i).nw = some p → p.ch = true ∨ (k : Int) ∈ p.fr
    · refine ⟨_, _, .promNo k a hk h, fun hb => ?_⟩
      rw [hself h]
      exact ⟨rfl, by simp, els_own hid⟩
    · obtain ⟨q, hq⟩ : ∃ q, (g.nd i).nw = some q ∧ ¬ (q.ch = true ∨ (k : Int) ∈ q.fr) := by
        refine Classical.byContradiction fun hno => h fun q hq => Classical.byContradiction fun h2 => hno ⟨q, hq, h2⟩
      obtain ⟨hq, hno⟩ := hq
      obtain ⟨hc, hf⟩ := not_or.1 hno
      have hc : q.ch = false := by simpa using hc
      obtain ⟨e1, e2, e3⟩ := hnw q hq
      have hmine : mineP q (mProm s r i a) = true := by unfold mineP; exact decide_eq_true ⟨e1, e2, e3⟩
      have hcond : ¬ (mineP q (mProm s r i a) = false ∨ q.ch = true ∨ (k : Int) ∈ q.fr) := by rw [hmine, hc]; simpa using hf
      have e : g.arrive n ⟨k, i, mProm s r i a⟩ b = ⟨set g.nd i ((g.nd i).promised n k (mProm s r i a)).1, match ((g.nd i).promised n k (mProm s r i a)).2 with | some m => sendTo b i m (allOf n) | none => b⟩ := rfl
      by_cases hlen : quor n ≤ q.fr.length + 1
      · refine ⟨_, _, .promAll k a q _ hk hq hc hf hlen rfl, fun hb => ?_⟩
        have : (g.nd i).promised n k (mProm s r i a) = ({ g.nd i with nw := some { q with fr := q.fr ++ [(k : Int)], pm := q.pm ++ [(mProm s r i a).pro], v := (Pro.best ((g.nd i).pe.headD E0) (q.pm ++ [(mProm s r i a).pro])).v, ch := true } }, some (mProp q.s q.r q.n (Pro.best ((g.nd i).pe.headD E0) (q.pm ++ [(mProm s r i a).pro])).v)) := by
          unfold Nod.promised
          rw [hq]
          dsimp only
          rw [if_neg hcond, if_pos hlen]
        rw [e, this]
        dsimp only
        refine ⟨?_, ?_, els_set hid (fun h => absurd rfl h) fun t _ => rfl⟩
        · refine Eq.trans (vw_same ?_ ?_) ?_; rfl; exact fun _ => rfl; rfl
        · rw [e1, e2, e3]; exact sendTo_app (by simpa using hb)
      · refine ⟨_, _, .promAdd k a q hk hq hc hf (by omega), fun hb => ?_⟩
        have : (g.nd i).promised n k (mProm s r i a) = ({ g.nd i with nw := some { q with fr := q.fr ++ [(k : Int)], pm := q.pm ++ [(mProm s r i a).pro] } }, none) := by
          unfold Nod.promised
          rw [hq]
          dsimp only
          rw [if_neg hcond, if_neg hlen]
        rw [e, this]
        dsimp only
        refine ⟨?_, by simp, els_set hid (fun h => absurd rfl h) fun t _ => rfl⟩
        refine Eq.trans (vw_same ?_ ?_) ?_; rfl; exact fun _ => rfl; rfl
  | acc k hk =>
    have e : g.arrive n ⟨k, i, mAcc s r i⟩ b = ⟨set g.nd i ((g.nd i).taken n k (mAcc s r i)).1, match ((g.nd i).taken n k (mAcc s r i)).2 with | some m => sendTo b i m (othersOf n i) | none => b⟩ := rfl
    by_cases h : ∀ p, (g.nd i).nw = some p → p.ch = false
    · refine ⟨_, _, .accNo k hk h, fun hb => ?_⟩
      have : (g.nd i).taken n k (mAcc s r i) = (g.nd i, none) := by
        unfold Nod.taken
        cases hq : (g.nd i).nw with
        | none => rfl
        | some q => exact if_pos (.inr (h q hq))
      rw [e, this, set_own]
      exact ⟨rfl, by simp, els_own hid⟩
    · obtain ⟨q, hq⟩ : ∃ q, (g.nd i).nw = some q ∧ ¬ q.ch = false := by
        refine Classical.byContradiction fun hno => h fun q hq => Classical.byContradiction fun h2 => hno ⟨q, hq, h2⟩
      obtain ⟨hq, hc⟩ := hq
      have hc : q.ch = true := by simpa using hc
      obtain ⟨e1, e2, e3⟩ := hnw q hq
      have hmine : mineP q (mAcc s r i) = true := by unfold mineP; exact decide_eq_true ⟨e1, e2, e3⟩
      have hcond : ¬ (mineP q (mAcc s r i) = false ∨ q.ch = false) := by rw [hmine, hc]; simp
      by_cases hlen : quor n ≤ (addL q.by_ (k : Int)).length
      · refine ⟨_, _, .accAll k q hk hq hc hlen, fun hb => ?_⟩
        have : (g.nd i).taken n k (mAcc s r i) = (({ g.nd i with nw := some { q with by_ := addL q.by_ (k : Int) } } : Nod).know q.s q.v, some (mLearn q.s q.v)) := by
          unfold Nod.taken
          rw [hq]
          dsimp only
          rw [if_neg hcond, if_pos hlen]
        rw [e, this]
        dsimp only
        refine ⟨?_, ?_, els_set hid (fun h => absurd rfl h) fun t _ => know_acr _ _ _ _⟩
        · rw [e1]
          refine vw_know ?_ ?_
          · refine Eq.trans (vw_same ?_ ?_) ?_
            · rfl
            · exact fun _ => rfl
            · rfl
          · exact fun _ => rfl
        · rw [e1]; exact sendTo_app (by simpa using hb)
      · refine ⟨_, _, .accAdd k q hk hq hc (by omega), fun hb => ?_⟩
        have : (g.nd i).taken n k (mAcc s r i) = ({ g.nd i with nw := some { q with by_ := addL q.by_ (k : Int) } }, none) := by
          unfold Nod.taken
          rw [hq]
          dsimp only
          rw [if_neg hcond, if_neg hlen]
        rw [e, this]
        dsimp only
        refine ⟨?_, by simp, els_set hid (fun h => absurd rfl h) fun t _ => rfl⟩
        refine Eq.trans (vw_same ?_ ?_) ?_; rfl; exact fun _ => rfl; rfl
end
section
variable {n i s r : Nat} {x x' : Vw} {p : Pkt} {b out : List Pkt} {pe0 : List ByteArray}
theorem kn_A (x : Vw) (i t : Nat) (v : ByteArray) : (x.know i t v).A = x.A := by
  unfold Vw.know; split
  · rfl
  · split <;> rfl
theorem kn_rd (x : Vw) (i t : Nat) (v : ByteArray) : (x.know i t v).rd = x.rd := by
  unfold Vw.know; split
  · rfl
  · split <;> rfl
theorem kn_L (x : Vw) (i t : Nat) (v : ByteArray) (k u : Nat) : (x.know i t v).L k u = if k = i ∧ u = t ∧ x.L i t = none then some v else x.L k u := by
  have hs : ∀ k u, set x.L i (set (x.L i) t (some v)) k u = if k = i ∧ u = t then some v else x.L k u := fun k u => by
    by_cases hk : k = i
    · subst hk
      rw [set_same]
      by_cases hu : u = t
      · rw [hu, set_same, if_pos ⟨rfl, rfl⟩]
      · rw [set_ne _ _ hu, if_neg (fun h => hu h.2)]
    · rw [set_ne _ _ hk, if_neg (fun h => hk h.1)]
  unfold Vw.know
  by_cases h : (x.L i t).isSome = true
  · rw [if_pos h, if_neg]
    rintro ⟨_, _, h3⟩
    rw [h3] at h; cases h
  · have h0 : x.L i t = none := by simpa using h
    rw [if_neg h]
    have e : (if k = i ∧ u = t ∧ x.L i t = none then some v else x.L k u) = if k = i ∧ u = t then some v else x.L k u := by simp [h0]
    rw [e]
    split
    · exact hs k u
    · exact hs k u
theorem kn_pe (x : Vw) (i t : Nat) (v : ByteArray) : (x.know i t v).pe = if x.L i t = none ∧ x.pe.head? = some v then x.pe.tail else x.pe := by
  unfold Vw.know
  by_cases h : (x.L i t).isSome = true
  · rw [if_pos h, if_neg]
    rintro ⟨h3, _⟩
    rw [h3] at h; cases h
  · have h0 : x.L i t = none := by simpa using h
    rw [if_neg h]
    by_cases hv : x.pe.head? = some v
    · rw [if_pos hv, if_pos ⟨h0, hv⟩]
    · rw [if_neg hv, if_neg (fun h => hv h.2)]
theorem kn_nw {x : Vw} {i t : Nat} {v : ByteArray} {q : Prs} (h : (x.know i t v).nw = some q) : x.nw = some q ∧ ((x.L i t).isSome = true ∨ (q.s ≠ t ∧ (x.know i t v).pe = x.pe)) := by
  have hp := kn_pe x i t v
  unfold Vw.know at h
  by_cases hs : (x.L i t).isSome = true
  · rw [if_pos hs] at h; exact ⟨h, .inl hs⟩
  · rw [if_neg hs] at h
    by_cases hv : x.pe.head? = some v
    · rw [if_pos hv] at h; cases h
    · rw [if_neg hv] at h
      rw [if_neg (fun h => hv h.2)] at hp
      dsimp only at h
      cases hn : x.nw with
      | none => rw [hn] at h; cases h
      | some q' =>
        rw [hn] at h
        dsimp only at h
        split at h
        · cases h
        · rename_i hne
          cases h
          exact ⟨rfl, .inr ⟨hne, hp⟩⟩
theorem kn_nw0 {x : Vw} {i t : Nat} {v : ByteArray} (h : (x.know i t v).nw = none) : x.nw = none ∨ (x.L i t = none ∧ (x.pe.head? = some v ∨ ∃ q, x.nw = some q ∧ q.s = t)) := by
  unfold Vw.know at h
  by_cases hs : (x.L i t).isSome = true
  · rw [if_pos hs] at h; exact .inl h
  · have h0 : x.L i t = none := by simpa using hs
    rw [if_neg hs] at h
    by_cases hv : x.pe.head? = some v
    · exact .inr ⟨h0, .inl hv⟩
    · rw [if_neg hv] at h
      dsimp only at h
      cases hn : x.nw with
      | none => exact .inl rfl
      | some q =>
        rw [hn] at h
        dsimp only at h
        split at h
        · rename_i e; exact .inr ⟨h0, .inr ⟨q, rfl, e⟩⟩
        · cases h
theorem ko_L (x : Vw) (j t : Nat) (v : ByteArray) (k u : Nat) : (x.kno j t v).L k u = if k = j ∧ u = t ∧ x.L j t = none then some v else x.L k u := by
  unfold Vw.kno
  by_cases h : (x.L j t).isSome = true
  · rw [if_pos h, if_neg]
    rintro ⟨_, _, h3⟩
    rw [h3] at h; cases h
  · have h0 : x.L j t = none := by simpa using h
    rw [if_neg h]
    dsimp only
    by_cases hk : k = j
    · subst hk
      rw [set_same]
      by_cases hu : u = t
      · rw [hu, set_same, if_pos ⟨rfl, rfl, h0⟩]
      · rw [set_ne _ _ hu, if_neg (fun h => hu h.2.1)]
    · rw [set_ne _ _ hk, if_neg (fun h => hk h.1)]
theorem ko_rest (x : Vw) (j t : Nat) (v : ByteArray) : (x.kno j t v).A = x.A ∧ (x.kno j t v).pe = x.pe ∧ (x.kno j t v).nw = x.nw ∧ (x.kno j t v).rd = x.rd := by
  unfold Vw.kno; split <;> exact ⟨rfl, rfl, rfl, rfl⟩
/-- What is known stays known. -/
theorem Ev.lle (h : Ev n i s r x p x' out) : ∀ k t v, x.L k t = some v → x'.L k t = some v := by
  have key : ∀ (x : Vw) (t' : Nat) (u : ByteArray) (k t : Nat) (v : ByteArray), x.L k t = some v → (x.know i t' u).L k t = some v := fun x t' u k t v hv => by
    rw [kn_L]
    rw [if_neg]
    · exact hv
    · rintro ⟨rfl, rfl, h0⟩; rw [h0] at hv; cases hv
  cases h <;> intro k' t' v' hv
  case accAll => exact key _ _ _ _ _ _ hv
  case learn => exact key _ _ _ _ _ _ hv
  case told =>
    rw [ko_L, if_neg]
    · exact hv
    · rintro ⟨rfl, rfl, h0⟩; rw [h0] at hv; cases hv
  all_goals exact hv
theorem Ev.lls (h : Ev n i s r x p x' out) {k t : Nat} (hs : (x.L k t).isSome = true) : (x'.L k t).isSome = true := by
  obtain ⟨v, hv⟩ := isSome_get hs
  rw [h.lle k t v hv]; rfl
/-- What is newly known. -/
theorem Ev.lnew (h : Ev n i s r x p x' out) (hi : i < n) {k t : Nat} (hs : (x'.L k t).isSome = true) :
    (x.L k t).isSome = true ∨ (k = i ∧ t = s) ∨ (k = i ∧ s ≤ t ∧ t < s + 5 ∧ ∃ k', k' < n ∧ (x.L k' t).isSome = true) ∨ (k ≠ i ∧ t = s ∧ (x.L i s).isSome = true) := by
  cases h
  case accAll =>
    rw [kn_L] at hs
    split at hs
    · rename_i hc; exact .inr (.inl ⟨hc.1, hc.2.1⟩)
    · exact .inl hs
  case learn k2 t2 v2 h1 h2 h3 h4 =>
    rw [kn_L] at hs
    split at hs
    · rename_i hc; exact .inr (.inr (.inl ⟨hc.1, by rw [hc.2.1]; exact h2, by rw [hc.2.1]; exact h3, by rw [hc.2.1]; exact h4⟩))
    · exact .inl hs
  case told k2 v2 h1 h2 h3 =>
    rw [ko_L] at hs
    split at hs
    · rename_i hc; exact .inr (.inr (.inr ⟨by rw [hc.1]; exact h2, hc.2.1, h3⟩))
    · exact .inl hs
  all_goals exact .inl hs
theorem Shp.mono (hl : ∀ k t, (x.L k t).isSome = true → (x'.L k t).isSome = true) {q : Pkt} (h : Shp n i s r x q) : Shp n i s r x' q := by
  cases h with
  | prep k h => exact .prep k h
  | ask k h h2 => exact .ask k h h2
  | prom k a h => exact .prom k a h
  | prop k v h => exact .prop k v h
  | acc k h => exact .acc k h
  | refu k pr pn h => exact .refu k pr pn h
  | learn k t v h h1 h2 h3 => exact .learn k t v h h1 h2 (h3.imp fun k' hk => ⟨hk.1, hl _ _ hk.2⟩)
  | told k v h h1 h2 => exact .told k v h h1 (hl _ _ h2)
theorem five_mem' {k : Nat} {q : Pkt} (h : q ∈ fiveP x i s k) : ∃ t v, s ≤ t ∧ t < s + 5 ∧ x.L k t = some v ∧ q = ⟨k, i, mLearn t v⟩ := by
  obtain ⟨j, hj, h⟩ := List.mem_filterMap.1 h
  obtain ⟨v, hv, rfl⟩ := Option.map_eq_some_iff.1 h
  exact ⟨s + j, v, by omega, by have := List.mem_range.1 hj; omega, hv, rfl⟩
theorem mem_five' {k t : Nat} {v : ByteArray} (h1 : s ≤ t) (h2 : t < s + 5) (hv : x.L k t = some v) : (⟨k, i, mLearn t v⟩ : Pkt) ∈ fiveP x i s k := by
  obtain ⟨j, rfl⟩ := Nat.exists_eq_add_of_le h1
  exact List.mem_filterMap.2 ⟨j, List.mem_range.2 (by omega), by rw [hv]; rfl⟩
/-- What is sent has its form. -/
theorem Ev.shp (h : Ev n i s r x p x' out) (hi : i < n) : ∀ q ∈ out, Shp n i s r x' q := by
  cases h
  case known k v m h1 h2 h3 => intro q hq; simp at hq; subst hq; exact .learn k s v h1 (Nat.le_refl _) (by omega) ⟨k, h1, by rw [h2]; rfl⟩
  case refuse k m h1 h2 h3 h4 => intro q hq; simp at hq; subst hq; exact .refu _ _ _ h1
  case prom k h1 h2 h3 => intro q hq; simp at hq; subst hq; exact .prom _ _ h1
  case acc k v h1 h2 h3 => intro q hq; simp at hq; subst hq; exact .acc _ h1
  case promAll k a p v h1 h2 h3 h4 h5 h6 =>
    intro q hq
    obtain ⟨d, hd, rfl⟩ := List.mem_map.1 hq
    exact .prop _ _ (all_lt hd)
  case accAll k p h1 h2 h3 h4 =>
    intro q hq
    obtain ⟨d, hd, rfl⟩ := List.mem_map.1 hq
    refine .told _ _ (others_lt hd) (by have := (List.mem_filter.1 hd).2; unfold notB at this; exact of_decide_eq_true this) ?_
    rw [kn_L]
    split
    · rfl
    · rename_i hc
      dsimp only at hc ⊢
      cases hl : x.L i s with
      | none => exact absurd ⟨rfl, rfl, hl⟩ hc
      | some v => rfl
  case ask k h1 h2 =>
    intro q hq
    obtain ⟨t, v, g1, g2, g3, rfl⟩ := five_mem' hq
    exact .learn _ _ _ h1 g1 g2 ⟨k, h1, by rw [g3]; rfl⟩
  all_goals (intro q hq; cases hq)
/-- How much there still is to deliver. -/
def wt : Nat → Nat
  | 0 => 58 | 1 => 57 | 2 => 8 | 3 => 7 | 6 => 6 | _ => 1
def ph : Nat → Nat
  | 2 => 6 | 3 => 6 | 6 => 5 | _ => 1
def wtL (l : List Pkt) : Nat := (l.map fun q => wt q.m.k).sum
def phL (l : List Pkt) : Nat := (l.map fun q => ph q.m.k).sum
def flag (x : Vw) : Nat := match x.nw with | some p => if p.ch = true then 0 else 42 | none => 0
theorem wtL_app (a b : List Pkt) : wtL (a ++ b) = wtL a + wtL b := by unfold wtL; rw [List.map_append, List.sum_append]
theorem phL_app (a b : List Pkt) : phL (a ++ b) = phL a + phL b := by unfold phL; rw [List.map_append, List.sum_append]
theorem wtL_cons (q : Pkt) (b : List Pkt) : wtL (q :: b) = wt q.m.k + wtL b := rfl
theorem phL_cons (q : Pkt) (b : List Pkt) : phL (q :: b) = ph q.m.k + phL b := rfl
theorem sum_le {c : Nat} {f : Pkt → Nat} : ∀ (l : List Pkt), (∀ q ∈ l, f q ≤ c) → (l.map f).sum ≤ l.length * c
  | [], _ => by simp
  | q :: l, h => by
    have h1 := sum_le l (fun q hq => h q (List.mem_cons_of_mem _ hq))
    have h2 := h q (List.mem_cons_self ..)
    rw [List.map_cons, List.sum_cons, List.length_cons, Nat.succ_mul]
    omega
theorem len_phL : ∀ (l : List Pkt), l.length ≤ phL l
  | [] => Nat.le_refl _
  | q :: l => by
    have := len_phL l
    have h : 1 ≤ ph q.m.k := by unfold ph; split <;> omega
    rw [phL_cons, List.length_cons]; omega
theorem others_len (n i : Nat) (hi : i < n) : (othersOf n i).length + 1 ≤ n := by
  unfold othersOf
  have h1 : (List.range n).Nodup := List.nodup_range
  have h2 := h1.filter (notB i)
  have h3 : (i :: (List.range n).filter (notB i)).Nodup := List.nodup_cons.2 ⟨fun h => by have := (List.mem_filter.1 h).2; simp [notB] at this, h2⟩
  have h4 := h3.length_le_of_subset (l₂ := List.range n) (fun y hy => by
    rcases List.mem_cons.1 hy with rfl | hy
    · exact List.mem_range.2 hi
    · exact (List.mem_filter.1 hy).1)
  simpa using h4
theorem five_len (x : Vw) (i s k : Nat) : (fiveP x i s k).length ≤ 5 := by
  unfold fiveP
  refine Nat.le_trans (List.length_filterMap_le _ _) ?_
  simp
theorem Ev.less (h : Ev n i s r x p x' out) (hn : n ≤ 7) (hi : i < n) : wtL out < wt p.m.k ∧ phL out + flag x' ≤ ph p.m.k + flag x := by
  have hk : ∀ (x : Vw) (t : Nat) (v : ByteArray), flag (x.know i t v) ≤ flag x := fun x t v => by
    unfold flag
    cases hq : (x.know i t v).nw with
    | none => exact Nat.zero_le _
    | some q => rw [(kn_nw hq).1]; exact Nat.le_refl _
  cases h
  case known k v m h1 h2 h3 =>
    rcases h3 with rfl | ⟨u, rfl⟩
    · exact ⟨by show 1 < 58; omega, by show 1 + _ ≤ 1 + _; omega⟩
    · exact ⟨by show 1 < 8; omega, by show 1 + _ ≤ 6 + _; omega⟩
  case refuse k m h1 h2 h3 h4 =>
    rcases h4 with rfl | ⟨u, rfl⟩
    · exact ⟨by show 1 < 58; omega, by show 1 + _ ≤ 1 + _; omega⟩
    · exact ⟨by show 1 < 8; omega, by show 1 + _ ≤ 6 + _; omega⟩
  case prom => exact ⟨by show 57 < 58; omega, by show 1 + _ ≤ 1 + _; unfold flag; dsimp only; omega⟩
  case acc => exact ⟨by show 7 < 8; omega, by show 6 + _ ≤ 6 + _; unfold flag; dsimp only; omega⟩
  case promNo => exact ⟨by show 0 < 57; omega, by show 0 + _ ≤ 1 + _; omega⟩
  case promAdd k a p h1 h2 h3 h4 h5 => exact ⟨by show 0 < 57; omega, by show 0 + _ ≤ 1 + _; unfold flag; rw [h2]; dsimp only; omega⟩
  case promAll k a p v h1 h2 h3 h4 h5 h6 =>
    have h8 := sum_le (c := 8) (f := fun q => wt q.m.k) ((allOf n).map fun d => (⟨i, d, mProp s r i v⟩ : Pkt)) (fun q hq => by obtain ⟨d, _, rfl⟩ := List.mem_map.1 hq; exact Nat.le_refl _)
    have h9 := sum_le (c := 6) (f := fun q => ph q.m.k) ((allOf n).map fun d => (⟨i, d, mProp s r i v⟩ : Pkt)) (fun q hq => by obtain ⟨d, _, rfl⟩ := List.mem_map.1 hq; exact Nat.le_refl _)
    rw [List.length_map, show (allOf n).length = n from List.length_range] at h8 h9
    refine ⟨?_, ?_⟩
    · show wtL _ < 57; unfold wtL; omega
    · unfold flag; rw [h2]; dsimp only; rw [if_pos rfl, if_neg (by rw [h3]; decide)]
      show phL _ + 0 ≤ 1 + 42; unfold phL; omega
  case accNo => exact ⟨by show 0 < 7; omega, by show 0 + _ ≤ 6 + _; omega⟩
  case accAdd k p h1 h2 h3 h4 => exact ⟨by show 0 < 7; omega, by show 0 + _ ≤ 6 + _; unfold flag; rw [h2]; dsimp only; omega⟩
  case accAll k p h1 h2 h3 h4 =>
    have h8 := sum_le (c := 1) (f := fun q => wt q.m.k) ((othersOf n i).map fun d => (⟨i, d, mLearn s p.v⟩ : Pkt)) (fun q hq => by obtain ⟨d, _, rfl⟩ := List.mem_map.1 hq; exact Nat.le_refl _)
    have h9 := sum_le (c := 1) (f := fun q => ph q.m.k) ((othersOf n i).map fun d => (⟨i, d, mLearn s p.v⟩ : Pkt)) (fun q hq => by obtain ⟨d, _, rfl⟩ := List.mem_map.1 hq; exact Nat.le_refl _)
    have ho := others_len n i hi
    rw [List.length_map] at h8 h9
    refine ⟨?_, ?_⟩
    · show wtL _ < 7; unfold wtL; omega
    · have := hk { x with nw := some { p with by_ := addL p.by_ (k : Int) } } s p.v
      have e : flag { x with nw := some { p with by_ := addL p.by_ (k : Int) } } = flag x := by unfold flag; rw [h2]
      rw [e] at this
      show phL _ + _ ≤ 6 + _
      unfold phL
      omega
  case refused => exact ⟨by show 0 < 1; omega, by show 0 + 0 ≤ 1 + _; omega⟩
  case learn k t v h1 h2 h3 h4 => exact ⟨by show 0 < 1; omega, by have := hk x t v; show 0 + _ ≤ 1 + _; omega⟩
  case told k v h1 h2 h3 =>
    refine ⟨by show 0 < 1; omega, ?_⟩
    have e : flag (x.kno k s v) = flag x := by unfold flag; rw [(ko_rest x k s v).2.2.1]
    rw [e]; show 0 + _ ≤ 1 + _; omega
  case ask k h1 h2 =>
    have h8 := sum_le (c := 1) (f := fun q => wt q.m.k) (fiveP x i s k) (fun q hq => by obtain ⟨t, v, _, _, _, rfl⟩ := five_mem' hq; exact Nat.le_refl _)
    have h9 := sum_le (c := 1) (f := fun q => ph q.m.k) (fiveP x i s k) (fun q hq => by obtain ⟨t, v, _, _, _, rfl⟩ := five_mem' hq; exact Nat.le_refl _)
    have h5 := five_len x i s k
    refine ⟨?_, ?_⟩
    · show wtL _ < 6; unfold wtL; omega
    · show phL _ + _ ≤ 5 + _; unfold phL; omega
end
section
variable {n i s r : Nat} {x x' : Vw} {p : Pkt} {b out : List Pkt} {pe0 : List ByteArray}
theorem Ev.A (h : Ev n i s r x p x' out) (k : Nat) : x'.A k = x.A k ∨ ((x'.A k).r = r ∧ (x'.A k).n = i ∧ (x.A k).pb ≤ bal r i) := by
  cases h
  case prom k2 h1 h2 h3 =>
    by_cases hk : k = k2
    · subst hk; right; dsimp only; rw [set_same]; exact ⟨rfl, rfl, h3⟩
    · left; exact set_ne _ _ hk
  case acc k2 v h1 h2 h3 =>
    by_cases hk : k = k2
    · subst hk; right; dsimp only; rw [set_same]; exact ⟨rfl, rfl, h3⟩
    · left; exact set_ne _ _ hk
  case accAll => left; rw [kn_A]
  case learn => left; rw [kn_A]
  case told => left; rw [(ko_rest _ _ _ _).1]
  all_goals exact .inl rfl
theorem Ev.rd (h : Ev n i s r x p x' out) : x.rd ≤ x'.rd := by
  cases h
  case accAll => rw [kn_rd]; exact Nat.le_refl _
  case learn => rw [kn_rd]; exact Nat.le_refl _
  case told => rw [(ko_rest _ _ _ _).2.2.2]; exact Nat.le_refl _
  case refused => exact Nat.le_max_left _ _
  all_goals exact Nat.le_refl _
theorem kn_pop (x : Vw) (i t : Nat) (v : ByteArray) : (x.know i t v).pe = x.pe ∨ (x.pe = v :: (x.know i t v).pe ∧ (x.know i t v).L i t = some v) := by
  rw [kn_pe]
  split
  · rename_i hc
    right
    refine ⟨?_, by rw [kn_L, if_pos ⟨rfl, rfl, hc.1⟩]⟩
    cases hp : x.pe with
    | nil => rw [hp] at hc; cases hc.2
    | cons u l => rw [hp] at hc; have := hc.2; simp at this; rw [this]; rfl
  · exact .inl rfl
theorem Ev.pe (h : Ev n i s r x p x' out) : x'.pe = x.pe ∨ ∃ v t, x.pe = v :: x'.pe ∧ s ≤ t ∧ t < s + 5 ∧ x'.L i t = some v := by
  cases h
  case accAll k p h1 h2 h3 h4 =>
    rcases kn_pop { x with nw := some { p with by_ := addL p.by_ (k : Int) } } i s p.v with e | ⟨e1, e2⟩
    · exact .inl e
    · exact .inr ⟨_, s, e1, Nat.le_refl _, by omega, e2⟩
  case learn k t v h1 h2 h3 h4 =>
    rcases kn_pop x i t v with e | ⟨e1, e2⟩
    · exact .inl e
    · exact .inr ⟨_, t, e1, h2, h3, e2⟩
  case told => rw [(ko_rest _ _ _ _).2.1]; exact .inl rfl
  all_goals exact .inl rfl
theorem tokPrep (h : Ev n i s r x p x' out) {k : Nat} (hp : p = ⟨i, k, mPrep s r i⟩) :
    (∃ v, (⟨k, i, mLearn s v⟩ : Pkt) ∈ out) ∨ ((∃ pn, (⟨k, i, mRef s (x.A k).r pn⟩ : Pkt) ∈ out) ∧ x' = x ∧ bal r i < (x.A k).pb) ∨ ((∃ a, (⟨k, i, mProm s r i a⟩ : Pkt) ∈ out) ∧ (x'.A k).r = r ∧ x'.nw = x.nw) := by
  cases h
  case known k2 v m h1 h2 h3 => injection hp with e1 e2 e3; subst e2; exact .inl ⟨v, List.mem_singleton.2 rfl⟩
  case refuse k2 m h1 h2 h3 h4 => injection hp with e1 e2 e3; subst e2; exact .inr (.inl ⟨⟨_, List.mem_singleton.2 rfl⟩, rfl, h3⟩)
  case prom k2 h1 h2 h3 => injection hp with e1 e2 e3; subst e2; exact .inr (.inr ⟨⟨_, List.mem_singleton.2 rfl⟩, by dsimp only; rw [set_same], rfl⟩)
  all_goals (simp [mPrep, mProm, mProp, mAcc, mRef, mLearn, mAsk] at hp)
theorem tokRef (h : Ev n i s r x p x' out) {j pr pn : Nat} (hp : p = ⟨j, i, mRef s pr pn⟩) : pr ≤ x'.rd ∧ x'.A = x.A := by
  cases h
  case refused k2 a1 a2 h1 => injection hp with e1 e2 e3; injection e3 with f1 f2 f3 f4; subst f3; exact ⟨Nat.le_max_right _ _, rfl⟩
  case known k2 v m h1 h2 h3 => rcases h3 with rfl | ⟨u, rfl⟩ <;> simp [mPrep, mProp, mRef] at hp
  case refuse k2 m h1 h2 h3 h4 => rcases h4 with rfl | ⟨u, rfl⟩ <;> simp [mPrep, mProp, mRef] at hp
  all_goals (simp [mPrep, mProm, mProp, mAcc, mRef, mLearn, mAsk] at hp)
theorem tokLearn (h : Ev n i s r x p x' out) {j t : Nat} {v : ByteArray} (hp : p = ⟨j, i, mLearn t v⟩) : (x'.L i t).isSome = true ∧ x'.A = x.A := by
  cases h
  case learn k2 t2 v2 h1 h2 h3 h4 =>
    injection hp with e1 e2 e3; injection e3 with f1 f2 f3 f4 f5; subst f2
    refine ⟨?_, kn_A _ _ _ _⟩
    rw [kn_L]
    cases hl : x.L i t2 with
    | none => rw [if_pos ⟨rfl, rfl, rfl⟩]; rfl
    | some u => rw [if_neg (fun h => by cases h.2.2)]; rfl
  case told k2 v2 h1 h2 h3 => injection hp with e1 e2 e3; exact absurd e2 h2
  case known k2 v m h1 h2 h3 => rcases h3 with rfl | ⟨u, rfl⟩ <;> simp [mPrep, mProp, mLearn] at hp
  case refuse k2 m h1 h2 h3 h4 => rcases h4 with rfl | ⟨u, rfl⟩ <;> simp [mPrep, mProp, mLearn] at hp
  all_goals (simp [mPrep, mProm, mProp, mAcc, mRef, mLearn, mAsk] at hp)
theorem tokAsk (h : Ev n i s r x p x' out) {k : Nat} (hp : p = ⟨i, k, mAsk s⟩) : out = fiveP x i s k ∧ x' = x := by
  cases h
  case ask k2 h1 h2 => injection hp with e1 e2 e3; subst e2; exact ⟨rfl, rfl⟩
  case known k2 v m h1 h2 h3 => rcases h3 with rfl | ⟨u, rfl⟩ <;> simp [mPrep, mProp, mAsk] at hp
  case refuse k2 m h1 h2 h3 h4 => rcases h4 with rfl | ⟨u, rfl⟩ <;> simp [mPrep, mProp, mAsk] at hp
  all_goals (simp [mPrep, mProm, mProp, mAcc, mRef, mLearn, mAsk] at hp)
/-- What holds all the while. -/
structure RI (n i s r : Nat) (pe0 : List ByteArray) (x : Vw) (b : List Pkt) : Prop where
  shp : ∀ q ∈ b, Shp n i s r x q
  nw : ∀ q, x.nw = some q → q.s = s ∧ q.r = r ∧ q.n = i ∧ x.L i s = none ∧ (q.ch = false → q.fr.length < quor n ∧ q.by_ = []) ∧ (q.ch = true → q.by_.length < quor n)
  rd : r ≤ x.rd
  suf : x.pe.length ≤ pe0.length ∧ (x.pe.length = pe0.length → x.pe = pe0)
  lo : ∀ t, t < s → (x.L i t).isSome = true
  cov : ∀ k t, k < n → k ≠ i → s ≤ t → t < s + 5 → (x.L k t).isSome = true → (⟨i, k, mAsk s⟩ : Pkt) ∈ b ∨ (∃ j v, (⟨j, i, mLearn t v⟩ : Pkt) ∈ b) ∨ (x.L i t).isSome = true
  ch : ∀ k t, k < n → (x.L k t).isSome = true → ∀ t', t' < t → ∃ k', k' < n ∧ (x.L k' t').isSome = true
  h6 : ∀ v ∈ pe0, v ∈ x.pe ∨ ∃ t, t < s + 5 ∧ x.L i t = some v
theorem quor_pos (n : Nat) : 0 < quor n := by unfold quor; omega
theorem RI.step (hI : RI n i s r pe0 x (p :: b)) (e : Ev n i s r x p x' out) (hi : i < n) : RI n i s r pe0 x' (b ++ out) := by
  refine ⟨fun q hq => ?_, fun q hq => ?_, Nat.le_trans hI.rd e.rd, ?_, fun t ht => e.lls (hI.lo t ht), fun k t hk hki h1 h2 hs => ?_, fun k t hk hs t' ht => ?_, fun v hv => ?_⟩
  · rcases List.mem_append.1 hq with hq | hq
    · exact (hI.shp q (List.mem_cons_of_mem _ hq)).mono fun k t => e.lls
    · exact e.shp hi q hq
  · have hsame : x'.L i s = x.L i s → x'.nw = x.nw → q.s = s ∧ q.r = r ∧ q.n = i ∧ x'.L i s = none ∧ (q.ch = false → q.fr.length < quor n ∧ q.by_ = []) ∧ (q.ch = true → q.by_.length < quor n) := fun h1 h2 => by
      rw [h2] at hq; rw [h1]; exact hI.nw q hq
    cases e
    case promAdd k a p h1 h2 h3 h4 h5 =>
      cases hq
      obtain ⟨a1, a2, a3, a4, a5, a6⟩ := hI.nw p h2
      exact ⟨a1, a2, a3, a4, fun _ => ⟨by simp; omega, (a5 h3).2⟩, a6⟩
    case promAll k a p v h1 h2 h3 h4 h5 h6 =>
      cases hq
      obtain ⟨a1, a2, a3, a4, a5, a6⟩ := hI.nw p h2
      exact ⟨a1, a2, a3, a4, fun h => (nomatch h), fun _ => by dsimp only; rw [(a5 h3).2]; exact quor_pos n⟩
    case accAdd k p h1 h2 h3 h4 =>
      cases hq
      obtain ⟨a1, a2, a3, a4, a5, a6⟩ := hI.nw p h2
      exact ⟨a1, a2, a3, a4, fun h => absurd (h3.symm.trans h) (by decide), fun _ => h4⟩
    case accAll k p h1 h2 h3 h4 =>
      obtain ⟨a1, a2, a3, a4, a5, a6⟩ := hI.nw p h2
      obtain ⟨g1, g2⟩ := kn_nw hq
      cases g1
      rcases g2 with g2 | ⟨g2, _⟩
      · dsimp only at g2; rw [a4] at g2; cases g2
      · exact absurd a1 g2
    case refused => cases hq
    case learn k t v h1 h2 h3 h4 =>
      obtain ⟨g1, g2⟩ := kn_nw hq
      obtain ⟨a1, a2, a3, a4, a5, a6⟩ := hI.nw q g1
      refine ⟨a1, a2, a3, ?_, a5, a6⟩
      rw [kn_L, if_neg]
      · exact a4
      · rintro ⟨_, e2, e3⟩
        rcases g2 with g2 | ⟨g2, _⟩
        · rw [e3] at g2; cases g2
        · exact g2 (a1.trans e2)
    case told k v h1 h2 h3 =>
      refine hsame ?_ (ko_rest _ _ _ _).2.2.1
      rw [ko_L, if_neg]
      rintro ⟨e1, _⟩
      exact h2 e1.symm
    all_goals exact hsame rfl rfl
  · have h1 := hI.suf
    rcases e.pe with e1 | ⟨v, t, e1, _⟩
    · rw [e1]; exact h1
    · have : x.pe.length = x'.pe.length + 1 := by rw [e1]; rfl
      exact ⟨by omega, fun h => by omega⟩
  · rcases e.lnew hi hs with ho | ⟨e1, _⟩ | ⟨e1, _⟩ | ⟨_, e2, e3⟩
    · rcases hI.cov k t hk hki h1 h2 ho with g | ⟨j, v, g⟩ | g
      · rcases List.mem_cons.1 g with g | g
        · obtain ⟨g1, g2⟩ := tokAsk e g.symm
          obtain ⟨v, hv⟩ := isSome_get ho
          exact .inr (.inl ⟨k, v, List.mem_append_right _ (by rw [g1]; exact mem_five' h1 h2 hv)⟩)
        · exact .inl (List.mem_append_left _ g)
      · rcases List.mem_cons.1 g with g | g
        · exact .inr (.inr (tokLearn e g.symm).1)
        · exact .inr (.inl ⟨j, v, List.mem_append_left _ g⟩)
      · exact .inr (.inr (e.lls g))
    · exact absurd e1 hki
    · exact absurd e1 hki
    · rw [e2]; exact .inr (.inr (e.lls e3))
  · have hold : ∀ k2, k2 < n → (x.L k2 t).isSome = true → ∃ k', k' < n ∧ (x'.L k' t').isSome = true := fun k2 hk2 h2 => by
      obtain ⟨k', g1, g2⟩ := hI.ch k2 t hk2 h2 t' ht
      exact ⟨k', g1, e.lls g2⟩
    rcases e.lnew hi hs with ho | ⟨e1, e2⟩ | ⟨e1, _, _, k2, g1, g2⟩ | ⟨_, e2, e3⟩
    · exact hold k hk ho
    · exact ⟨i, hi, e.lls (hI.lo t' (by omega))⟩
    · exact hold k2 g1 g2
    · exact hold i hi (by rw [e2]; exact e3)
  · rcases hI.h6 v hv with h | ⟨t, ht, h⟩
    · rcases e.pe with e1 | ⟨u, t, e1, h1, h2, h3⟩
      · rw [e1]; exact .inl h
      · rw [e1] at h
        rcases List.mem_cons.1 h with h | h
        · subst h; exact .inr ⟨t, h2, h3⟩
        · exact .inl h
    · exact .inr ⟨t, ht, e.lle _ _ _ h⟩
end
section
variable {n i s r : Nat} {x x' : Vw} {p : Pkt} {b out : List Pkt} {pe0 : List ByteArray}
/-- Each node has promised no more than what the ticking node knows of, or an answer is under way, or the value. -/
def T1 (n i s r : Nat) (x : Vw) (b : List Pkt) : Prop := ∀ k, k < n → (⟨i, k, mPrep s r i⟩ : Pkt) ∈ b ∨ (∃ j v, (⟨j, i, mLearn s v⟩ : Pkt) ∈ b) ∨ (x.L i s).isSome = true ∨ (∃ j pr pn, (⟨j, i, mRef s pr pn⟩ : Pkt) ∈ b ∧ (x.A k).r ≤ pr) ∨ (x.A k).r ≤ x.rd
theorem T1.step (h : T1 n i s r x (p :: b)) (hr : r ≤ x.rd) (e : Ev n i s r x p x' out) : T1 n i s r x' (b ++ out) := fun k hk => by
  have hrd := e.rd
  have hA : ∀ m, (x.A k).r ≤ m → (x'.A k).r ≤ m ∨ (x'.A k).r ≤ x'.rd := fun m hm => by
    rcases e.A k with h | ⟨h, _⟩
    · rw [h]; exact .inl hm
    · right; omega
  rcases h k hk with g | ⟨j, v, g⟩ | g | ⟨j, pr, pn, g, hle⟩ | g
  · rcases List.mem_cons.1 g with g | g
    · rcases tokPrep e g.symm with ⟨v, hv⟩ | ⟨⟨pn, hv⟩, e1, _⟩ | ⟨_, hv, _⟩
      · exact .inr (.inl ⟨_, v, List.mem_append_right _ hv⟩)
      · exact .inr (.inr (.inr (.inl ⟨_, _, pn, List.mem_append_right _ hv, by rw [e1]; exact Nat.le_refl _⟩)))
      · exact .inr (.inr (.inr (.inr (by omega))))
    · exact .inl (List.mem_append_left _ g)
  · rcases List.mem_cons.1 g with g | g
    · exact .inr (.inr (.inl (tokLearn e g.symm).1))
    · exact .inr (.inl ⟨j, v, List.mem_append_left _ g⟩)
  · exact .inr (.inr (.inl (e.lls g)))
  · rcases List.mem_cons.1 g with g | g
    · have := (tokRef e g.symm).1
      rcases hA pr hle with h | h
      · exact .inr (.inr (.inr (.inr (by omega))))
      · exact .inr (.inr (.inr (.inr h)))
    · rcases hA pr hle with h | h
      · exact .inr (.inr (.inr (.inl ⟨j, pr, pn, List.mem_append_left _ g, h⟩)))
      · exact .inr (.inr (.inr (.inr h)))
  · rcases hA _ g with h | h
    · exact .inr (.inr (.inr (.inr (by omega))))
    · exact .inr (.inr (.inr (.inr h)))
/-- A node has answered the proposal, or its answer is under way. -/
def Tk (i s r : Nat) (q : Prs) (b : List Pkt) (k : Nat) : Prop := (∃ j v, (⟨j, i, mLearn s v⟩ : Pkt) ∈ b) ∨ (q.ch = false ∧ ((⟨i, k, mPrep s r i⟩ : Pkt) ∈ b ∨ (∃ a, (⟨k, i, mProm s r i a⟩ : Pkt) ∈ b) ∨ (k : Int) ∈ q.fr)) ∨ (q.ch = true ∧ ((∃ v, (⟨i, k, mProp s r i v⟩ : Pkt) ∈ b) ∨ (⟨k, i, mAcc s r i⟩ : Pkt) ∈ b ∨ (k : Int) ∈ q.by_))
theorem Tk.cons {q : Prs} {k : Nat} (h : Tk i s r q (p :: b) k) : Tk i s r q b k ∨ (∃ j v, (⟨j, i, mLearn s v⟩ : Pkt) = p) ∨ (q.ch = false ∧ ((⟨i, k, mPrep s r i⟩ : Pkt) = p ∨ ∃ a, (⟨k, i, mProm s r i a⟩ : Pkt) = p)) ∨ (q.ch = true ∧ ((∃ v, (⟨i, k, mProp s r i v⟩ : Pkt) = p) ∨ (⟨k, i, mAcc s r i⟩ : Pkt) = p)) := by
  rcases h with ⟨j, v, g⟩ | ⟨c, g | ⟨a, g⟩ | g⟩ | ⟨c, ⟨v, g⟩ | g | g⟩
  · rcases List.mem_cons.1 g with g | g
    · exact .inr (.inl ⟨j, v, g⟩)
    · exact .inl (.inl ⟨j, v, g⟩)
  · rcases List.mem_cons.1 g with g | g
    · exact .inr (.inr (.inl ⟨c, .inl g⟩))
    · exact .inl (.inr (.inl ⟨c, .inl g⟩))
  · rcases List.mem_cons.1 g with g | g
    · exact .inr (.inr (.inl ⟨c, .inr ⟨a, g⟩⟩))
    · exact .inl (.inr (.inl ⟨c, .inr (.inl ⟨a, g⟩)⟩))
  · exact .inl (.inr (.inl ⟨c, .inr (.inr g)⟩))
  · rcases List.mem_cons.1 g with g | g
    · exact .inr (.inr (.inr ⟨c, .inl ⟨v, g⟩⟩))
    · exact .inl (.inr (.inr ⟨c, .inl ⟨v, g⟩⟩))
  · rcases List.mem_cons.1 g with g | g
    · exact .inr (.inr (.inr ⟨c, .inr g⟩))
    · exact .inl (.inr (.inr ⟨c, .inr (.inl g)⟩))
  · exact .inl (.inr (.inr ⟨c, .inr (.inr g)⟩))
theorem Tk.mono {q q' : Prs} {k : Nat} (h : Tk i s r q b k) (hc : q'.ch = q.ch) (hf : ∀ j ∈ q.fr, j ∈ q'.fr) (hb : ∀ j ∈ q.by_, j ∈ q'.by_) : Tk i s r q' (b ++ out) k := by
  have ml : ∀ {y : Pkt}, y ∈ b → y ∈ b ++ out := fun h => List.mem_append_left _ h
  rcases h with ⟨j, v, g⟩ | ⟨c, g | ⟨a, g⟩ | g⟩ | ⟨c, ⟨v, g⟩ | g | g⟩
  · exact .inl ⟨j, v, ml g⟩
  · exact .inr (.inl ⟨hc.trans c, .inl (ml g)⟩)
  · exact .inr (.inl ⟨hc.trans c, .inr (.inl ⟨a, ml g⟩)⟩)
  · exact .inr (.inl ⟨hc.trans c, .inr (.inr (hf _ g))⟩)
  · exact .inr (.inr ⟨hc.trans c, .inl ⟨v, ml g⟩⟩)
  · exact .inr (.inr ⟨hc.trans c, .inr (.inl (ml g))⟩)
  · exact .inr (.inr ⟨hc.trans c, .inr (.inr (hb _ g))⟩)
theorem Tk.app {q : Prs} {k : Nat} (h : Tk i s r q b k) : Tk i s r q (b ++ out) k := h.mono rfl (fun _ h => h) (fun _ h => h)
theorem addL_old {l : List Int} {y z : Int} (h : y ∈ l) : y ∈ addL l z := by unfold addL; split <;> simp [h]
theorem addL_new (l : List Int) (z : Int) : z ∈ addL l z := by
  unfold addL
  split
  · assumption
  · simp
/-- Nobody has promised more: the proposal gets through. -/
structure RS (n i s r : Nat) (pe0 : List ByteArray) (x : Vw) (b : List Pkt) : Prop where
  na : ∀ k, k < n → (x.A k).pb ≤ bal r i
  nr : ∀ q ∈ b, q.m.k ≠ 4
  t2 : x.nw = none → (x.L i s).isSome = true ∨ x.pe.length < pe0.length
  t3 : ∀ q, x.nw = some q → ∀ k, k < n → Tk i s r q b k
theorem Ev.pe_le (e : Ev n i s r x p x' out) : x'.pe.length ≤ x.pe.length := by
  rcases e.pe with e1 | ⟨v, t, e1, _⟩
  · rw [e1]; exact Nat.le_refl _
  · rw [e1]; exact Nat.le_succ _
theorem RS.step (hS : RS n i s r pe0 x (p :: b)) (hI : RI n i s r pe0 x (p :: b)) (e : Ev n i s r x p x' out) (hi : i < n) : RS n i s r pe0 x' (b ++ out) := by
  refine ⟨fun k hk => ?_, fun q hq => ?_, fun h0 => ?_, fun q hq k hk => ?_⟩
  · rcases e.A k with h | ⟨h1, h2, _⟩
    · rw [h]; exact hS.na k hk
    · unfold Acr.pb; rw [h1, h2]; exact Nat.le_refl _
  · rcases List.mem_append.1 hq with hq | hq
    · exact hS.nr q (List.mem_cons_of_mem _ hq)
    · cases e
      case refuse k m h1 h2 h3 h4 hx => have := hS.na _ h1; omega
      case known k v m h1 h2 h3 => simp at hq; subst hq; show (5 : Nat) ≠ 4; omega
      case prom k h1 h2 h3 => simp at hq; subst hq; show (1 : Nat) ≠ 4; omega
      case acc k v h1 h2 h3 => simp at hq; subst hq; show (3 : Nat) ≠ 4; omega
      case promAll => obtain ⟨d, _, rfl⟩ := List.mem_map.1 hq; show (2 : Nat) ≠ 4; omega
      case accAll => obtain ⟨d, _, rfl⟩ := List.mem_map.1 hq; show (5 : Nat) ≠ 4; omega
      case ask => obtain ⟨t, v, _, _, _, rfl⟩ := five_mem' hq; show (5 : Nat) ≠ 4; omega
      all_goals cases hq
  · have hpl := e.pe_le
    have hL := fun h => e.lls (k := i) (t := s) h
    have hold : x.nw = none → (x'.L i s).isSome = true ∨ x'.pe.length < pe0.length := fun h => (hS.t2 h).imp hL fun h => by omega
    cases e
    case promAdd => cases h0
    case promAll => cases h0
    case accAdd => cases h0
    case accAll k q h1 h2 h3 h4 =>
      left
      rw [kn_L]
      cases hl : x.L i s with
      | none => rw [if_pos ⟨rfl, rfl, rfl⟩]; rfl
      | some u => rw [if_neg (fun h => by cases h.2.2)]; rfl
    case refused k pr pn h1 => exact absurd rfl (hS.nr _ (List.mem_cons_self ..))
    case learn k t v h1 h2 h3 h4 =>
      rcases kn_nw0 h0 with h | ⟨h, g | ⟨q, g1, g2⟩⟩
      · exact hold h
      · right
        have hs := hI.suf.1
        rw [kn_pe, if_pos ⟨h, g⟩]
        cases hp : x.pe with
        | nil => rw [hp] at g; cases g
        | cons u l => rw [hp] at hs; simp at hs ⊢; omega
      · left
        obtain ⟨a1, a2, a3, a4, _⟩ := hI.nw q g1
        rw [kn_L, if_pos ⟨rfl, a1.symm.trans g2, h⟩]; rfl
    case told k v h1 h2 h3 => exact hold ((ko_rest _ _ _ _).2.2.1 ▸ h0)
    all_goals exact hold h0
  · cases e
    case known k2 v m h1 h2 h3 => exact .inl ⟨k2, v, List.mem_append_right _ (List.mem_singleton.2 rfl)⟩
    case refuse k2 m h1 h2 h3 h4 => have := hS.na _ h1; omega
    case prom k2 h1 h2 h3 =>
      rcases (hS.t3 q hq k hk).cons with h | ⟨j, v, g⟩ | ⟨c, g | ⟨a, g⟩⟩ | ⟨c, ⟨v, g⟩ | g⟩
      · exact h.app
      · simp [mPrep, mLearn] at g
      · injection g with g1 g2; subst g2
        exact .inr (.inl ⟨c, .inr (.inl ⟨_, List.mem_append_right _ (List.mem_singleton.2 rfl)⟩)⟩)
      · simp [mPrep, mProm] at g
      · simp [mPrep, mProp] at g
      · simp [mPrep, mAcc] at g
    case acc k2 v h1 h2 h3 =>
      rcases (hS.t3 q hq k hk).cons with h | ⟨j, v, g⟩ | ⟨c, g | ⟨a, g⟩⟩ | ⟨c, ⟨v, g⟩ | g⟩
      · exact h.app
      · simp [mProp, mLearn] at g
      · simp [mProp, mPrep] at g
      · simp [mProp, mProm] at g
      · injection g with g1 g2; subst g2
        exact .inr (.inr ⟨c, .inr (.inl (List.mem_append_right _ (List.mem_singleton.2 rfl)))⟩)
      · simp [mProp, mAcc] at g
    case promNo k2 a h1 h2 =>
      rcases (hS.t3 q hq k hk).cons with h | ⟨j, v, g⟩ | ⟨c, g | ⟨a, g⟩⟩ | ⟨c, ⟨v, g⟩ | g⟩
      · exact h.app
      · simp [mProm, mLearn] at g
      · simp [mPrep, mProm] at g
      · injection g with g1 g2; subst g1
        rcases h2 q hq with h | h
        · rw [c] at h; cases h
        · exact .inr (.inl ⟨c, .inr (.inr h)⟩)
      · simp [mProm, mProp] at g
      · simp [mProm, mAcc] at g
    case promAdd k2 a q0 h1 h2 h3 h4 h5 =>
      cases hq
      rcases (hS.t3 q0 h2 k hk).cons with h | ⟨j, v, g⟩ | ⟨c, g | ⟨a, g⟩⟩ | ⟨c, ⟨v, g⟩ | g⟩
      · exact h.mono rfl (fun _ h => List.mem_append_left _ h) (fun _ h => h)
      · simp [mProm, mLearn] at g
      · simp [mPrep, mProm] at g
      · injection g with g1 g2; subst g1
        exact .inr (.inl ⟨c, .inr (.inr (List.mem_append_right _ (List.mem_singleton.2 rfl)))⟩)
      · simp [mProm, mProp] at g
      · simp [mProm, mAcc] at g
    case promAll k2 a q0 v h1 h2 h3 h4 h5 h6 =>
      cases hq
      exact .inr (.inr ⟨rfl, .inl ⟨v, List.mem_append_right _ (List.mem_map.2 ⟨k, List.mem_range.2 hk, rfl⟩)⟩⟩)
    case accNo k2 h1 h2 =>
      rcases (hS.t3 q hq k hk).cons with h | ⟨j, v, g⟩ | ⟨c, g | ⟨a, g⟩⟩ | ⟨c, ⟨v, g⟩ | g⟩
      · exact h.app
      · simp [mAcc, mLearn] at g
      · simp [mPrep, mAcc] at g
      · simp [mProm, mAcc] at g
      · simp [mProp, mAcc] at g
      · have := h2 q hq; rw [c] at this; cases this
    case accAdd k2 q0 h1 h2 h3 h4 =>
      cases hq
      rcases (hS.t3 q0 h2 k hk).cons with h | ⟨j, v, g⟩ | ⟨c, g | ⟨a, g⟩⟩ | ⟨c, ⟨v, g⟩ | g⟩
      · exact h.mono rfl (fun _ h => h) (fun _ h => addL_old h)
      · simp [mAcc, mLearn] at g
      · simp [mPrep, mAcc] at g
      · simp [mProm, mAcc] at g
      · simp [mProp, mAcc] at g
      · injection g with g1 g2; subst g1
        exact .inr (.inr ⟨c, .inr (.inr (addL_new _ _))⟩)
    case accAll k2 q0 h1 h2 h3 h4 =>
      obtain ⟨a1, a2, a3, a4, _⟩ := hI.nw q0 h2
      obtain ⟨g1, g2⟩ := kn_nw hq
      cases g1
      rcases g2 with g2 | ⟨g2, _⟩
      · dsimp only at g2; rw [a4] at g2; cases g2
      · exact absurd a1 g2
    case refused k2 pr pn h1 => exact absurd rfl (hS.nr _ (List.mem_cons_self ..))
    case learn k2 t v h1 h2 h3 h4 =>
      obtain ⟨g1, g2⟩ := kn_nw hq
      obtain ⟨a1, a2, a3, a4, _⟩ := hI.nw q g1
      rcases (hS.t3 q g1 k hk).cons with h | ⟨j, v, g⟩ | ⟨c, g | ⟨a, g⟩⟩ | ⟨c, ⟨v, g⟩ | g⟩
      · exact h.app
      · injection g with e1 e2 e3; injection e3 with f1 f2; subst f2
        rcases g2 with g2 | ⟨g2, _⟩
        · rw [a4] at g2; cases g2
        · exact absurd a1 g2
      · simp [mPrep, mLearn] at g
      · simp [mProm, mLearn] at g
      · simp [mProp, mLearn] at g
      · simp [mAcc, mLearn] at g
    case told k2 v h1 h2 h3 =>
      rw [(ko_rest _ _ _ _).2.2.1] at hq
      rcases (hS.t3 q hq k hk).cons with h | ⟨j, v, g⟩ | ⟨c, g | ⟨a, g⟩⟩ | ⟨c, ⟨v, g⟩ | g⟩
      · exact h.app
      · injection g with e1 e2 e3; exact absurd e2.symm h2
      · simp [mPrep, mLearn] at g
      · simp [mProm, mLearn] at g
      · simp [mProp, mLearn] at g
      · simp [mAcc, mLearn] at g
    case ask k2 h1 h2 =>
      rcases (hS.t3 q hq k hk).cons with h | ⟨j, v, g⟩ | ⟨c, g | ⟨a, g⟩⟩ | ⟨c, ⟨v, g⟩ | g⟩
      · exact h.app
      · simp [mAsk, mLearn] at g
      · simp [mPrep, mAsk] at g
      · simp [mProm, mAsk] at g
      · simp [mProp, mAsk] at g
      · simp [mAcc, mAsk] at g
theorem mem_all {l : List Int} {n : Nat} (h : ∀ k, k < n → (k : Int) ∈ l) : n ≤ l.length := by
  have h1 : ((List.range n).map (fun j : Nat => (j : Int))).Nodup := by
    rw [List.nodup_iff_pairwise_ne] at *
    refine List.Pairwise.map _ ?_ (List.nodup_iff_pairwise_ne.1 List.nodup_range)
    intro a b hab e
    exact hab (by omega)
  have := h1.length_le_of_subset (l₂ := l) (fun y hy => by obtain ⟨j, hj, rfl⟩ := List.mem_map.1 hy; exact h j (List.mem_range.1 hj))
  simpa using this
/-- It has got through when all is delivered. -/
theorem RS.done (hS : RS n i s r pe0 x []) (hI : RI n i s r pe0 x []) (hn : 2 ≤ n ∨ n = 1) : (x.L i s).isSome = true ∨ x.pe.length < pe0.length := by
  cases hq : x.nw with
  | none => exact hS.t2 hq
  | some q =>
    obtain ⟨a1, a2, a3, a4, a5, a6⟩ := hI.nw q hq
    have ht := hS.t3 q hq
    cases hc : q.ch with
    | false =>
      have := mem_all (l := q.fr) (n := n) fun k hk => by
        rcases ht k hk with ⟨j, v, g⟩ | ⟨c, g | ⟨a, g⟩ | g⟩ | ⟨c, _⟩
        · cases g
        · cases g
        · cases g
        · exact g
        · rw [hc] at c; cases c
      have := (a5 hc).1
      unfold quor at this
      omega
    | true =>
      have := mem_all (l := q.by_) (n := n) fun k hk => by
        rcases ht k hk with ⟨j, v, g⟩ | ⟨c, _⟩ | ⟨c, ⟨v, g⟩ | g | g⟩
        · cases g
        · rw [hc] at c; cases c
        · cases g
        · cases g
        · exact g
      have := a6 hc
      unfold quor at this
      omega
end
section
variable {n i s r B : Nat} {x x' : Vw} {p : Pkt} {b out : List Pkt} {pe0 : List ByteArray} {h : ByteArray}
/-- Where nobody has accepted another value, the slot's value is the node's own. -/
structure RVs (h : ByteArray) (n i s : Nat) (x : Vw) (b : List Pkt) : Prop where
  hd : x.pe.head? = some h
  no : x.L i s = none
  ac : ∀ k, k < n → (x.A k).h = true → (x.A k).v = h
  lg : ∀ k, k < n → ∀ v, x.L k s = some v → v = h
  ms : ∀ q ∈ b, (q.m.k = 2 → q.m.v = h) ∧ (q.m.k = 1 → q.m.h = true → q.m.hv = h) ∧ (q.m.k = 5 → q.m.s = s → q.m.v = h)
  pw : ∀ q, x.nw = some q → (q.ch = true → q.v = h) ∧ ∀ y ∈ q.pm, y.has = true → y.v = h
theorem tail_ne {l : List ByteArray} {v : ByteArray} (hv : l.head? = some v) : l.tail ≠ l := by
  cases l with
  | nil => cases hv
  | cons u l => intro e; have := congrArg List.length e; simp at this
theorem RVs.step (hV : RVs h n i s x (p :: b)) (hI : RI n i s r pe0 x (p :: b)) (e : Ev n i s r x p x' out) (hi : i < n) (hpe : x'.pe = x.pe) : RVs h n i s x' (b ++ out) := by
  have hm := hV.ms _ (List.mem_cons_self ..)
  have hmb : ∀ q ∈ b, (q.m.k = 2 → q.m.v = h) ∧ (q.m.k = 1 → q.m.h = true → q.m.hv = h) ∧ (q.m.k = 5 → q.m.s = s → q.m.v = h) := fun q hq => hV.ms q (List.mem_cons_of_mem _ hq)
  have happ : (∀ q ∈ out, (q.m.k = 2 → q.m.v = h) ∧ (q.m.k = 1 → q.m.h = true → q.m.hv = h) ∧ (q.m.k = 5 → q.m.s = s → q.m.v = h)) → ∀ q ∈ b ++ out, (q.m.k = 2 → q.m.v = h) ∧ (q.m.k = 1 → q.m.h = true → q.m.hv = h) ∧ (q.m.k = 5 → q.m.s = s → q.m.v = h) := fun ho q hq => (List.mem_append.1 hq).elim (hmb q) (ho q)
  have hnil : ∀ q ∈ ([] : List Pkt), (q.m.k = 2 → q.m.v = h) ∧ (q.m.k = 1 → q.m.h = true → q.m.hv = h) ∧ (q.m.k = 5 → q.m.s = s → q.m.v = h) := fun q hq => (nomatch hq)
  have hlearn : ∀ {k v}, v = h → ∀ q ∈ ([⟨k, i, mLearn s v⟩] : List Pkt), (q.m.k = 2 → q.m.v = h) ∧ (q.m.k = 1 → q.m.h = true → q.m.hv = h) ∧ (q.m.k = 5 → q.m.s = s → q.m.v = h) := fun {k v} hv q hq => by
    simp at hq; subst hq; exact ⟨fun h => (nomatch h), fun h => (nomatch h), fun _ _ => hv⟩
  have hd' : x'.pe.head? = some h := by rw [hpe]; exact hV.hd
  cases e
  case known k v m h1 h2 h3 => exact ⟨hV.hd, hV.no, hV.ac, hV.lg, happ (hlearn (hV.lg k h1 v h2)), hV.pw⟩
  case refuse k m h1 h2 h3 h4 =>
    refine ⟨hV.hd, hV.no, hV.ac, hV.lg, happ fun q hq => ?_, hV.pw⟩
    simp at hq; subst hq; exact ⟨fun h => (nomatch h), fun h => (nomatch h), fun h => (nomatch h)⟩
  case prom k h1 h2 h3 =>
    refine ⟨hV.hd, hV.no, fun j hj hh => ?_, hV.lg, happ fun q hq => ?_, hV.pw⟩
    · dsimp only at hh ⊢
      by_cases hjk : j = k
      · subst hjk; rw [set_same] at hh ⊢; exact hV.ac j hj hh
      · rw [set_ne _ _ hjk] at hh ⊢; exact hV.ac j hj hh
    · simp at hq; subst hq
      exact ⟨fun h => (nomatch h), fun _ hh => hV.ac k h1 hh, fun h => (nomatch h)⟩
  case acc k v h1 h2 h3 =>
    refine ⟨hV.hd, hV.no, fun j hj hh => ?_, hV.lg, happ fun q hq => ?_, hV.pw⟩
    · dsimp only at hh ⊢
      by_cases hjk : j = k
      · subst hjk; rw [set_same]; exact hm.1 rfl
      · rw [set_ne _ _ hjk] at hh ⊢; exact hV.ac j hj hh
    · simp at hq; subst hq
      exact ⟨fun h => (nomatch h), fun h => (nomatch h), fun h => (nomatch h)⟩
  case promNo => exact ⟨hV.hd, hV.no, hV.ac, hV.lg, happ hnil, hV.pw⟩
  case promAdd k a q0 h1 h2 h3 h4 h5 =>
    refine ⟨hV.hd, hV.no, hV.ac, hV.lg, happ hnil, fun q hq => ?_⟩
    cases hq
    obtain ⟨g1, g2⟩ := hV.pw q0 h2
    refine ⟨g1, fun y hy hh => ?_⟩
    rcases List.mem_append.1 hy with hy | hy
    · exact g2 y hy hh
    · simp at hy; subst hy; exact hm.2.1 rfl hh
  case promAll k a q0 v h1 h2 h3 h4 h5 h6 =>
    obtain ⟨g1, g2⟩ := hV.pw q0 h2
    have g3 : ∀ y ∈ q0.pm ++ [(mProm s r i a).pro], y.has = true → y.v = h := fun y hy hh => by
      rcases List.mem_append.1 hy with hy | hy
      · exact g2 y hy hh
      · simp at hy; subst hy; exact hm.2.1 rfl hh
    have hv : v = h := by
      rcases best_is' (x.pe.headD E0) (q0.pm ++ [(mProm s r i a).pro]) with ⟨_, e1, _⟩ | ⟨e1, e2, _⟩
      · rw [h6, e1]
        have := hV.hd
        cases hp : x.pe with
        | nil => rw [hp] at this; cases this
        | cons u l => rw [hp] at this; simp at this ⊢; exact this
      · rw [h6]; exact g3 _ e2 e1
    refine ⟨hV.hd, hV.no, hV.ac, hV.lg, happ fun q hq => ?_, fun q hq => ?_⟩
    · obtain ⟨d, _, rfl⟩ := List.mem_map.1 hq
      exact ⟨fun _ => hv, fun h => (nomatch h), fun h => (nomatch h)⟩
    · cases hq; exact ⟨fun _ => hv, g3⟩
  case accNo => exact ⟨hV.hd, hV.no, hV.ac, hV.lg, happ hnil, hV.pw⟩
  case accAdd k q0 h1 h2 h3 h4 =>
    refine ⟨hV.hd, hV.no, hV.ac, hV.lg, happ hnil, fun q hq => ?_⟩
    cases hq; exact hV.pw q0 h2
  case accAll k q0 h1 h2 h3 h4 =>
    exfalso
    have hv := (hV.pw q0 h2).1 h3
    rw [kn_pe, if_pos ⟨hV.no, by rw [hv]; exact hV.hd⟩] at hpe
    exact tail_ne hV.hd hpe
  case refused k pr pn h1 => exact ⟨hV.hd, hV.no, hV.ac, hV.lg, happ hnil, fun q hq => (nomatch hq)⟩
  case learn k t v h1 h2 h3 h4 =>
    have hts : t ≠ s := fun e => by
      subst e
      have hv := hm.2.2 rfl rfl
      rw [kn_pe, if_pos ⟨hV.no, by rw [show v = h from hv]; exact hV.hd⟩] at hpe
      exact tail_ne hV.hd hpe
    have hL : ∀ j, (x.know i t v).L j s = x.L j s := fun j => by
      rw [kn_L, if_neg]
      rintro ⟨_, e, _⟩
      exact hts e.symm
    refine ⟨hd', by rw [hL]; exact hV.no, fun j hj hh => ?_, fun j hj u hu => ?_, happ hnil, fun q hq => hV.pw q (kn_nw hq).1⟩
    · rw [kn_A] at hh ⊢; exact hV.ac j hj hh
    · rw [hL] at hu; exact hV.lg j hj u hu
  case told k v h1 h2 h3 =>
    have hr := ko_rest x k s v
    refine ⟨hd', ?_, fun j hj hh => ?_, fun j hj u hu => ?_, happ hnil, fun q hq => hV.pw q (by rw [← hr.2.2.1]; exact hq)⟩
    · rw [ko_L, if_neg]
      · exact hV.no
      · rintro ⟨e, _⟩; exact h2 e.symm
    · rw [hr.1] at hh ⊢; exact hV.ac j hj hh
    · rw [ko_L] at hu
      split at hu
      · cases hu; exact hm.2.2 rfl rfl
      · exact hV.lg j hj u hu
  case ask k h1 h2 =>
    refine ⟨hV.hd, hV.no, hV.ac, hV.lg, happ fun q hq => ?_, hV.pw⟩
    obtain ⟨t, v, _, _, g3, rfl⟩ := five_mem' hq
    exact ⟨fun h => (nomatch h), fun h => (nomatch h), fun _ (e : t = s) => by subst e; exact hV.lg k h1 v g3⟩
def RV (h : ByteArray) (n i s : Nat) (pe0 : List ByteArray) (x : Vw) (b : List Pkt) : Prop := x.pe.length = pe0.length → RVs h n i s x b
theorem RV.step (hV : RV h n i s pe0 x (p :: b)) (hI : RI n i s r pe0 x (p :: b)) (e : Ev n i s r x p x' out) (hi : i < n) : RV h n i s pe0 x' (b ++ out) := fun hl => by
  have h1 := hI.suf.1
  rcases e.pe with e1 | ⟨v, t, e1, _⟩
  · exact (hV (by rw [← e1]; exact hl)).step hI e hi e1
  · have := congrArg List.length e1; simp at this; omega
/-- What is known was known to somebody, or is the slot's. -/
def RK (n s : Nat) (L0 : Nat → Nat → Option ByteArray) (x : Vw) : Prop := ∀ k t, k < n → (x.L k t).isSome = true → (∃ k', k' < n ∧ (L0 k' t).isSome = true) ∨ t = s
theorem RK.step {L0 : Nat → Nat → Option ByteArray} (hK : RK n s L0 x) (e : Ev n i s r x p x' out) (hi : i < n) : RK n s L0 x' := fun k t hk hs => by
  rcases e.lnew hi hs with h | ⟨_, h⟩ | ⟨_, _, _, k', h1, h2⟩ | ⟨_, h, _⟩
  · exact hK k t hk h
  · exact .inr h
  · exact hK k' t h1 h2
  · exact .inr h
/-- The group in the midst of a run. -/
structure RG (n i s r B : Nat) (pe0 : List ByteArray) (g0 : Gm) (Inv : Vw → List Pkt → Prop) (g : Gm) : Prop where
  ok : GmOk n B g
  idle : Idle n i g
  ri : RI n i s r pe0 (vw i s g) g.bg
  len : phL g.bg + flag (vw i s g) ≤ 100
  inv : Inv (vw i s g) g.bg
  ac : ∀ k t, t ≠ s → (g.nd k).acr t = (g0.nd k).acr t
theorem wtL_pos {q : Pkt} {l : List Pkt} : 0 < wtL (q :: l) := by
  rw [wtL_cons]
  have : 1 ≤ wt q.m.k := by unfold wt; split <;> omega
  omega
/-- A run comes to its end. -/
theorem RG.run {g0 : Gm} {Inv : Vw → List Pkt → Prop} (hn : n ≤ 7) (hi : i < n) (hB : 0 < B)
    (hstep : ∀ x p b x' out, RI n i s r pe0 x (p :: b) → Inv x (p :: b) → Ev n i s r x p x' out → Inv x' (b ++ out)) :
    ∀ (f : Nat) (g : Gm), RG n i s r B pe0 g0 Inv g → wtL g.bg ≤ f → RG n i s r B pe0 g0 Inv (runG n f g) ∧ (runG n f g).bg = []
  | 0, g, h, hf => ⟨h, by
      show g.bg = []
      cases hb : g.bg with
      | nil => rfl
      | cons q l => rw [hb] at hf; have := wtL_pos (q := q) (l := l); omega⟩
  | f + 1, g, h, hf => by
    cases hb : g.bg with
    | nil =>
      have : runG n (f + 1) g = g := by show (if g.bg = [] then g else _) = g; rw [if_pos hb]
      rw [this]; exact ⟨h, hb⟩
    | cons p b =>
      have e1 : runG n (f + 1) g = runG n f (g.arrive n p b) := by
        show (if g.bg = [] then g else runG n f (g.deliver n 0)) = _
        rw [if_neg (by rw [hb]; simp)]
        have : g.deliver n 0 = g.arrive n p b := by unfold Gm.deliver; rw [hb]; rfl
        rw [this]
      rw [e1]
      have hri := h.ri; have hlen := h.len; have hinv := h.inv
      rw [hb] at hri hlen hinv hf
      obtain ⟨x', out, he, hC⟩ := arrive_ev (b := b) h.ok hB hn hi h.idle (hri.shp p (List.mem_cons_self ..)) (fun q hq => ⟨(hri.nw q hq).1, (hri.nw q hq).2.1, (hri.nw q hq).2.2.1⟩)
      obtain ⟨l1, l2⟩ := he.less hn hi
      have hph : phL (b ++ out) + flag x' ≤ 100 := by rw [phL_app]; rw [phL_cons] at hlen; omega
      obtain ⟨c1, c2, c3⟩ := hC (by have := len_phL (b ++ out); rw [List.length_append] at this; omega)
      refine RG.run hn hi hB hstep f _ ⟨?_, c3.idle, ?_, ?_, ?_, fun k t ht => (c3.ac k t ht).trans (h.ac k t ht)⟩ ?_
      · have : g.deliver n 0 = g.arrive n p b := by unfold Gm.deliver; rw [hb]; rfl
        rw [← this]; exact h.ok.deliver hn 0
      · rw [c1, c2]; exact hri.step he hi
      · rw [c1, c2]; exact hph
      · rw [c1, c2]; exact hstep _ _ _ _ _ hri hinv he
      · rw [c2, wtL_app]; rw [wtL_cons] at hf; omega
end
section
variable {n i s r B : Nat} {g g' : Gm}
/-- All has been delivered, and all but one do nothing of their own. -/
structure TS (n i B : Nat) (g : Gm) : Prop where
  ok : GmOk n B g
  idle : Idle n i g
  bg : g.bg = []
  ch : ∀ k t, k < n → ((g.nd k).lg t).isSome = true → ∀ t', t' < t → ∃ k', k' < n ∧ ((g.nd k').lg t').isSome = true
theorem tick_eq (hbg : g.bg = []) (hn : n ≤ 7) (hi : i < n) (hs : (g.nd i).first = s) (hr : (g.nd i).rd + 1 = r) (hpe : (g.nd i).pe ≠ []) :
    g.tick n i = ⟨set g.nd i { g.nd i with rd := r, nw := some ⟨s, r, i, [], [], [], E0, false⟩ }, ((allOf n).map fun d => ⟨i, d, mPrep s r i⟩) ++ ((othersOf n i).map fun d => ⟨i, d, mAsk s⟩)⟩ := by
  have ho := others_len n i hi
  have ha : (allOf n).length = n := List.length_range
  unfold Gm.tick
  dsimp only
  have e1 := sendTo_app (fr := i) (m := mPrep s r i) (l := allOf n) (b := []) (by rw [List.length_nil]; omega)
  have e2 := sendTo_app (fr := i) (m := mAsk s) (l := othersOf n i) (b := (allOf n).map fun d => ⟨i, d, mPrep s r i⟩) (by rw [List.length_map]; omega)
  rw [List.nil_append] at e1
  rw [if_neg hpe, hs, hr, hbg, e1, e2]
theorem tick_eq0 (hbg : g.bg = []) (hn : n ≤ 7) (hi : i < n) (hs : (g.nd i).first = s) (hpe : (g.nd i).pe = []) :
    g.tick n i = ⟨g.nd, (othersOf n i).map fun d => ⟨i, d, mAsk s⟩⟩ := by
  have ho := others_len n i hi
  unfold Gm.tick
  dsimp only
  have e2 := sendTo_app (fr := i) (m := mAsk s) (l := othersOf n i) (b := []) (by rw [List.length_nil]; omega)
  rw [if_pos hpe, hs, hbg, e2, List.nil_append]
theorem mem_others {k : Nat} : k ∈ othersOf n i ↔ k < n ∧ k ≠ i := by
  unfold othersOf notB
  rw [List.mem_filter, List.mem_range, decide_eq_true_iff]
def InvT (n i s r : Nat) (pe0 : List ByteArray) (L0 : Nat → Nat → Option ByteArray) (NA : Prop) (VH : ByteArray → Prop) (x : Vw) (b : List Pkt) : Prop :=
  T1 n i s r x b ∧ RK n s L0 x ∧ (NA → RS n i s r pe0 x b) ∧ ∀ h, VH h → RV h n i s pe0 x b
theorem InvT.step {pe0 : List ByteArray} {L0 : Nat → Nat → Option ByteArray} {NA : Prop} {VH : ByteArray → Prop} (hi : i < n) (x : Vw) (p : Pkt) (b : List Pkt) (x' : Vw) (out : List Pkt) (hI : RI n i s r pe0 x (p :: b)) (h : InvT n i s r pe0 L0 NA VH x (p :: b)) (e : Ev n i s r x p x' out) : InvT n i s r pe0 L0 NA VH x' (b ++ out) :=
  ⟨h.1.step hI.rd e, h.2.1.step e hi, fun a => (h.2.2.1 a).step hI e hi, fun v a => (h.2.2.2 v a).step hI e hi⟩
/-- What a turn makes. -/
structure Turn (n i B : Nat) (g g' : Gm) : Prop where
  ts : TS n i B g'
  pl : (g'.nd i).pe.length ≤ (g.nd i).pe.length ∧ ((g'.nd i).pe.length = (g.nd i).pe.length → (g'.nd i).pe = (g.nd i).pe)
  t1 : ((g'.nd i).lg (g.nd i).first).isSome = true ∨ ∀ k, k < n → ((g'.nd k).acr (g.nd i).first).r ≤ (g'.nd i).rd
  na : (∀ k, k < n → ((g.nd k).acr (g.nd i).first).r ≤ (g.nd i).rd) → ((g'.nd i).lg (g.nd i).first).isSome = true ∨ (g'.nd i).pe.length < (g.nd i).pe.length
  vh : ∀ h, (g.nd i).pe.head? = some h → (∀ k, k < n → ((g.nd k).acr (g.nd i).first).h = true → ((g.nd k).acr (g.nd i).first).v = h) → (∀ k, k < n → ∀ v, (g.nd k).lg (g.nd i).first = some v → v = h) → (g'.nd i).pe.length = (g.nd i).pe.length →
    (g'.nd i).lg (g.nd i).first = none ∧ (∀ k, k < n → ((g'.nd k).acr (g.nd i).first).h = true → ((g'.nd k).acr (g.nd i).first).v = h) ∧ ∀ k, k < n → ∀ v, (g'.nd k).lg (g.nd i).first = some v → v = h
  cov : ∀ k t, k < n → k ≠ i → (g.nd i).first ≤ t → t < (g.nd i).first + 5 → ((g'.nd k).lg t).isSome = true → ((g'.nd i).lg t).isSome = true
  rk : ∀ k t, k < n → ((g'.nd k).lg t).isSome = true → (∃ k', k' < n ∧ ((g.nd k').lg t).isSome = true) ∨ t = (g.nd i).first
  ac : ∀ k t, t ≠ (g.nd i).first → (g'.nd k).acr t = (g.nd k).acr t
  h6 : ∀ v ∈ (g.nd i).pe, v ∈ (g'.nd i).pe ∨ ∃ t, t < (g.nd i).first + 5 ∧ (g'.nd i).lg t = some v
theorem runG_lg (n : Nat) : ∀ (f : Nat) (g : Gm), LgUp g (runG n f g)
  | 0, g => LgUp.refl g
  | f + 1, g => by
    show LgUp g (if g.bg = [] then g else runG n f (g.deliver n 0))
    split
    · exact LgUp.refl g
    · exact (LgUp.deliver g n 0).trans (runG_lg n f _)
theorem flag_first (x : Vw) (s r i : Nat) : flag { x with nw := some ⟨s, r, i, [], [], [], E0, false⟩ } = 42 := rfl
theorem start_ri (hT : TS n i B g) (hn : n ≤ 7) (hi : i < n) (hB : B ≤ 100000000) (hs : (g.nd i).first = s) (hr : (g.nd i).rd + 1 = r) (hpe : (g.nd i).pe ≠ []) {Inv : Vw → List Pkt → Prop}
    (hinv : Inv { vw i s g with nw := some ⟨s, r, i, [], [], [], E0, false⟩, rd := r } (((allOf n).map fun d => ⟨i, d, mPrep s r i⟩) ++ ((othersOf n i).map fun d => ⟨i, d, mAsk s⟩))) :
    RG n i s r (B + 1) (g.nd i).pe g Inv (g.tick n i) ∧ wtL (g.tick n i).bg ≤ 450 := by
  have hno := (hT.ok.nd i hi).first (B := B) (by omega)
  rw [hs] at hno
  have ho := others_len n i hi
  have ha : (allOf n).length = n := List.length_range
  have hvw : vw i s ⟨set g.nd i { g.nd i with rd := r, nw := some ⟨s, r, i, [], [], [], E0, false⟩ }, ((allOf n).map fun d => ⟨i, d, mPrep s r i⟩) ++ ((othersOf n i).map fun d => ⟨i, d, mAsk s⟩)⟩ = { vw i s g with nw := some ⟨s, r, i, [], [], [], E0, false⟩, rd := r } := by
    refine Eq.trans (vw_same ?_ ?_) ?_
    · rfl
    · exact fun _ => rfl
    · rfl
  have hgt := hT.ok.tick hn (by omega) hi
  rw [tick_eq hT.bg hn hi hs hr hpe] at hgt ⊢
  have hel : Els n i s g ⟨set g.nd i { g.nd i with rd := r, nw := some ⟨s, r, i, [], [], [], E0, false⟩ }, ((allOf n).map fun d => ⟨i, d, mPrep s r i⟩) ++ ((othersOf n i).map fun d => ⟨i, d, mAsk s⟩)⟩ := els_set hT.idle (fun h => absurd rfl h) fun _ _ => rfl
  have w1 := sum_le (c := 58) (f := fun q => wt q.m.k) ((allOf n).map fun d => (⟨i, d, mPrep s r i⟩ : Pkt)) (fun q hq => by obtain ⟨d, _, rfl⟩ := List.mem_map.1 hq; exact Nat.le_refl _)
  have w2 := sum_le (c := 6) (f := fun q => wt q.m.k) ((othersOf n i).map fun d => (⟨i, d, mAsk s⟩ : Pkt)) (fun q hq => by obtain ⟨d, _, rfl⟩ := List.mem_map.1 hq; exact Nat.le_refl _)
  have p1 := sum_le (c := 1) (f := fun q => ph q.m.k) ((allOf n).map fun d => (⟨i, d, mPrep s r i⟩ : Pkt)) (fun q hq => by obtain ⟨d, _, rfl⟩ := List.mem_map.1 hq; exact Nat.le_refl _)
  have p2 := sum_le (c := 5) (f := fun q => ph q.m.k) ((othersOf n i).map fun d => (⟨i, d, mAsk s⟩ : Pkt)) (fun q hq => by obtain ⟨d, _, rfl⟩ := List.mem_map.1 hq; exact Nat.le_refl _)
  rw [List.length_map] at w1 w2 p1 p2
  refine ⟨⟨hgt, hel.idle, ?_, ?_, ?_, hel.ac⟩, ?_⟩
  · rw [hvw]
    refine ⟨fun q hq => ?_, fun q hq => ?_, Nat.le_refl _, ⟨Nat.le_refl _, fun _ => rfl⟩, hno.1.yes, fun k t hk hki _ _ _ => .inl (List.mem_append_right _ (List.mem_map.2 ⟨k, mem_others.2 ⟨hk, hki⟩, rfl⟩)), hT.ch, fun v hv => .inl hv⟩
    · rcases List.mem_append.1 hq with hq | hq
      · obtain ⟨d, hd, rfl⟩ := List.mem_map.1 hq
        exact .prep _ (all_lt hd)
      · obtain ⟨d, hd, rfl⟩ := List.mem_map.1 hq
        have := mem_others.1 hd
        exact .ask _ this.1 this.2
    · cases hq
      exact ⟨rfl, rfl, rfl, hno.1.no, fun _ => ⟨quor_pos n, rfl⟩, fun h => (nomatch h)⟩
  · rw [hvw, phL_app, show flag { vw i s g with nw := some ⟨s, r, i, [], [], [], E0, false⟩, rd := r } = 42 from rfl]
    unfold phL; omega
  · rw [hvw]; exact hinv
  · rw [wtL_app]; unfold wtL; omega
/-- A turn. -/
theorem turn_is (hT : TS n i B g) (hn : n ≤ 7) (hi : i < n) (hB : B ≤ 100000000) (hpe : (g.nd i).pe ≠ []) {f : Nat} (hf : 450 ≤ f) : Turn n i (B + 1) g (runG n f (g.tick n i)) := by
  obtain ⟨s, hs⟩ : ∃ s, (g.nd i).first = s := ⟨_, rfl⟩
  obtain ⟨r, hr⟩ : ∃ r, (g.nd i).rd + 1 = r := ⟨_, rfl⟩
  have hno := (hT.ok.nd i hi).first (B := B) (by omega)
  have hprep : ∀ k, k < n → (⟨i, k, mPrep s r i⟩ : Pkt) ∈ ((allOf n).map fun d => (⟨i, d, mPrep s r i⟩ : Pkt)) ++ ((othersOf n i).map fun d => ⟨i, d, mAsk s⟩) := fun k hk => List.mem_append_left _ (List.mem_map.2 ⟨k, List.mem_range.2 hk, rfl⟩)
  have hbk : ∀ q ∈ ((allOf n).map fun d => (⟨i, d, mPrep s r i⟩ : Pkt)) ++ ((othersOf n i).map fun d => ⟨i, d, mAsk s⟩), q.m.k = 0 ∨ q.m.k = 6 := fun q hq => by
    rcases List.mem_append.1 hq with hq | hq
    · obtain ⟨d, _, rfl⟩ := List.mem_map.1 hq; exact .inl rfl
    · obtain ⟨d, _, rfl⟩ := List.mem_map.1 hq; exact .inr rfl
  obtain ⟨hG, hw⟩ := start_ri hT hn hi hB hs hr hpe
    (Inv := InvT n i s r (g.nd i).pe (vw i s g).L (∀ k, k < n → ((g.nd k).acr s).r ≤ (g.nd i).rd) (fun h => (g.nd i).pe.head? = some h ∧ (∀ k, k < n → ((g.nd k).acr s).h = true → ((g.nd k).acr s).v = h) ∧ (∀ k, k < n → ∀ v, (g.nd k).lg s = some v → v = h)))
    ⟨fun k hk => .inl (hprep k hk), fun k t hk h => .inl ⟨k, hk, h⟩, fun hna => ⟨fun k hk => by
        have h1 := hna k hk
        have h2 := ((hT.ok.nd k hk).acr (by have := (hT.ok.nd i hi).rd; omega) s).n
        show bal ((g.nd k).acr s).r ((g.nd k).acr s).n ≤ bal r i
        unfold bal; omega, fun q hq => by rcases hbk q hq with h | h <;> omega, fun h => (nomatch h), fun q hq k hk => by cases hq; exact .inr (.inl ⟨rfl, .inl (hprep k hk)⟩)⟩,
      fun h ⟨v1, v2, v3⟩ _ => ⟨v1, by show (g.nd i).lg s = none; rw [← hs]; exact hno.1.no, v2, v3, fun q hq => ⟨fun h => by rcases hbk q hq with e | e <;> omega, fun h => by rcases hbk q hq with e | e <;> omega, fun h => by rcases hbk q hq with e | e <;> omega⟩, fun q hq => by cases hq; exact ⟨fun h => (nomatch h), fun y hy => (nomatch hy)⟩⟩⟩
  obtain ⟨hG', hbg⟩ := RG.run hn hi (Nat.succ_pos _) (fun x p b x' out => InvT.step hi x p b x' out) f _ hG (by omega)
  have hri := hG'.ri
  have hinv := hG'.inv
  rw [hbg] at hri hinv
  refine ⟨⟨hG'.ok, hG'.idle, hbg, hri.ch⟩, hri.suf, ?_, fun hna => ?_, fun h h1 h2 h3 h4 => ?_, fun k t hk hki h1 h2 h3 => ?_, fun k t hk h => ?_, fun k t ht => ?_, fun v hv => ?_⟩ <;> rw [hs] at *
  · by_cases hk : ((runG n f (g.tick n i)).nd i).lg s = none
    · refine .inr fun k hkn => ?_
      rcases hinv.1 k hkn with h | ⟨j, v, h⟩ | h | ⟨j, pr, pn, h, _⟩ | h
      · cases h
      · cases h
      · have h : (((runG n f (g.tick n i)).nd i).lg s).isSome = true := h
        rw [hk] at h; cases h
      · cases h
      · exact h
    · left
      cases hq : ((runG n f (g.tick n i)).nd i).lg s with
      | none => exact absurd hq hk
      | some v => rfl
  · exact (hinv.2.2.1 hna).done hri (by omega)
  · have := (hinv.2.2.2 h ⟨h1, h2, h3⟩) h4
    exact ⟨this.no, this.ac, this.lg⟩
  · rcases hri.cov k t hk hki h1 h2 h3 with h | ⟨j, v, h⟩ | h
    · cases h
    · cases h
    · exact h
  · exact hinv.2.1 k t hk h
  · exact hG'.ac k t ht
  · exact hri.h6 v hv
end
end Go.Proofs.Ytghhcjpilcoblaa
