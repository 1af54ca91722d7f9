/- The parts RpM, RpC, Mp2, RpA, joined. -/
import Derived.Test.YtecniafnihpjmaaGreatDoorMg1
import Derived.Test.YtecniafnihpjmaaGreatDoorMg4
import Derived.Test.YtecniafnihpjmaaGreatDoorMg2
import Derived.Maps.RangeWalk
import Derived.Maps.Ext
/- Chapters 19 and 24 (judge, replica): a judge and a replica as plain data, and what each call makes of them. No program here. -/
namespace Go.Proofs.YtecniafnihpjmaaGreatDoor
open Go.RowKit Go.Lap C
set_option linter.unusedVariables false
/-- A batch. -/
structure Btc where
  c : Nat
  r : Nat
  s : Nat
  l : List Wri
def Btc.none : Btc := ⟨0, 0, 0, []⟩
/-- A verdict. -/
structure Vd where
  t : Nat
  e : Int
def setD {κ α : Type} [DecidableEq κ] (f : κ → α) (k : κ) (x : α) (j : κ) : α := if j = k then x else f j
theorem setD_same {κ α : Type} [DecidableEq κ] (f : κ → α) (k : κ) (x : α) : setD f k x k = x := if_pos rfl
theorem setD_ne {κ α : Type} [DecidableEq κ] (f : κ → α) {k j : κ} (x : α) (h : j ≠ k) : setD f k x j = f j := if_neg h
/-- A judge: the last timestamp; when each key was written last (0: never); each client's last request, and what it was told. -/
structure Jd where
  la : Nat
  wh : ByteArray → Option Nat
  sn : Nat → Option (Nat × Vd)
def Jd.zero : Jd := ⟨0, fun _ => Option.none, fun _ => Option.none⟩
def Jd.when_ (j : Jd) (k : ByteArray) : Nat := (j.wh k).getD 0
def Jd.commit (j : Jd) (b : Btc) : Jd := { j with la := j.la + 1, wh := b.l.foldl (fun f x => setD f x.key (some (j.la + 1))) j.wh }
def Jd.written (j : Jd) (b : Btc) : Bool := b.l.any fun x => decide (b.s < j.when_ x.key)
def maxT : Nat := 9223372036854775807
/-- What becomes of a batch that is new. -/
def Jd.new_ (j : Jd) (b : Btc) : Jd × Vd :=
  if j.la < b.s then (j, ⟨0, 190⟩)
  else if maxT ≤ j.la then (j, ⟨0, 192⟩)
  else if j.written b = true then ({ j with sn := setD j.sn b.c (some (b.r, ⟨0, 191⟩)) }, ⟨0, 191⟩)
  else ({ j.commit b with sn := setD j.sn b.c (some (b.r, ⟨j.la + 1, 0⟩)) }, ⟨j.la + 1, 0⟩)
def Jd.say (j : Jd) (b : Btc) : Jd × Vd :=
  if chk b.l ≠ 0 then (j, ⟨0, chk b.l⟩) else
  match j.sn b.c with
  | some (q, v) => if q = b.r then (j, v) else if b.r < q then (j, ⟨0, 193⟩) else j.new_ b
  | Option.none => j.new_ b
/-- A batch taken as committed. -/
def Jd.load (j : Jd) (b : Btc) : Jd × Int :=
  if chk b.l ≠ 0 then (j, chk b.l)
  else if maxT ≤ j.la then (j, 192)
  else
    let j' := j.commit b
    match j.sn b.c with
    | some (q, v) => if b.r < q then (j', 0) else ({ j' with sn := setD j.sn b.c (some (b.r, ⟨j.la + 1, 0⟩)) }, 0)
    | Option.none => ({ j' with sn := setD j.sn b.c (some (b.r, ⟨j.la + 1, 0⟩)) }, 0)
/-- A note. -/
structure Nt where
  k : Int
  fr : Int
  ds : Int
  ep : Nat
  t : Nat
  b : Btc
/-- A replica. -/
structure Rpl where
  id : Int
  cf : Cfg
  j : Jd
  l : List Btc
  cl : Nat
  out : List Nt
def nextC (c : Cfg) (n : Int) : Int × Bool := atC c.ms (placeC c.ms n) (placeC c.ms n + 1)
def befC (c : Cfg) (n : Int) : Int × Bool := atC c.ms (placeC c.ms n) (placeC c.ms n + -1)
def Rpl.la (x : Rpl) : Nat := x.l.length
def Rpl.send (x : Rpl) (ds : Int) (k : Int) (t : Nat) (b : Btc) : Rpl := { x with out := x.out ++ [⟨k, x.id, ds, x.cf.e, t, b⟩] }
def Rpl.tell (x : Rpl) : Rpl := if (befC x.cf x.id).2 = true then x.send (befC x.cf x.id).1 1 x.cl Btc.none else x
def Rpl.ask (x : Rpl) : Rpl := if (befC x.cf x.id).2 = true then x.send (befC x.cf x.id).1 2 (x.la + 1) Btc.none else x
def Rpl.cleaned (x : Rpl) (t : Nat) : Rpl := ({ x with cl := t } : Rpl).tell
/-- A batch is put behind the list. -/
def Rpl.added (x : Rpl) (b : Btc) : Rpl :=
  let y : Rpl := { x with l := x.l ++ [b] }
  if (nextC y.cf y.id).2 = true then y.send (nextC y.cf y.id).1 0 y.la b else y.cleaned y.la
def Rpl.submit (x : Rpl) (b : Btc) : Rpl × Vd × Int :=
  if placeC x.cf.ms x.id ≠ 0 then (x, ⟨0, 0⟩, 240)
  else
    let r := x.j.say b
    let y : Rpl := { x with j := r.1 }
    (if x.la < r.1.la then y.added b else y, r.2, 0)
/-- Batches from a timestamp on. -/
def Rpl.some_ (x : Rpl) (ds : Int) (t : Nat) : Rpl := (List.range 5).foldl (fun y i => if 1 ≤ t ∧ t + i ≤ x.la then y.send ds 0 (t + i) ((x.l[t + i - 1]?).getD Btc.none) else y) x
def Rpl.forwarded (x : Rpl) (n : Nt) : Rpl :=
  if n.t = x.la + 1 then if chk n.b.l ≠ 0 then x else ({ x with j := (x.j.load n.b).1 } : Rpl).added n.b
  else if x.la < n.t then x.ask
  else if n.t ≤ x.cl then x.tell
  else x
def Rpl.acked (x : Rpl) (n : Nt) : Rpl := if x.cl < min n.t x.la then x.cleaned (min n.t x.la) else x
def Rpl.side (x : Rpl) (k : Int) : Int × Bool := if k = 0 then befC x.cf x.id else nextC x.cf x.id
def Rpl.receive (x : Rpl) (n : Nt) : Rpl :=
  if n.t = 0 ∨ n.ds ≠ x.id ∨ n.ep ≠ x.cf.e ∨ n.k < 0 ∨ 3 ≤ n.k then x
  else if (x.side n.k).2 = true ∧ (x.side n.k).1 = n.fr then
    if n.k = 0 then x.forwarded n else if n.k = 1 then x.acked n else x.some_ n.fr n.t
  else x
def Rpl.adopt (x : Rpl) (c : Cfg) : Rpl × Int :=
  if chkC c = false ∨ c.e ≤ x.cf.e then (x, 241)
  else
    let y : Rpl := { x with cf := c }
    if placeC c.ms x.id < 0 then (y, 0)
    else ((if (nextC c x.id).2 = true then y else y.cleaned y.la).ask, 0)
def Rpl.tick (x : Rpl) : Rpl :=
  let y := if (nextC x.cf x.id).2 = true then x.some_ (nextC x.cf x.id).1 (x.cl + 1) else x
  (if 0 < y.cl then y.tell else y).ask
def Rpl.new_ (id : Int) (c : Cfg) : Rpl := ⟨id, c, Jd.zero, [], 0, []⟩
end Go.Proofs.YtecniafnihpjmaaGreatDoor

/- Chapter 24 (replica): a chain of replicas as plain data; what is clean is everywhere. No program here. -/
namespace Go.Proofs.YtecniafnihpjmaaGreatDoor
open Go.RowKit Go.Lap C
set_option linter.unusedVariables false

/-- One stands ahead of another one. -/
def Ah (ms : List Int) (z i : Int) : Prop := ∃ p q : Nat, p < q ∧ ms[p]? = some z ∧ ms[q]? = some i
theorem ah_sub {z i : Int} : ∀ {l : List Int}, [z, i].Sublist l ↔ Ah l z i
  | [] => by simp [Ah]
  | x :: l => by
    constructor
    · intro h
      cases h with
      | cons _ h =>
        obtain ⟨p, q, h1, h2, h3⟩ := ah_sub.1 h
        exact ⟨p + 1, q + 1, by omega, by simpa using h2, by simpa using h3⟩
      | cons_cons _ h =>
        obtain ⟨q, hq⟩ := List.mem_iff_getElem?.1 (h.subset (List.mem_singleton.2 rfl))
        exact ⟨0, q + 1, by omega, rfl, by simpa using hq⟩
    · rintro ⟨p, q, h1, h2, h3⟩
      obtain ⟨q, rfl⟩ : ∃ r, q = r + 1 := ⟨q - 1, by omega⟩
      cases p with
      | zero =>
        simp only [List.getElem?_cons_zero, Option.some.injEq] at h2
        subst h2
        exact .cons_cons _ (List.singleton_sublist.2 (List.mem_of_getElem? (by simpa using h3)))
      | succ p => exact .cons _ (ah_sub.2 ⟨p, q, by omega, by simpa using h2, by simpa using h3⟩)
theorem Ah.mono {l m : List Int} {z i : Int} (h : Ah l z i) (hs : l.Sublist m) : Ah m z i := ah_sub.1 ((ah_sub.2 h).trans hs)
theorem nodup_at {l : List Int} (h : l.Nodup) {p q : Nat} {x : Int} (hp : l[p]? = some x) (hq : l[q]? = some x) : p = q :=
  (List.getElem?_inj (List.getElem?_eq_some_iff.1 hp).1 h).1 (hp.trans hq.symm)
theorem next_some {c : Cfg} {i y : Int} (h : nextC c i = (y, true)) : ∃ k, c.ms[k]? = some i ∧ c.ms[k + 1]? = some y := by
  unfold nextC atC at h
  rcases place_cases c.ms i with ⟨h1, h2⟩ | ⟨k, h1, h2, h3, h4⟩
  · rw [h2] at h; simp at h
  · rw [h4] at h
    refine ⟨k, h2, ?_⟩
    split at h
    · rw [show ((k : Int) + 1).toNat = k + 1 by omega] at h
      split at h
      · rename_i x hx; cases h; exact hx
      · cases h
    · cases h
theorem bef_some {c : Cfg} {i y : Int} (h : befC c i = (y, true)) : ∃ k, c.ms[k]? = some y ∧ c.ms[k + 1]? = some i := by
  unfold befC atC at h
  rcases place_cases c.ms i with ⟨h1, h2⟩ | ⟨k, h1, h2, h3, h4⟩
  · rw [h2] at h; simp at h
  · rw [h4] at h
    split at h
    · rename_i hk
      obtain ⟨k, rfl⟩ : ∃ r, k = r + 1 := ⟨k - 1, by omega⟩
      refine ⟨k, ?_, h2⟩
      rw [show (((k + 1 : Nat) : Int) + -1).toNat = k by omega] at h
      split at h
      · rename_i x hx; cases h; exact hx
      · cases h
    · cases h
theorem next_mk {c : Cfg} (hn : c.ms.Nodup) {k : Nat} {i y : Int} (h1 : c.ms[k]? = some i) (h2 : c.ms[k + 1]? = some y) : nextC c i = (y, true) := by
  unfold nextC
  rcases place_cases c.ms i with ⟨h3, h4⟩ | ⟨k', h3, h4, h5, h6⟩
  · exact absurd (List.mem_of_getElem? h1) h3
  · obtain rfl := nodup_at hn h1 h4
    rw [h6]
    exact at_yes (k := k + 1) (by omega) h2
theorem bef_mk {c : Cfg} (hn : c.ms.Nodup) {k : Nat} {i y : Int} (h1 : c.ms[k]? = some y) (h2 : c.ms[k + 1]? = some i) : befC c i = (y, true) := by
  unfold befC
  rcases place_cases c.ms i with ⟨h3, h4⟩ | ⟨k', h3, h4, h5, h6⟩
  · exact absurd (List.mem_of_getElem? h2) h3
  · obtain rfl := nodup_at hn h2 h4
    rw [h6, show ((k + 1 : Nat) : Int) + -1 = (k : Int) by omega]
    exact at_yes (by omega) h1
theorem next_none {c : Cfg} {i : Int} (hi : i ∈ c.ms) (h : (nextC c i).2 = false) : ∃ k, c.ms[k]? = some i ∧ k + 1 = c.ms.length := by
  rcases place_cases c.ms i with ⟨h1, h2⟩ | ⟨k, h1, h2, h3, h4⟩
  · exact absurd hi h1
  · refine ⟨k, h2, ?_⟩
    rcases Nat.lt_or_ge (k + 1) c.ms.length with hlt | hge
    · unfold nextC at h
      rw [h4] at h
      have := at_yes (ms := c.ms) (i := (k : Int)) (k := k + 1) (by omega) (List.getElem?_eq_getElem hlt)
      rw [show ((k : Int) + 1) = ((k + 1 : Nat) : Int) by omega, this] at h
      cases h
    · omega
theorem pair_of {r : Int × Bool} (h : r.2 = true) : r = (r.1, true) := by rw [← h]

/-- What all know of the configurations. -/
structure CsOk (n : Nat) (cs : List Cfg) (nw : Cfg) : Prop where
  last : cs.getLast? = some nw
  at_ : ∀ (j : Nat) (c : Cfg), cs[j]? = some c → c.e = j + 1
  ok : ∀ c ∈ cs, chkC c = true ∧ ∀ m ∈ c.ms, 0 ≤ m ∧ m < n
  sub : ∀ (j k : Nat) (c d : Cfg), j ≤ k → cs[j]? = some c → cs[k]? = some d → d.ms.Sublist c.ms
section
variable {n : Nat} {cs : List Cfg} {nw c d : Cfg}
theorem CsOk.uniq (h : CsOk n cs nw) (hc : c ∈ cs) (hd : d ∈ cs) (he : c.e = d.e) : c = d := by
  obtain ⟨j, hj⟩ := List.mem_iff_getElem?.1 hc
  obtain ⟨k, hk⟩ := List.mem_iff_getElem?.1 hd
  have h1 := h.at_ j c hj
  have h2 := h.at_ k d hk
  obtain rfl : j = k := by omega
  exact Option.some.inj (hj.symm.trans hk)
theorem CsOk.le (h : CsOk n cs nw) (hc : c ∈ cs) (hd : d ∈ cs) (he : c.e ≤ d.e) : d.ms.Sublist c.ms := by
  obtain ⟨j, hj⟩ := List.mem_iff_getElem?.1 hc
  obtain ⟨k, hk⟩ := List.mem_iff_getElem?.1 hd
  have h1 := h.at_ j c hj
  have h2 := h.at_ k d hk
  exact h.sub j k c d (by omega) hj hk
theorem CsOk.nwAt (h : CsOk n cs nw) : cs[cs.length - 1]? = some nw := by rw [← List.getLast?_eq_getElem?]; exact h.last
theorem CsOk.nwMem (h : CsOk n cs nw) : nw ∈ cs := List.mem_of_getElem? h.nwAt
theorem CsOk.nwSub (h : CsOk n cs nw) (hc : c ∈ cs) : nw.ms.Sublist c.ms := by
  obtain ⟨j, hj⟩ := List.mem_iff_getElem?.1 hc
  have := (List.getElem?_eq_some_iff.1 hj).1
  exact h.sub j _ c nw (by omega) hj h.nwAt
theorem CsOk.nd (h : CsOk n cs nw) (hc : c ∈ cs) : c.ms.Nodup := (chk_parts (h.ok c hc).1).2.2.2.2.2
/-- One is taken out. -/
theorem CsOk.rem (h : CsOk n cs nw) {k : Int} (hr : remC nw k = (d, 0)) : CsOk n (cs ++ [d]) d := by
  obtain ⟨h1, h2, h3, h4, _⟩ := rem_chk hr
  have hl : cs.length - 1 + 1 = cs.length := by
    have := (List.getElem?_eq_some_iff.1 h.nwAt).1; omega
  have hsub : d.ms.Sublist nw.ms := by rw [h4]; exact List.filter_sublist
  have hcase : ∀ j c, (cs ++ [d])[j]? = some c → (cs[j]? = some c) ∨ (j = cs.length ∧ c = d) := by
    intro j c hj
    rcases Nat.lt_trichotomy j cs.length with hlt | he | hgt
    · rw [List.getElem?_append_left hlt] at hj; exact .inl hj
    · subst he; simp at hj; exact .inr ⟨rfl, hj.symm⟩
    · rw [List.getElem?_eq_none (by simp; omega)] at hj; cases hj
  refine ⟨by simp, fun j c hj => ?_, fun c hc => ?_, fun j k a b hjk ha hb => ?_⟩
  · rcases hcase j c hj with hj | ⟨rfl, rfl⟩
    · exact h.at_ j c hj
    · rw [h3, h.at_ _ _ h.nwAt, hl]
  · rcases List.mem_append.1 hc with hc | hc
    · exact h.ok c hc
    · obtain rfl := List.mem_singleton.1 hc
      exact ⟨h2, fun m hm => (h.ok nw h.nwMem).2 m (hsub.subset hm)⟩
  · rcases hcase j a ha with ha' | ⟨rfl, rfl⟩ <;> rcases hcase k b hb with hb' | ⟨rfl, rfl⟩
    · exact h.sub j k a b hjk ha' hb'
    · exact hsub.trans (h.nwSub (List.mem_of_getElem? ha'))
    · have := (List.getElem?_eq_some_iff.1 hb').1; omega
    · exact List.Sublist.refl _
end

theorem ne10 : ¬ (1 : Int) = 0 := by decide
theorem ne20 : ¬ (2 : Int) = 0 := by decide
theorem ne21 : ¬ (2 : Int) = 1 := by decide
theorem ne01 : ¬ (0 : Int) = 1 := by decide
/-- What a note that is under way says is so. -/
def NoteOk (n : Nat) (cs : List Cfg) (nw : Cfg) (L : Nat → List Btc) (nt : Nt) : Prop :=
  ∃ (x : Nat) (c : Cfg), x < n ∧ nt.fr = (x : Int) ∧ c ∈ cs ∧ nt.ep = c.e ∧
    (nt.k = 0 → 1 ≤ nt.t ∧ ∀ z < n, z = x ∨ Ah c.ms z x → (L z)[nt.t - 1]? = some nt.b) ∧
    (nt.k = 1 → nt.t ≤ (L x).length ∧ (∀ z < n, (z : Int) ∈ nw.ms → (L x).take nt.t <+: L z) ∧ ∀ z < n, Ah c.ms z x → (L x).take nt.t <+: L z)
/-- A replica among all lists. -/
structure RpOk (n : Nat) (cs : List Cfg) (nw : Cfg) (L : Nat → List Btc) (y : Nat) (x : Rpl) : Prop where
  id : x.id = (y : Int)
  cf : x.cf ∈ cs
  l : x.l = L y
  pre : ∀ z < n, Ah x.cf.ms z y → L y <+: L z
  cl : x.cl ≤ (L y).length
  new_ : ∀ z < n, (z : Int) ∈ nw.ms → (L y).take x.cl <+: L z
  out : ∀ nt ∈ x.out, NoteOk n cs nw L nt
  tl : (y : Int) ∈ x.cf.ms → (nextC x.cf y).2 = false → x.cl = (L y).length
section
variable {n y : Nat} {cs : List Cfg} {nw c d : Cfg} {L M : Nat → List Btc} {x : Rpl} {nt : Nt}
theorem pre_get {l m : List Btc} (h : l <+: m) {k : Nat} {b : Btc} (hk : l[k]? = some b) : m[k]? = some b := by
  obtain ⟨t, rfl⟩ := h
  rw [List.getElem?_append_left (List.getElem?_eq_some_iff.1 hk).1, hk]
theorem pre_take {l m : List Btc} (h : l <+: m) {k : Nat} (hk : k ≤ l.length) : m.take k = l.take k := by
  obtain ⟨t, rfl⟩ := h
  rw [List.take_append_of_le_length hk]
theorem NoteOk.grow (h : NoteOk n cs nw L nt) (hg : ∀ z < n, L z <+: M z) : NoteOk n cs nw M nt := by
  obtain ⟨x, c, hx, h1, h2, h3, h4, h5⟩ := h
  refine ⟨x, c, hx, h1, h2, h3, fun hk => ⟨(h4 hk).1, fun z hz hzx => pre_get (hg z hz) ((h4 hk).2 z hz hzx)⟩, fun hk => ?_⟩
  obtain ⟨a, b, e⟩ := h5 hk
  rw [pre_take (hg x hx) a]
  exact ⟨Nat.le_trans a (hg x hx).length_le, fun z hz hm => (b z hz hm).trans (hg z hz), fun z hz hm => (e z hz hm).trans (hg z hz)⟩
/-- Another list has grown. -/
theorem RpOk.grow (h : RpOk n cs nw L y x) (hg : ∀ z < n, L z <+: M z) (he : M y = L y) : RpOk n cs nw M y x where
  id := h.id
  cf := h.cf
  l := h.l.trans he.symm
  pre := fun z hz ha => by rw [he]; exact (h.pre z hz ha).trans (hg z hz)
  cl := by rw [he]; exact h.cl
  new_ := fun z hz hm => by rw [he]; exact (h.new_ z hz hm).trans (hg z hz)
  out := fun nt hnt => (h.out nt hnt).grow hg
  tl := by rw [he]; exact h.tl
theorem NoteOk.cfg (h : NoteOk n cs nw L nt) (hs : d.ms.Sublist nw.ms) : NoteOk n (cs ++ [d]) d L nt := by
  obtain ⟨x, c, hx, h1, h2, h3, h4, h5⟩ := h
  exact ⟨x, c, hx, h1, List.mem_append_left _ h2, h3, h4, fun hk => ⟨(h5 hk).1, fun z hz hm => (h5 hk).2.1 z hz (hs.subset hm), (h5 hk).2.2⟩⟩
theorem RpOk.cfg (h : RpOk n cs nw L y x) (hs : d.ms.Sublist nw.ms) : RpOk n (cs ++ [d]) d L y x :=
  { h with cf := List.mem_append_left _ h.cf, new_ := fun z hz hm => h.new_ z hz (hs.subset hm), out := fun nt hnt => (h.out nt hnt).cfg hs }
theorem RpOk.send (h : RpOk n cs nw L y x) {ds k : Int} {t : Nat} {b : Btc} (hn : NoteOk n cs nw L ⟨k, x.id, ds, x.cf.e, t, b⟩) : RpOk n cs nw L y (x.send ds k t b) :=
  { h with out := fun nt hnt => (List.mem_append.1 hnt).elim (h.out nt) (fun e => (List.mem_singleton.1 e) ▸ hn) }
theorem RpOk.tell (h : RpOk n cs nw L y x) (hy : y < n) : RpOk n cs nw L y x.tell := by
  unfold Rpl.tell
  split
  · refine h.send ⟨y, x.cf, hy, h.id, h.cf, rfl, fun hk => absurd hk ne10, fun _ => ⟨h.cl, h.new_, fun z hz ha => (List.take_prefix _ _).trans (h.pre z hz ha)⟩⟩
  · exact h
theorem RpOk.ask (h : RpOk n cs nw L y x) (hy : y < n) : RpOk n cs nw L y x.ask := by
  unfold Rpl.ask
  split
  · exact h.send ⟨y, x.cf, hy, h.id, h.cf, rfl, fun hk => absurd hk ne20, fun hk => absurd hk ne21⟩
  · exact h
theorem RpOk.cleaned (h : RpOk n cs nw L y x) (hy : y < n) {t : Nat} (h1 : t ≤ (L y).length) (h2 : ∀ z < n, (z : Int) ∈ nw.ms → (L y).take t <+: L z) (h3 : (y : Int) ∈ x.cf.ms → (nextC x.cf y).2 = false → t = (L y).length) : RpOk n cs nw L y (x.cleaned t) :=
  RpOk.tell (x := { x with cl := t }) { h with cl := h1, new_ := h2, tl := h3 } hy
theorem RpOk.fwd (h : RpOk n cs nw L y x) (hy : y < n) {ds : Int} {t : Nat} {b : Btc} (h1 : 1 ≤ t) (hb : x.l[t - 1]? = some b) : RpOk n cs nw L y (x.send ds 0 t b) := by
  refine h.send ⟨y, x.cf, hy, h.id, h.cf, rfl, fun _ => ⟨h1, fun z hz ha => ?_⟩, fun hk => absurd hk ne01⟩
  rw [h.l] at hb
  rcases ha with rfl | ha
  · exact hb
  · exact pre_get (h.pre z hz ha) hb
theorem RpOk.some_ (h : RpOk n cs nw L y x) (hy : y < n) (ds : Int) (t : Nat) : RpOk n cs nw L y (x.some_ ds t) := by
  unfold Rpl.some_
  have key : ∀ (is : List Nat) (z : Rpl), RpOk n cs nw L y z → z.l = x.l → RpOk n cs nw L y (is.foldl (fun y i => if 1 ≤ t ∧ t + i ≤ x.la then y.send ds 0 (t + i) ((x.l[t + i - 1]?).getD Btc.none) else y) z) := by
    intro is
    induction is with
    | nil => intro z hz _; exact hz
    | cons i is ih =>
      intro z hz hl
      rw [List.foldl_cons]
      split
      · rename_i hc
        have hlt : t + i - 1 < x.l.length := by unfold Rpl.la at hc; omega
        refine ih _ (hz.fwd hy (by omega) ?_) hl
        rw [hl, List.getElem?_eq_getElem hlt]
        rfl
      · exact ih _ hz hl
  exact key _ x h rfl
/-- All that stand there are ahead of the last one, or it. -/
theorem RpOk.tail_new (h : RpOk n cs nw L y x) (hc : CsOk n cs nw) (hm : (y : Int) ∈ x.cf.ms) (ht : (nextC x.cf y).2 = false) : ∀ z < n, (z : Int) ∈ nw.ms → L y <+: L z := by
  intro z hz hzm
  obtain ⟨k, h1, h2⟩ := next_none hm ht
  obtain ⟨p, hp⟩ := List.mem_iff_getElem?.1 ((hc.nwSub h.cf).subset hzm)
  have hlt := (List.getElem?_eq_some_iff.1 hp).1
  rcases Nat.lt_or_ge p k with hpk | hpk
  · exact h.pre z hz ⟨p, k, hpk, hp, h1⟩
  · obtain rfl : p = k := by omega
    have : z = y := by
      have := Option.some.inj (hp.symm.trans h1); omega
    rw [this]
    exact List.prefix_refl _
theorem RpOk.adopt (h : RpOk n cs nw L y x) (hy : y < n) (hcs : CsOk n cs nw) (hc : c ∈ cs) : RpOk n cs nw L y (x.adopt c).1 := by
  unfold Rpl.adopt
  split
  · exact h
  · rename_i hcond
    have hle : x.cf.e ≤ c.e := by
      rcases Nat.lt_or_ge x.cf.e c.e with hlt | hge
      · omega
      · exact absurd (.inr hge) hcond
    have hsub := hcs.le h.cf hc hle
    have pre' : ∀ z < n, Ah c.ms z y → L y <+: L z := fun z hz ha => h.pre z hz (ha.mono hsub)
    dsimp only
    split
    · rename_i hp
      have hno : (y : Int) ∉ c.ms := by rw [h.id] at hp; exact place_neg.1 hp
      exact { h with cf := hc, pre := pre', tl := fun hm => absurd hm hno }
    · rename_i hp
      rw [h.id] at hp
      have hmem : (y : Int) ∈ c.ms := Decidable.byContradiction fun hm => hp (place_neg.2 hm)
      split
      · rename_i hn
        rw [h.id] at hn
        exact RpOk.ask (x := { x with cf := c }) { h with cf := hc, pre := pre', tl := fun _ hf => absurd (hn.symm.trans hf) (by decide) } hy
      · rename_i hn
        rw [h.id] at hn
        have hf : (nextC c y).2 = false := by simpa using hn
        refine RpOk.ask ?_ hy
        have hla : ({ x with cf := c } : Rpl).la = (L y).length := by show x.l.length = _; rw [h.l]
        rw [hla]
        have hnew : ∀ z < n, (z : Int) ∈ nw.ms → (L y).take (L y).length <+: L z := by
          intro z hz hzm
          rw [List.take_length]
          obtain ⟨k, h1, h2⟩ := next_none hmem hf
          obtain ⟨p, hp⟩ := List.mem_iff_getElem?.1 ((hcs.nwSub hc).subset hzm)
          have hlt := (List.getElem?_eq_some_iff.1 hp).1
          rcases Nat.lt_or_ge p k with hpk | hpk
          · exact pre' z hz ⟨p, k, hpk, hp, h1⟩
          · obtain rfl : p = k := by omega
            have : z = y := by have := Option.some.inj (hp.symm.trans h1); omega
            rw [this]
            exact List.prefix_refl _
        have base : RpOk n cs nw L y { x with cf := c, cl := (L y).length } := { h with cf := hc, pre := pre', cl := Nat.le_refl _, tl := fun _ _ => rfl, new_ := hnew }
        exact base.tell hy
/-- The lists with one more batch at y. -/
def grown (L : Nat → List Btc) (y : Nat) (b : Btc) : Nat → List Btc := setD L y (L y ++ [b])
theorem grown_pre (L : Nat → List Btc) (y : Nat) (b : Btc) (z : Nat) : L z <+: grown L y b z := by
  unfold grown
  by_cases h : z = y
  · subst h; rw [setD_same]; exact List.prefix_append _ _
  · rw [setD_ne _ _ h]; exact List.prefix_refl _
/-- A batch is put behind a list, where all ahead have it there. -/
theorem RpOk.added (h : RpOk n cs nw L y x) (hy : y < n) (hcs : CsOk n cs nw) {b : Btc} (hm : (y : Int) ∈ x.cf.ms) (hb : ∀ z < n, Ah x.cf.ms z y → L y ++ [b] <+: L z) : RpOk n cs nw (grown L y b) y (x.added b) := by
  have hgr := fun z (_ : z < n) => grown_pre L y b z
  have hMy : grown L y b y = L y ++ [b] := setD_same _ _ _
  have hout : ∀ nt ∈ x.out, NoteOk n cs nw (grown L y b) nt := fun nt hnt => (h.out nt hnt).grow hgr
  have pre' : ∀ z < n, Ah x.cf.ms z y → grown L y b y <+: grown L y b z := fun z hz ha => by rw [hMy]; exact (hb z hz ha).trans (hgr z hz)
  unfold Rpl.added
  dsimp only
  by_cases hn' : (nextC x.cf x.id).2 = true
  · rw [if_pos hn']
    have hn : (nextC x.cf y).2 = true := by rw [← h.id]; exact hn'
    have hnew : ∀ z < n, (z : Int) ∈ nw.ms → (grown L y b y).take x.cl <+: grown L y b z := fun z hz hzm => by
      rw [hMy, List.take_append_of_le_length h.cl]
      exact (h.new_ z hz hzm).trans (hgr z hz)
    have base : RpOk n cs nw (grown L y b) y { x with l := x.l ++ [b] } :=
      { id := h.id, cf := h.cf, l := by rw [hMy, ← h.l], pre := pre', cl := by rw [hMy, List.length_append]; have := h.cl; show x.cl ≤ _; omega,
        new_ := hnew, out := hout, tl := fun _ hf => absurd (hn.symm.trans hf) (by decide) }
    refine base.fwd hy ?_ ?_
    · show 1 ≤ (x.l ++ [b]).length
      simp
    · show (x.l ++ [b])[(x.l ++ [b]).length - 1]? = some b
      simp
  · rw [if_neg hn']
    have hf : (nextC x.cf y).2 = false := by rw [← h.id]; simpa using hn'
    have hla : (({ x with l := x.l ++ [b] } : Rpl)).la = (grown L y b y).length := by unfold Rpl.la; rw [hMy, ← h.l]
    rw [hla]
    have hnew : ∀ z < n, (z : Int) ∈ nw.ms → (grown L y b y).take (grown L y b y).length <+: grown L y b z := fun z hz hzm => by
      rw [List.take_length]
      obtain ⟨k, h1, h2⟩ := next_none hm hf
      obtain ⟨p, hp⟩ := List.mem_iff_getElem?.1 ((hcs.nwSub h.cf).subset hzm)
      have hlt := (List.getElem?_eq_some_iff.1 hp).1
      rcases Nat.lt_or_ge p k with hpk | hpk
      · exact pre' z hz ⟨p, k, hpk, hp, h1⟩
      · obtain rfl : p = k := by omega
        have : z = y := by have := Option.some.inj (hp.symm.trans h1); omega
        rw [this]
        exact List.prefix_refl _
    have base : RpOk n cs nw (grown L y b) y { x with l := x.l ++ [b], cl := (grown L y b y).length } :=
      { id := h.id, cf := h.cf, l := by rw [hMy, ← h.l], pre := pre', cl := Nat.le_refl _, out := hout, tl := fun _ _ => rfl, new_ := hnew }
    exact base.tell hy
theorem send_l (x : Rpl) (ds k : Int) (t : Nat) (b : Btc) : (x.send ds k t b).l = x.l := rfl
theorem tell_l (x : Rpl) : x.tell.l = x.l := by unfold Rpl.tell; split <;> rfl
theorem ask_l (x : Rpl) : x.ask.l = x.l := by unfold Rpl.ask; split <;> rfl
theorem added_l (x : Rpl) (b : Btc) : (x.added b).l = x.l ++ [b] := by
  unfold Rpl.added Rpl.cleaned
  dsimp only
  split
  · rfl
  · rw [tell_l]
/-- What an act of a replica leaves among all lists. -/
def GoOk (n : Nat) (cs : List Cfg) (nw : Cfg) (L : Nat → List Btc) (y : Nat) (x : Rpl) : Prop := L y <+: x.l ∧ RpOk n cs nw (setD L y x.l) y x
theorem setD_self {α : Type} (f : Nat → α) (k : Nat) : setD f k (f k) = f := by
  funext j
  by_cases h : j = k
  · subst h; exact setD_same _ _ _
  · exact setD_ne _ _ h
theorem RpOk.go (h : RpOk n cs nw L y x) : GoOk n cs nw L y x := ⟨by rw [h.l]; exact List.prefix_refl _, by rw [h.l, setD_self]; exact h⟩
theorem RpOk.go_added (h : RpOk n cs nw L y x) (hy : y < n) (hcs : CsOk n cs nw) {b : Btc} (hm : (y : Int) ∈ x.cf.ms) (hb : ∀ z < n, Ah x.cf.ms z y → L y ++ [b] <+: L z) : GoOk n cs nw L y (x.added b) := by
  have hl := added_l x b
  rw [h.l] at hl
  refine ⟨by rw [hl]; exact List.prefix_append _ _, ?_⟩
  rw [hl]
  exact h.added hy hcs hm hb
theorem mem_of_next {c : Cfg} {i y : Int} (h : nextC c i = (y, true)) : i ∈ c.ms := let ⟨_, h, _⟩ := next_some h; List.mem_of_getElem? h
theorem mem_of_bef {c : Cfg} {i y : Int} (h : befC c i = (y, true)) : i ∈ c.ms := let ⟨_, _, h⟩ := bef_some h; List.mem_of_getElem? h
theorem ah_head {c : Cfg} (hn : c.ms.Nodup) {i z : Int} (h : placeC c.ms i = 0) : ¬ Ah c.ms z i := by
  rintro ⟨p, q, hpq, hp, hq⟩
  rcases place_cases c.ms i with ⟨h1, h2⟩ | ⟨k, h1, h2, h3, h4⟩
  · omega
  · have := nodup_at hn hq h2
    omega
theorem RpOk.jdg (h : RpOk n cs nw L y x) (j : Jd) : RpOk n cs nw L y { x with j := j } := { h with }
theorem RpOk.submit (h : RpOk n cs nw L y x) (hy : y < n) (hcs : CsOk n cs nw) (b : Btc) : GoOk n cs nw L y (x.submit b).1 := by
  unfold Rpl.submit
  by_cases hp : placeC x.cf.ms x.id ≠ 0
  · rw [if_pos hp]; exact h.go
  · rw [if_neg hp]
    have hp0 : placeC x.cf.ms (y : Int) = 0 := by rw [h.id] at hp; omega
    have hmem : (y : Int) ∈ x.cf.ms := Decidable.byContradiction fun hm => by have := place_neg.2 hm; omega
    dsimp only
    split
    · exact (h.jdg _).go_added hy hcs hmem (fun z hz ha => absurd ha (ah_head (hcs.nd h.cf) hp0))
    · exact (h.jdg _).go
/-- Two that stand side by side. -/
theorem beside_ah {ms : List Int} (hn : ms.Nodup) {k : Nat} {x y z : Int} (hx : ms[k]? = some x) (hy : ms[k + 1]? = some y) (h : Ah ms z y) : z = x ∨ Ah ms z x := by
  obtain ⟨p, q, hpq, hp, hq⟩ := h
  obtain rfl := nodup_at hn hq hy
  rcases Nat.lt_or_ge p k with hlt | hge
  · exact .inr ⟨p, k, hlt, hp, hx⟩
  · obtain rfl : p = k := by omega
    exact .inl (Option.some.inj (hp.symm.trans hx))
theorem take_snocB {l : List Btc} {k : Nat} {b : Btc} (h : l[k]? = some b) : l.take (k + 1) = l.take k ++ [b] := by rw [List.take_add_one, h]; rfl
theorem RpOk.forwarded (h : RpOk n cs nw L y x) (hy : y < n) (hcs : CsOk n cs nw) (hn : NoteOk n cs nw L nt) (hk : nt.k = 0) (hep : nt.ep = x.cf.e) (hb : befC x.cf y = (nt.fr, true)) : GoOk n cs nw L y (x.forwarded nt) := by
  have hla : x.la = (L y).length := by unfold Rpl.la; rw [h.l]
  unfold Rpl.forwarded
  by_cases h1 : nt.t = x.la + 1
  · rw [if_pos h1]
    split
    · exact h.go
    · obtain ⟨s, c, hs, e1, e2, e3, e4, _⟩ := hn
      obtain rfl := hcs.uniq e2 h.cf (e3.symm.trans hep)
      obtain ⟨k, hk1, hk2⟩ := bef_some hb
      rw [e1] at hk1
      refine (h.jdg _).go_added hy hcs (List.mem_of_getElem? hk2) (fun z hz ha => ?_)
      have hz' := beside_ah (hcs.nd h.cf) hk1 hk2 ha
      have hget := (e4 hk).2 z hz (hz'.imp (fun e => by omega) (fun h => h))
      rw [h1, Nat.add_sub_cancel, hla] at hget
      have hp := h.pre z hz ha
      have := List.take_prefix ((L y).length + 1) (L z)
      rw [take_snocB hget, pre_take hp (Nat.le_refl _), List.take_length] at this
      exact this
  · rw [if_neg h1]
    split
    · exact (h.ask hy).go
    · split
      · exact (h.tell hy).go
      · exact h.go
theorem RpOk.acked (h : RpOk n cs nw L y x) (hy : y < n) (hcs : CsOk n cs nw) (hn : NoteOk n cs nw L nt) (hk : nt.k = 1) (hep : nt.ep = x.cf.e) (hb : nextC x.cf y = (nt.fr, true)) : RpOk n cs nw L y (x.acked nt) := by
  have hla : x.la = (L y).length := by unfold Rpl.la; rw [h.l]
  unfold Rpl.acked
  split
  · obtain ⟨s, c, hs, e1, e2, e3, _, e4⟩ := hn
    obtain rfl := hcs.uniq e2 h.cf (e3.symm.trans hep)
    obtain ⟨k, hk1, hk2⟩ := next_some hb
    rw [e1] at hk2
    obtain ⟨a1, a2, a3⟩ := e4 hk
    have a4 := a3 y hy ⟨k, k + 1, by omega, hk1, hk2⟩
    have hle : nt.t ≤ (L y).length := by have := a4.length_le; rw [List.length_take] at this; omega
    have hmin : min nt.t x.la = nt.t := by omega
    rw [hmin]
    have htk : (L y).take nt.t = (L s).take nt.t := by
      have := pre_take a4 (k := nt.t) (by rw [List.length_take]; omega)
      rw [this, List.take_take, Nat.min_self]
    refine h.cleaned hy hle (fun z hz hm => by rw [htk]; exact a2 z hz hm) (fun _ hf => by rw [hb] at hf; cases hf)
  · exact h
theorem RpOk.receive (h : RpOk n cs nw L y x) (hy : y < n) (hcs : CsOk n cs nw) (hn : NoteOk n cs nw L nt) : GoOk n cs nw L y (x.receive nt) := by
  unfold Rpl.receive
  by_cases h1 : nt.t = 0 ∨ nt.ds ≠ x.id ∨ nt.ep ≠ x.cf.e ∨ nt.k < 0 ∨ 3 ≤ nt.k
  · rw [if_pos h1]; exact h.go
  · rw [if_neg h1]
    have hep : nt.ep = x.cf.e := Decidable.byContradiction fun he => h1 (.inr (.inr (.inl he)))
    by_cases h2 : (x.side nt.k).2 = true ∧ (x.side nt.k).1 = nt.fr
    · rw [if_pos h2]
      have hside : x.side nt.k = (nt.fr, true) := by rw [pair_of h2.1, h2.2]
      unfold Rpl.side at hside
      rw [h.id] at hside
      by_cases hk0 : nt.k = 0
      · rw [if_pos hk0] at hside ⊢
        exact h.forwarded hy hcs hn hk0 hep hside
      · rw [if_neg hk0] at hside ⊢
        by_cases hk1 : nt.k = 1
        · rw [if_pos hk1]
          exact (h.acked hy hcs hn hk1 hep hside).go
        · rw [if_neg hk1]
          exact (h.some_ hy _ _).go
    · rw [if_neg h2]; exact h.go
theorem RpOk.tick (h : RpOk n cs nw L y x) (hy : y < n) : RpOk n cs nw L y x.tick := by
  unfold Rpl.tick
  dsimp only
  refine RpOk.ask ?_ hy
  have h1 : RpOk n cs nw L y (if (nextC x.cf x.id).2 = true then x.some_ (nextC x.cf x.id).1 (x.cl + 1) else x) := by
    split
    · exact h.some_ hy _ _
    · exact h
  generalize (if (nextC x.cf x.id).2 = true then x.some_ (nextC x.cf x.id).1 (x.cl + 1) else x) = z at h1 ⊢
  split
  · exact h1.tell hy
  · exact h1
end

/-- The law's chain: replicas, what is under way, all configurations. -/
structure Chn where
  rp : Nat → Rpl
  un : List Nt
  cs : List Cfg
structure Stp where
  kind : Int
  node : Nat
  at_ : Nat
  b : Btc
def Chn.newest (x : Chn) : Cfg := (x.cs.getLast?).getD ⟨0, []⟩
def Chn.outs (x : Chn) (n : Nat) : List Nt := (List.range n).flatMap fun i => (x.rp i).out
def Chn.gather (x : Chn) (n : Nat) : Chn := ⟨fun i => { x.rp i with out := [] }, (x.un ++ x.outs n).take 300, x.cs⟩
def Chn.arrive (x : Chn) (n : Nat) (nt : Nt) : Chn := if 0 ≤ nt.ds ∧ nt.ds < n then { x with rp := setD x.rp nt.ds.toNat ((x.rp nt.ds.toNat).receive nt) } else x
def Chn.learn (x : Chn) (k e : Nat) : Chn := if e < x.newest.e ∧ 1 ≤ e then { x with rp := setD x.rp k ((x.rp k).adopt ((x.cs[e]?).getD ⟨0, []⟩)).1 } else x
def Chn.act (x : Chn) (n : Nat) (s : Stp) : Chn :=
  if s.kind = 0 then { x with rp := setD x.rp (s.node % n) ((x.rp (s.node % n)).submit s.b).1 }
  else if s.kind = 1 ∨ s.kind = 3 then
    match x.un[s.at_ % x.un.length]? with
    | none => x
    | some nt => if s.kind = 1 then ({ x with un := x.un.eraseIdx (s.at_ % x.un.length) } : Chn).arrive n nt else { x with un := x.un.eraseIdx (s.at_ % x.un.length) }
  else if s.kind = 2 then
    match x.un[s.at_ % x.un.length]? with
    | none => x
    | some nt => { x with un := x.un ++ [nt] }
  else if s.kind = 4 then { x with rp := setD x.rp (s.node % n) (x.rp (s.node % n)).tick }
  else if s.kind = 5 then if (remC x.newest ((s.node % n : Nat) : Int)).2 = 0 then { x with cs := x.cs ++ [(remC x.newest ((s.node % n : Nat) : Int)).1] } else x
  else if s.kind = 6 then x.learn (s.node % n) (if s.at_ % 2 = 1 then x.newest.e - 1 else (x.rp (s.node % n)).cf.e)
  else x
def Chn.step (x : Chn) (n : Nat) (s : Stp) : Chn := (x.act n s).gather n
def Chn.ls (x : Chn) (z : Nat) : List Btc := (x.rp z).l
/-- The chain is as it should be. -/
structure ChOk (n : Nat) (x : Chn) : Prop where
  cs : CsOk n x.cs x.newest
  rp : ∀ y < n, RpOk n x.cs x.newest x.ls y (x.rp y)
  un : ∀ nt ∈ x.un, NoteOk n x.cs x.newest x.ls nt
section
variable {n : Nat} {x : Chn}
theorem ChOk.set_ (h : ChOk n x) {k : Nat} (hk : k < n) {r : Rpl} (hg : GoOk n x.cs x.newest x.ls k r) : ChOk n { x with rp := setD x.rp k r } := by
  have hls : Chn.ls { x with rp := setD x.rp k r } = setD x.ls k r.l := by
    funext z
    unfold Chn.ls
    dsimp only
    by_cases hz : z = k
    · subst hz; rw [setD_same, setD_same]
    · rw [setD_ne _ _ hz, setD_ne _ _ hz]
  have hgr : ∀ z < n, x.ls z <+: setD x.ls k r.l z := by
    intro z _
    by_cases hz : z = k
    · subst hz; rw [setD_same]; exact hg.1
    · rw [setD_ne _ _ hz]; exact List.prefix_refl _
  refine ⟨h.cs, fun y hy => ?_, fun nt hnt => ?_⟩
  · show RpOk n x.cs x.newest (Chn.ls { x with rp := setD x.rp k r }) y (setD x.rp k r y)
    rw [hls]
    by_cases hyk : y = k
    · subst hyk; rw [setD_same]; exact hg.2
    · rw [setD_ne _ _ hyk]
      exact (h.rp y hy).grow hgr (setD_ne _ _ hyk)
  · show NoteOk n x.cs x.newest (Chn.ls { x with rp := setD x.rp k r }) nt
    rw [hls]
    exact (h.un nt hnt).grow hgr
theorem ChOk.setUn (h : ChOk n x) {u : List Nt} (hu : ∀ nt ∈ u, nt ∈ x.un) : ChOk n { x with un := u } := ⟨h.cs, h.rp, fun nt hnt => h.un nt (hu nt hnt)⟩
theorem ChOk.gather (h : ChOk n x) : ChOk n (x.gather n) := by
  refine ⟨h.cs, fun y hy => ?_, fun nt hnt => ?_⟩
  · exact { h.rp y hy with out := fun nt hnt => by cases hnt }
  · rcases List.mem_append.1 (List.mem_of_mem_take hnt) with hm | hm
    · exact h.un nt hm
    · obtain ⟨i, hi, hm⟩ := List.mem_flatMap.1 hm
      exact (h.rp i (List.mem_range.1 hi)).out nt hm
theorem ChOk.arrive (h : ChOk n x) {nt : Nt} (hn : NoteOk n x.cs x.newest x.ls nt) : ChOk n (x.arrive n nt) := by
  unfold Chn.arrive
  split
  · rename_i hc
    have hk : nt.ds.toNat < n := by omega
    exact h.set_ hk ((h.rp _ hk).receive hk h.cs hn)
  · exact h
theorem ChOk.learn (h : ChOk n x) {k : Nat} (hk : k < n) (e : Nat) : ChOk n (x.learn k e) := by
  unfold Chn.learn
  split
  · rename_i hc
    have hn := h.cs.at_ _ _ h.cs.nwAt
    have hlt : e < x.cs.length := by omega
    rw [List.getElem?_eq_getElem hlt]
    exact h.set_ hk ((h.rp _ hk).adopt hk h.cs (List.getElem_mem hlt)).go
  · exact h
theorem ChOk.act (h : ChOk n x) (hn : 0 < n) (s : Stp) : ChOk n (x.act n s) := by
  have hk : s.node % n < n := Nat.mod_lt _ hn
  unfold Chn.act
  split
  · exact h.set_ hk ((h.rp _ hk).submit hk h.cs s.b)
  · split
    · split
      · exact h
      · rename_i nt hnt
        have hm := List.mem_of_getElem? hnt
        have h2 := h.setUn (u := x.un.eraseIdx (s.at_ % x.un.length)) (fun _ hm => List.mem_of_mem_eraseIdx hm)
        split
        · exact h2.arrive (h.un nt hm)
        · exact h2
    · split
      · split
        · exact h
        · rename_i nt hnt
          have hm := List.mem_of_getElem? hnt
          exact h.setUn (fun m hm2 => (List.mem_append.1 hm2).elim id (fun h => by rw [List.mem_singleton.1 h]; exact hm))
      · split
        · exact h.set_ hk ((h.rp _ hk).tick hk).go
        · split
          · split
            · rename_i hr
              have hr' : remC x.newest ((s.node % n : Nat) : Int) = ((remC x.newest ((s.node % n : Nat) : Int)).1, 0) := by rw [← hr]
              have hsub : (remC x.newest ((s.node % n : Nat) : Int)).1.ms.Sublist x.newest.ms := by rw [(rem_chk hr').2.2.2.1]; exact List.filter_sublist
              have hcs := h.cs.rem hr'
              have hnw : Chn.newest { x with cs := x.cs ++ [(remC x.newest ((s.node % n : Nat) : Int)).1] } = (remC x.newest ((s.node % n : Nat) : Int)).1 := by unfold Chn.newest; simp
              refine ⟨by rw [hnw]; exact hcs, fun y hy => ?_, fun nt hnt => ?_⟩
              · rw [hnw]; exact (h.rp y hy).cfg hsub
              · rw [hnw]; exact (h.un nt hnt).cfg hsub
            · exact h
          · split
            · exact h.learn hk _
            · exact h
theorem ChOk.step (h : ChOk n x) (hn : 0 < n) (s : Stp) : ChOk n (x.step n s) := (h.act hn s).gather
def cfg0 (n : Nat) : Cfg := ⟨1, (List.range n).map Int.ofNat⟩
def Chn.start (n : Nat) : Chn := ⟨fun i => Rpl.new_ i (cfg0 n), [], [cfg0 n]⟩
theorem cfg0_at {n j : Nat} {m : Int} (h : (cfg0 n).ms[j]? = some m) : m = (j : Int) ∧ j < n := by
  unfold cfg0 at h
  simp only [List.getElem?_map, Option.map_eq_some_iff] at h
  obtain ⟨a, h1, h2⟩ := h
  have hj := (List.getElem?_eq_some_iff.1 h1).1
  rw [List.length_range] at hj
  rw [List.getElem?_range hj] at h1
  cases h1
  exact ⟨h2.symm, hj⟩
theorem cfg0_chk {n : Nat} (hn : 0 < n) (h5 : n ≤ 7) : chkC (cfg0 n) = true := by
  refine chk_mk ⟨Nat.le_refl _, (by decide : 1 ≤ lastE), by simp [cfg0]; omega, by simp [cfg0]; omega, fun m hm => ?_, ?_⟩
  · obtain ⟨j, hj⟩ := List.mem_iff_getElem?.1 hm
    obtain ⟨rfl, hlt⟩ := cfg0_at hj
    unfold memB
    simp; omega
  · unfold cfg0
    exact List.Pairwise.map _ (fun a b (h : a ≠ b) e => h (Int.ofNat.inj e)) List.nodup_range
theorem ChOk.start (hn : 0 < n) (h5 : n ≤ 7) : ChOk n (Chn.start n) := by
  have hl : ∀ z, (Chn.start n).ls z = [] := fun z => rfl
  refine ⟨⟨rfl, fun j c hj => ?_, fun c hc => ?_, fun j k c d hjk hc hd => ?_⟩, fun y hy => ?_, fun nt hnt => by cases hnt⟩
  · cases j with
    | zero => cases hj; rfl
    | succ j => simp [Chn.start] at hj
  · obtain rfl := List.mem_singleton.1 hc
    refine ⟨cfg0_chk hn h5, fun m hm => ?_⟩
    obtain ⟨j, hj⟩ := List.mem_iff_getElem?.1 hm
    obtain ⟨rfl, hlt⟩ := cfg0_at hj
    omega
  · cases j with
    | zero => cases k with
      | zero => cases hc; cases hd; exact List.Sublist.refl _
      | succ k => simp [Chn.start] at hd
    | succ j => simp [Chn.start] at hc
  · exact ⟨rfl, List.mem_singleton.2 rfl, rfl, fun z hz _ => by rw [hl y]; exact List.nil_prefix, Nat.le_refl _, fun z hz _ => by rw [hl y]; exact List.nil_prefix, (fun nt hnt => by cases hnt), fun _ _ => rfl⟩
end
end Go.Proofs.YtecniafnihpjmaaGreatDoor

/- Maps, whatever their elements: range over a map, and how many entries there are. -/
namespace Go.Lap
open Go Go.RowKit
set_option linter.unusedVariables false
set_option linter.unusedSectionVars false

/-- Every key of the type is one of ours. -/
structure KeyI (P : Program) (kt : TypeId) {κ : Type} (val : κ → Value) (lit : κ → Lit) (ok : κ → Prop) : Prop extends KeyB P kt val lit ok where
  inv : ∀ key kl, keyOf P kt key = some kl → ∃ x, ok x ∧ key = val x ∧ kl = lit x

theorem keyII {P : Program} {kt : TypeId} (hk : P.underlying kt = some (.int .i64)) : KeyI P kt (fun n : Int => .int .i64 n) (fun n => .int .i64 n) (fun n => (Lit.int .i64 n).wf = true) where
  toKeyB := keyI hk
  inv := fun key kl h => by
    obtain ⟨x, rfl, rfl, hw⟩ := Maps.keyOf_int_inv hk h
    exact ⟨x, hw, rfl, rfl⟩
theorem keyUI {P : Program} {kt : TypeId} (hk : P.underlying kt = some (.int .u64)) : KeyI P kt (fun n : Nat => .int .u64 (n : Int)) (fun n => .int .u64 (n : Int)) (fun n => (Lit.int .u64 (n : Int)).wf = true) where
  toKeyB := keyU hk
  inv := fun key kl h => by
    obtain ⟨x, rfl, rfl, hw⟩ := Maps.keyOf_int_inv hk h
    have hx : 0 ≤ x := by simp [Lit.wf, IntKind.min, IntKind.signed] at hw; omega
    obtain ⟨n, rfl⟩ : ∃ n : Nat, x = (n : Int) := ⟨x.toNat, by omega⟩
    exact ⟨n, hw, rfl, rfl⟩
theorem keyOf_str {P : Program} {kt : TypeId} (hk : P.underlying kt = some .string) {s : ByteArray} (h : s.size ≤ maxLen) : keyOf P kt (.string s) = some (.string s.data.toList) := by
  simp [keyOf, hk, mapKey, h]
theorem keySI {P : Program} {kt : TypeId} (hk : P.underlying kt = some .string) : KeyI P kt (fun s : ByteArray => .string s) (fun s => .string s.data.toList) (fun s => s.size ≤ maxLen) where
  toKeyB := { keyed := Maps.string_keyed hk, read := fun k h => keyOf_str hk h, ne := fun a b _ _ hne e => hne (by
    injection e with e
    have : a.data = b.data := Array.toList_inj.1 e
    cases a; cases b; simp_all) }
  inv := fun key kl h => by
    cases key <;> simp [keyOf, hk, mapKey] at h
    obtain ⟨hs, rfl⟩ := h
    exact ⟨_, hs, rfl, rfl⟩

section
variable {P : Program} {kt : TypeId} {κ : Type} [DecidableEq κ] {val : κ → Value} {lit : κ → Lit} {ok : κ → Prop}
variable {w w' : World} {b m : Nat} {f : κ → Option Value}

theorem has_true_of_mem {es : List (Lit × DataW Value)} {p : Lit × DataW Value} (hp : p ∈ es) (hk : WideAt.IsKeyLit p.1) : Maps.has (.map es) p.1 = true := List.any_eq_true.2 ⟨p, hp, WideAt.sameKey_self hk⟩

/-- The keys as a list. -/
theorem MpAt.keys (I : KeyI P kt val lit ok) (h : MpAt P kt lit ok w b m f) : ∃ l : List κ, l.Nodup ∧ l.length = m ∧ (∀ k ∈ l, ok k) ∧ ∀ k, ok k → ((f k).isSome = true ↔ k ∈ l) := by
  obtain ⟨D, h1, h2, h3, h4⟩ := h
  have hx : ∃ es : List (Lit × DataW Value), D = .map es ∧ es.Pairwise (fun p q => p.1 ≠ q.1) ∧ ∀ p ∈ es, WideAt.IsKeyLit p.1 ∧ ∃ x, ok x ∧ p.1 = lit x := by
    obtain ⟨es, hD, hpw, hkl⟩ := h1.entries I.keyed
    refine ⟨es, hD, hpw, fun p hp => ⟨hkl p hp, ?_⟩⟩
    obtain ⟨es', clock, _, F, _, hD'⟩ := h1
    rw [hD] at hD'
    injection hD' with hD'
    subst hD'
    obtain ⟨x, hx, rfl⟩ := List.mem_map.1 (mem_sorted.1 hp)
    obtain ⟨y, hy⟩ := F.reads x hx
    rw [WideElems.rg_of hy]
    obtain ⟨z, hz, _, hl⟩ := I.inv _ _ (WideElems.rd_key hy)
    exact ⟨z, hz, hl⟩
  obtain ⟨es, rfl, hpw, hes⟩ := hx
  clear h1 h2
  have hl : ∃ l : List κ, l.map lit = es.map (·.1) ∧ ∀ k ∈ l, ok k := by
    clear h3 h4 hpw
    induction es with
    | nil => exact ⟨[], rfl, by simp⟩
    | cons p es ih =>
      obtain ⟨l, h1, h2⟩ := ih (fun q hq => hes q (List.mem_cons_of_mem _ hq))
      obtain ⟨_, x, hx, hp⟩ := hes p (List.mem_cons_self ..)
      exact ⟨x :: l, by rw [List.map_cons, List.map_cons, h1, hp], fun k hk => by
        rcases List.mem_cons.1 hk with rfl | hk
        · exact hx
        · exact h2 k hk⟩
  obtain ⟨l, hle, hok⟩ := hl
  have hnd : (es.map (·.1)).Nodup := by rw [List.Nodup, List.pairwise_map]; exact hpw
  refine ⟨l, ?_, ?_, hok, ?_⟩
  · rw [← hle] at hnd
    rw [List.Nodup, List.pairwise_map] at hnd
    exact hnd.imp fun h e => h (by rw [e])
  · have := congrArg List.length hle
    rw [List.length_map, List.length_map] at this
    rw [this, ← h3]
    rfl
  · intro k hk
    rw [← (h4 k hk).1]
    constructor
    · intro hh
      obtain ⟨p, hp, hs⟩ := List.any_eq_true.1 hh
      have he := WideAt.sameKey_eq hs
      have : lit k ∈ l.map lit := by rw [hle]; exact List.mem_map.2 ⟨p, hp, he⟩
      obtain ⟨j, hj, hjk⟩ := List.mem_map.1 this
      have : j = k := Decidable.byContradiction fun hne => I.ne j k (hok j hj) hk hne hjk
      rw [← this]; exact hj
    · intro hm
      have : lit k ∈ es.map (·.1) := by rw [← hle]; exact List.mem_map.2 ⟨k, hm, rfl⟩
      obtain ⟨p, hp, he⟩ := List.mem_map.1 this
      rw [← he]
      exact has_true_of_mem hp (hes p hp).1

/-- How many there are hangs on which there are. -/
theorem MpAt.count (I : KeyI P kt val lit ok) {w₂ : World} {b₂ m₂ : Nat} {f₂ : κ → Option Value} (h : MpAt P kt lit ok w b m f) (h₂ : MpAt P kt lit ok w₂ b₂ m₂ f₂) (he : ∀ k, ok k → (f k).isSome = (f₂ k).isSome) : m = m₂ := by
  obtain ⟨l, h1, h3, h4, h5⟩ := h.keys I
  obtain ⟨l₂, g1, g3, g4, g5⟩ := h₂.keys I
  rw [← h3, ← g3]
  refine ((List.perm_ext_iff_of_nodup h1 g1).2 fun k => ?_).length_eq
  constructor
  · intro hk
    have hok := h4 k hk
    exact (g5 k hok).1 (by rw [← he k hok]; exact (h5 k hok).2 hk)
  · intro hk
    have hok := g4 k hk
    exact (h5 k hok).1 (by rw [he k hok]; exact (g5 k hok).2 hk)

/-- A range over the map under way: left says which keys are still to come. -/
def MpRg (P : Program) (kt : TypeId) (lit : κ → Lit) (ok : κ → Prop) (w : World) (b r m : Nat) (f : κ → Option Value) (left : κ → Bool) (cnt : Nat) : Prop :=
  ∃ (D : DataW Value) (L : Lit → Bool), w.ranges P kt rawR b r m D L cnt ∧ Maps.Tidy D ∧ Maps.size D = m ∧ (∀ k, ok k → Maps.has D (lit k) = (f k).isSome ∧ ∀ v, f k = some v → ∀ z, D.atKey (lit k) z = .held v) ∧ ∀ k, ok k → L (lit k) = left k

theorem MpRg.lt {r cnt : Nat} {left : κ → Bool} (h : MpRg P kt lit ok w b r m f left cnt) : r < w.heap.size := let ⟨_, _, h1, _⟩ := h; h1.lt
theorem MpRg.ltb {r cnt : Nat} {left : κ → Bool} (h : MpRg P kt lit ok w b r m f left cnt) : b < w.heap.size := let ⟨_, _, h1, _⟩ := h; h1.owns.lt
theorem MpRg.ne {r cnt : Nat} {left : κ → Bool} (h : MpRg P kt lit ok w b r m f left cnt) : r ≠ b := let ⟨_, _, h1, _⟩ := h; h1.ne
theorem MpRg.left_eq {r cnt : Nat} {left : κ → Bool} (h : MpRg P kt lit ok w b r m f left cnt) : w.rangeLeft b r = cnt := let ⟨_, _, h1, _⟩ := h; h1.left_eq
theorem MpRg.at {r cnt : Nat} {left : κ → Bool} (h : MpRg P kt lit ok w b r m f left cnt) : MpAt P kt lit ok w b m f := let ⟨D, _, h1, h2, h3, h4, _⟩ := h; ⟨D, h1.owns, h2, h3, h4⟩
theorem MpRg.upd {S : Nat → Prop} {r cnt : Nat} {left : κ → Bool} (h : MpRg P kt lit ok w b r m f left cnt) (hu : Upd S w w') (hb : ¬ S b) (hr : ¬ S r) : MpRg P kt lit ok w' b r m f left cnt := by
  have hb' := h.ltb
  have hr' := h.lt
  obtain ⟨D, L, ⟨es, clock, since, seen, c0, g1, F, hs, hD, g2, rest⟩, h2⟩ := h
  exact ⟨D, L, ⟨es, clock, since, seen, c0, (hu.block b hb' hb).trans g1, F, hs, hD, (hu.block r hr' hr).trans g2, rest⟩, h2⟩

variable {ops : Array Oper} {rest : List Oper} {o : Oper} {a : Act} {Q : Exit → Act → World → Prop}
/-- 'range m'. -/
theorem wpList_mp_range (B : KeyB P kt val lit ok) (hg : o.guard = none) (mo : Operand) (t e : TypeId) (hop : o.op = Op.range t mo) (ht : P.underlying t = some (.map kt e)) (hm : a.eval mo = .map (some b)) (h : MpAt P kt lit ok w b m f)
    (hK : ∀ w', MpRg P kt lit ok w' b w.heap.size m f (fun k => (f k).isSome) m → New w w' → w'.heap.size = w.heap.size + 1 → wpList P ops Q rest (a.put o.dst (.pointer (some ⟨w.heap.size, 0, none⟩))) w') : wpList P ops Q (o :: rest) a w := by
  obtain ⟨D, h1, h2, h3, h4⟩ := id h
  refine wpList_range_own w hg mo t hop kt e B.keyed ht rawR b m D hm h1 ?_
  intro w' hr hgr hs
  rw [h3] at hr
  exact hK w' ⟨D, _, hr, h2, h3, h4, fun k hk => (h4 k hk).1⟩ ((New.refl w).grown hgr (by simp)) hs

/-- The step. -/
theorem wpList_mp_next (I : KeyI P kt val lit ok) (hg : o.guard = none) (it : Operand) (hop : o.op = Op.next it false) {r cnt : Nat} {left : κ → Bool} (hit : a.eval it = .pointer (some ⟨r, 0, none⟩)) (h : MpRg P kt lit ok w b r m f left cnt)
    (hDone : cnt = 0 → (∀ k, ok k → left k = false) → wpList P ops Q rest (a.put o.dst (.tuple #[.bool false])) w)
    (hMore : ∀ (x : κ) (v : Value) (w' : World) (cnt' : Nat), ok x → left x = true → f x = some v → MpRg P kt lit ok w' b r m f (fun k => left k && !decide (k = x)) cnt' → cnt' < cnt → Upd (· = r) w w' → w'.heap.size = w.heap.size →
      (Instr.entry (.pointer (some ⟨r, 0, none⟩))).run P w' = .ok (.tuple #[val x, v]) w' → wpList P ops Q rest (a.put o.dst (.tuple #[.bool true, val x, v])) w') :
    wpList P ops Q (o :: rest) a w := by
  obtain ⟨D, L, h1, h2, h3, h4, h5⟩ := h
  refine wpList_plain hg fun K' hK' => ?_
  unfold Oper.wp
  rcases h1.next I.keyed o.type with ⟨h0, hl, hrun⟩ | ⟨key, v, kl, y, w', cnt', hkey, hlk, hv, hat, hrun, hrg, hlt, hgr, hsz, hen⟩
  · simp [execOp, hop, hit, hrun, Result.andThen]
    exact hK' _ _ (hDone h0 fun k hk => by rw [← h5 k hk]; exact hl _)
  · obtain ⟨x, hx, rfl, rfl⟩ := I.inv _ _ hkey
    have hsome : (f x).isSome = true := by rw [← (h4 x hx).1]; exact Maps.has_true_of_atKey hat
    obtain ⟨u, hu⟩ := Option.isSome_iff_exists.1 hsome
    have huv : u = v := by
      have e1 := (h4 x hx).2 u hu .nil
      rw [hat] at e1
      unfold rawR at hv
      injection hv with hv
      rw [← hv] at e1
      injection e1 with e1
      exact e1.symm
    subst huv
    simp [execOp, hop, hit, hrun, Result.andThen]
    refine hK' _ _ (hMore x u w' cnt' hx (by rw [← h5 x hx]; exact hlk) hu ⟨D, _, hrg, h2, h3, h4, fun k hk => ?_⟩ hlt ⟨hgr.os, hgr.tape, hgr.output, hgr.size, fun i hi hn => hgr.block i hi (by simpa using hn)⟩ hsz hen)
    dsimp only
    rw [h5 k hk]
    congr 1
    by_cases hkx : k = x
    · subst hkx
      rw [WideAt.sameKey_self (I.keyed.key hkey)]; simp
    · have : (lit k).sameKey (lit x) = false := by
        cases hs : (lit k).sameKey (lit x)
        · rfl
        · exact absurd (WideAt.sameKey_eq hs) (I.ne k x hk hx hkx)
      rw [this]; simp [hkx]
/-- 'delete(m, k)' in the round. -/
theorem wpList_mp_rdel (I : KeyI P kt val lit ok) (hg : o.guard = none) (mo x : Operand) (t e : TypeId) (hop : o.op = Op.call { callee := Callee.builtin Builtin.delete, args := #[mo, x], argTypes := #[t, kt] }) (ht : P.underlying t = some (.map kt e))
    (hm : a.eval mo = .map (some b)) {r cnt : Nat} {left : κ → Bool} (h : MpRg P kt lit ok w b r m f left cnt) (k : κ) (hk : ok k) (hx : a.eval x = val k)
    (hK : ∀ w' cnt', MpRg P kt lit ok w' b r (if (f k).isSome then m - 1 else m) (fun j => if j = k then none else f j) (fun j => left j && !decide (j = k)) cnt' → cnt' ≤ cnt → w.grownBy w' (some b) → wpList P ops Q rest (a.put o.dst (.tuple #[])) w') : wpList P ops Q (o :: rest) a w := by
  obtain ⟨D, L, h1, h2, h3, h4, h5⟩ := h
  refine wpList_delete_ranges w hg mo x t kt hop e I.keyed ht rawR b r m D L cnt hm h1 (val k) (lit k) hx (I.read k hk) ?_
  intro w' cnt' hrg hle hturn
  have hsz : Maps.size (D.del (lit k)) = if (f k).isSome then m - 1 else m := by
    have := Maps.size_del (k := lit k) h2
    rw [(h4 k hk).1, h3] at this
    split at this <;> simp_all <;> omega
  have htight : ∀ {n n' : Nat} {E : DataW Value} {L' : Lit → Bool}, w'.ranges P kt rawR b r n E L' cnt' → Maps.size E = n' → w'.ranges P kt rawR b r n' E L' cnt' := by
    rintro n n' E L' ⟨es, clock, since, seen, c0, g1, F, hs, rfl, rest⟩ rfl
    exact ⟨es, clock, since, seen, c0, g1, F, by rw [Maps.size_eq, length_sorted]; simp, rfl, rest⟩
  refine hK w' cnt' ⟨D.del (lit k), _, htight hrg hsz, h2.del _, hsz, fun j hj => ?_, fun j hj => ?_⟩ hle hturn.grown
  · by_cases hjk : j = k
    · subst hjk
      dsimp only
      rw [if_pos rfl]
      exact ⟨by rw [Maps.has_del_same]; rfl, fun u hu => by cases hu⟩
    · have hne := I.ne j k hj hk hjk
      dsimp only
      rw [if_neg hjk]
      exact ⟨by rw [Maps.has_del_other hne]; exact (h4 j hj).1, fun u hu z => by rw [Maps.atKey_del_other hne]; exact (h4 j hj).2 u hu z⟩
  · dsimp only
    rw [h5 j hj]
    congr 1
    by_cases hjk : j = k
    · subst hjk
      rw [WideAt.sameKey_self (I.keyed.key (I.read j hk))]; simp
    · have : (lit j).sameKey (lit k) = false := by
        cases hs : (lit j).sameKey (lit k)
        · rfl
        · exact absurd (WideAt.sameKey_eq hs) (I.ne j k hj hk hjk)
      rw [this]; simp [hjk]
end
end Go.Lap

/- Chapters 19 and 24 in memory: typed slices that nobody writes again, batches, notes, a judge, a replica. -/
namespace Go.Proofs.YtecniafnihpjmaaGreatDoor
open Go.RowKit Go.Lap C
set_option linter.unusedVariables false

/-- The slice value v reads as l, and lies in a block of the element type e. -/
def TSl {α : Type} (w : World) (e : TypeId) (size : Nat) (enc : α → List Value) (v : Value) (l : List α) : Prop :=
  ∃ A c, v = .slice A l.length c ∧ l.length ≤ c ∧ (l = [] ∨ ∃ b off cs, A = some ⟨b, off, none⟩ ∧ Blk w b e cs ∧ ∀ k x, l[k]? = some x → ∀ j u, (enc x)[j]? = some u → cs[off + k * size + j]? = some u)
/-- None of these blocks is of the type e. -/
def Off (w : World) (e : TypeId) (S : Nat → Prop) : Prop := ∀ b cs, Blk w b e cs → ¬ S b
section
variable {α : Type} {w w' : World} {e size base : Nat} {enc : α → List Value} {v : Value} {l : List α} {S T : Nat → Prop}
theorem TSl.slIn (h : TSl w e size enc v l) : SlIn w size enc v l := by
  obtain ⟨A, c, rfl, hc, h⟩ := h
  refine ⟨A, c, rfl, hc, ?_⟩
  rcases h with h | ⟨b, off, cs, rfl, hb, h⟩
  · exact .inl h
  · exact .inr ⟨b, off, rfl, hb.lt, fun k x hx j u hu => (hb.cell _).trans (h k x hx j u hu)⟩
theorem TSl.upd (h : TSl w e size enc v l) (hu : Upd S w w') (hS : Off w e S) : TSl w' e size enc v l := by
  obtain ⟨A, c, rfl, hc, h⟩ := h
  refine ⟨A, c, rfl, hc, ?_⟩
  rcases h with h | ⟨b, off, cs, rfl, hb, h⟩
  · exact .inl h
  · exact .inr ⟨b, off, cs, rfl, hb.upd hu (hS b cs hb), h⟩
theorem Off.no (w : World) (e : TypeId) : Off w e (fun _ => False) := fun _ _ _ h => h
theorem TSl.new (h : TSl w e size enc v l) (hn : New w w') : TSl w' e size enc v l := h.upd (Upd.new hn) (Off.no w e)
theorem TSl.nil (w : World) (e : TypeId) (size : Nat) (enc : α → List Value) (A : Option Addr) (c : Nat) : TSl w e size enc (.slice A 0 c) ([] : List α) := ⟨A, c, rfl, Nat.zero_le _, .inl rfl⟩
theorem TSl.shape (h : TSl w e size enc v l) : ∃ A c, v = .slice A l.length c := let ⟨A, c, hv, _⟩ := h; ⟨A, c, hv⟩
theorem Row.tsl (hE : Enc enc size) (h : Row w base e size enc v l) : TSl w e size enc v l := by
  rcases h with ⟨rfl, rfl⟩ | ⟨g, off, cap, cur, rfl, hg, hh, hnc, hm, hcur, htake⟩
  · exact ⟨none, 0, rfl, Nat.le_refl _, .inl rfl⟩
  · refine ⟨_, cap, rfl, hnc, .inr ⟨g, off, cur, rfl, hh, fun k x hx j u hu => ?_⟩⟩
    have hj : j < size := by rw [← (hE x).1]; exact (List.getElem?_eq_some_iff.1 hu).1
    have h1 := flat_get hE l k x j hx hj
    rw [hu, ← htake, List.getElem?_take] at h1
    split at h1
    · rw [List.getElem?_drop, ← Nat.add_assoc] at h1
      simpa using h1
    · cases h1
theorem Off.mono (h : Off w e S) (hS : ∀ k, T k → S k) : Off w e T := fun b cs hb ht => h b cs hb (hS b ht)
theorem Off.row {β : Type} {e2 s2 b2 : Nat} {enc2 : β → List Value} {v2 : Value} {l2 : List β} (h : Row w b2 e2 s2 enc2 v2 l2) (hne : e2 ≠ e) : Off w e (fun k => v2.ownBlock = some k) := fun b cs hb hk => h.ne_blk hb hne hk
theorem Off.blk {t g : Nat} {cs : Array Value} (h : Blk w g t cs) (hne : t ≠ e) : Off w e (· = g) := fun b cs' hb hk => Blk.ne_ hb h (fun h => hne h.symm) hk
theorem Off.map {P : Program} {kt : TypeId} {κ : Type} {lit : κ → Lit} {ok : κ → Prop} {b m : Nat} {f : κ → Option Value} (h : MpAt P kt lit ok w b m f) : Off w e (· = b) := fun b' cs hb hk => by
  subst hk
  obtain ⟨D, ⟨es, clock, hb2, _⟩, _⟩ := h
  unfold Blk at hb
  rw [hb] at hb2
  cases hb2
theorem Off.or (h1 : Off w e S) (h2 : Off w e T) : Off w e (fun k => S k ∨ T k) := fun b cs hb hk => hk.elim (h1 b cs hb) (h2 b cs hb)
end
theorem keepR {w w' : World} {S : Nat → Prop} (hu : Upd S w w') {b : Nat} (hb : b < w.heap.size) (hS : ¬ S b) (o : Nat) : w'.cell? ⟨b, o, none⟩ = w.cell? ⟨b, o, none⟩ := World.cell?_of_block (hu.block b hb hS)
theorem Blk.ne_map {P : Program} {kt : TypeId} {κ : Type} {lit : κ → Lit} {ok : κ → Prop} {w : World} {g b m : Nat} {t : TypeId} {cs : Array Value} {f : κ → Option Value} (h : Blk w g t cs) (hm : MpAt P kt lit ok w b m f) : g ≠ b := by
  rintro rfl
  obtain ⟨D, ⟨es, clock, hb, _⟩, _⟩ := hm
  unfold Blk at h
  rw [h] at hb
  cases hb
theorem Row.ne_map {α : Type} {enc : α → List Value} {size base : Nat} {e : TypeId} {v : Value} {l : List α} {P : Program} {kt : TypeId} {κ : Type} {lit : κ → Lit} {ok : κ → Prop} {w : World} {b m : Nat} {f : κ → Option Value} (h : Row w base e size enc v l) (hm : MpAt P kt lit ok w b m f) : v.ownBlock ≠ some b := by
  intro hk
  rcases h with ⟨rfl, _⟩ | ⟨g, off, cap, cur, rfl, _, hh, _⟩
  · cases hk
  · cases hk; exact Blk.ne_map hh hm rfl
theorem Row.ne_row {α β : Type} {e1 : α → List Value} {e2 : β → List Value} {w : World} {b1 b2 s1 s2 : Nat} {t1 t2 : TypeId} {v1 v2 : Value} {l1 : List α} {l2 : List β} (h1 : Row w b1 t1 s1 e1 v1 l1) (h2 : Row w b2 t2 s2 e2 v2 l2) (hne : t1 ≠ t2) {k : Nat} (hk : v1.ownBlock = some k) : v2.ownBlock ≠ some k := by
  intro hk2
  rcases h2 with ⟨rfl, _⟩ | ⟨g, off, cap, cur, rfl, _, hh, _⟩
  · cases hk2
  · cases hk2; exact h1.ne_blk hh hne hk

def big : Nat := 18446744073709551616
/-- A batch in a slice: it, and where its writes lie. -/
structure BtV where
  b : Btc
  A : Option Addr
  c : Nat
def BtV.sl (x : BtV) : Value := .slice x.A x.b.l.length x.c
def BtV.enc (x : BtV) : List Value := [.int .u64 (x.b.c : Int), .int .u64 (x.b.r : Int), .int .u64 (x.b.s : Int), x.sl]
theorem BtV.encOk : Enc BtV.enc 4 := fun x => ⟨rfl, by simp [BtV.enc, BtV.sl, Value.oneCell']⟩
def BtV.val (x : BtV) : Value := batV x.b.c x.b.r x.b.s x.sl
def BtV.nil : BtV := ⟨Btc.none, none, 0⟩
/-- A batch that is no longer than what memory takes. -/
structure Btc.Ok (b : Btc) : Prop where
  c : b.c < big
  r : b.r < big
  s : b.s < big
  l : b.l.length ≤ 1000
theorem Btc.none_ok : Btc.none.Ok := ⟨by decide, by decide, by decide, by decide⟩
structure BtAt (w : World) (x : BtV) : Prop where
  sl : TSl w 97 3 Wri.enc x.sl x.b.l
  ok : x.b.Ok
theorem btTy : SlTy Tryz.prog 26 40 (.agg #[.int .u64 0, .int .u64 0, .int .u64 0, .slice none 0 0]) 4 48 := ⟨Tryz.underlying26, by kernel_rfl, rfl, by decide⟩
theorem wrTy : SlTy Tryz.prog 38 97 (.agg #[.string ⟨#[]⟩, .string ⟨#[]⟩, .bool false]) 3 40 := ⟨Tryz.underlying38, by kernel_rfl, rfl, by decide⟩
/-- A note in a slice. -/
structure NtV where
  k : Int
  fr : Int
  ds : Int
  ep : Nat
  t : Nat
  v : BtV
def NtV.nt (x : NtV) : Nt := ⟨x.k, x.fr, x.ds, x.ep, x.t, x.v.b⟩
def NtV.enc (x : NtV) : List Value := [.int .i64 x.k, .int .i64 x.fr, .int .i64 x.ds, .int .u64 (x.ep : Int), .int .u64 (x.t : Int), .int .u64 (x.v.b.c : Int), .int .u64 (x.v.b.r : Int), .int .u64 (x.v.b.s : Int), x.v.sl]
theorem NtV.encOk : Enc NtV.enc 9 := fun x => ⟨rfl, by simp [NtV.enc, BtV.sl, Value.oneCell']⟩
def NtV.val (x : NtV) : Value := .agg #[.int .i64 x.k, .int .i64 x.fr, .int .i64 x.ds, .int .u64 (x.ep : Int), .int .u64 (x.t : Int), .int .u64 (x.v.b.c : Int), .int .u64 (x.v.b.r : Int), .int .u64 (x.v.b.s : Int), x.v.sl]
theorem ntTy : SlTy Tryz.prog 34 93 (.agg #[.int .i64 0, .int .i64 0, .int .i64 0, .int .u64 0, .int .u64 0, .int .u64 0, .int .u64 0, .int .u64 0, .slice none 0 0]) 9 88 := ⟨Tryz.underlying34, by kernel_rfl, rfl, by decide⟩
/-- A row of batches; a row of notes. -/
def BtRow (w : World) (base : Nat) (v : Value) (l : List Btc) : Prop := ∃ ps : List BtV, ps.map BtV.b = l ∧ Row w base 40 4 BtV.enc v ps ∧ ∀ p ∈ ps, BtAt w p
def NtRow (w : World) (base : Nat) (v : Value) (l : List Nt) : Prop := ∃ ps : List NtV, ps.map NtV.nt = l ∧ Row w base 93 9 NtV.enc v ps ∧ ∀ p ∈ ps, BtAt w p.v
section
variable {w w' : World} {S : Nat → Prop} {base : Nat} {v : Value} {l : List Btc} {m : List Nt} {x : BtV}
theorem BtAt.upd (h : BtAt w x) (hu : Upd S w w') (hS : Off w 97 S) : BtAt w' x := ⟨h.sl.upd hu hS, h.ok⟩
theorem BtAt.new (h : BtAt w x) (hn : New w w') : BtAt w' x := ⟨h.sl.new hn, h.ok⟩
theorem BtAt.nil (w : World) : BtAt w BtV.nil := ⟨TSl.nil _ _ _ _ _ _, Btc.none_ok⟩
theorem BtRow.upd (h : BtRow w base v l) (hu : Upd S w w') (hv : ∀ k, v.ownBlock = some k → ¬ S k) (hS : Off w 97 S) : BtRow w' base v l := by
  obtain ⟨ps, h1, h2, h3⟩ := h
  exact ⟨ps, h1, h2.upd hu hv, fun p hp => (h3 p hp).upd hu hS⟩
theorem NtRow.upd (h : NtRow w base v m) (hu : Upd S w w') (hv : ∀ k, v.ownBlock = some k → ¬ S k) (hS : Off w 97 S) : NtRow w' base v m := by
  obtain ⟨ps, h1, h2, h3⟩ := h
  exact ⟨ps, h1, h2.upd hu hv, fun p hp => (h3 p hp).upd hu hS⟩
theorem BtRow.new (h : BtRow w base v l) (hn : New w w') : BtRow w' base v l := h.upd (S := fun _ => False) (Upd.new hn) (fun _ _ x => x) (Off.no _ _)
theorem NtRow.new (h : NtRow w base v m) (hn : New w w') : NtRow w' base v m := h.upd (S := fun _ => False) (Upd.new hn) (fun _ _ x => x) (Off.no _ _)
theorem BtRow.nil (w : World) (base : Nat) : BtRow w base (.slice none 0 0) [] := ⟨[], rfl, Row.nil _ _ _ _ _, fun _ h => by cases h⟩
theorem NtRow.nil (w : World) (base : Nat) : NtRow w base (.slice none 0 0) [] := ⟨[], rfl, Row.nil _ _ _ _ _, fun _ h => by cases h⟩
theorem BtRow.lt (h : BtRow w base v l) : ∀ k, v.ownBlock = some k → base ≤ k ∧ k < w.heap.size := let ⟨_, _, h, _⟩ := h; h.lt
theorem NtRow.lt (h : NtRow w base v m) : ∀ k, v.ownBlock = some k → base ≤ k ∧ k < w.heap.size := let ⟨_, _, h, _⟩ := h; h.lt
theorem BtRow.lower {b' : Nat} (h : BtRow w base v l) (hb : b' ≤ base) : BtRow w b' v l := let ⟨ps, h1, h2, h3⟩ := h; ⟨ps, h1, h2.lower hb, h3⟩
theorem NtRow.lower {b' : Nat} (h : NtRow w base v m) (hb : b' ≤ base) : NtRow w b' v m := let ⟨ps, h1, h2, h3⟩ := h; ⟨ps, h1, h2.lower hb, h3⟩
theorem BtRow.shape (h : BtRow w base v l) : ∃ A c, v = .slice A l.length c := by
  obtain ⟨ps, rfl, h2, _⟩ := h
  obtain ⟨A, c, hv⟩ := h2.shape
  exact ⟨A, c, by rw [List.length_map]; exact hv⟩
theorem NtRow.shape (h : NtRow w base v m) : ∃ A c, v = .slice A m.length c := by
  obtain ⟨ps, rfl, h2, _⟩ := h
  obtain ⟨A, c, hv⟩ := h2.shape
  exact ⟨A, c, by rw [List.length_map]; exact hv⟩
theorem BtRow.ok (h : BtRow w base v l) : ∀ b ∈ l, b.Ok := by
  obtain ⟨ps, rfl, _, h3⟩ := h
  intro b hb
  obtain ⟨p, hp, rfl⟩ := List.mem_map.1 hb
  exact (h3 p hp).ok
theorem NtRow.ok (h : NtRow w base v m) : ∀ n ∈ m, n.b.Ok := by
  obtain ⟨ps, rfl, _, h3⟩ := h
  intro b hb
  obtain ⟨p, hp, rfl⟩ := List.mem_map.1 hb
  exact (h3 p hp).ok
end

abbrev okS (s : ByteArray) : Prop := s.size ≤ maxLen
abbrev litS (s : ByteArray) : Lit := .string s.data.toList
theorem keyS : KeyI Tryz.prog 9 (fun s : ByteArray => .string s) litS okS := keySI Tryz.underlying9
abbrev litU (s : Nat) : Lit := .int .u64 (s : Int)
abbrev okU (s : Nat) : Prop := (Lit.int .u64 (s : Int)).wf = true
theorem keyU64 : KeyI Tryz.prog 22 (fun n : Nat => .int .u64 (n : Int)) litU okU := keyUI Tryz.underlying22
theorem okU_lt {n : Nat} (h : n < big) : okU n := by unfold okU; unfold big at h; simp [Lit.wf, IntKind.min, IntKind.max, IntKind.signed, IntKind.bits]; omega
def whV (f : ByteArray → Option Nat) (k : ByteArray) : Option Value := (f k).map fun t => .int .u64 (t : Int)
def snV (f : Nat → Option (Nat × Vd)) (c : Nat) : Option Value := (f c).map fun p => .agg #[.int .u64 (p.1 : Int), .int .u64 (p.2.t : Int), .int .i64 p.2.e]
/-- A judge in memory. -/
structure JdL where
  jb : Nat
  wm : Nat
  sm : Nat
def JdF (L : JdL) (k : Nat) : Prop := k = L.jb ∨ k = L.wm ∨ k = L.sm
structure JdAt (w : World) (B : Nat) (L : JdL) (j : Jd) : Prop where
  blk : Blk w L.jb 138 #[.int .u64 (j.la : Int), .map (some L.wm), .map (some L.sm)]
  wh : ∃ m, m ≤ B ∧ MpAt Tryz.prog 9 litS okS w L.wm m (whV j.wh)
  sn : ∃ m, m ≤ B ∧ MpAt Tryz.prog 22 litU okU w L.sm m (snV j.sn)
  ne : L.wm ≠ L.sm
  la : j.la ≤ B
section
variable {w w' : World} {S : Nat → Prop} {B C : Nat} {L : JdL} {j : Jd}
theorem JdAt.upd (h : JdAt w B L j) (hu : Upd S w w') (hS : ∀ k, JdF L k → ¬ S k) : JdAt w' B L j := by
  obtain ⟨m, h1, h2⟩ := h.wh
  obtain ⟨n, h3, h4⟩ := h.sn
  exact ⟨h.blk.upd hu (hS _ (.inl rfl)), ⟨m, h1, h2.upd hu (hS _ (.inr (.inl rfl)))⟩, ⟨n, h3, h4.upd hu (hS _ (.inr (.inr rfl)))⟩, h.ne, h.la⟩
theorem JdAt.new (h : JdAt w B L j) (hn : New w w') : JdAt w' B L j := h.upd (S := fun _ => False) (Upd.new hn) (fun _ _ x => x)
theorem JdAt.mono (h : JdAt w B L j) (hB : B ≤ C) : JdAt w C L j := by
  obtain ⟨m, h1, h2⟩ := h.wh
  obtain ⟨n, h3, h4⟩ := h.sn
  exact ⟨h.blk, ⟨m, by omega, h2⟩, ⟨n, by omega, h4⟩, h.ne, by have := h.la; omega⟩
theorem JdAt.off (h : JdAt w B L j) {e : TypeId} (he : 138 ≠ e) : Off w e (JdF L) := by
  obtain ⟨m, h1, h2⟩ := h.wh
  obtain ⟨n, h3, h4⟩ := h.sn
  exact (Off.blk h.blk he).or ((Off.map h2).or (Off.map h4))
theorem JdAt.lt (h : JdAt w B L j) : ∀ k, JdF L k → k < w.heap.size := by
  obtain ⟨m, h1, h2⟩ := h.wh
  obtain ⟨n, h3, h4⟩ := h.sn
  rintro k (rfl | rfl | rfl)
  · exact h.blk.lt
  · exact h2.lt
  · exact h4.lt
end
/-- A replica in memory: its blocks. -/
structure RpL where
  cv : Value
  jl : JdL
  lv : Value
  ov : Value
def RpF (rp : Nat) (L : RpL) (k : Nat) : Prop := k = rp ∨ JdF L.jl k ∨ L.lv.ownBlock = some k ∨ L.ov.ownBlock = some k
def RpCells (rp : Nat) (L : RpL) (x : Rpl) : Array Value := #[.int .i64 x.id, .int .u64 (x.cf.e : Int), L.cv, .pointer (some ⟨L.jl.jb, 0, none⟩), L.lv, .int .u64 (x.cl : Int), L.ov,
  .func (.func 59) #[.pointer (some ⟨rp, 0, none⟩)] #[], .func (.func 60) #[] #[],
  .func (.func 61) #[.pointer (some ⟨rp, 0, none⟩)] #[], .func (.func 42) #[] #[],
  .func (.func 62) #[.pointer (some ⟨rp, 0, none⟩)] #[], .func (.func 42) #[] #[]]
structure RpAt (w : World) (rp B : Nat) (L : RpL) (x : Rpl) : Prop where
  blk : Blk w rp 107 (RpCells rp L x)
  cf : TSl w 3 1 iEnc L.cv x.cf.ms
  cl7 : x.cf.ms.length ≤ 1000
  ce : x.cf.e < big
  j : JdAt w B L.jl x.j
  l : BtRow w 0 L.lv x.l
  out : NtRow w 0 L.ov x.out
  ll : x.l.length ≤ B
  ol : x.out.length ≤ B
  cl : x.cl ≤ B
section
variable {w w' : World} {S : Nat → Prop} {rp B C : Nat} {L : RpL} {x : Rpl}
theorem RpAt.off (h : RpAt w rp B L x) {e : TypeId} (h1 : 107 ≠ e) (h2 : 138 ≠ e) (h3 : 40 ≠ e) (h4 : 93 ≠ e) : Off w e (RpF rp L) := by
  obtain ⟨ps, _, hps, _⟩ := h.l
  obtain ⟨qs, _, hqs, _⟩ := h.out
  exact (Off.blk h.blk h1).or ((h.j.off h2).or ((Off.row hps h3).or (Off.row hqs h4)))
theorem RpAt.offW (h : RpAt w rp B L x) : Off w 97 (RpF rp L) := h.off (by decide) (by decide) (by decide) (by decide)
theorem RpAt.offI (h : RpAt w rp B L x) : Off w 3 (RpF rp L) := h.off (by decide) (by decide) (by decide) (by decide)
theorem RpAt.lt (h : RpAt w rp B L x) : ∀ k, RpF rp L k → k < w.heap.size := by
  rintro k (rfl | hk | hk | hk)
  · exact h.blk.lt
  · exact h.j.lt k hk
  · exact (h.l.lt k hk).2
  · exact (h.out.lt k hk).2
theorem RpAt.upd (h : RpAt w rp B L x) (hu : Upd S w w') (hS : ∀ k, RpF rp L k → ¬ S k) (hW : Off w 97 S) (hI : Off w 3 S) : RpAt w' rp B L x :=
  ⟨h.blk.upd hu (hS _ (.inl rfl)), h.cf.upd hu hI, h.cl7, h.ce, h.j.upd hu (fun k hk => hS k (.inr (.inl hk))), h.l.upd hu (fun k hk => hS k (.inr (.inr (.inl hk)))) hW, h.out.upd hu (fun k hk => hS k (.inr (.inr (.inr hk)))) hW, h.ll, h.ol, h.cl⟩
theorem RpAt.new (h : RpAt w rp B L x) (hn : New w w') : RpAt w' rp B L x := h.upd (S := fun _ => False) (Upd.new hn) (fun _ _ x => x) (Off.no _ _) (Off.no _ _)
theorem RpAt.mono (h : RpAt w rp B L x) (hB : B ≤ C) : RpAt w rp C L x := { h with j := h.j.mono hB, ll := Nat.le_trans h.ll hB, ol := Nat.le_trans h.ol hB, cl := Nat.le_trans h.cl hB }
/-- What an act of a replica leaves. -/
def RpPost (w : World) (rp B : Nat) (L : RpL) (x' : Rpl) (w' : World) : Prop := ∃ L', RpAt w' rp B L' x' ∧ (∀ k, RpF rp L' k → RpF rp L k ∨ w.heap.size ≤ k) ∧ Upd (RpF rp L) w w'
theorem RpPost.refl (h : RpAt w rp B L x) : RpPost w rp B L x w := ⟨L, h, fun _ h => .inl h, Upd.refl _ _⟩
theorem RpPost.new (h : RpAt w rp B L x) (hn : New w w') : RpPost w rp B L x w' := ⟨L, h.new hn, fun _ h => .inl h, Upd.new hn⟩
end
/-- The cells of a replica. -/
structure RpFacts (w : World) (rp : Nat) (L : RpL) (x : Rpl) : Prop where
  lt : rp < w.heap.size
  c0 : w.cell? ⟨rp, 0, none⟩ = some (.int .i64 x.id)
  c1 : w.cell? ⟨rp, 1, none⟩ = some (.int .u64 (x.cf.e : Int))
  c2 : w.cell? ⟨rp, 2, none⟩ = some L.cv
  c3 : w.cell? ⟨rp, 3, none⟩ = some (.pointer (some ⟨L.jl.jb, 0, none⟩))
  c4 : w.cell? ⟨rp, 4, none⟩ = some L.lv
  c5 : w.cell? ⟨rp, 5, none⟩ = some (.int .u64 (x.cl : Int))
  c6 : w.cell? ⟨rp, 6, none⟩ = some L.ov
  fz : ∀ i, w.frozen? ⟨rp, i, none⟩ = false
theorem RpAt.facts {w : World} {rp B : Nat} {L : RpL} {x : Rpl} (h : RpAt w rp B L x) : RpFacts w rp L x := ⟨h.blk.lt, h.blk.cell 0, h.blk.cell 1, h.blk.cell 2, h.blk.cell 3, h.blk.cell 4, h.blk.cell 5, h.blk.cell 6, h.blk.frozen⟩
end Go.Proofs.YtecniafnihpjmaaGreatDoor
