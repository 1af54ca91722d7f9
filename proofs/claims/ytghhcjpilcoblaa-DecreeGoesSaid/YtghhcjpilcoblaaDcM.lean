/- Chapter 22 (decree): the group as plain data: what each call makes of it. No program here. -/
import Derived.Test.YtghhcjpilcoblaaDm
namespace Go.Proofs.Ytghhcjpilcoblaa
open Go.Lap
set_option linter.unusedVariables false

/-- An acceptor. -/
structure Acr where
  r : Nat
  n : Nat
  h : Bool
  ar : Nat
  an : Nat
  v : ByteArray
def Acr.zero : Acr := ⟨0, 0, false, 0, 0, ⟨#[]⟩⟩
/-- A proposal. -/
structure Prs where
  s : Nat
  r : Nat
  n : Nat
  pm : List Pro
  fr : List Int
  by_ : List Int
  v : ByteArray
  ch : Bool
/-- A node. -/
structure Nod where
  ac : Nat → Option Acr
  lg : Nat → Option ByteArray
  rd : Nat
  pe : List ByteArray
  nw : Option Prs
def Nod.zero : Nod := ⟨fun _ => none, fun _ => none, 0, [], none⟩
/-- A packet under way. -/
structure Pkt where
  fr : Nat
  ds : Nat
  m : Msg
/-- A group. -/
structure Gm where
  nd : Nat → Nod
  bg : List Pkt
def set {α : Type} (f : Nat → α) (k : Nat) (x : α) (j : Nat) : α := if j = k then x else f j
theorem set_same {α : Type} (f : Nat → α) (k : Nat) (x : α) : set f k x k = x := if_pos rfl
theorem set_ne {α : Type} (f : Nat → α) {k j : Nat} (x : α) (h : j ≠ k) : set f k x j = f j := if_neg h
theorem set_self {α : Type} (f : Nat → α) (k : Nat) : set f k (f k) = f := by
  funext j; unfold set; split
  · rename_i h; rw [h]
  · rfl
theorem set_set {α : Type} (f : Nat → α) (k : Nat) (x y : α) : set (set f k x) k y = set f k y := by
  funext j; unfold set; split <;> rfl

def E0 : ByteArray := ⟨#[]⟩
/-- The messages. -/
def mPrep (s r n : Nat) : Msg := ⟨0, s, r, n, E0, false, 0, 0, E0⟩
def mProm (s r n : Nat) (a : Acr) : Msg := ⟨1, s, r, n, E0, a.h, a.ar, a.an, a.v⟩
def mProp (s r n : Nat) (v : ByteArray) : Msg := ⟨2, s, r, n, v, false, 0, 0, E0⟩
def mAcc (s r n : Nat) : Msg := ⟨3, s, r, n, E0, false, 0, 0, E0⟩
def mRef (s r n : Nat) : Msg := ⟨4, s, r, n, E0, false, 0, 0, E0⟩
def mLearn (s : Nat) (v : ByteArray) : Msg := ⟨5, s, 0, 0, v, false, 0, 0, E0⟩
def mAsk (s : Nat) : Msg := ⟨6, s, 0, 0, E0, false, 0, 0, E0⟩

/-- The first slot from s on whose value is not known. -/
def firstF (lg : Nat → Option ByteArray) : Nat → Nat → Nat
  | 0, s => s
  | f + 1, s => if (lg s).isSome then firstF lg f (s + 1) else s
def Nod.first (x : Nod) : Nat := firstF x.lg 1000000000 0
/-- The known values from slot 0 on. -/
def Nod.log (x : Nod) : List ByteArray := (List.range x.first).map fun s => (x.lg s).getD E0
/-- A value becomes known. -/
def Nod.know (x : Nod) (s : Nat) (v : ByteArray) : Nod :=
  if (x.lg s).isSome then x else
    let w1 : Option Prs := match x.nw with | some p => if p.s = s then none else some p | none => none
    if x.pe.head? = some v then { x with lg := set x.lg s (some v), pe := x.pe.tail, nw := none } else { x with lg := set x.lg s (some v), nw := w1 }
/-- Who is asked to promise, or to accept. -/
def Nod.acr (x : Nod) (s : Nat) : Acr := (x.ac s).getD Acr.zero
def Nod.asked (x : Nod) (m : Msg) : Nod × Msg :=
  match x.lg m.s with
  | some v => (x, mLearn m.s v)
  | none =>
    let a := x.acr m.s
    if lessB m.r m.n a.r a.n then ({ x with ac := set x.ac m.s (some a) }, mRef m.s a.r a.n)
    else if m.k = 0 then ({ x with ac := set x.ac m.s (some { a with r := m.r, n := m.n }) }, mProm m.s m.r m.n a)
    else ({ x with ac := set x.ac m.s (some ⟨m.r, m.n, true, m.r, m.n, m.v⟩) }, mAcc m.s m.r m.n)
/-- Is a message of a node's proposal? -/
def mineP (p : Prs) (m : Msg) : Bool := decide (p.s = m.s ∧ p.r = m.r ∧ p.n = m.n)
def Nod.mine (x : Nod) (m : Msg) : Bool := match x.nw with | some p => mineP p m | none => false
def quor (n : Nat) : Nat := n / 2 + 1
def Msg.pro (m : Msg) : Pro := ⟨m.h, (m.hr : Int), (m.hn : Int), m.hv⟩
/-- A promise comes: the node, and what is sent to all. -/
def Nod.promised (x : Nod) (n : Nat) (fr : Int) (m : Msg) : Nod × Option Msg :=
  match x.nw with
  | none => (x, none)
  | some p =>
    if mineP p m = false ∨ p.ch = true ∨ fr ∈ p.fr then (x, none)
    else if quor n ≤ p.fr.length + 1 then
      let v := (Pro.best (x.pe.headD E0) (p.pm ++ [m.pro])).v
      ({ x with nw := some { p with fr := p.fr ++ [fr], pm := p.pm ++ [m.pro], v := v, ch := true } }, some (mProp p.s p.r p.n v))
    else ({ x with nw := some { p with fr := p.fr ++ [fr], pm := p.pm ++ [m.pro] } }, none)
def addL (l : List Int) (x : Int) : List Int := if x ∈ l then l else l ++ [x]
/-- An acceptance comes: the node, and what is sent to the others. -/
def Nod.taken (x : Nod) (n : Nat) (fr : Int) (m : Msg) : Nod × Option Msg :=
  match x.nw with
  | none => (x, none)
  | some p =>
    if mineP p m = false ∨ p.ch = false then (x, none)
    else
      let x1 : Nod := { x with nw := some { p with by_ := addL p.by_ fr } }
      if quor n ≤ (addL p.by_ fr).length then (x1.know p.s p.v, some (mLearn p.s p.v)) else (x1, none)
def Nod.refused (x : Nod) (m : Msg) : Nod :=
  { x with rd := max x.rd m.r, nw := match x.nw with | some p => if p.s = m.s then none else some p | none => none }
/-- Sending. -/
def sendB (b : List Pkt) (p : Pkt) : List Pkt := if b.length < 256 then b ++ [p] else b
def sendTo (b : List Pkt) (fr : Nat) (m : Msg) (l : List Nat) : List Pkt := l.foldl (fun b d => sendB b ⟨fr, d, m⟩) b
def allOf (n : Nat) : List Nat := List.range n
def notB (i k : Nat) : Bool := decide (k ≠ i)
def othersOf (n i : Nat) : List Nat := (List.range n).filter (notB i)
def sendL (b : List Pkt) (l : List Pkt) : List Pkt := l.foldl sendB b
/-- What is known of five slots. -/
def Nod.five (x : Nod) (s : Nat) : List Msg := (List.range 5).filterMap fun j => (x.lg (s + j)).map (mLearn (s + j))
/-- The acts of a group of n nodes. -/
def Gm.propose (g : Gm) (i : Nat) (v : ByteArray) : Gm := { g with nd := set g.nd i { g.nd i with pe := (g.nd i).pe ++ [v] } }
def Gm.tick (g : Gm) (n i : Nat) : Gm :=
  let x := g.nd i
  let s := x.first
  if x.pe = [] then { g with bg := sendTo g.bg i (mAsk s) (othersOf n i) }
  else { nd := set g.nd i { x with rd := x.rd + 1, nw := some ⟨s, x.rd + 1, i, [], [], [], E0, false⟩ },
         bg := sendTo (sendTo g.bg i (mPrep s (x.rd + 1) i) (allOf n)) i (mAsk s) (othersOf n i) }
def Gm.crash (g : Gm) (i : Nat) : Gm := { g with nd := set g.nd i { g.nd i with pe := [], nw := none } }
/-- A packet arrives (it has been taken out of the bag b). -/
def Gm.arrive (g : Gm) (n : Nat) (p : Pkt) (b : List Pkt) : Gm :=
  let x := g.nd p.ds
  match p.m.k with
  | 0 | 2 => let r := x.asked p.m; { nd := set g.nd p.ds r.1, bg := sendB b ⟨p.ds, p.fr, r.2⟩ }
  | 1 => let r := x.promised n p.fr p.m; { nd := set g.nd p.ds r.1, bg := match r.2 with | some m => sendTo b p.ds m (allOf n) | none => b }
  | 3 => let r := x.taken n p.fr p.m; { nd := set g.nd p.ds r.1, bg := match r.2 with | some m => sendTo b p.ds m (othersOf n p.ds) | none => b }
  | 4 => { nd := set g.nd p.ds (x.refused p.m), bg := b }
  | 5 => { nd := set g.nd p.ds (x.know p.m.s p.m.v), bg := b }
  | _ => { g with bg := (x.five p.m.s).foldl (fun b m => sendB b ⟨p.ds, p.fr, m⟩) b }
def Gm.deliver (g : Gm) (n i : Nat) : Gm := match g.bg[i]? with | some p => g.arrive n p (g.bg.eraseIdx i) | none => g
def Gm.copy (g : Gm) (i : Nat) : Gm := match g.bg[i]? with | some p => { g with bg := sendB g.bg p } | none => g
def Pkt.lost (fr dt : Int) (p : Pkt) : Bool := (decide (fr < 0) || (p.fr : Int) == fr) && (decide (dt < 0) || (p.ds : Int) == dt)
def Gm.lose (g : Gm) (fr dt : Int) : Gm := { g with bg := g.bg.filter fun p => !p.lost fr dt }

/-- What holds of a message, a node, a group: all numbers are below B, all texts are short. -/
structure MsgOk (B : Nat) (m : Msg) : Prop where
  k : m.k ≤ 6
  s : m.s < B
  r : m.r < B
  n : m.n < 8
  v : m.v.size ≤ 64
  hr : m.hr < B
  hn : m.hn < 8
  hv : m.hv.size ≤ 64
structure AcrOk (B : Nat) (a : Acr) : Prop where
  r : a.r < B
  n : a.n < 8
  ar : a.ar < B
  an : a.an < 8
  v : a.v.size ≤ 64
structure PrsOk (B : Nat) (p : Prs) : Prop where
  s : p.s < B
  r : p.r < B
  n : p.n < 8
  v : p.v.size ≤ 64
  pm : ∀ q ∈ p.pm, q.v.size ≤ 64
  pl : p.pm.length ≤ 8
  fl : p.fr.length ≤ 8
  bl : p.by_.length ≤ 8
  fn : p.fr.Nodup
  bn : p.by_.Nodup
  fm : ∀ k ∈ p.fr, 0 ≤ k ∧ k < 8
  bm : ∀ k ∈ p.by_, 0 ≤ k ∧ k < 8
  fp : p.pm.length = p.fr.length
structure NodOk (B : Nat) (x : Nod) : Prop where
  ac : ∀ s a, x.ac s = some a → s < B ∧ AcrOk B a
  lg : ∀ s v, x.lg s = some v → s < B ∧ v.size ≤ 64
  rd : x.rd < B
  pe : ∀ v ∈ x.pe, 1 ≤ v.size ∧ v.size ≤ 64
  pl : x.pe.length < B
  nw : ∀ p, x.nw = some p → PrsOk B p ∧ x.pe ≠ []
structure GmOk (n B : Nat) (g : Gm) : Prop where
  nd : ∀ i, i < n → NodOk B (g.nd i)
  bg : ∀ p ∈ g.bg, p.fr < n ∧ p.ds < n ∧ MsgOk B p.m
  len : g.bg.length ≤ 256

theorem MsgOk.mono {B C : Nat} {m : Msg} (h : MsgOk B m) (hB : B ≤ C) : MsgOk C m := ⟨h.k, Nat.lt_of_lt_of_le h.s hB, Nat.lt_of_lt_of_le h.r hB, h.n, h.v, Nat.lt_of_lt_of_le h.hr hB, h.hn, h.hv⟩
theorem AcrOk.mono {B C : Nat} {a : Acr} (h : AcrOk B a) (hB : B ≤ C) : AcrOk C a := ⟨Nat.lt_of_lt_of_le h.r hB, h.n, Nat.lt_of_lt_of_le h.ar hB, h.an, h.v⟩
theorem PrsOk.mono {B C : Nat} {p : Prs} (h : PrsOk B p) (hB : B ≤ C) : PrsOk C p := { h with s := Nat.lt_of_lt_of_le h.s hB, r := Nat.lt_of_lt_of_le h.r hB }
theorem NodOk.mono {B C : Nat} {x : Nod} (h : NodOk B x) (hB : B ≤ C) : NodOk C x :=
  ⟨fun s a ha => ⟨Nat.lt_of_lt_of_le (h.ac s a ha).1 hB, (h.ac s a ha).2.mono hB⟩, fun s v hv => ⟨Nat.lt_of_lt_of_le (h.lg s v hv).1 hB, (h.lg s v hv).2⟩, Nat.lt_of_lt_of_le h.rd hB, h.pe, Nat.lt_of_lt_of_le h.pl hB, fun p hp => ⟨(h.nw p hp).1.mono hB, (h.nw p hp).2⟩⟩
theorem MsgOk.good {B : Nat} {m : Msg} (h : MsgOk B m) (hB : B ≤ 1000000000) : m.good := ⟨h.k, by have := h.s; omega, by have := h.r; omega, by have := h.n; omega, by have := h.v; omega, by have := h.hr; omega, by have := h.hn; omega, by have := h.hv; omega⟩
theorem E0_size : E0.size = 0 := rfl

/-- The first unknown slot. -/
structure IsFirst (lg : Nat → Option ByteArray) (s : Nat) : Prop where
  no : lg s = none
  yes : ∀ j, j < s → (lg j).isSome = true
theorem firstF_is {lg : Nat → Option ByteArray} {B : Nat} (hB : ∀ s v, lg s = some v → s < B) : ∀ (f s : Nat), B ≤ s + f → (∀ j, j < s → (lg j).isSome = true) → IsFirst lg (firstF lg f s)
  | 0, s, h, hs => by
    refine ⟨?_, hs⟩
    cases hl : lg (firstF lg 0 s) with
    | none => rfl
    | some v => have := hB _ _ hl; unfold firstF at this; omega
  | f + 1, s, h, hs => by
    unfold firstF
    by_cases hl : (lg s).isSome = true
    · rw [if_pos hl]
      exact firstF_is hB f (s + 1) (by omega) fun j hj => by
        by_cases hjs : j = s
        · rw [hjs]; exact hl
        · exact hs j (by omega)
    · rw [if_neg hl]
      exact ⟨by simpa using hl, hs⟩
theorem IsFirst.unique {lg : Nat → Option ByteArray} {s t : Nat} (h : IsFirst lg s) (k : IsFirst lg t) : s = t := by
  rcases Nat.lt_trichotomy s t with h1 | h1 | h1
  · have := k.yes s h1; rw [h.no] at this; cases this
  · exact h1
  · have := h.yes t h1; rw [k.no] at this; cases this
theorem NodOk.first {B : Nat} {x : Nod} (h : NodOk B x) (hB : B ≤ 1000000000) : IsFirst x.lg x.first ∧ x.first ≤ B := by
  have h1 := firstF_is (B := B) (fun s v hs => (h.lg s v hs).1) 1000000000 0 (by omega) (fun j hj => by omega)
  refine ⟨h1, ?_⟩
  rcases Nat.lt_or_ge B x.first with h2 | h2
  · have := h1.yes B h2
    obtain ⟨v, hv⟩ := Option.isSome_iff_exists.1 this
    have := (h.lg _ _ hv).1
    omega
  · exact h2
end Go.Proofs.Ytghhcjpilcoblaa
