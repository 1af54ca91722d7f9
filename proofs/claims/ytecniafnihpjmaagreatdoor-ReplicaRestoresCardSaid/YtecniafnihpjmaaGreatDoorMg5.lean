/- The parts RpM, RpC, Mp2, RpA, joined. -/
import Derived.Test.YtecniafnihpjmaaGreatDoorMg1
import Derived.Test.YtecniafnihpjmaaGreatDoorMg4
import Derived.Test.YtecniafnihpjmaaGreatDoorMg2
import Derived.Maps.RangeWalk
import Derived.Maps.Ext
/- Chapters 19 and 24 (judge, replica): a judge and a replica as plain data, and what each call makes of them. No program here. -/
namespace Go.Proofs.YtecniafnihpjmaaGreatDoor
open Go.RowKit Go.Lap C
set_option linter.unusedVariables false
/-- A batch. -/
structure Btc where
  c : Nat
  r : Nat
  s : Nat
  l : List Wri
def Btc.none : Btc := ⟨0, 0, 0, []⟩
/-- A verdict. -/
structure Vd where
  t : Nat
  e : Int
def setD {κ α : Type} [DecidableEq κ] (f : κ → α) (k : κ) (x : α) (j : κ) : α := if j = k then x else f j
theorem setD_same {κ α : Type} [DecidableEq κ] (f : κ → α) (k : κ) (x : α) : setD f k x k = x := if_pos rfl
theorem setD_ne {κ α : Type} [DecidableEq κ] (f : κ → α) {k j : κ} (x : α) (h : j ≠ k) : setD f k x j = f j := if_neg h
/-- A judge: the last timestamp; when each key was written last (0: never); each client's last request, and what it was told. -/
structure Jd where
  la : Nat
  wh : ByteArray → Option Nat
  sn : Nat → Option (Nat × Vd)
def Jd.zero : Jd := ⟨0, fun _ => Option.none, fun _ => Option.none⟩
def Jd.when_ (j : Jd) (k : ByteArray) : Nat := (j.wh k).getD 0
def Jd.commit (j : Jd) (b : Btc) : Jd := { j with la := j.la + 1, wh := b.l.foldl (fun f x => setD f x.key (some (j.la + 1))) j.wh }
def Jd.written (j : Jd) (b : Btc) : Bool := b.l.any fun x => decide (b.s < j.when_ x.key)
def maxT : Nat := 9223372036854775807
/-- What becomes of a batch that is new. -/
def Jd.new_ (j : Jd) (b : Btc) : Jd × Vd :=
  if j.la < b.s then (j, ⟨0, 190⟩)
  else if maxT ≤ j.la then (j, ⟨0, 192⟩)
  else if j.written b = true then ({ j with sn := setD j.sn b.c (some (b.r, ⟨0, 191⟩)) }, ⟨0, 191⟩)
  else ({ j.commit b with sn := setD j.sn b.c (some (b.r, ⟨j.la + 1, 0⟩)) }, ⟨j.la + 1, 0⟩)
def Jd.say (j : Jd) (b : Btc) : Jd × Vd :=
  if chk b.l ≠ 0 then (j, ⟨0, chk b.l⟩) else
  match j.sn b.c with
  | some (q, v) => if q = b.r then (j, v) else if b.r < q then (j, ⟨0, 193⟩) else j.new_ b
  | Option.none => j.new_ b
/-- A batch taken as committed. -/
def Jd.load (j : Jd) (b : Btc) : Jd × Int :=
  if chk b.l ≠ 0 then (j, chk b.l)
  else if maxT ≤ j.la then (j, 192)
  else
    let j' := j.commit b
    match j.sn b.c with
    | some (q, v) => if b.r < q then (j', 0) else ({ j' with sn := setD j.sn b.c (some (b.r, ⟨j.la + 1, 0⟩)) }, 0)
    | Option.none => ({ j' with sn := setD j.sn b.c (some (b.r, ⟨j.la + 1, 0⟩)) }, 0)
/-- A note. -/
structure Nt where
  k : Int
  fr : Int
  ds : Int
  ep : Nat
  t : Nat
  b : Btc
/-- A replica. -/
structure Rpl where
  id : Int
  cf : Cfg
  j : Jd
  l : List Btc
  cl : Nat
  out : List Nt
def nextC (c : Cfg) (n : Int) : Int × Bool := atC c.ms (placeC c.ms n) (placeC c.ms n + 1)
def befC (c : Cfg) (n : Int) : Int × Bool := atC c.ms (placeC c.ms n) (placeC c.ms n + -1)
def Rpl.la (x : Rpl) : Nat := x.l.length
def Rpl.send (x : Rpl) (ds : Int) (k : Int) (t : Nat) (b : Btc) : Rpl := { x with out := x.out ++ [⟨k, x.id, ds, x.cf.e, t, b⟩] }
def Rpl.tell (x : Rpl) : Rpl := if (befC x.cf x.id).2 = true then x.send (befC x.cf x.id).1 1 x.cl Btc.none else x
def Rpl.ask (x : Rpl) : Rpl := if (befC x.cf x.id).2 = true then x.send (befC x.cf x.id).1 2 (x.la + 1) Btc.none else x
def Rpl.cleaned (x : Rpl) (t : Nat) : Rpl := ({ x with cl := t } : Rpl).tell
/-- A batch is put behind the list. -/
def Rpl.added (x : Rpl) (b : Btc) : Rpl :=
  let y : Rpl := { x with l := x.l ++ [b] }
  if (nextC y.cf y.id).2 = true then y.send (nextC y.cf y.id).1 0 y.la b else y.cleaned y.la
def Rpl.submit (x : Rpl) (b : Btc) : Rpl × Vd × Int :=
  if placeC x.cf.ms x.id ≠ 0 then (x, ⟨0, 0⟩, 240)
  else
    let r := x.j.say b
    let y : Rpl := { x with j := r.1 }
    (if x.la < r.1.la then y.added b else y, r.2, 0)
/-- Batches from a timestamp on. -/
def Rpl.some_ (x : Rpl) (ds : Int) (t : Nat) : Rpl := (List.range 5).foldl (fun y i => if 1 ≤ t ∧ t + i ≤ x.la then y.send ds 0 (t + i) ((x.l[t + i - 1]?).getD Btc.none) else y) x
def Rpl.forwarded (x : Rpl) (n : Nt) : Rpl :=
  if n.t = x.la + 1 then if chk n.b.l ≠ 0 then x else ({ x with j := (x.j.load n.b).1 } : Rpl).added n.b
  else if x.la < n.t then x.ask
  else if n.t ≤ x.cl then x.tell
  else x
def Rpl.acked (x : Rpl) (n : Nt) : Rpl := if x.cl < min n.t x.la then x.cleaned (min n.t x.la) else x
def Rpl.side (x : Rpl) (k : Int) : Int × Bool := if k = 0 then befC x.cf x.id else nextC x.cf x.id
def Rpl.receive (x : Rpl) (n : Nt) : Rpl :=
  if n.t = 0 ∨ n.ds ≠ x.id ∨ n.ep ≠ x.cf.e ∨ n.k < 0 ∨ 3 ≤ n.k then x
  else if (x.side n.k).2 = true ∧ (x.side n.k).1 = n.fr then
    if n.k = 0 then x.forwarded n else if n.k = 1 then x.acked n else x.some_ n.fr n.t
  else x
def Rpl.new_ (id : Int) (c : Cfg) : Rpl := ⟨id, c, Jd.zero, [], 0, []⟩
end Go.Proofs.YtecniafnihpjmaaGreatDoor

/- Chapter 24 (replica): a chain of replicas as plain data; what is clean is everywhere. No program here. -/
namespace Go.Proofs.YtecniafnihpjmaaGreatDoor
open Go.RowKit Go.Lap C
set_option linter.unusedVariables false

section
variable {n : Nat} {cs : List Cfg} {nw c d : Cfg}
end

section
variable {n y : Nat} {cs : List Cfg} {nw c d : Cfg} {L M : Nat → List Btc} {x : Rpl} {nt : Nt}
theorem pre_get {l m : List Btc} (h : l <+: m) {k : Nat} {b : Btc} (hk : l[k]? = some b) : m[k]? = some b := by
  obtain ⟨t, rfl⟩ := h
  rw [List.getElem?_append_left (List.getElem?_eq_some_iff.1 hk).1, hk]
/-- The lists with one more batch at y. -/
def grown (L : Nat → List Btc) (y : Nat) (b : Btc) : Nat → List Btc := setD L y (L y ++ [b])
end

/-- The law's chain: replicas, what is under way, all configurations. -/
structure Chn where
  rp : Nat → Rpl
  un : List Nt
  cs : List Cfg
section
variable {n : Nat} {x : Chn}
end
end Go.Proofs.YtecniafnihpjmaaGreatDoor

/- Maps, whatever their elements: range over a map, and how many entries there are. -/
namespace Go.Lap
open Go Go.RowKit
set_option linter.unusedVariables false
set_option linter.unusedSectionVars false

/-- Every key of the type is one of ours. -/
structure KeyI (P : Program) (kt : TypeId) {κ : Type} (val : κ → Value) (lit : κ → Lit) (ok : κ → Prop) : Prop extends KeyB P kt val lit ok where
  inv : ∀ key kl, keyOf P kt key = some kl → ∃ x, ok x ∧ key = val x ∧ kl = lit x

theorem keyUI {P : Program} {kt : TypeId} (hk : P.underlying kt = some (.int .u64)) : KeyI P kt (fun n : Nat => .int .u64 (n : Int)) (fun n => .int .u64 (n : Int)) (fun n => (Lit.int .u64 (n : Int)).wf = true) where
  toKeyB := keyU hk
  inv := fun key kl h => by
    obtain ⟨x, rfl, rfl, hw⟩ := Maps.keyOf_int_inv hk h
    have hx : 0 ≤ x := by simp [Lit.wf, IntKind.min, IntKind.signed] at hw; omega
    obtain ⟨n, rfl⟩ : ∃ n : Nat, x = (n : Int) := ⟨x.toNat, by omega⟩
    exact ⟨n, hw, rfl, rfl⟩
theorem keyOf_str {P : Program} {kt : TypeId} (hk : P.underlying kt = some .string) {s : ByteArray} (h : s.size ≤ maxLen) : keyOf P kt (.string s) = some (.string s.data.toList) := by
  simp [keyOf, hk, mapKey, h]
theorem keySI {P : Program} {kt : TypeId} (hk : P.underlying kt = some .string) : KeyI P kt (fun s : ByteArray => .string s) (fun s => .string s.data.toList) (fun s => s.size ≤ maxLen) where
  toKeyB := { keyed := Maps.string_keyed hk, read := fun k h => keyOf_str hk h, ne := fun a b _ _ hne e => hne (by
    injection e with e
    have : a.data = b.data := Array.toList_inj.1 e
    cases a; cases b; simp_all) }
  inv := fun key kl h => by
    cases key <;> simp [keyOf, hk, mapKey] at h
    obtain ⟨hs, rfl⟩ := h
    exact ⟨_, hs, rfl, rfl⟩

section
variable {P : Program} {kt : TypeId} {κ : Type} [DecidableEq κ] {val : κ → Value} {lit : κ → Lit} {ok : κ → Prop}
variable {w w' : World} {b m : Nat} {f : κ → Option Value}

variable {ops : Array Oper} {rest : List Oper} {o : Oper} {a : Act} {Q : Exit → Act → World → Prop}
end
end Go.Lap

/- Chapters 19 and 24 in memory: typed slices that nobody writes again, batches, notes, a judge, a replica. -/
namespace Go.Proofs.YtecniafnihpjmaaGreatDoor
open Go.RowKit Go.Lap C
set_option linter.unusedVariables false

/-- The slice value v reads as l, and lies in a block of the element type e. -/
def TSl {α : Type} (w : World) (e : TypeId) (size : Nat) (enc : α → List Value) (v : Value) (l : List α) : Prop :=
  ∃ A c, v = .slice A l.length c ∧ l.length ≤ c ∧ (l = [] ∨ ∃ b off cs, A = some ⟨b, off, none⟩ ∧ Blk w b e cs ∧ ∀ k x, l[k]? = some x → ∀ j u, (enc x)[j]? = some u → cs[off + k * size + j]? = some u)
/-- None of these blocks is of the type e. -/
def Off (w : World) (e : TypeId) (S : Nat → Prop) : Prop := ∀ b cs, Blk w b e cs → ¬ S b
section
variable {α : Type} {w w' : World} {e size base : Nat} {enc : α → List Value} {v : Value} {l : List α} {S T : Nat → Prop}
theorem TSl.slIn (h : TSl w e size enc v l) : SlIn w size enc v l := by
  obtain ⟨A, c, rfl, hc, h⟩ := h
  refine ⟨A, c, rfl, hc, ?_⟩
  rcases h with h | ⟨b, off, cs, rfl, hb, h⟩
  · exact .inl h
  · exact .inr ⟨b, off, rfl, hb.lt, fun k x hx j u hu => (hb.cell _).trans (h k x hx j u hu)⟩
theorem TSl.upd (h : TSl w e size enc v l) (hu : Upd S w w') (hS : Off w e S) : TSl w' e size enc v l := by
  obtain ⟨A, c, rfl, hc, h⟩ := h
  refine ⟨A, c, rfl, hc, ?_⟩
  rcases h with h | ⟨b, off, cs, rfl, hb, h⟩
  · exact .inl h
  · exact .inr ⟨b, off, cs, rfl, hb.upd hu (hS b cs hb), h⟩
theorem Off.no (w : World) (e : TypeId) : Off w e (fun _ => False) := fun _ _ _ h => h
theorem TSl.new (h : TSl w e size enc v l) (hn : New w w') : TSl w' e size enc v l := h.upd (Upd.new hn) (Off.no w e)
theorem TSl.nil (w : World) (e : TypeId) (size : Nat) (enc : α → List Value) (A : Option Addr) (c : Nat) : TSl w e size enc (.slice A 0 c) ([] : List α) := ⟨A, c, rfl, Nat.zero_le _, .inl rfl⟩
theorem TSl.shape (h : TSl w e size enc v l) : ∃ A c, v = .slice A l.length c := let ⟨A, c, hv, _⟩ := h; ⟨A, c, hv⟩
theorem Row.tsl (hE : Enc enc size) (h : Row w base e size enc v l) : TSl w e size enc v l := by
  rcases h with ⟨rfl, rfl⟩ | ⟨g, off, cap, cur, rfl, hg, hh, hnc, hm, hcur, htake⟩
  · exact ⟨none, 0, rfl, Nat.le_refl _, .inl rfl⟩
  · refine ⟨_, cap, rfl, hnc, .inr ⟨g, off, cur, rfl, hh, fun k x hx j u hu => ?_⟩⟩
    have hj : j < size := by rw [← (hE x).1]; exact (List.getElem?_eq_some_iff.1 hu).1
    have h1 := flat_get hE l k x j hx hj
    rw [hu, ← htake, List.getElem?_take] at h1
    split at h1
    · rw [List.getElem?_drop, ← Nat.add_assoc] at h1
      simpa using h1
    · cases h1
theorem Off.row {β : Type} {e2 s2 b2 : Nat} {enc2 : β → List Value} {v2 : Value} {l2 : List β} (h : Row w b2 e2 s2 enc2 v2 l2) (hne : e2 ≠ e) : Off w e (fun k => v2.ownBlock = some k) := fun b cs hb hk => h.ne_blk hb hne hk
theorem Off.blk {t g : Nat} {cs : Array Value} (h : Blk w g t cs) (hne : t ≠ e) : Off w e (· = g) := fun b cs' hb hk => Blk.ne_ hb h (fun h => hne h.symm) hk
theorem Off.map {P : Program} {kt : TypeId} {κ : Type} {lit : κ → Lit} {ok : κ → Prop} {b m : Nat} {f : κ → Option Value} (h : MpAt P kt lit ok w b m f) : Off w e (· = b) := fun b' cs hb hk => by
  subst hk
  obtain ⟨D, ⟨es, clock, hb2, _⟩, _⟩ := h
  unfold Blk at hb
  rw [hb] at hb2
  cases hb2
theorem Off.or (h1 : Off w e S) (h2 : Off w e T) : Off w e (fun k => S k ∨ T k) := fun b cs hb hk => hk.elim (h1 b cs hb) (h2 b cs hb)
end
theorem keepR {w w' : World} {S : Nat → Prop} (hu : Upd S w w') {b : Nat} (hb : b < w.heap.size) (hS : ¬ S b) (o : Nat) : w'.cell? ⟨b, o, none⟩ = w.cell? ⟨b, o, none⟩ := World.cell?_of_block (hu.block b hb hS)
theorem Blk.ne_map {P : Program} {kt : TypeId} {κ : Type} {lit : κ → Lit} {ok : κ → Prop} {w : World} {g b m : Nat} {t : TypeId} {cs : Array Value} {f : κ → Option Value} (h : Blk w g t cs) (hm : MpAt P kt lit ok w b m f) : g ≠ b := by
  rintro rfl
  obtain ⟨D, ⟨es, clock, hb, _⟩, _⟩ := hm
  unfold Blk at h
  rw [h] at hb
  cases hb
theorem Row.ne_map {α : Type} {enc : α → List Value} {size base : Nat} {e : TypeId} {v : Value} {l : List α} {P : Program} {kt : TypeId} {κ : Type} {lit : κ → Lit} {ok : κ → Prop} {w : World} {b m : Nat} {f : κ → Option Value} (h : Row w base e size enc v l) (hm : MpAt P kt lit ok w b m f) : v.ownBlock ≠ some b := by
  intro hk
  rcases h with ⟨rfl, _⟩ | ⟨g, off, cap, cur, rfl, _, hh, _⟩
  · cases hk
  · cases hk; exact Blk.ne_map hh hm rfl
theorem Row.ne_row {α β : Type} {e1 : α → List Value} {e2 : β → List Value} {w : World} {b1 b2 s1 s2 : Nat} {t1 t2 : TypeId} {v1 v2 : Value} {l1 : List α} {l2 : List β} (h1 : Row w b1 t1 s1 e1 v1 l1) (h2 : Row w b2 t2 s2 e2 v2 l2) (hne : t1 ≠ t2) {k : Nat} (hk : v1.ownBlock = some k) : v2.ownBlock ≠ some k := by
  intro hk2
  rcases h2 with ⟨rfl, _⟩ | ⟨g, off, cap, cur, rfl, _, hh, _⟩
  · cases hk2
  · cases hk2; exact h1.ne_blk hh hne hk

def big : Nat := 18446744073709551616
/-- A batch in a slice: it, and where its writes lie. -/
structure BtV where
  b : Btc
  A : Option Addr
  c : Nat
def BtV.sl (x : BtV) : Value := .slice x.A x.b.l.length x.c
def BtV.enc (x : BtV) : List Value := [.int .u64 (x.b.c : Int), .int .u64 (x.b.r : Int), .int .u64 (x.b.s : Int), x.sl]
theorem BtV.encOk : Enc BtV.enc 4 := fun x => ⟨rfl, by simp [BtV.enc, BtV.sl, Value.oneCell']⟩
def BtV.val (x : BtV) : Value := batV x.b.c x.b.r x.b.s x.sl
def BtV.nil : BtV := ⟨Btc.none, none, 0⟩
/-- A batch that is no longer than what memory takes. -/
structure Btc.Ok (b : Btc) : Prop where
  c : b.c < big
  r : b.r < big
  s : b.s < big
  l : b.l.length ≤ 1000
theorem Btc.none_ok : Btc.none.Ok := ⟨by decide, by decide, by decide, by decide⟩
structure BtAt (w : World) (x : BtV) : Prop where
  sl : TSl w 97 3 Wri.enc x.sl x.b.l
  ok : x.b.Ok
theorem btTy : SlTy Tryz.prog 26 40 (.agg #[.int .u64 0, .int .u64 0, .int .u64 0, .slice none 0 0]) 4 48 := ⟨Tryz.underlying26, by kernel_rfl, rfl, by decide⟩
theorem wrTy : SlTy Tryz.prog 38 97 (.agg #[.string ⟨#[]⟩, .string ⟨#[]⟩, .bool false]) 3 40 := ⟨Tryz.underlying38, by kernel_rfl, rfl, by decide⟩
/-- A note in a slice. -/
structure NtV where
  k : Int
  fr : Int
  ds : Int
  ep : Nat
  t : Nat
  v : BtV
def NtV.nt (x : NtV) : Nt := ⟨x.k, x.fr, x.ds, x.ep, x.t, x.v.b⟩
def NtV.enc (x : NtV) : List Value := [.int .i64 x.k, .int .i64 x.fr, .int .i64 x.ds, .int .u64 (x.ep : Int), .int .u64 (x.t : Int), .int .u64 (x.v.b.c : Int), .int .u64 (x.v.b.r : Int), .int .u64 (x.v.b.s : Int), x.v.sl]
theorem NtV.encOk : Enc NtV.enc 9 := fun x => ⟨rfl, by simp [NtV.enc, BtV.sl, Value.oneCell']⟩
def NtV.val (x : NtV) : Value := .agg #[.int .i64 x.k, .int .i64 x.fr, .int .i64 x.ds, .int .u64 (x.ep : Int), .int .u64 (x.t : Int), .int .u64 (x.v.b.c : Int), .int .u64 (x.v.b.r : Int), .int .u64 (x.v.b.s : Int), x.v.sl]
theorem ntTy : SlTy Tryz.prog 34 93 (.agg #[.int .i64 0, .int .i64 0, .int .i64 0, .int .u64 0, .int .u64 0, .int .u64 0, .int .u64 0, .int .u64 0, .slice none 0 0]) 9 88 := ⟨Tryz.underlying34, by kernel_rfl, rfl, by decide⟩
/-- A row of batches; a row of notes. -/
def BtRow (w : World) (base : Nat) (v : Value) (l : List Btc) : Prop := ∃ ps : List BtV, ps.map BtV.b = l ∧ Row w base 40 4 BtV.enc v ps ∧ ∀ p ∈ ps, BtAt w p
def NtRow (w : World) (base : Nat) (v : Value) (l : List Nt) : Prop := ∃ ps : List NtV, ps.map NtV.nt = l ∧ Row w base 93 9 NtV.enc v ps ∧ ∀ p ∈ ps, BtAt w p.v
section
variable {w w' : World} {S : Nat → Prop} {base : Nat} {v : Value} {l : List Btc} {m : List Nt} {x : BtV}
theorem BtAt.upd (h : BtAt w x) (hu : Upd S w w') (hS : Off w 97 S) : BtAt w' x := ⟨h.sl.upd hu hS, h.ok⟩
theorem BtAt.new (h : BtAt w x) (hn : New w w') : BtAt w' x := ⟨h.sl.new hn, h.ok⟩
theorem BtAt.nil (w : World) : BtAt w BtV.nil := ⟨TSl.nil _ _ _ _ _ _, Btc.none_ok⟩
theorem BtRow.upd (h : BtRow w base v l) (hu : Upd S w w') (hv : ∀ k, v.ownBlock = some k → ¬ S k) (hS : Off w 97 S) : BtRow w' base v l := by
  obtain ⟨ps, h1, h2, h3⟩ := h
  exact ⟨ps, h1, h2.upd hu hv, fun p hp => (h3 p hp).upd hu hS⟩
theorem NtRow.upd (h : NtRow w base v m) (hu : Upd S w w') (hv : ∀ k, v.ownBlock = some k → ¬ S k) (hS : Off w 97 S) : NtRow w' base v m := by
  obtain ⟨ps, h1, h2, h3⟩ := h
  exact ⟨ps, h1, h2.upd hu hv, fun p hp => (h3 p hp).upd hu hS⟩
theorem BtRow.new (h : BtRow w base v l) (hn : New w w') : BtRow w' base v l := h.upd (S := fun _ => False) (Upd.new hn) (fun _ _ x => x) (Off.no _ _)
theorem NtRow.new (h : NtRow w base v m) (hn : New w w') : NtRow w' base v m := h.upd (S := fun _ => False) (Upd.new hn) (fun _ _ x => x) (Off.no _ _)
theorem BtRow.nil (w : World) (base : Nat) : BtRow w base (.slice none 0 0) [] := ⟨[], rfl, Row.nil _ _ _ _ _, fun _ h => by cases h⟩
theorem NtRow.nil (w : World) (base : Nat) : NtRow w base (.slice none 0 0) [] := ⟨[], rfl, Row.nil _ _ _ _ _, fun _ h => by cases h⟩
theorem BtRow.lt (h : BtRow w base v l) : ∀ k, v.ownBlock = some k → base ≤ k ∧ k < w.heap.size := let ⟨_, _, h, _⟩ := h; h.lt
theorem NtRow.lt (h : NtRow w base v m) : ∀ k, v.ownBlock = some k → base ≤ k ∧ k < w.heap.size := let ⟨_, _, h, _⟩ := h; h.lt
theorem BtRow.lower {b' : Nat} (h : BtRow w base v l) (hb : b' ≤ base) : BtRow w b' v l := let ⟨ps, h1, h2, h3⟩ := h; ⟨ps, h1, h2.lower hb, h3⟩
theorem BtRow.shape (h : BtRow w base v l) : ∃ A c, v = .slice A l.length c := by
  obtain ⟨ps, rfl, h2, _⟩ := h
  obtain ⟨A, c, hv⟩ := h2.shape
  exact ⟨A, c, by rw [List.length_map]; exact hv⟩
theorem NtRow.shape (h : NtRow w base v m) : ∃ A c, v = .slice A m.length c := by
  obtain ⟨ps, rfl, h2, _⟩ := h
  obtain ⟨A, c, hv⟩ := h2.shape
  exact ⟨A, c, by rw [List.length_map]; exact hv⟩
end

abbrev okS (s : ByteArray) : Prop := s.size ≤ maxLen
abbrev litS (s : ByteArray) : Lit := .string s.data.toList
theorem keyS : KeyI Tryz.prog 9 (fun s : ByteArray => .string s) litS okS := keySI Tryz.underlying9
abbrev litU (s : Nat) : Lit := .int .u64 (s : Int)
abbrev okU (s : Nat) : Prop := (Lit.int .u64 (s : Int)).wf = true
theorem keyU64 : KeyI Tryz.prog 22 (fun n : Nat => .int .u64 (n : Int)) litU okU := keyUI Tryz.underlying22
theorem okU_lt {n : Nat} (h : n < big) : okU n := by unfold okU; unfold big at h; simp [Lit.wf, IntKind.min, IntKind.max, IntKind.signed, IntKind.bits]; omega
def whV (f : ByteArray → Option Nat) (k : ByteArray) : Option Value := (f k).map fun t => .int .u64 (t : Int)
def snV (f : Nat → Option (Nat × Vd)) (c : Nat) : Option Value := (f c).map fun p => .agg #[.int .u64 (p.1 : Int), .int .u64 (p.2.t : Int), .int .i64 p.2.e]
/-- A judge in memory. -/
structure JdL where
  jb : Nat
  wm : Nat
  sm : Nat
def JdF (L : JdL) (k : Nat) : Prop := k = L.jb ∨ k = L.wm ∨ k = L.sm
structure JdAt (w : World) (B : Nat) (L : JdL) (j : Jd) : Prop where
  blk : Blk w L.jb 138 #[.int .u64 (j.la : Int), .map (some L.wm), .map (some L.sm)]
  wh : ∃ m, m ≤ B ∧ MpAt Tryz.prog 9 litS okS w L.wm m (whV j.wh)
  sn : ∃ m, m ≤ B ∧ MpAt Tryz.prog 22 litU okU w L.sm m (snV j.sn)
  ne : L.wm ≠ L.sm
  la : j.la ≤ B
section
variable {w w' : World} {S : Nat → Prop} {B C : Nat} {L : JdL} {j : Jd}
theorem JdAt.upd (h : JdAt w B L j) (hu : Upd S w w') (hS : ∀ k, JdF L k → ¬ S k) : JdAt w' B L j := by
  obtain ⟨m, h1, h2⟩ := h.wh
  obtain ⟨n, h3, h4⟩ := h.sn
  exact ⟨h.blk.upd hu (hS _ (.inl rfl)), ⟨m, h1, h2.upd hu (hS _ (.inr (.inl rfl)))⟩, ⟨n, h3, h4.upd hu (hS _ (.inr (.inr rfl)))⟩, h.ne, h.la⟩
theorem JdAt.new (h : JdAt w B L j) (hn : New w w') : JdAt w' B L j := h.upd (S := fun _ => False) (Upd.new hn) (fun _ _ x => x)
theorem JdAt.mono (h : JdAt w B L j) (hB : B ≤ C) : JdAt w C L j := by
  obtain ⟨m, h1, h2⟩ := h.wh
  obtain ⟨n, h3, h4⟩ := h.sn
  exact ⟨h.blk, ⟨m, by omega, h2⟩, ⟨n, by omega, h4⟩, h.ne, by have := h.la; omega⟩
theorem JdAt.off (h : JdAt w B L j) {e : TypeId} (he : 138 ≠ e) : Off w e (JdF L) := by
  obtain ⟨m, h1, h2⟩ := h.wh
  obtain ⟨n, h3, h4⟩ := h.sn
  exact (Off.blk h.blk he).or ((Off.map h2).or (Off.map h4))
theorem JdAt.lt (h : JdAt w B L j) : ∀ k, JdF L k → k < w.heap.size := by
  obtain ⟨m, h1, h2⟩ := h.wh
  obtain ⟨n, h3, h4⟩ := h.sn
  rintro k (rfl | rfl | rfl)
  · exact h.blk.lt
  · exact h2.lt
  · exact h4.lt
end
/-- A replica in memory: its blocks. -/
structure RpL where
  cv : Value
  jl : JdL
  lv : Value
  ov : Value
def RpF (rp : Nat) (L : RpL) (k : Nat) : Prop := k = rp ∨ JdF L.jl k ∨ L.lv.ownBlock = some k ∨ L.ov.ownBlock = some k
def RpCells (rp : Nat) (L : RpL) (x : Rpl) : Array Value := #[.int .i64 x.id, .int .u64 (x.cf.e : Int), L.cv, .pointer (some ⟨L.jl.jb, 0, none⟩), L.lv, .int .u64 (x.cl : Int), L.ov,
  .func (.func 59) #[.pointer (some ⟨rp, 0, none⟩)] #[], .func (.func 60) #[] #[],
  .func (.func 61) #[.pointer (some ⟨rp, 0, none⟩)] #[], .func (.func 42) #[] #[],
  .func (.func 62) #[.pointer (some ⟨rp, 0, none⟩)] #[], .func (.func 42) #[] #[]]
structure RpAt (w : World) (rp B : Nat) (L : RpL) (x : Rpl) : Prop where
  blk : Blk w rp 107 (RpCells rp L x)
  cf : TSl w 3 1 iEnc L.cv x.cf.ms
  cl7 : x.cf.ms.length ≤ 1000
  ce : x.cf.e < big
  j : JdAt w B L.jl x.j
  l : BtRow w 0 L.lv x.l
  out : NtRow w 0 L.ov x.out
  ll : x.l.length ≤ B
  ol : x.out.length ≤ B
  cl : x.cl ≤ B
section
variable {w w' : World} {S : Nat → Prop} {rp B C : Nat} {L : RpL} {x : Rpl}
theorem RpAt.off (h : RpAt w rp B L x) {e : TypeId} (h1 : 107 ≠ e) (h2 : 138 ≠ e) (h3 : 40 ≠ e) (h4 : 93 ≠ e) : Off w e (RpF rp L) := by
  obtain ⟨ps, _, hps, _⟩ := h.l
  obtain ⟨qs, _, hqs, _⟩ := h.out
  exact (Off.blk h.blk h1).or ((h.j.off h2).or ((Off.row hps h3).or (Off.row hqs h4)))
theorem RpAt.offW (h : RpAt w rp B L x) : Off w 97 (RpF rp L) := h.off (by decide) (by decide) (by decide) (by decide)
theorem RpAt.offI (h : RpAt w rp B L x) : Off w 3 (RpF rp L) := h.off (by decide) (by decide) (by decide) (by decide)
theorem RpAt.lt (h : RpAt w rp B L x) : ∀ k, RpF rp L k → k < w.heap.size := by
  rintro k (rfl | hk | hk | hk)
  · exact h.blk.lt
  · exact h.j.lt k hk
  · exact (h.l.lt k hk).2
  · exact (h.out.lt k hk).2
theorem RpAt.upd (h : RpAt w rp B L x) (hu : Upd S w w') (hS : ∀ k, RpF rp L k → ¬ S k) (hW : Off w 97 S) (hI : Off w 3 S) : RpAt w' rp B L x :=
  ⟨h.blk.upd hu (hS _ (.inl rfl)), h.cf.upd hu hI, h.cl7, h.ce, h.j.upd hu (fun k hk => hS k (.inr (.inl hk))), h.l.upd hu (fun k hk => hS k (.inr (.inr (.inl hk)))) hW, h.out.upd hu (fun k hk => hS k (.inr (.inr (.inr hk)))) hW, h.ll, h.ol, h.cl⟩
theorem RpAt.new (h : RpAt w rp B L x) (hn : New w w') : RpAt w' rp B L x := h.upd (S := fun _ => False) (Upd.new hn) (fun _ _ x => x) (Off.no _ _) (Off.no _ _)
theorem RpAt.mono (h : RpAt w rp B L x) (hB : B ≤ C) : RpAt w rp C L x := { h with j := h.j.mono hB, ll := Nat.le_trans h.ll hB, ol := Nat.le_trans h.ol hB, cl := Nat.le_trans h.cl hB }
/-- What an act of a replica leaves. -/
def RpPost (w : World) (rp B : Nat) (L : RpL) (x' : Rpl) (w' : World) : Prop := ∃ L', RpAt w' rp B L' x' ∧ (∀ k, RpF rp L' k → RpF rp L k ∨ w.heap.size ≤ k) ∧ Upd (RpF rp L) w w'
theorem RpPost.refl (h : RpAt w rp B L x) : RpPost w rp B L x w := ⟨L, h, fun _ h => .inl h, Upd.refl _ _⟩
theorem RpPost.new (h : RpAt w rp B L x) (hn : New w w') : RpPost w rp B L x w' := ⟨L, h.new hn, fun _ h => .inl h, Upd.new hn⟩
end
/-- The cells of a replica. -/
structure RpFacts (w : World) (rp : Nat) (L : RpL) (x : Rpl) : Prop where
  lt : rp < w.heap.size
  c0 : w.cell? ⟨rp, 0, none⟩ = some (.int .i64 x.id)
  c1 : w.cell? ⟨rp, 1, none⟩ = some (.int .u64 (x.cf.e : Int))
  c2 : w.cell? ⟨rp, 2, none⟩ = some L.cv
  c3 : w.cell? ⟨rp, 3, none⟩ = some (.pointer (some ⟨L.jl.jb, 0, none⟩))
  c4 : w.cell? ⟨rp, 4, none⟩ = some L.lv
  c5 : w.cell? ⟨rp, 5, none⟩ = some (.int .u64 (x.cl : Int))
  c6 : w.cell? ⟨rp, 6, none⟩ = some L.ov
  fz : ∀ i, w.frozen? ⟨rp, i, none⟩ = false
theorem RpAt.facts {w : World} {rp B : Nat} {L : RpL} {x : Rpl} (h : RpAt w rp B L x) : RpFacts w rp L x := ⟨h.blk.lt, h.blk.cell 0, h.blk.cell 1, h.blk.cell 2, h.blk.cell 3, h.blk.cell 4, h.blk.cell 5, h.blk.cell 6, h.blk.frozen⟩
end Go.Proofs.YtecniafnihpjmaaGreatDoor
