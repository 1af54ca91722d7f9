/- Chapters 19 and 24 (judge, replica): a judge and a replica as plain data, and what each call makes of them. No program here. -/
import Derived.Test.YtlhlcdjkacglnaaGreatDoorJk2
import Derived.Test.YtlhlcdjkacglnaaGreatDoorJk5
import Derived.Test.YtlhlcdjkacglnaaGreatDoorJk1
import Derived.Deep.AppendSrc
import Derived.Maps.OwnSet
import Derived.Maps.RangeWalk
import Derived.Maps.Ext
import Derived.Deep.RegionHeld3
namespace Go.Proofs.YtlhlcdjkacglnaaGreatDoor
open Go.RowKit Go.Lap C
set_option linter.unusedVariables false
/-- A batch. -/
structure Btc where
  c : Nat
  r : Nat
  s : Nat
  l : List Wri
def Btc.none : Btc := ⟨0, 0, 0, []⟩
/-- A verdict. -/
structure Vd where
  t : Nat
  e : Int
def setD {κ α : Type} [DecidableEq κ] (f : κ → α) (k : κ) (x : α) (j : κ) : α := if j = k then x else f j
theorem setD_same {κ α : Type} [DecidableEq κ] (f : κ → α) (k : κ) (x : α) : setD f k x k = x := if_pos rfl
theorem setD_ne {κ α : Type} [DecidableEq κ] (f : κ → α) {k j : κ} (x : α) (h : j ≠ k) : setD f k x j = f j := if_neg h
/-- A judge: the last timestamp; when each key was written last (0: never); each client's last request, and what it was told. -/
structure Jd where
  la : Nat
  wh : ByteArray → Option Nat
  sn : Nat → Option (Nat × Vd)
def Jd.zero : Jd := ⟨0, fun _ => Option.none, fun _ => Option.none⟩
def Jd.when_ (j : Jd) (k : ByteArray) : Nat := (j.wh k).getD 0
def Jd.commit (j : Jd) (b : Btc) : Jd := { j with la := j.la + 1, wh := b.l.foldl (fun f x => setD f x.key (some (j.la + 1))) j.wh }
def Jd.written (j : Jd) (b : Btc) : Bool := b.l.any fun x => decide (b.s < j.when_ x.key)
def maxT : Nat := 9223372036854775807
/-- What becomes of a batch that is new. -/
def Jd.new_ (j : Jd) (b : Btc) : Jd × Vd :=
  if j.la < b.s then (j, ⟨0, 190⟩)
  else if maxT ≤ j.la then (j, ⟨0, 192⟩)
  else if j.written b = true then ({ j with sn := setD j.sn b.c (some (b.r, ⟨0, 191⟩)) }, ⟨0, 191⟩)
  else ({ j.commit b with sn := setD j.sn b.c (some (b.r, ⟨j.la + 1, 0⟩)) }, ⟨j.la + 1, 0⟩)
def Jd.say (j : Jd) (b : Btc) : Jd × Vd :=
  if chk b.l ≠ 0 then (j, ⟨0, chk b.l⟩) else
  match j.sn b.c with
  | some (q, v) => if q = b.r then (j, v) else if b.r < q then (j, ⟨0, 193⟩) else j.new_ b
  | Option.none => j.new_ b
/-- A batch taken as committed. -/
def Jd.load (j : Jd) (b : Btc) : Jd × Int :=
  if chk b.l ≠ 0 then (j, chk b.l)
  else if maxT ≤ j.la then (j, 192)
  else
    let j' := j.commit b
    match j.sn b.c with
    | some (q, v) => if b.r < q then (j', 0) else ({ j' with sn := setD j.sn b.c (some (b.r, ⟨j.la + 1, 0⟩)) }, 0)
    | Option.none => ({ j' with sn := setD j.sn b.c (some (b.r, ⟨j.la + 1, 0⟩)) }, 0)
/-- A note. -/
structure Nt where
  k : Int
  fr : Int
  ds : Int
  ep : Nat
  t : Nat
  b : Btc
/-- A replica. -/
structure Rpl where
  id : Int
  cf : Cfg
  j : Jd
  l : List Btc
  cl : Nat
  out : List Nt
def nextC (c : Cfg) (n : Int) : Int × Bool := atC c.ms (placeC c.ms n) (placeC c.ms n + 1)
def befC (c : Cfg) (n : Int) : Int × Bool := atC c.ms (placeC c.ms n) (placeC c.ms n + -1)
def Rpl.la (x : Rpl) : Nat := x.l.length
def Rpl.send (x : Rpl) (ds : Int) (k : Int) (t : Nat) (b : Btc) : Rpl := { x with out := x.out ++ [⟨k, x.id, ds, x.cf.e, t, b⟩] }
def Rpl.tell (x : Rpl) : Rpl := if (befC x.cf x.id).2 = true then x.send (befC x.cf x.id).1 1 x.cl Btc.none else x
def Rpl.ask (x : Rpl) : Rpl := if (befC x.cf x.id).2 = true then x.send (befC x.cf x.id).1 2 (x.la + 1) Btc.none else x
def Rpl.cleaned (x : Rpl) (t : Nat) : Rpl := ({ x with cl := t } : Rpl).tell
/-- A batch is put behind the list. -/
def Rpl.added (x : Rpl) (b : Btc) : Rpl :=
  let y : Rpl := { x with l := x.l ++ [b] }
  if (nextC y.cf y.id).2 = true then y.send (nextC y.cf y.id).1 0 y.la b else y.cleaned y.la
def Rpl.submit (x : Rpl) (b : Btc) : Rpl × Vd × Int :=
  if placeC x.cf.ms x.id ≠ 0 then (x, ⟨0, 0⟩, 240)
  else
    let r := x.j.say b
    let y : Rpl := { x with j := r.1 }
    (if x.la < r.1.la then y.added b else y, r.2, 0)
/-- Batches from a timestamp on. -/
def Rpl.some_ (x : Rpl) (ds : Int) (t : Nat) : Rpl := (List.range 5).foldl (fun y i => if 1 ≤ t ∧ t + i ≤ x.la then y.send ds 0 (t + i) ((x.l[t + i - 1]?).getD Btc.none) else y) x
def Rpl.forwarded (x : Rpl) (n : Nt) : Rpl :=
  if n.t = x.la + 1 then if chk n.b.l ≠ 0 then x else ({ x with j := (x.j.load n.b).1 } : Rpl).added n.b
  else if x.la < n.t then x.ask
  else if n.t ≤ x.cl then x.tell
  else x
def Rpl.acked (x : Rpl) (n : Nt) : Rpl := if x.cl < min n.t x.la then x.cleaned (min n.t x.la) else x
def Rpl.side (x : Rpl) (k : Int) : Int × Bool := if k = 0 then befC x.cf x.id else nextC x.cf x.id
def Rpl.receive (x : Rpl) (n : Nt) : Rpl :=
  if n.t = 0 ∨ n.ds ≠ x.id ∨ n.ep ≠ x.cf.e ∨ n.k < 0 ∨ 3 ≤ n.k then x
  else if (x.side n.k).2 = true ∧ (x.side n.k).1 = n.fr then
    if n.k = 0 then x.forwarded n else if n.k = 1 then x.acked n else x.some_ n.fr n.t
  else x
def Rpl.adopt (x : Rpl) (c : Cfg) : Rpl × Int :=
  if chkC c = false ∨ c.e ≤ x.cf.e then (x, 241)
  else
    let y : Rpl := { x with cf := c }
    if placeC c.ms x.id < 0 then (y, 0)
    else ((if (nextC c x.id).2 = true then y else y.cleaned y.la).ask, 0)
def Rpl.tick (x : Rpl) : Rpl :=
  let y := if (nextC x.cf x.id).2 = true then x.some_ (nextC x.cf x.id).1 (x.cl + 1) else x
  (if 0 < y.cl then y.tell else y).ask
def Rpl.new_ (id : Int) (c : Cfg) : Rpl := ⟨id, c, Jd.zero, [], 0, []⟩
end Go.Proofs.YtlhlcdjkacglnaaGreatDoor
/- Rows: slices that are somebody's own, from any place in their block on (x[k:], x[:n:n]); what append and clear make of them. -/
namespace Go.Lap
open Go.RowKit
set_option linter.unusedVariables false

/-- The slice value v is a row of its own (a block from base on), and holds l. -/
def Row {α : Type} (w : World) (base : Nat) (e : TypeId) (size : Nat) (enc : α → List Value) (v : Value) (l : List α) : Prop :=
  (v = .slice none 0 0 ∧ l = []) ∨ ∃ g off cap cur, v = .slice (some ⟨g, off, none⟩) l.length cap ∧ base ≤ g ∧ Blk w g e cur ∧ l.length ≤ cap ∧ cap ≤ maxLen ∧ off + cap * size ≤ cur.size ∧ (cur.toList.drop off).take (l.length * size) = l.flatMap enc

section
variable {α : Type} {enc : α → List Value} {size : Nat} {l m : List α} {w w' : World} {v vx : Value} {base : Nat} {e : TypeId}

theorem Row.nil (w : World) (base : Nat) (e : TypeId) (size : Nat) (enc : α → List Value) : Row w base e size enc (.slice none 0 0) ([] : List α) := .inl ⟨rfl, rfl⟩
theorem Owns.row (h : Owns w base e size enc v l) : Row w base e size enc v l := by
  rcases h.2 with ⟨rfl, hn⟩ | ⟨g, cap, cur, rfl, hg, hh, hnc, hm, hcur, htake⟩
  · exact .inl ⟨rfl, List.eq_nil_of_length_eq_zero hn⟩
  · exact .inr ⟨g, 0, cap, cur, rfl, hg, hh, hnc, hm, by omega, by rw [List.drop_zero]; exact htake⟩
theorem Row.slIn (hE : Enc enc size) (h : Row w base e size enc v l) : SlIn w size enc v l := by
  rcases h with ⟨rfl, rfl⟩ | ⟨g, off, cap, cur, rfl, hg, hh, hnc, hm, hcur, htake⟩
  · exact ⟨none, 0, rfl, Nat.le_refl _, .inl rfl⟩
  · refine ⟨_, cap, rfl, hnc, .inr ⟨g, off, rfl, Blk.lt hh, fun k x hx j u hu => ?_⟩⟩
    have hj : j < size := by rw [← (hE x).1]; exact (List.getElem?_eq_some_iff.1 hu).1
    have h1 := flat_get hE l k x j hx hj
    rw [hu, ← htake, List.getElem?_take] at h1
    split at h1
    · rw [List.getElem?_drop, ← Nat.add_assoc] at h1
      rw [Blk.cell hh]
      simpa using h1
    · cases h1
theorem Row.shape (h : Row w base e size enc v l) : ∃ A c, v = .slice A l.length c := by
  rcases h with ⟨rfl, rfl⟩ | ⟨g, off, cap, cur, rfl, _⟩
  · exact ⟨_, _, rfl⟩
  · exact ⟨_, _, rfl⟩
theorem Row.shp (h : Row w base e size enc v l) : ∃ A n c, v = .slice A n c := by obtain ⟨A, c, h⟩ := h.shape; exact ⟨A, _, c, h⟩
theorem Row.new (h : Row w base e size enc v l) (hn : New w w') : Row w' base e size enc v l := by
  rcases h with h | ⟨g, off, cap, cur, hv, hg, hh, r⟩
  · exact .inl h
  · exact .inr ⟨g, off, cap, cur, hv, hg, hh.new hn, r⟩
theorem Row.upd {S : Nat → Prop} (h : Row w base e size enc v l) (hu : Upd S w w') (hS : ∀ k, v.ownBlock = some k → ¬ S k) : Row w' base e size enc v l := by
  rcases h with h | ⟨g, off, cap, cur, hv, hg, hh, r⟩
  · exact .inl h
  · exact .inr ⟨g, off, cap, cur, hv, hg, hh.upd hu (hS g (by rw [hv]; rfl)), r⟩
theorem Row.lower {b' : Nat} (h : Row w base e size enc v l) (hb : b' ≤ base) : Row w b' e size enc v l := by
  rcases h with h | ⟨g, off, cap, cur, hv, hg, r⟩
  · exact .inl h
  · exact .inr ⟨g, off, cap, cur, hv, by omega, r⟩
theorem Row.lt (h : Row w base e size enc v l) : ∀ k, v.ownBlock = some k → base ≤ k ∧ k < w.heap.size := by
  intro k hk
  rcases h with ⟨rfl, _⟩ | ⟨g, off, cap, cur, rfl, hg, hh, _⟩
  · cases hk
  · cases hk; exact ⟨hg, hh.lt⟩
theorem Row.ne_blk {g t : Nat} {cs : Array Value} (h : Row w base e size enc v l) (hb : Blk w g t cs) (hne : e ≠ t) : v.ownBlock ≠ some g := by
  intro hk
  rcases h with ⟨rfl, _⟩ | ⟨g', off, cap, cur, rfl, hg, hh, _⟩
  · cases hk
  · cases hk; exact Blk.ne_ hh hb hne rfl
/-- x[:k], x[:k:c'] -/
theorem Row.take {A : Option Addr} {n c k c' : Nat} (hE : Enc enc size) (h : Row w base e size enc (.slice A n c) l) (hk : k ≤ l.length) (hkc : k ≤ c') (hc : c' ≤ c) : Row w base e size enc (.slice A k c') (l.take k) := by
  rcases h with ⟨hv, rfl⟩ | ⟨g, off, cap, cur, hv, hg, hh, hnc, hm, hcur, htake⟩
  · injection hv with h1 h2 h3
    subst h1 h2 h3
    have hk0 : k = 0 := by simpa using hk
    subst hk0
    obtain rfl : c' = 0 := by omega
    exact .inl ⟨rfl, rfl⟩
  · injection hv with h1 h2 h3
    subst h1 h2 h3
    have hle : c' * size ≤ c * size := Nat.mul_le_mul_right _ hc
    refine .inr ⟨g, off, c', cur, by rw [List.length_take, Nat.min_eq_left hk], hg, hh, by rw [List.length_take]; omega, by omega, by omega, ?_⟩
    have hs : l.flatMap enc = (l.take k).flatMap enc ++ (l.drop k).flatMap enc := by rw [← List.flatMap_append, List.take_append_drop]
    have hlt := flat_length hE (l.take k)
    have hlk : (l.take k).length = k := by rw [List.length_take, Nat.min_eq_left hk]
    rw [hlk] at hlt ⊢
    have hkk : k * size ≤ l.length * size := Nat.mul_le_mul_right _ hk
    have h2 := congrArg (List.take (k * size)) htake
    rw [hs, List.take_left' hlt, List.take_take, Nat.min_eq_left hkk] at h2
    exact h2

variable {P : Program} {t : TypeId} {z : Value} {bytes : Nat} (w)

theorem SlIn.src (hT : SlTy P t e z size bytes) (hE : Enc enc size) (h : SlIn w size enc vx m) : Src P size t vx m.length (m.flatMap enc) w := by
  obtain ⟨A, c, rfl, _, h⟩ := h
  have hz : ∀ (w' : World), (Builtin.firstCells size 0 (.slice A 0 c)).run P w' = .ok #[] w' := fun w' => by
    cases A with
    | none => exact run_firstCells_none w' size 0 0 c
    | some a => exact run_firstCells_some w' size 0 a 0 c [] (by simp) (fun j u hu => by simp at hu)
  rcases h with rfl | ⟨b, off, rfl, hb, h⟩
  · exact ⟨.inl ⟨_, hT.1⟩, fun _ => rfl, hz w, hz w.drew, by simp, fun u hu => by simp at hu⟩
  · exact Src.ofSlice w hT.1 ⟨b, off, none⟩ m.length c (m.flatMap enc) (flat_length hE m) (SlIn.cells hE hT.2.2.2 h) (flat_one hE m)

/-- append(v, x...) at a row. -/
theorem run_appR (hT : SlTy P t e z size bytes) (hE : Enc enc size) (ty : TypeId) (hown : Row w base e size enc v l) (hsrc : SlIn w size enc vx m)
    (h63 : l.length + m.length ≤ maxLen) (hbytes : (l.length + m.length) * bytes ≤ 140737488355328) (hbase : base ≤ w.heap.size) :
    ∃ v' w', (Builtin.append_ #[t, t] ty #[v, vx]).run P w = .ok v' w' ∧ Row w' base e size enc v' (l ++ m) ∧ w.grownBy w' v.ownBlock ∧ (v'.ownBlock = v.ownBlock ∨ v'.ownBlock = some w.heap.size) := by
  have hs := SlIn.src w hT hE hsrc
  obtain ⟨ht, hinfo, hzs, hsz⟩ := hT
  obtain ⟨i, hi, hii⟩ := Option.map_eq_some_iff.1 hinfo
  simp only [Prod.mk.injEq] at hii
  obtain ⟨hz, hsize, hby⟩ := hii
  subst hsize
  subst hby
  have hsmall : l.length + m.length ≤ 9223372036854775807 := by simp only [maxLen] at h63; omega
  have hlf := flat_length hE l
  have hmf := flat_length hE m
  -- a new row
  have grow : ∀ (bs : Option Addr) (sc : Nat), v = .slice bs l.length sc → sc < l.length + m.length → (Builtin.firstCells i.size l.length (.slice bs l.length sc)).run P w.drew = .ok (l.flatMap enc).toArray w.drew →
      ∃ v' w', (Builtin.append_ #[t, t] ty #[v, vx]).run P w = .ok v' w' ∧ Row w' base e i.size enc v' (l ++ m) ∧ w.grownBy w' v.ownBlock ∧ (v'.ownBlock = v.ownBlock ∨ v'.ownBlock = some w.heap.size) := by
    rintro bs sc rfl hg hold
    have hrun := run_append_grow_src (P := P) w t t ty e i z ht hi hz bs l.length sc (l.flatMap enc) hold vx m.length (m.flatMap enc) hs hg (by omega) (growslice_fits hg hbytes)
    have hge := grownCap_ge w (l.length + m.length) sc e
    refine ⟨_, _, hrun, ?_, ?_, .inr rfl⟩
    · refine .inr ⟨w.heap.size, 0, grownCap w (l.length + m.length) sc e, _, by rw [List.length_append], hbase, Blk.mk_new w.drew _ _, by rw [List.length_append]; exact hge, grownCap_le_maxLen _ _ _ _ h63, ?_, ?_⟩
      · have e1 : (l.length + m.length) * i.size + (grownCap w (l.length + m.length) sc e - (l.length + m.length)) * i.size = grownCap w (l.length + m.length) sc e * i.size := by rw [← Nat.add_mul]; congr 1; omega
        rw [Array.size_append, List.size_toArray, List.length_append, hlf, hmf, size_zeroCells, hzs]
        rw [Nat.add_mul] at e1
        omega
      · rw [List.drop_zero, Array.toList_append, List.flatMap_append, List.take_left']
        rw [List.length_append, List.length_append, hlf, hmf, Nat.add_mul]
    · exact ⟨rfl, rfl, rfl, by simp, fun k hk _ => Below.heap_alloc w.drew _ k hk⟩
  rcases hown with ⟨rfl, rfl⟩ | ⟨g, off, cap, cur, rfl, hg, hh, hnc, hm, hcur, htake⟩
  · by_cases hm0 : m.length = 0
    · have hmn : m = [] := List.eq_nil_of_length_eq_zero hm0
      subst hmn
      refine ⟨.slice none 0 0, w, ?_, .inl ⟨rfl, rfl⟩, World.grownBy.refl w _, .inl rfl⟩
      have c0 : (Builtin.firstCells i.size 0 vx).run P w = .ok #[] w := hs.cells
      have c1 : ∀ w', (Builtin.lenOf vx).run P w' = .ok 0 w' := hs.len
      simp [Builtin.append_, run_underlying ht, sizeOf, typeInfo, hi, c1, c0]
    · exact grow none 0 rfl (by simp; omega) (by simpa using run_firstCells_none w.drew i.size 0 0 0)
  · have hcells : ∀ j u, (l.flatMap enc)[j]? = some u → w.cell? ((⟨g, off, none⟩ : Addr).add j) = some u := by
      intro j u hu
      rw [← htake, List.getElem?_take] at hu
      split at hu
      · rw [List.getElem?_drop] at hu
        have hadd : (⟨g, off, none⟩ : Addr).add j = ⟨g, off + j, none⟩ := by unfold Addr.add; split <;> simp_all
        rw [hadd, hh.cell]
        simpa using hu
      · cases hu
    by_cases hroom : l.length + m.length ≤ cap
    · have hmul : l.length * i.size + m.length * i.size ≤ cap * i.size := by rw [← Nat.add_mul]; exact Nat.mul_le_mul_right _ hroom
      have hst := run_storeCells_at P g (off + l.length * i.size) e (m.flatMap enc) 0 cur w hh (by rw [hmf]; omega) (flat_one hE m)
      simp only [Nat.add_zero] at hst
      have hrun : (Builtin.append_ #[t, t] ty #[.slice (some ⟨g, off, none⟩) l.length cap, vx]).run P w = .ok (.slice (some ⟨g, off, none⟩) (l.length + m.length) cap) (w.setRow g (cur.toList.take (off + l.length * i.size) ++ m.flatMap enc ++ cur.toList.drop (off + l.length * i.size + (m.flatMap enc).length)).toArray) := by
        rcases hs.kind with ⟨e', hk⟩ | hk <;> simp [Builtin.append_, run_underlying ht, sizeOf, typeInfo, hi, hs.len, hroom, hs.cells, Addr.add_lit, hst]
      refine ⟨_, _, hrun, ?_, ?_, .inl rfl⟩
      · have hcl : cur.toList.length = cur.size := Array.length_toList
        refine .inr ⟨g, off, cap, _, by rw [List.length_append], hg, setRow_heap w g _ _ e _ hh, by rw [List.length_append]; exact hroom, hm, ?_, ?_⟩
        · rw [List.size_toArray, List.length_append, List.length_append, List.length_take, List.length_drop, hmf, hcl]
          omega
        · rw [List.length_append, Nat.add_mul, List.flatMap_append]
          have e1 : cur.toList.take (off + l.length * i.size) = cur.toList.take off ++ l.flatMap enc := by rw [List.take_add, htake]
          rw [e1]
          simp only [List.append_assoc]
          rw [List.drop_left' (by rw [List.length_take, hcl]; omega), ← List.append_assoc, List.take_left' (by rw [List.length_append, hlf, hmf])]
      · exact ⟨rfl, rfl, rfl, by simp [World.setRow], fun k _ hk => setRow_other w g k _ (fun hkg => hk (by rw [hkg]; rfl))⟩
    · refine grow _ cap rfl (by omega) ?_
      exact run_firstCells_some w.drew i.size l.length ⟨g, off, none⟩ l.length cap (l.flatMap enc) hlf (by simpa using hcells)

variable {w}
theorem wpList_appR {ops : Array Oper} {rest : List Oper} {o : Oper} {a : Act} {Q : Exit → Act → World → Prop} (hT : SlTy P t e z size bytes) (hE : Enc enc size) (hgd : o.guard = none) (s x : Operand)
    (ho : o.op = .call { callee := .builtin .append, args := #[s, x], argTypes := #[t, t] }) (hs : a.eval s = v) (hx : a.eval x = vx) (hown : Row w base e size enc v l) (hsrc : SlIn w size enc vx m)
    (h63 : l.length + m.length ≤ maxLen) (hbytes : (l.length + m.length) * bytes ≤ 140737488355328) (hbase : base ≤ w.heap.size)
    (h : ∀ v' w', Row w' base e size enc v' (l ++ m) → w.grownBy w' v.ownBlock → (v'.ownBlock = v.ownBlock ∨ v'.ownBlock = some w.heap.size) → wpList P ops Q rest (a.put o.dst v') w') : wpList P ops Q (o :: rest) a w := by
  refine wpList_plain hgd fun K hK => ?_
  obtain ⟨v', w', hrun, h2, h3, h4⟩ := run_appR (P := P) w hT hE o.type hown hsrc h63 hbytes hbase
  unfold Oper.wp execOp
  simp only [ho, resolve, invoke, builtin, Sem.run_bind, Sem.run_pure, Result.andThen_ok, List.map_toArray, List.map_cons, List.map_nil, hs, hx, hrun]
  exact hK _ _ (h v' w' h2 h3 h4)
theorem step_appR {ops : Array Oper} {o : Oper} {a : Act} {K : Act → World → Prop} {Q : Exit → Act → World → Prop} {E : Prop} (hT : SlTy P t e z size bytes) (hE : Enc enc size) (hgd : o.guard = none) (s x : Operand)
    (ho : o.op = .call { callee := .builtin .append, args := #[s, x], argTypes := #[t, t] }) (hs : a.eval s = v) (hx : a.eval x = vx) (hown : Row w base e size enc v l) (hsrc : SlIn w size enc vx m)
    (h63 : l.length + m.length ≤ maxLen) (hbytes : (l.length + m.length) * bytes ≤ 140737488355328) (hbase : base ≤ w.heap.size)
    (h : ∀ v' w', Row w' base e size enc v' (l ++ m) → w.grownBy w' v.ownBlock → (v'.ownBlock = v.ownBlock ∨ v'.ownBlock = some w.heap.size) → K (a.put o.dst v') w') :
    if Region.wanted o (yielded ops a.tmps) = true then Oper.wp P o a w K Q else E := by
  have hw : Region.wanted o (yielded ops a.tmps) = true := by simp [Region.wanted, hgd]
  rw [if_pos hw]
  obtain ⟨v', w', hrun, h2, h3, h4⟩ := run_appR (P := P) w hT hE o.type hown hsrc h63 hbytes hbase
  unfold Oper.wp execOp
  simp only [ho, resolve, invoke, builtin, Sem.run_bind, Sem.run_pure, Result.andThen_ok, List.map_toArray, List.map_cons, List.map_nil, hs, hx, hrun]
  exact h v' w' h2 h3 h4
end
end Go.Lap
/- Rows at a place: append where there is room, clear of what stands behind, a store of an element. -/
namespace Go.Lap
open Go.RowKit
set_option linter.unusedVariables false

/-- Block g holds, from off on, the elements l, and room for cap. -/
def RowAt {α : Type} (w : World) (e : TypeId) (size : Nat) (enc : α → List Value) (g off cap : Nat) (l : List α) : Prop :=
  ∃ cur, Blk w g e cur ∧ l.length ≤ cap ∧ cap ≤ maxLen ∧ off + cap * size ≤ cur.size ∧ (cur.toList.drop off).take (l.length * size) = l.flatMap enc

section
variable {α : Type} {enc : α → List Value} {size : Nat} {l m : List α} {w w' : World} {v vx : Value} {base : Nat} {e : TypeId} {g off cap : Nat}
theorem RowAt.row (h : RowAt w e size enc g off cap l) (hg : base ≤ g) : Row w base e size enc (.slice (some ⟨g, off, none⟩) l.length cap) l := by
  obtain ⟨cur, h1, h2, h3, h4, h5⟩ := h
  exact .inr ⟨g, off, cap, cur, rfl, hg, h1, h2, h3, h4, h5⟩
theorem Row.at_ (h : Row w base e size enc v l) (hne : l ≠ []) : ∃ g off cap, v = .slice (some ⟨g, off, none⟩) l.length cap ∧ base ≤ g ∧ RowAt w e size enc g off cap l := by
  rcases h with ⟨_, h⟩ | ⟨g, off, cap, cur, hv, hg, h1, h2, h3, h4, h5⟩
  · exact absurd h hne
  · exact ⟨g, off, cap, hv, hg, cur, h1, h2, h3, h4, h5⟩
theorem RowAt.lt (h : RowAt w e size enc g off cap l) : g < w.heap.size := let ⟨_, h1, _⟩ := h; Blk.lt h1
theorem RowAt.len (h : RowAt w e size enc g off cap l) : l.length ≤ cap ∧ cap ≤ maxLen := let ⟨_, _, h1, h2, _⟩ := h; ⟨h1, h2⟩
theorem RowAt.new (h : RowAt w e size enc g off cap l) (hn : New w w') : RowAt w' e size enc g off cap l := by
  obtain ⟨cur, h1, h2⟩ := h
  exact ⟨cur, h1.new hn, h2⟩
theorem RowAt.upd {S : Nat → Prop} (h : RowAt w e size enc g off cap l) (hu : Upd S w w') (hS : ¬ S g) : RowAt w' e size enc g off cap l := by
  obtain ⟨cur, h1, h2⟩ := h
  exact ⟨cur, h1.upd hu hS, h2⟩
theorem RowAt.frozen (h : RowAt w e size enc g off cap l) (i : Nat) : w.frozen? ⟨g, i, none⟩ = false := let ⟨_, h1, _⟩ := h; Blk.frozen h1 i
theorem RowAt.cell (hE : Enc enc size) (h : RowAt w e size enc g off cap l) {k : Nat} {x : α} (hx : l[k]? = some x) {j : Nat} {u : Value} (hu : (enc x)[j]? = some u) : w.cell? ⟨g, off + k * size + j, none⟩ = some u := by
  obtain ⟨A, c, hv, _, hor⟩ := Row.slIn hE (h.row (Nat.zero_le _))
  rcases hor with hor | ⟨b, o, hA, hb, hc⟩
  · rw [hor] at hx; simp at hx
  · cases hv
    cases hA
    exact hc k x hx j u hu
theorem RowAt.take (hE : Enc enc size) (h : RowAt w e size enc g off cap l) {k : Nat} (hk : k ≤ l.length) : RowAt w e size enc g off cap (l.take k) := by
  obtain ⟨cur, h1, h2, h3, h4, h5⟩ := h
  refine ⟨cur, h1, by rw [List.length_take]; omega, h3, h4, ?_⟩
  have hs : l.flatMap enc = (l.take k).flatMap enc ++ (l.drop k).flatMap enc := by rw [← List.flatMap_append, List.take_append_drop]
  have hlt := flat_length hE (l.take k)
  have hlk : (l.take k).length = k := by rw [List.length_take, Nat.min_eq_left hk]
  rw [hlk] at hlt ⊢
  have hkk : k * size ≤ l.length * size := Nat.mul_le_mul_right _ hk
  have h2 := congrArg (List.take (k * size)) h5
  rw [hs, List.take_left' hlt, List.take_take, Nat.min_eq_left hkk] at h2
  exact h2

variable {P : Program} {t : TypeId} {z : Value} {bytes : Nat}
/-- append where there is room. -/
theorem run_appRoom (hT : SlTy P t e z size bytes) (hE : Enc enc size) (ty : TypeId) (h : RowAt w e size enc g off cap l) (hsrc : SlIn w size enc vx m) (hroom : l.length + m.length ≤ cap) :
    ∃ w', (Builtin.append_ #[t, t] ty #[.slice (some ⟨g, off, none⟩) l.length cap, vx]).run P w = .ok (.slice (some ⟨g, off, none⟩) (l.length + m.length) cap) w' ∧ RowAt w' e size enc g off cap (l ++ m) ∧ Upd (· = g) w w' ∧ w'.heap.size = w.heap.size := by
  have hs := SlIn.src w hT hE hsrc
  obtain ⟨ht, hinfo, hzs, hsz⟩ := hT
  obtain ⟨i, hi, hii⟩ := Option.map_eq_some_iff.1 hinfo
  simp only [Prod.mk.injEq] at hii
  obtain ⟨hz, hsize, hby⟩ := hii
  subst hsize
  subst hby
  have hlf := flat_length hE l
  have hmf := flat_length hE m
  obtain ⟨cur, hh, hnc, hm, hcur, htake⟩ := h
  have hmul : l.length * i.size + m.length * i.size ≤ cap * i.size := by rw [← Nat.add_mul]; exact Nat.mul_le_mul_right _ hroom
  have hst := run_storeCells_at P g (off + l.length * i.size) e (m.flatMap enc) 0 cur w hh (by rw [hmf]; omega) (flat_one hE m)
  simp only [Nat.add_zero] at hst
  have hrun : (Builtin.append_ #[t, t] ty #[.slice (some ⟨g, off, none⟩) l.length cap, vx]).run P w = .ok (.slice (some ⟨g, off, none⟩) (l.length + m.length) cap) (w.setRow g (cur.toList.take (off + l.length * i.size) ++ m.flatMap enc ++ cur.toList.drop (off + l.length * i.size + (m.flatMap enc).length)).toArray) := by
    rcases hs.kind with ⟨e', hk⟩ | hk <;> simp [Builtin.append_, run_underlying ht, sizeOf, typeInfo, hi, hs.len, hroom, hs.cells, Addr.add_lit, hst]
  have hcl : cur.toList.length = cur.size := Array.length_toList
  refine ⟨_, hrun, ⟨_, setRow_heap w g _ _ e _ hh, by rw [List.length_append]; exact hroom, hm, ?_, ?_⟩, ⟨rfl, rfl, rfl, by simp [World.setRow], fun k _ hk => setRow_other w g k _ hk⟩, by simp [World.setRow]⟩
  · rw [List.size_toArray, List.length_append, List.length_append, List.length_take, List.length_drop, hmf, hcl]
    omega
  · rw [List.length_append, Nat.add_mul, List.flatMap_append]
    have e1 : cur.toList.take (off + l.length * i.size) = cur.toList.take off ++ l.flatMap enc := by rw [List.take_add, htake]
    rw [e1]
    simp only [List.append_assoc]
    rw [List.drop_left' (by rw [List.length_take, hcl]; omega), ← List.append_assoc, List.take_left' (by rw [List.length_append, hlf, hmf])]
theorem step_appRoom {ops : Array Oper} {o : Oper} {a : Act} {K : Act → World → Prop} {Q : Exit → Act → World → Prop} {E : Prop} (hT : SlTy P t e z size bytes) (hE : Enc enc size) (hgd : o.guard = none) (s x : Operand)
    (ho : o.op = .call { callee := .builtin .append, args := #[s, x], argTypes := #[t, t] }) {n n' : Nat} (hs : a.eval s = .slice (some ⟨g, off, none⟩) n cap) (hn : n = l.length) (hn' : (l ++ m).length = n') (hx : a.eval x = vx) (hrow : RowAt w e size enc g off cap l) (hsrc : SlIn w size enc vx m) (hroom : l.length + m.length ≤ cap)
    (h : ∀ w', RowAt w' e size enc g off cap (l ++ m) → Upd (· = g) w w' → w'.heap.size = w.heap.size → K (a.put o.dst (.slice (some ⟨g, off, none⟩) n' cap)) w') :
    if Region.wanted o (yielded ops a.tmps) = true then Oper.wp P o a w K Q else E := by
  have hw : Region.wanted o (yielded ops a.tmps) = true := by simp [Region.wanted, hgd]
  rw [if_pos hw]
  subst hn hn'
  rw [List.length_append] at h
  obtain ⟨w', hrun, h2, h3, h4⟩ := run_appRoom (P := P) hT hE o.type hrow hsrc hroom
  unfold Oper.wp execOp
  simp only [ho, resolve, invoke, builtin, Sem.run_bind, Sem.run_pure, Result.andThen_ok, List.map_toArray, List.map_cons, List.map_nil, hs, hx, hrun]
  exact h w' h2 h3 h4

/-- clear(s[k:]) leaves the row that ends ahead of k as it is. -/
theorem run_clearR (ht : P.underlying t = some (.slice e)) (hv : ∀ w, (zeroValue e).run P w = .ok z w) (hzs : z.cells.size = size) (hz1 : ∀ u ∈ z.cells.toList, u.oneCell' = true) (ty : TypeId) (h : RowAt w e size enc g off cap l) (hE : Enc enc size) {k n c : Nat} (hk : l.length ≤ k) (hn : k + n ≤ cap) :
    ∃ w', (Builtin.clear_ #[t] ty #[.slice (some ⟨g, off + k * size, none⟩) n c]).run P w = .ok (.tuple #[]) w' ∧ RowAt w' e size enc g off cap l ∧ Upd (· = g) w w' ∧ w'.heap.size = w.heap.size := by
  obtain ⟨cur, hh, hnc, hm, hcur, htake⟩ := h
  cases n with
  | zero => exact ⟨w, by simp [Builtin.clear_, run_underlying ht], ⟨cur, hh, hnc, hm, hcur, htake⟩, Upd.refl _ _, rfl⟩
  | succ n =>
    have hzl : (Builtin.zeroCells z.cells (n + 1)).toList.length = (n + 1) * size := by rw [Array.length_toList, size_zeroCells, hzs]
    have hmul : k * size + (n + 1) * size ≤ cap * size := by rw [← Nat.add_mul]; exact Nat.mul_le_mul_right _ hn
    have hone : ∀ u ∈ (Builtin.zeroCells z.cells (n + 1)).toList, u.oneCell' = true := by
      intro u hu
      unfold Builtin.zeroCells at hu
      simp only [Array.toList_map, Array.toList_range, List.mem_map, List.mem_range] at hu
      obtain ⟨i, hi, rfl⟩ := hu
      have hpos : 0 < z.cells.size := by
        rcases Nat.eq_zero_or_pos z.cells.size with h0 | h0
        · rw [h0] at hi; simp at hi
        · exact h0
      have hlt : i % z.cells.size < z.cells.size := Nat.mod_lt _ hpos
      rw [getElem!_pos z.cells _ hlt]
      exact hz1 _ (by simp)
    have hst := run_storeCells_at P g (off + k * size) e (Builtin.zeroCells z.cells (n + 1)).toList 0 cur w hh (by rw [hzl]; omega) hone
    simp only [Nat.add_zero] at hst
    have hcl : cur.toList.length = cur.size := Array.length_toList
    have hlk : l.length * size ≤ k * size := Nat.mul_le_mul_right _ hk
    refine ⟨_, by simp [Builtin.clear_, run_underlying ht, hv, hst]; rfl, ⟨_, setRow_heap w g _ _ e _ hh, hnc, hm, ?_, ?_⟩, ⟨rfl, rfl, rfl, by simp [World.setRow], fun k _ hk => setRow_other w g k _ hk⟩, by simp [World.setRow]⟩
    · have hz2 : (Builtin.zeroCells z.cells (n + 1)).size = (n + 1) * size := by rw [size_zeroCells, hzs]
      simp only [List.size_toArray, List.length_append, List.length_take, List.length_drop, Array.length_toList, hz2]
      omega
    · rw [← htake]
      rw [List.drop_append_of_le_length (by rw [List.length_take, hcl]; omega), List.take_append_of_le_length (by rw [List.length_drop, List.length_take, hcl]; omega), List.drop_take, List.take_take]
      congr 1
      omega
theorem wpList_clearR {ops : Array Oper} {rest : List Oper} {o : Oper} {a : Act} {Q : Exit → Act → World → Prop} (ht : P.underlying t = some (.slice e)) (hv : ∀ w, (zeroValue e).run P w = .ok z w) (hzs : z.cells.size = size) (hz1 : ∀ u ∈ z.cells.toList, u.oneCell' = true) (hE : Enc enc size) (hgd : o.guard = none) (s : Operand)
    (ho : o.op = .call { callee := .builtin .clear, args := #[s], argTypes := #[t] }) {k n c : Nat} (hs : a.eval s = .slice (some ⟨g, off + k * size, none⟩) n c) (hrow : RowAt w e size enc g off cap l) (hk : l.length ≤ k) (hn : k + n ≤ cap)
    (h : ∀ w', RowAt w' e size enc g off cap l → Upd (· = g) w w' → w'.heap.size = w.heap.size → wpList P ops Q rest (a.put o.dst (.tuple #[])) w') : wpList P ops Q (o :: rest) a w := by
  refine wpList_plain hgd fun K hK => ?_
  obtain ⟨w', hrun, h2, h3, h4⟩ := run_clearR (P := P) ht hv hzs hz1 o.type hrow hE (c := c) hk hn
  unfold Oper.wp execOp
  simp only [ho, resolve, invoke, builtin, Sem.run_bind, Sem.run_pure, Result.andThen_ok, List.map_toArray, List.map_cons, List.map_nil, hs, hrun]
  exact hK _ _ (h w' h2 h3 h4)

end
end Go.Lap
/- Maps, whatever their elements: a map's block as a function from keys to values. -/
namespace Go.Lap
open Go Go.RowKit
set_option linter.unusedVariables false
set_option linter.unusedSectionVars false

/-- An element read as itself. -/
def rawR (v : Value) : Option (DataW Value × List MemPlace) := some (.held v, [])

/-- A key's type: how its keys read, which keys there are. -/
structure KeyB (P : Program) (kt : TypeId) {κ : Type} (val : κ → Value) (lit : κ → Lit) (ok : κ → Prop) : Prop where
  keyed : Maps.Keyed P kt
  read : ∀ k, ok k → keyOf P kt (val k) = some (lit k)
  ne : ∀ a b, ok a → ok b → a ≠ b → lit a ≠ lit b

theorem keyI {P : Program} {kt : TypeId} (hk : P.underlying kt = some (.int .i64)) : KeyB P kt (fun n : Int => .int .i64 n) (fun n => .int .i64 n) (fun n => (Lit.int .i64 n).wf = true) where
  keyed := Maps.int_keyed hk
  read := fun k h => Maps.keyOf_int_mk hk h
  ne := fun a b _ _ h e => h (by injection e)
theorem keyU {P : Program} {kt : TypeId} (hk : P.underlying kt = some (.int .u64)) : KeyB P kt (fun n : Nat => .int .u64 (n : Int)) (fun n => .int .u64 (n : Int)) (fun n => (Lit.int .u64 (n : Int)).wf = true) where
  keyed := Maps.int_keyed hk
  read := fun k h => Maps.keyOf_int_mk hk h
  ne := fun a b _ _ h e => h (by injection e with _ e; omega)

theorem ownsMap_tight {P : Program} {k : TypeId} {R : Value → Option (DataW Value × List MemPlace)} {w : World} {b n : Nat} {D : DataW Value} (h : w.ownsMap P k R b n D) : w.ownsMap P k R b (Maps.size D) D := by
  obtain ⟨es, clock, hb, F, hs, rfl⟩ := h
  exact ⟨es, clock, hb, F, by rw [Maps.size_eq, length_sorted]; simp, rfl⟩

section
variable {P : Program} {kt : TypeId} {κ : Type} [DecidableEq κ] {val : κ → Value} {lit : κ → Lit} {ok : κ → Prop}

/-- Block b is a map of m entries that holds f. -/
def MpAt (P : Program) (kt : TypeId) (lit : κ → Lit) (ok : κ → Prop) (w : World) (b m : Nat) (f : κ → Option Value) : Prop :=
  ∃ D : DataW Value, w.ownsMap P kt rawR b m D ∧ Maps.Tidy D ∧ Maps.size D = m ∧ ∀ k, ok k → Maps.has D (lit k) = (f k).isSome ∧ ∀ v, f k = some v → ∀ z, D.atKey (lit k) z = .held v

variable {w w' : World} {b m : Nat} {f : κ → Option Value}
theorem MpAt.lt (h : MpAt P kt lit ok w b m f) : b < w.heap.size := let ⟨_, h1, _⟩ := h; h1.lt
theorem MpAt.upd {S : Nat → Prop} (h : MpAt P kt lit ok w b m f) (hu : Upd S w w') (hS : ¬ S b) : MpAt P kt lit ok w' b m f := by
  have hlt := h.lt
  obtain ⟨D, h1, h2⟩ := h
  obtain ⟨es, clock, hb, F, hs, hD⟩ := h1
  exact ⟨D, ⟨es, clock, (hu.block b hlt hS).trans hb, F, hs, hD⟩, h2⟩
theorem MpAt.new (h : MpAt P kt lit ok w b m f) (hn : New w w') : MpAt P kt lit ok w' b m f := h.upd (S := fun _ => False) (Upd.new hn) (fun x => x)
theorem MpAt.congr {g : κ → Option Value} (h : MpAt P kt lit ok w b m f) (hfg : ∀ k, ok k → f k = g k) : MpAt P kt lit ok w b m g := by
  obtain ⟨D, h1, h2, h3, h4⟩ := h
  exact ⟨D, h1, h2, h3, fun k hk => by rw [← hfg k hk]; exact h4 k hk⟩
/-- make(map[K]V): nothing is there. -/
theorem MpAt.made (P : Program) (kt : TypeId) (lit : κ → Lit) (ok : κ → Prop) (w : World) : MpAt P kt lit ok (w.alloc (.map #[] 0)) w.heap.size 0 (fun _ => none) :=
  ⟨.map [], World.ownsMap_made w P kt rawR, Maps.tidy_empty, rfl, fun k _ => ⟨rfl, fun v h => by cases h⟩⟩

theorem MpAt.value (h : MpAt P kt lit ok w b m f) {D : DataW Value} {k : κ} {z v : Value} {ps : List MemPlace} (hD : Maps.has D (lit k) = (f k).isSome ∧ ∀ v, f k = some v → ∀ z, D.atKey (lit k) z = .held v)
    (hv : rawR v = some (D.atKey (lit k) (.held z), ps)) : v = (f k).getD z := by
  unfold rawR at hv
  injection hv with hv
  injection hv with hv _
  cases hf : f k with
  | some u =>
    rw [hD.2 u hf] at hv
    injection hv
  | none =>
    have h0 : Maps.has D (lit k) = false := by rw [hD.1, hf]; rfl
    rw [Maps.atKey_of_not_has h0] at hv
    injection hv

variable {ops : Array Oper} {rest : List Oper} {o : Oper} {a : Act} {Q : Exit → Act → World → Prop}
/-- 'v, ok := m[k]'. -/
theorem wpList_mp_ok (B : KeyB P kt val lit ok) (hg : o.guard = none) (mo x : Operand) (t e : TypeId) (hop : o.op = Op.lookup t mo x true) (ht : P.underlying t = some (.map kt e)) {z : Value} (hz : (zeroValue e).run P w = .ok z w)
    (hm : a.eval mo = .map (some b)) (h : MpAt P kt lit ok w b m f) (k : κ) (hk : ok k) (hx : a.eval x = val k)
    (hK : wpList P ops Q rest (a.put o.dst (.tuple #[(f k).getD z, .bool (f k).isSome])) w) : wpList P ops Q (o :: rest) a w := by
  obtain ⟨D, h1, h2, h3, h4⟩ := id h
  refine wpList_lookup_own_ok w hg mo x t hop kt e B.keyed ht rawR hz (.held z) [] rfl b m D hm h1 (val k) (lit k) hx (B.read k hk) ?_
  intro v ps hv
  rw [h.value (h4 k hk) hv, (h4 k hk).1]
  exact hK
/-- 'm[k]'. -/
theorem wpList_mp_at (B : KeyB P kt val lit ok) (hg : o.guard = none) (mo x : Operand) (t e : TypeId) (hop : o.op = Op.lookup t mo x false) (ht : P.underlying t = some (.map kt e)) {z : Value} (hz : (zeroValue e).run P w = .ok z w)
    (hm : a.eval mo = .map (some b)) (h : MpAt P kt lit ok w b m f) (k : κ) (hk : ok k) (hx : a.eval x = val k)
    (hK : wpList P ops Q rest (a.put o.dst ((f k).getD z)) w) : wpList P ops Q (o :: rest) a w := by
  obtain ⟨D, h1, h2, h3, h4⟩ := id h
  refine wpList_plain hg fun K' hK' => ?_
  obtain ⟨v, ps, hrun, hv⟩ := h1.lookup B.keyed ht hz (zd := .held z) (zp := []) rfl (B.read k hk)
  rw [h.value (h4 k hk) hv] at hrun
  unfold Oper.wp
  simp [execOp, hop, hm, hx, hrun, Result.andThen]
  exact hK' _ _ hK
/-- One more entry, or another one. -/
theorem MpAt.put_of (B : KeyB P kt val lit ok) (h : MpAt P kt lit ok w b m f) {k : κ} (hk : ok k) (v : Value) {D : DataW Value} (hD : Maps.Tidy D) (hs : Maps.size D = m) (h4 : ∀ k, ok k → Maps.has D (lit k) = (f k).isSome ∧ ∀ v, f k = some v → ∀ z, D.atKey (lit k) z = .held v)
    {n : Nat} (h1 : w'.ownsMap P kt rawR b n (D.put (lit k) (.held v))) : MpAt P kt lit ok w' b (if (f k).isSome then m else m + 1) (fun j => if j = k then some v else f j) := by
  have hl := B.keyed.key (B.read k hk)
  have hsz : Maps.size (D.put (lit k) (.held v)) = if (f k).isSome then m else m + 1 := by rw [Maps.size_put hD, (h4 k hk).1, hs]
  refine ⟨_, by rw [← hsz]; exact ownsMap_tight h1, hD.put hl _, hsz, fun j hj => ?_⟩
  by_cases hjk : j = k
  · subst hjk
    dsimp only
    rw [if_pos rfl]
    exact ⟨by rw [Maps.has_put_same hD.isMap hl]; rfl, fun u hu z => by cases hu; exact Maps.atKey_put_same hD.isMap hl _ _⟩
  · have hne := B.ne j k hj hk hjk
    dsimp only
    rw [if_neg hjk]
    exact ⟨by rw [Maps.has_put_other hne]; exact (h4 j hj).1, fun u hu z => by rw [Maps.atKey_put_other hne]; exact (h4 j hj).2 u hu z⟩
/-- 'm[k] = v'. -/
theorem wpList_mp_put (B : KeyB P kt val lit ok) (hg : o.guard = none) (mo x vo : Operand) (t e : TypeId) (hop : o.op = Op.mapUpdate t mo x vo) (ht : P.underlying t = some (.map kt e))
    (hm : a.eval mo = .map (some b)) (h : MpAt P kt lit ok w b m f) (hmx : m < maxLen) (k : κ) (hk : ok k) (hx : a.eval x = val k) (v : Value) (hv : a.eval vo = v)
    (hK : ∀ w', MpAt P kt lit ok w' b (if (f k).isSome then m else m + 1) (fun j => if j = k then some v else f j) → w.grownBy w' (some b) → wpList P ops Q rest (a.put o.dst undef) w') : wpList P ops Q (o :: rest) a w := by
  obtain ⟨D, h1, h2, h3, h4⟩ := id h
  refine wpList_mapUpdate_own w hg mo x vo t hop kt e B.keyed ht rawR b m D hm h1 hmx (val k) v (lit k) hx hv (B.read k hk) (.held v) [] rfl ?_
  intro w' h1' hg'
  exact hK w' (h.put_of B hk v h2 h3 h4 h1') hg'
/-- 'delete(m, k)'. -/
theorem wpList_mp_del (B : KeyB P kt val lit ok) (hg : o.guard = none) (mo x : Operand) (t e : TypeId) (hop : o.op = Op.call { callee := Callee.builtin Builtin.delete, args := #[mo, x], argTypes := #[t, kt] }) (ht : P.underlying t = some (.map kt e))
    (hm : a.eval mo = .map (some b)) (h : MpAt P kt lit ok w b m f) (k : κ) (hk : ok k) (hx : a.eval x = val k)
    (hK : ∀ w', MpAt P kt lit ok w' b (if (f k).isSome then m - 1 else m) (fun j => if j = k then none else f j) → w.grownBy w' (some b) → wpList P ops Q rest (a.put o.dst (.tuple #[])) w') : wpList P ops Q (o :: rest) a w := by
  obtain ⟨D, h1, h2, h3, h4⟩ := id h
  refine wpList_delete_own w hg mo x t kt hop e B.keyed ht rawR b m D hm h1 (val k) (lit k) hx (B.read k hk) ?_
  intro w' h1' hg'
  have hsz : Maps.size (D.del (lit k)) = if (f k).isSome then m - 1 else m := by
    have := Maps.size_del (k := lit k) h2
    rw [(h4 k hk).1, h3] at this
    split at this <;> simp_all <;> omega
  refine hK w' ⟨_, by rw [← hsz]; exact ownsMap_tight h1', h2.del _, hsz, fun j hj => ?_⟩ hg'.grown
  by_cases hjk : j = k
  · subst hjk
    dsimp only
    rw [if_pos rfl]
    exact ⟨by rw [Maps.has_del_same]; rfl, fun u hu => by cases hu⟩
  · have hne := B.ne j k hj hk hjk
    dsimp only
    rw [if_neg hjk]
    exact ⟨by rw [Maps.has_del_other hne]; exact (h4 j hj).1, fun u hu z => by rw [Maps.atKey_del_other hne]; exact (h4 j hj).2 u hu z⟩
end
end Go.Lap
/- Maps, whatever their elements: range over a map, and how many entries there are. -/
namespace Go.Lap
open Go Go.RowKit
set_option linter.unusedVariables false
set_option linter.unusedSectionVars false

/-- Every key of the type is one of ours. -/
structure KeyI (P : Program) (kt : TypeId) {κ : Type} (val : κ → Value) (lit : κ → Lit) (ok : κ → Prop) : Prop extends KeyB P kt val lit ok where
  inv : ∀ key kl, keyOf P kt key = some kl → ∃ x, ok x ∧ key = val x ∧ kl = lit x

theorem keyUI {P : Program} {kt : TypeId} (hk : P.underlying kt = some (.int .u64)) : KeyI P kt (fun n : Nat => .int .u64 (n : Int)) (fun n => .int .u64 (n : Int)) (fun n => (Lit.int .u64 (n : Int)).wf = true) where
  toKeyB := keyU hk
  inv := fun key kl h => by
    obtain ⟨x, rfl, rfl, hw⟩ := Maps.keyOf_int_inv hk h
    have hx : 0 ≤ x := by simp [Lit.wf, IntKind.min, IntKind.signed] at hw; omega
    obtain ⟨n, rfl⟩ : ∃ n : Nat, x = (n : Int) := ⟨x.toNat, by omega⟩
    exact ⟨n, hw, rfl, rfl⟩
theorem keyOf_str {P : Program} {kt : TypeId} (hk : P.underlying kt = some .string) {s : ByteArray} (h : s.size ≤ maxLen) : keyOf P kt (.string s) = some (.string s.data.toList) := by
  simp [keyOf, hk, mapKey, h]
theorem keySI {P : Program} {kt : TypeId} (hk : P.underlying kt = some .string) : KeyI P kt (fun s : ByteArray => .string s) (fun s => .string s.data.toList) (fun s => s.size ≤ maxLen) where
  toKeyB := { keyed := Maps.string_keyed hk, read := fun k h => keyOf_str hk h, ne := fun a b _ _ hne e => hne (by
    injection e with e
    have : a.data = b.data := Array.toList_inj.1 e
    cases a; cases b; simp_all) }
  inv := fun key kl h => by
    cases key <;> simp [keyOf, hk, mapKey] at h
    obtain ⟨hs, rfl⟩ := h
    exact ⟨_, hs, rfl, rfl⟩

section
variable {P : Program} {kt : TypeId} {κ : Type} [DecidableEq κ] {val : κ → Value} {lit : κ → Lit} {ok : κ → Prop}
variable {w w' : World} {b m : Nat} {f : κ → Option Value}

variable {ops : Array Oper} {rest : List Oper} {o : Oper} {a : Act} {Q : Exit → Act → World → Prop}
end
end Go.Lap
/- Chapters 19 and 24 in memory: typed slices that nobody writes again, batches, notes, a judge, a replica. -/
namespace Go.Proofs.YtlhlcdjkacglnaaGreatDoor
open Go.RowKit Go.Lap C
set_option linter.unusedVariables false

/-- The slice value v reads as l, and lies in a block of the element type e. -/
def TSl {α : Type} (w : World) (e : TypeId) (size : Nat) (enc : α → List Value) (v : Value) (l : List α) : Prop :=
  ∃ A c, v = .slice A l.length c ∧ l.length ≤ c ∧ (l = [] ∨ ∃ b off cs, A = some ⟨b, off, none⟩ ∧ Blk w b e cs ∧ ∀ k x, l[k]? = some x → ∀ j u, (enc x)[j]? = some u → cs[off + k * size + j]? = some u)
/-- None of these blocks is of the type e. -/
def Off (w : World) (e : TypeId) (S : Nat → Prop) : Prop := ∀ b cs, Blk w b e cs → ¬ S b
section
variable {α : Type} {w w' : World} {e size base : Nat} {enc : α → List Value} {v : Value} {l : List α} {S T : Nat → Prop}
theorem TSl.slIn (h : TSl w e size enc v l) : SlIn w size enc v l := by
  obtain ⟨A, c, rfl, hc, h⟩ := h
  refine ⟨A, c, rfl, hc, ?_⟩
  rcases h with h | ⟨b, off, cs, rfl, hb, h⟩
  · exact .inl h
  · exact .inr ⟨b, off, rfl, hb.lt, fun k x hx j u hu => (hb.cell _).trans (h k x hx j u hu)⟩
theorem TSl.upd (h : TSl w e size enc v l) (hu : Upd S w w') (hS : Off w e S) : TSl w' e size enc v l := by
  obtain ⟨A, c, rfl, hc, h⟩ := h
  refine ⟨A, c, rfl, hc, ?_⟩
  rcases h with h | ⟨b, off, cs, rfl, hb, h⟩
  · exact .inl h
  · exact .inr ⟨b, off, cs, rfl, hb.upd hu (hS b cs hb), h⟩
theorem Off.no (w : World) (e : TypeId) : Off w e (fun _ => False) := fun _ _ _ h => h
theorem TSl.new (h : TSl w e size enc v l) (hn : New w w') : TSl w' e size enc v l := h.upd (Upd.new hn) (Off.no w e)
theorem TSl.nil (w : World) (e : TypeId) (size : Nat) (enc : α → List Value) (A : Option Addr) (c : Nat) : TSl w e size enc (.slice A 0 c) ([] : List α) := ⟨A, c, rfl, Nat.zero_le _, .inl rfl⟩
theorem TSl.shape (h : TSl w e size enc v l) : ∃ A c, v = .slice A l.length c := let ⟨A, c, hv, _⟩ := h; ⟨A, c, hv⟩
theorem Row.tsl (hE : Enc enc size) (h : Row w base e size enc v l) : TSl w e size enc v l := by
  rcases h with ⟨rfl, rfl⟩ | ⟨g, off, cap, cur, rfl, hg, hh, hnc, hm, hcur, htake⟩
  · exact ⟨none, 0, rfl, Nat.le_refl _, .inl rfl⟩
  · refine ⟨_, cap, rfl, hnc, .inr ⟨g, off, cur, rfl, hh, fun k x hx j u hu => ?_⟩⟩
    have hj : j < size := by rw [← (hE x).1]; exact (List.getElem?_eq_some_iff.1 hu).1
    have h1 := flat_get hE l k x j hx hj
    rw [hu, ← htake, List.getElem?_take] at h1
    split at h1
    · rw [List.getElem?_drop, ← Nat.add_assoc] at h1
      simpa using h1
    · cases h1
theorem Off.row {β : Type} {e2 s2 b2 : Nat} {enc2 : β → List Value} {v2 : Value} {l2 : List β} (h : Row w b2 e2 s2 enc2 v2 l2) (hne : e2 ≠ e) : Off w e (fun k => v2.ownBlock = some k) := fun b cs hb hk => h.ne_blk hb hne hk
theorem Off.blk {t g : Nat} {cs : Array Value} (h : Blk w g t cs) (hne : t ≠ e) : Off w e (· = g) := fun b cs' hb hk => Blk.ne_ hb h (fun h => hne h.symm) hk
theorem Off.map {P : Program} {kt : TypeId} {κ : Type} {lit : κ → Lit} {ok : κ → Prop} {b m : Nat} {f : κ → Option Value} (h : MpAt P kt lit ok w b m f) : Off w e (· = b) := fun b' cs hb hk => by
  subst hk
  obtain ⟨D, ⟨es, clock, hb2, _⟩, _⟩ := h
  unfold Blk at hb
  rw [hb] at hb2
  cases hb2
theorem Off.or (h1 : Off w e S) (h2 : Off w e T) : Off w e (fun k => S k ∨ T k) := fun b cs hb hk => hk.elim (h1 b cs hb) (h2 b cs hb)
end
theorem keepR {w w' : World} {S : Nat → Prop} (hu : Upd S w w') {b : Nat} (hb : b < w.heap.size) (hS : ¬ S b) (o : Nat) : w'.cell? ⟨b, o, none⟩ = w.cell? ⟨b, o, none⟩ := World.cell?_of_block (hu.block b hb hS)
theorem Blk.ne_map {P : Program} {kt : TypeId} {κ : Type} {lit : κ → Lit} {ok : κ → Prop} {w : World} {g b m : Nat} {t : TypeId} {cs : Array Value} {f : κ → Option Value} (h : Blk w g t cs) (hm : MpAt P kt lit ok w b m f) : g ≠ b := by
  rintro rfl
  obtain ⟨D, ⟨es, clock, hb, _⟩, _⟩ := hm
  unfold Blk at h
  rw [h] at hb
  cases hb
theorem Row.ne_map {α : Type} {enc : α → List Value} {size base : Nat} {e : TypeId} {v : Value} {l : List α} {P : Program} {kt : TypeId} {κ : Type} {lit : κ → Lit} {ok : κ → Prop} {w : World} {b m : Nat} {f : κ → Option Value} (h : Row w base e size enc v l) (hm : MpAt P kt lit ok w b m f) : v.ownBlock ≠ some b := by
  intro hk
  rcases h with ⟨rfl, _⟩ | ⟨g, off, cap, cur, rfl, _, hh, _⟩
  · cases hk
  · cases hk; exact Blk.ne_map hh hm rfl
theorem Row.ne_row {α β : Type} {e1 : α → List Value} {e2 : β → List Value} {w : World} {b1 b2 s1 s2 : Nat} {t1 t2 : TypeId} {v1 v2 : Value} {l1 : List α} {l2 : List β} (h1 : Row w b1 t1 s1 e1 v1 l1) (h2 : Row w b2 t2 s2 e2 v2 l2) (hne : t1 ≠ t2) {k : Nat} (hk : v1.ownBlock = some k) : v2.ownBlock ≠ some k := by
  intro hk2
  rcases h2 with ⟨rfl, _⟩ | ⟨g, off, cap, cur, rfl, _, hh, _⟩
  · cases hk2
  · cases hk2; exact h1.ne_blk hh hne hk

def big : Nat := 18446744073709551616
/-- A batch in a slice: it, and where its writes lie. -/
structure BtV where
  b : Btc
  A : Option Addr
  c : Nat
def BtV.sl (x : BtV) : Value := .slice x.A x.b.l.length x.c
def BtV.enc (x : BtV) : List Value := [.int .u64 (x.b.c : Int), .int .u64 (x.b.r : Int), .int .u64 (x.b.s : Int), x.sl]
theorem BtV.encOk : Enc BtV.enc 4 := fun x => ⟨rfl, by simp [BtV.enc, BtV.sl, Value.oneCell']⟩
def BtV.val (x : BtV) : Value := batV x.b.c x.b.r x.b.s x.sl
def BtV.nil : BtV := ⟨Btc.none, none, 0⟩
/-- A batch that is no longer than what memory takes. -/
structure Btc.Ok (b : Btc) : Prop where
  c : b.c < big
  r : b.r < big
  s : b.s < big
  l : b.l.length ≤ 1000
theorem Btc.none_ok : Btc.none.Ok := ⟨by decide, by decide, by decide, by decide⟩
structure BtAt (w : World) (x : BtV) : Prop where
  sl : TSl w 34 3 Wri.enc x.sl x.b.l
  ok : x.b.Ok
theorem btTy : SlTy Tryz.prog 43 82 (.agg #[.int .u64 0, .int .u64 0, .int .u64 0, .slice none 0 0]) 4 48 := ⟨Tryz.underlying43, by kernel_rfl, rfl, by decide⟩
theorem wrTy : SlTy Tryz.prog 23 34 (.agg #[.string ⟨#[]⟩, .string ⟨#[]⟩, .bool false]) 3 40 := ⟨Tryz.underlying23, by kernel_rfl, rfl, by decide⟩
/-- A note in a slice. -/
structure NtV where
  k : Int
  fr : Int
  ds : Int
  ep : Nat
  t : Nat
  v : BtV
def NtV.nt (x : NtV) : Nt := ⟨x.k, x.fr, x.ds, x.ep, x.t, x.v.b⟩
def NtV.enc (x : NtV) : List Value := [.int .i64 x.k, .int .i64 x.fr, .int .i64 x.ds, .int .u64 (x.ep : Int), .int .u64 (x.t : Int), .int .u64 (x.v.b.c : Int), .int .u64 (x.v.b.r : Int), .int .u64 (x.v.b.s : Int), x.v.sl]
theorem NtV.encOk : Enc NtV.enc 9 := fun x => ⟨rfl, by simp [NtV.enc, BtV.sl, Value.oneCell']⟩
def NtV.val (x : NtV) : Value := .agg #[.int .i64 x.k, .int .i64 x.fr, .int .i64 x.ds, .int .u64 (x.ep : Int), .int .u64 (x.t : Int), .int .u64 (x.v.b.c : Int), .int .u64 (x.v.b.r : Int), .int .u64 (x.v.b.s : Int), x.v.sl]
theorem ntTy : SlTy Tryz.prog 127 177 (.agg #[.int .i64 0, .int .i64 0, .int .i64 0, .int .u64 0, .int .u64 0, .int .u64 0, .int .u64 0, .int .u64 0, .slice none 0 0]) 9 88 := ⟨Tryz.underlying127, by kernel_rfl, rfl, by decide⟩
/-- A row of batches; a row of notes. -/
def BtRow (w : World) (base : Nat) (v : Value) (l : List Btc) : Prop := ∃ ps : List BtV, ps.map BtV.b = l ∧ Row w base 82 4 BtV.enc v ps ∧ ∀ p ∈ ps, BtAt w p
def NtRow (w : World) (base : Nat) (v : Value) (l : List Nt) : Prop := ∃ ps : List NtV, ps.map NtV.nt = l ∧ Row w base 177 9 NtV.enc v ps ∧ ∀ p ∈ ps, BtAt w p.v
section
variable {w w' : World} {S : Nat → Prop} {base : Nat} {v : Value} {l : List Btc} {m : List Nt} {x : BtV}
theorem BtAt.upd (h : BtAt w x) (hu : Upd S w w') (hS : Off w 34 S) : BtAt w' x := ⟨h.sl.upd hu hS, h.ok⟩
theorem BtAt.new (h : BtAt w x) (hn : New w w') : BtAt w' x := ⟨h.sl.new hn, h.ok⟩
theorem BtAt.nil (w : World) : BtAt w BtV.nil := ⟨TSl.nil _ _ _ _ _ _, Btc.none_ok⟩
theorem BtRow.upd (h : BtRow w base v l) (hu : Upd S w w') (hv : ∀ k, v.ownBlock = some k → ¬ S k) (hS : Off w 34 S) : BtRow w' base v l := by
  obtain ⟨ps, h1, h2, h3⟩ := h
  exact ⟨ps, h1, h2.upd hu hv, fun p hp => (h3 p hp).upd hu hS⟩
theorem NtRow.upd (h : NtRow w base v m) (hu : Upd S w w') (hv : ∀ k, v.ownBlock = some k → ¬ S k) (hS : Off w 34 S) : NtRow w' base v m := by
  obtain ⟨ps, h1, h2, h3⟩ := h
  exact ⟨ps, h1, h2.upd hu hv, fun p hp => (h3 p hp).upd hu hS⟩
theorem BtRow.new (h : BtRow w base v l) (hn : New w w') : BtRow w' base v l := h.upd (S := fun _ => False) (Upd.new hn) (fun _ _ x => x) (Off.no _ _)
theorem BtRow.nil (w : World) (base : Nat) : BtRow w base (.slice none 0 0) [] := ⟨[], rfl, Row.nil _ _ _ _ _, fun _ h => by cases h⟩
theorem NtRow.nil (w : World) (base : Nat) : NtRow w base (.slice none 0 0) [] := ⟨[], rfl, Row.nil _ _ _ _ _, fun _ h => by cases h⟩
theorem BtRow.lt (h : BtRow w base v l) : ∀ k, v.ownBlock = some k → base ≤ k ∧ k < w.heap.size := let ⟨_, _, h, _⟩ := h; h.lt
theorem NtRow.lt (h : NtRow w base v m) : ∀ k, v.ownBlock = some k → base ≤ k ∧ k < w.heap.size := let ⟨_, _, h, _⟩ := h; h.lt
theorem BtRow.shape (h : BtRow w base v l) : ∃ A c, v = .slice A l.length c := by
  obtain ⟨ps, rfl, h2, _⟩ := h
  obtain ⟨A, c, hv⟩ := h2.shape
  exact ⟨A, c, by rw [List.length_map]; exact hv⟩
theorem NtRow.shape (h : NtRow w base v m) : ∃ A c, v = .slice A m.length c := by
  obtain ⟨ps, rfl, h2, _⟩ := h
  obtain ⟨A, c, hv⟩ := h2.shape
  exact ⟨A, c, by rw [List.length_map]; exact hv⟩
end

abbrev okS (s : ByteArray) : Prop := s.size ≤ maxLen
abbrev litS (s : ByteArray) : Lit := .string s.data.toList
theorem keyS : KeyI Tryz.prog 9 (fun s : ByteArray => .string s) litS okS := keySI Tryz.underlying9
abbrev litU (s : Nat) : Lit := .int .u64 (s : Int)
abbrev okU (s : Nat) : Prop := (Lit.int .u64 (s : Int)).wf = true
theorem keyU64 : KeyI Tryz.prog 22 (fun n : Nat => .int .u64 (n : Int)) litU okU := keyUI Tryz.underlying22
theorem okU_lt {n : Nat} (h : n < big) : okU n := by unfold okU; unfold big at h; simp [Lit.wf, IntKind.min, IntKind.max, IntKind.signed, IntKind.bits]; omega
def whV (f : ByteArray → Option Nat) (k : ByteArray) : Option Value := (f k).map fun t => .int .u64 (t : Int)
def snV (f : Nat → Option (Nat × Vd)) (c : Nat) : Option Value := (f c).map fun p => .agg #[.int .u64 (p.1 : Int), .int .u64 (p.2.t : Int), .int .i64 p.2.e]
/-- A judge in memory. -/
structure JdL where
  jb : Nat
  wm : Nat
  sm : Nat
def JdF (L : JdL) (k : Nat) : Prop := k = L.jb ∨ k = L.wm ∨ k = L.sm
structure JdAt (w : World) (B : Nat) (L : JdL) (j : Jd) : Prop where
  blk : Blk w L.jb 278 #[.int .u64 (j.la : Int), .map (some L.wm), .map (some L.sm)]
  wh : ∃ m, m ≤ B ∧ MpAt Tryz.prog 9 litS okS w L.wm m (whV j.wh)
  sn : ∃ m, m ≤ B ∧ MpAt Tryz.prog 22 litU okU w L.sm m (snV j.sn)
  ne : L.wm ≠ L.sm
  la : j.la ≤ B
section
variable {w w' : World} {S : Nat → Prop} {B C : Nat} {L : JdL} {j : Jd}
theorem JdAt.upd (h : JdAt w B L j) (hu : Upd S w w') (hS : ∀ k, JdF L k → ¬ S k) : JdAt w' B L j := by
  obtain ⟨m, h1, h2⟩ := h.wh
  obtain ⟨n, h3, h4⟩ := h.sn
  exact ⟨h.blk.upd hu (hS _ (.inl rfl)), ⟨m, h1, h2.upd hu (hS _ (.inr (.inl rfl)))⟩, ⟨n, h3, h4.upd hu (hS _ (.inr (.inr rfl)))⟩, h.ne, h.la⟩
theorem JdAt.new (h : JdAt w B L j) (hn : New w w') : JdAt w' B L j := h.upd (S := fun _ => False) (Upd.new hn) (fun _ _ x => x)
theorem JdAt.mono (h : JdAt w B L j) (hB : B ≤ C) : JdAt w C L j := by
  obtain ⟨m, h1, h2⟩ := h.wh
  obtain ⟨n, h3, h4⟩ := h.sn
  exact ⟨h.blk, ⟨m, by omega, h2⟩, ⟨n, by omega, h4⟩, h.ne, by have := h.la; omega⟩
theorem JdAt.off (h : JdAt w B L j) {e : TypeId} (he : 278 ≠ e) : Off w e (JdF L) := by
  obtain ⟨m, h1, h2⟩ := h.wh
  obtain ⟨n, h3, h4⟩ := h.sn
  exact (Off.blk h.blk he).or ((Off.map h2).or (Off.map h4))
theorem JdAt.lt (h : JdAt w B L j) : ∀ k, JdF L k → k < w.heap.size := by
  obtain ⟨m, h1, h2⟩ := h.wh
  obtain ⟨n, h3, h4⟩ := h.sn
  rintro k (rfl | rfl | rfl)
  · exact h.blk.lt
  · exact h2.lt
  · exact h4.lt
end
/-- A replica in memory: its blocks. -/
structure RpL where
  cv : Value
  jl : JdL
  lv : Value
  ov : Value
def RpF (rp : Nat) (L : RpL) (k : Nat) : Prop := k = rp ∨ JdF L.jl k ∨ L.lv.ownBlock = some k ∨ L.ov.ownBlock = some k
def RpCells (rp : Nat) (L : RpL) (x : Rpl) : Array Value := #[.int .i64 x.id, .int .u64 (x.cf.e : Int), L.cv, .pointer (some ⟨L.jl.jb, 0, none⟩), L.lv, .int .u64 (x.cl : Int), L.ov,
  .func (.func 133) #[.pointer (some ⟨rp, 0, none⟩)] #[], .func (.func 134) #[] #[],
  .func (.func 135) #[.pointer (some ⟨rp, 0, none⟩)] #[], .func (.func 93) #[] #[],
  .func (.func 136) #[.pointer (some ⟨rp, 0, none⟩)] #[], .func (.func 93) #[] #[]]
structure RpAt (w : World) (rp B : Nat) (L : RpL) (x : Rpl) : Prop where
  blk : Blk w rp 134 (RpCells rp L x)
  cf : TSl w 3 1 iEnc L.cv x.cf.ms
  cl7 : x.cf.ms.length ≤ 1000
  ce : x.cf.e < big
  j : JdAt w B L.jl x.j
  l : BtRow w 0 L.lv x.l
  out : NtRow w 0 L.ov x.out
  ll : x.l.length ≤ B
  ol : x.out.length ≤ B
  cl : x.cl ≤ B
section
variable {w w' : World} {S : Nat → Prop} {rp B C : Nat} {L : RpL} {x : Rpl}
theorem RpAt.off (h : RpAt w rp B L x) {e : TypeId} (h1 : 134 ≠ e) (h2 : 278 ≠ e) (h3 : 82 ≠ e) (h4 : 177 ≠ e) : Off w e (RpF rp L) := by
  obtain ⟨ps, _, hps, _⟩ := h.l
  obtain ⟨qs, _, hqs, _⟩ := h.out
  exact (Off.blk h.blk h1).or ((h.j.off h2).or ((Off.row hps h3).or (Off.row hqs h4)))
theorem RpAt.offW (h : RpAt w rp B L x) : Off w 34 (RpF rp L) := h.off (by decide) (by decide) (by decide) (by decide)
theorem RpAt.offI (h : RpAt w rp B L x) : Off w 3 (RpF rp L) := h.off (by decide) (by decide) (by decide) (by decide)
theorem RpAt.lt (h : RpAt w rp B L x) : ∀ k, RpF rp L k → k < w.heap.size := by
  rintro k (rfl | hk | hk | hk)
  · exact h.blk.lt
  · exact h.j.lt k hk
  · exact (h.l.lt k hk).2
  · exact (h.out.lt k hk).2
theorem RpAt.upd (h : RpAt w rp B L x) (hu : Upd S w w') (hS : ∀ k, RpF rp L k → ¬ S k) (hW : Off w 34 S) (hI : Off w 3 S) : RpAt w' rp B L x :=
  ⟨h.blk.upd hu (hS _ (.inl rfl)), h.cf.upd hu hI, h.cl7, h.ce, h.j.upd hu (fun k hk => hS k (.inr (.inl hk))), h.l.upd hu (fun k hk => hS k (.inr (.inr (.inl hk)))) hW, h.out.upd hu (fun k hk => hS k (.inr (.inr (.inr hk)))) hW, h.ll, h.ol, h.cl⟩
theorem RpAt.new (h : RpAt w rp B L x) (hn : New w w') : RpAt w' rp B L x := h.upd (S := fun _ => False) (Upd.new hn) (fun _ _ x => x) (Off.no _ _) (Off.no _ _)
theorem RpAt.mono (h : RpAt w rp B L x) (hB : B ≤ C) : RpAt w rp C L x := { h with j := h.j.mono hB, ll := Nat.le_trans h.ll hB, ol := Nat.le_trans h.ol hB, cl := Nat.le_trans h.cl hB }
/-- What an act of a replica leaves. -/
def RpPost (w : World) (rp B : Nat) (L : RpL) (x' : Rpl) (w' : World) : Prop := ∃ L', RpAt w' rp B L' x' ∧ (∀ k, RpF rp L' k → RpF rp L k ∨ w.heap.size ≤ k) ∧ Upd (RpF rp L) w w'
theorem RpPost.refl (h : RpAt w rp B L x) : RpPost w rp B L x w := ⟨L, h, fun _ h => .inl h, Upd.refl _ _⟩
theorem RpPost.new (h : RpAt w rp B L x) (hn : New w w') : RpPost w rp B L x w' := ⟨L, h.new hn, fun _ h => .inl h, Upd.new hn⟩
end
/-- The cells of a replica. -/
structure RpFacts (w : World) (rp : Nat) (L : RpL) (x : Rpl) : Prop where
  lt : rp < w.heap.size
  c0 : w.cell? ⟨rp, 0, none⟩ = some (.int .i64 x.id)
  c1 : w.cell? ⟨rp, 1, none⟩ = some (.int .u64 (x.cf.e : Int))
  c2 : w.cell? ⟨rp, 2, none⟩ = some L.cv
  c3 : w.cell? ⟨rp, 3, none⟩ = some (.pointer (some ⟨L.jl.jb, 0, none⟩))
  c4 : w.cell? ⟨rp, 4, none⟩ = some L.lv
  c5 : w.cell? ⟨rp, 5, none⟩ = some (.int .u64 (x.cl : Int))
  c6 : w.cell? ⟨rp, 6, none⟩ = some L.ov
  fz : ∀ i, w.frozen? ⟨rp, i, none⟩ = false
theorem RpAt.facts {w : World} {rp B : Nat} {L : RpL} {x : Rpl} (h : RpAt w rp B L x) : RpFacts w rp L x := ⟨h.blk.lt, h.blk.cell 0, h.blk.cell 1, h.blk.cell 2, h.blk.cell 3, h.blk.cell 4, h.blk.cell 5, h.blk.cell 6, h.blk.frozen⟩
end Go.Proofs.YtlhlcdjkacglnaaGreatDoor
/- A region that draws its order and ends in stores that wait for all the rest: the condition S need not hold behind these (built on Derived.OrdersHeld's laws). -/
namespace Go.Proofs.YtlhlcdjkacglnaaGreatDoor
open Go.RowKit Go.Lap
set_option linter.unusedVariables false
section
variable {P : Program} {ops : Array Oper} {Q : Exit → Act → World → Prop} {md : Region.Mode} {S : World → Prop} {zs : List Nat}
/-- Whatever order is picked from here on; S holds behind each operation that is none of zs. -/
def wpZ (P : Program) (md : Region.Mode) (ops : Array Oper) (Q : Exit → Act → World → Prop) (S : World → Prop) (zs : List Nat) : Nat → Array Bool → Act → World → Prop
  | 0, listed, a, w => Region.ready md ops listed = [] ∧ Q .normal a w
  | fuel + 1, listed, a, w => (Region.ready md ops listed = [] → Q .normal a w) ∧
      ∀ i, i ∈ Region.ready md ops listed → wpOp P ops Q i (fun a' w' => (i ∉ zs → S w') ∧ wpZ P md ops Q S zs fuel (listed.setIfInBounds i true) a' w') a w
theorem wpZ_any : ∀ (fuel : Nat) (listed : Array Bool) (a : Act) (w : World), wpZ P md ops Q S zs fuel listed a w → wpAny P md ops Q fuel listed a w
  | 0, _, _, _, h => h
  | _ + 1, _, _, _, h => ⟨h.1, fun i hi => wpOp_mono (fun a' w' h' => wpZ_any _ _ a' w' h'.2) (h.2 i hi)⟩
/-- All of zs wait for i. -/
def waits (md : Region.Mode) (ops : Array Oper) (zs : List Nat) (i : Nat) : Bool := zs.all fun z => match ops[z]? with | none => true | some o => o.after.any fun e => Region.binds md e && e.on == i
theorem waits_not {i z : Nat} {listed : Array Bool} (h : waits md ops zs i = true) (hz : z ∈ zs) (hi : i ∈ Region.ready md ops listed) : z ∉ Region.ready md ops listed := by
  intro hr
  obtain ⟨h0, _⟩ := mem_ready.1 hi
  obtain ⟨_, o, ho, hall⟩ := mem_ready.1 hr
  have h1 := List.all_eq_true.1 h z hz
  rw [ho] at h1
  obtain ⟨e, he, hb⟩ := Array.any_eq_true'.1 h1
  simp only [Bool.and_eq_true, beq_iff_eq] at hb
  have h2 := hall e he hb.1
  rw [hb.2] at h2
  rcases Nat.lt_or_ge i listed.size with hlt | hge
  · simp [hlt] at h0 h2; rw [h0] at h2; cases h2
  · simp [Array.getElem?_eq_none hge] at h2
theorem wpZ_first {i : Nat} {oi : Oper} {v : Value} (hi : ops[i]? = some oi) (hsel : ∀ (j : Nat) (o : Oper) cs b, ops[j]? = some o → o.op ≠ .select cs b)
    (hQ : ∀ c a w, Q (.panic c) (a.put oi.dst v) w → Q (.panic c) a w) (hw : waits md ops zs i = true) (hni : i ∉ zs) : ∀ (fuel : Nat) (listed : Array Bool) (a : Act) (w : World),
      (∀ j oj, ops[j]? = some oj → j ≠ i → listed.getD j true = false → (∀ e ∈ oj.after, Region.binds md e = true → e.on ≠ i) → oi.apart ops oj = true) →
      i ∈ Region.ready md ops listed → YieldsIf P ops S oi v a → S w →
      wpZ P md ops Q S zs fuel (listed.setIfInBounds i true) (a.put oi.dst v) w → wpZ P md ops Q S zs (fuel + 1) listed a w := by
  intro fuel
  induction fuel with
  | zero =>
    intro listed a w _ hr hy hS H
    refine ⟨fun h => absurd (h ▸ hr) (by simp), fun j hj => ?_⟩
    rcases Classical.em (j = i) with rfl | hji
    · exact hy.wpOp hi hS ⟨fun _ => hS, H⟩
    · exact absurd (H.1 ▸ ready_mono hj hji) (by simp)
  | succ fuel ih =>
    intro listed a w hfree hr hy hS H
    refine ⟨fun h => absurd (h ▸ hr) (by simp), fun j hj => ?_⟩
    rcases Classical.em (j = i) with rfl | hji
    · exact hy.wpOp hi hS ⟨fun _ => hS, H⟩
    · have hjz : j ∉ zs := fun hz => waits_not hw hz hr hj
      obtain ⟨hju, oj, hoj, hall⟩ := mem_ready.1 hj
      have hno : ∀ e ∈ oj.after, Region.binds md e = true → e.on ≠ i := by
        intro e he hb heq
        have h1 := hall e he hb
        have h0 := (mem_ready.1 hr).1
        rw [heq] at h1
        rcases Nat.lt_or_ge i listed.size with hlt | hge
        · simp [hlt] at h0 h1; rw [h0] at h1; cases h1
        · simp [Array.getElem?_eq_none hge] at h1
      refine wpOp_mono (fun a' w' h3 => ?_) (wpOp_putIf hoj (hfree j oj hoj hji hju hno) (fun cs b => hsel i oi cs b hi) (fun cs b => hsel j oj cs b hoj) hQ hy (H.2 j (ready_mono hj hji)))
      have hS' := h3.2.1 hjz
      refine ⟨fun _ => hS', ih _ a' w' (fun k ok hk hki hun hnk => hfree k ok hk hki ?_ hnk) (ready_mono hr (Ne.symm hji)) h3.1 hS' ?_⟩
      · rcases Classical.em (j = k) with rfl | hjk
        · exact hju
        · rw [getD_set_ne true hjk] at hun; exact hun
      · rw [Array.setIfInBounds_comm _ _ hji]; exact h3.2.2
theorem wpZ_take {i : Nat} {oi : Oper} {v : Value} {fuel : Nat} {listed : Array Bool} {a : Act} {w : World} (hi : ops[i]? = some oi)
    (hs : Region.noSelect ops = true) (hf : Region.free md ops listed i = true) (hr : ((Region.ready md ops listed).contains i && (waits md ops zs i && !zs.contains i)) = true)
    (hQ : ∀ c a w, Q (.panic c) (a.put oi.dst v) w → Q (.panic c) a w) (hy : YieldsIf P ops S oi v a) (hS : S w)
    (h : wpZ P md ops Q S zs fuel (listed.setIfInBounds i true) (a.put oi.dst v) w) : wpZ P md ops Q S zs (fuel + 1) listed a w := by
  simp only [Bool.and_eq_true, Bool.not_eq_true'] at hr
  exact wpZ_first hi (Region.noSelect_spec hs) hQ hr.2.1 (by simpa using hr.2.2) fuel listed a w (Region.free_spec hi hf) (by simpa using hr.1) hy hS h
theorem tkZN {i : Nat} {oi : Oper} {v : Value} {fuel : Nat} {listed : Array Bool} {a : Act} {w : World} (hi : ops.toList[i]? = some oi) (h : wpZ P md ops Q S zs fuel (listed.setIfInBounds i true) (a.put oi.dst v) w)
    (hy : ∀ w', S w' → (execOp a.eval oi).run P w' = .ok (.value v) w' := by (intro wq hSw; (try dsimp only at hSw); go_simp; first | done | with_reducible rfl))
    (hw : Region.wanted oi (yielded ops a.tmps) = true := by rfl)
    (hs : Region.noSelect ops = true := by kernel_rfl) (hf : Region.free md ops listed i = true := by kernel_rfl) (hr : ((Region.ready md ops listed).contains i && (waits md ops zs i && !zs.contains i)) = true := by kernel_rfl)
    (hQ : ∀ c a w, Q (.panic c) (a.put oi.dst v) w → Q (.panic c) a w := by exact fun _ _ _ h => h) (hS : S w := by assumption) : wpZ P md ops Q S zs (fuel + 1) listed a w := wpZ_take (by rw [← Array.getElem?_toList]; exact hi) hs hf hr hQ (.inl ⟨hw, hy⟩) hS h
def AllZ (P : Program) (md : Region.Mode) (ops : Array Oper) (Q : Exit → Act → World → Prop) (S : World → Prop) (zs : List Nat) (fuel : Nat) (listed : Array Bool) (a : Act) (w : World) (rs : List Nat) : Prop :=
  ∀ i, i ∈ rs → wpOp P ops Q i (fun a' w' => (i ∉ zs → S w') ∧ wpZ P md ops Q S zs fuel (listed.setIfInBounds i true) a' w') a w
theorem AllZ.nil {fuel : Nat} {listed : Array Bool} {a : Act} {w : World} : AllZ P md ops Q S zs fuel listed a w [] := fun _ h => by cases h
theorem AllZ.cons {fuel : Nat} {listed : Array Bool} {a : Act} {w : World} {i : Nat} {o : Oper} {rs : List Nat} (ho : ops[i]? = some o)
    (h : ∀ K' : Act → World → Prop, Shut (∀ a w, S w → (S w → wpZ P md ops Q S zs fuel (listed.setIfInBounds i true) a w) → K' a w) → if Region.wanted o (yielded ops a.tmps) = true then Oper.wp P o a w K' Q else K' (a.put o.dst undef) w)
    (hs : AllZ P md ops Q S zs fuel listed a w rs) : AllZ P md ops Q S zs fuel listed a w (i :: rs) := fun j hj => by
  rcases List.mem_cons.1 hj with rfl | hj
  · exact wpOp_step ho (fun K' hK => h K' (fun a w hS hW => hK a w ⟨fun _ => hS, hW hS⟩))
  · exact hs j hj
theorem AllZ.consZ {fuel : Nat} {listed : Array Bool} {a : Act} {w : World} {i : Nat} {o : Oper} {rs : List Nat} (ho : ops[i]? = some o) (hz : zs.contains i = true)
    (h : ∀ K' : Act → World → Prop, Shut (∀ a w, wpZ P md ops Q S zs fuel (listed.setIfInBounds i true) a w → K' a w) → if Region.wanted o (yielded ops a.tmps) = true then Oper.wp P o a w K' Q else K' (a.put o.dst undef) w)
    (hs : AllZ P md ops Q S zs fuel listed a w rs) : AllZ P md ops Q S zs fuel listed a w (i :: rs) := fun j hj => by
  rcases List.mem_cons.1 hj with rfl | hj
  · exact wpOp_step ho (fun K' hK => h K' (fun a w hW => hK a w ⟨fun hn => absurd (by simpa using hz) hn, hW⟩))
  · exact hs j hj
theorem rdZN {fuel : Nat} {listed : Array Bool} {a : Act} {w : World} {i : Nat} {o : Oper} {rs : List Nat} (hi : ops.toList[i]? = some o)
    (h : ∀ K' : Act → World → Prop, Shut (∀ a w, S w → (S w → wpZ P md ops Q S zs fuel (listed.setIfInBounds i true) a w) → K' a w) → if Region.wanted o (yielded ops a.tmps) = true then Oper.wp P o a w K' Q else K' (a.put o.dst undef) w)
    (hs : AllZ P md ops Q S zs fuel listed a w rs) : AllZ P md ops Q S zs fuel listed a w (i :: rs) := AllZ.cons (by rw [← Array.getElem?_toList]; exact hi) h hs
theorem rdZZ {fuel : Nat} {listed : Array Bool} {a : Act} {w : World} {i : Nat} {o : Oper} {rs : List Nat} (hi : ops.toList[i]? = some o) (hz : zs.contains i = true)
    (h : ∀ K' : Act → World → Prop, Shut (∀ a w, wpZ P md ops Q S zs fuel (listed.setIfInBounds i true) a w → K' a w) → if Region.wanted o (yielded ops a.tmps) = true then Oper.wp P o a w K' Q else K' (a.put o.dst undef) w)
    (hs : AllZ P md ops Q S zs fuel listed a w rs) : AllZ P md ops Q S zs fuel listed a w (i :: rs) := AllZ.consZ (by rw [← Array.getElem?_toList]; exact hi) hz h hs
theorem wpZ_ready {rs : List Nat} {fuel : Nat} {listed : Array Bool} {a : Act} {w : World} (hr : Region.ready md ops listed = rs) (hne : rs ≠ [])
    (h : AllZ P md ops Q S zs fuel listed a w rs) : wpZ P md ops Q S zs (fuel + 1) listed a w := ⟨fun h0 => absurd (hr ▸ h0) hne, fun i hi => h i (hr ▸ hi)⟩
theorem stZN {fuel : Nat} {listed : Array Bool} {a : Act} {w : World} {i : Nat} {o : Oper} (hi : ops.toList[i]? = some o)
    (h : ∀ K' : Act → World → Prop, Shut (∀ a w, S w → (S w → wpZ P md ops Q S zs fuel (listed.setIfInBounds i true) a w) → K' a w) → if Region.wanted o (yielded ops a.tmps) = true then Oper.wp P o a w K' Q else K' (a.put o.dst undef) w)
    (hr : Region.ready md ops listed = [i] := by kernel_rfl) : wpZ P md ops Q S zs (fuel + 1) listed a w := wpZ_ready hr (by simp) (rdZN hi h AllZ.nil)
theorem stZZ {fuel : Nat} {listed : Array Bool} {a : Act} {w : World} {i : Nat} {o : Oper} (hi : ops.toList[i]? = some o)
    (h : ∀ K' : Act → World → Prop, Shut (∀ a w, wpZ P md ops Q S zs fuel (listed.setIfInBounds i true) a w → K' a w) → if Region.wanted o (yielded ops a.tmps) = true then Oper.wp P o a w K' Q else K' (a.put o.dst undef) w)
    (hz : zs.contains i = true := by kernel_rfl) (hr : Region.ready md ops listed = [i] := by kernel_rfl) : wpZ P md ops Q S zs (fuel + 1) listed a w := wpZ_ready hr (by simp) (rdZZ hi hz h AllZ.nil)
theorem wpZ_done {listed : Array Bool} {a : Act} {w : World} (hr : Region.ready md ops listed = []) (h : Q .normal a w) : ∀ fuel, wpZ P md ops Q S zs fuel listed a w
  | 0 => ⟨hr, h⟩
  | _ + 1 => ⟨fun _ => h, fun i hi => by rw [hr] at hi; cases hi⟩
theorem wp_region_z {id : Nat} {a : Act} {w : World} (zs : List Nat) (S : World → Prop) (hm : P.follows .mixedOrders = true) (hS : S w.drew)
    (h : S w.drew → wpZ P .any ops Q S zs ops.size (Array.replicate ops.size false) a w.drew) : (Code.region id ops true).wp P Q a w := wp_region_any hm (wpZ_any _ _ _ _ (h hS))
end
end Go.Proofs.YtlhlcdjkacglnaaGreatDoor
