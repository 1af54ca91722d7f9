/- Chapters 25 and 26 (client, cluster) as plain data, and what each call makes of them. No program here. -/
import Derived.Test.YtlhlcdjkacglnaaGreatDoorJk6
import Derived.Test.YtlhlcdjkacglnaaGreatDoorJk9
import Derived.Test.YtlhlcdjkacglnaaGreatDoorJk1
import Derived.Deep.RegionHeld3
namespace Go.Proofs.YtlhlcdjkacglnaaGreatDoor
open Go.RowKit Go.Lap C
set_option linter.unusedVariables false
/-- A client: its number, its next request, the request that is open with how often it was asked, the last one that was answered, the greatest timestamp that it was told. -/
structure Cli where
  id : Nat
  nx : Nat
  now : Option (Btc × Nat)
  la : Nat × Vd
  saw : Nat
def Cli.new_ (i : Nat) : Cli := ⟨i, 1, none, (0, ⟨0, 0⟩), 0⟩
def Cli.again (x : Cli) : Cli × Btc × Int := match x.now with
  | some (b, t) => ({ x with now := some (b, t + 1) }, b, 0)
  | none => (x, Btc.none, 251)
def Cli.start (x : Cli) (s : Nat) (l : List Wri) : Cli × Btc × Int := match x.now with
  | some _ => (x, Btc.none, 250)
  | none => if chk l ≠ 0 then (x, Btc.none, chk l) else ({ x with now := some (⟨x.id, x.nx, s, l⟩, 1), nx := x.nx + 1 }, ⟨x.id, x.nx, s, l⟩, 0)
def Cli.answer (x : Cli) (rq : Nat) (v : Vd) : Cli := match x.now with
  | some (b, _) => if b.r = rq then { x with now := none, la := (rq, v), saw := if v.e = 0 then max x.saw v.t else x.saw } else x
  | none => x
/-- An answer that waits till a timestamp is clean. -/
structure Wt where
  dst : Int
  rq : Nat
  vd : Vd
  un : Nat
/-- What a packet says. -/
inductive CMsg where
  | req (b : Btc)
  | note (k : Int) (ep t : Nat) (b : Btc)
  | ans (rq : Nat) (vd : Vd)
structure CPk where
  fr : Int
  ds : Int
  m : CMsg
/-- A batch as it comes out of a packet: one that may not be goes as no bytes, and comes as none. -/
def wireB (b : Btc) : Btc := if chk b.l = 0 then b else Btc.none
/-- Replicas, who is gone, clients, the masters, what is under way, what waits. -/
structure Clu where
  rs : List Rpl
  gone : Int → Bool
  cs : List Cli
  g : D.Gm
  bg : List CPk
  wt : Int → List Wt
def Clu.send (x : Clu) (p : CPk) : Clu := if x.bg.length < 256 then { x with bg := x.bg ++ [p] } else x
def atL {α : Type} (l : List α) (i : Int) : Option α := if 0 ≤ i then l[i.toNat]? else none
/-- A replica that is there and is not gone. -/
def Clu.rep (x : Clu) (i : Int) : Option Rpl := if x.gone i = true then none else atL x.rs i
def Clu.setR (x : Clu) (i : Int) (r : Rpl) : Clu := { x with rs := x.rs.set i.toNat r }
def Clu.setC (x : Clu) (i : Int) (c : Cli) : Clu := { x with cs := x.cs.set i.toNat c }
def notePk (i : Int) (n : Nt) : CPk := ⟨i, n.ds, .note n.k n.ep n.t (wireB n.b)⟩
def ansPk (i : Int) (y : Wt) : CPk := ⟨i, y.dst, .ans y.rq y.vd⟩
/-- Sends what a replica has to send: its notes, and the answers whose timestamp is clean. -/
def Clu.flush (x : Clu) (i : Int) : Clu := match atL x.rs i with
  | none => x
  | some r =>
    let x := x.setR i { r with out := [] }
    let x := (r.out.map (notePk i)).foldl Clu.send x
    let x := (((x.wt i).filter fun y => decide (y.un ≤ r.cl)).map (ansPk i)).foldl Clu.send x
    { x with wt := setD x.wt i ((x.wt i).filter fun y => !decide (y.un ≤ r.cl)) }
def Clu.requested (x : Clu) (p : CPk) (b : Btc) : Clu := match x.rep p.ds with
  | none => x
  | some r =>
    let s := r.submit b
    let x := x.setR p.ds s.1
    let w : Wt := ⟨p.fr, b.r, s.2.1, if s.2.1.e = 191 then s.1.l.length else s.2.1.t⟩
    let x := if s.2.2 = 0 ∧ (s.2.1.e = 0 ∨ s.2.1.e = 191) then { x with wt := setD x.wt p.ds (x.wt p.ds ++ [w]) } else x
    x.flush p.ds
def Clu.noted (x : Clu) (p : CPk) (k : Int) (ep t : Nat) (b : Btc) : Clu := match x.rep p.ds with
  | none => x
  | some r => (x.setR p.ds (r.receive ⟨k, p.fr, p.ds, ep, t, b⟩)).flush p.ds
def Clu.answered (x : Clu) (p : CPk) (rq : Nat) (v : Vd) : Clu := match atL x.cs (p.ds - 100) with
  | none => x
  | some c => x.setC (p.ds - 100) (c.answer rq v)
def Clu.arrive (x : Clu) (p : CPk) : Clu := match p.m with
  | .req b => x.requested p b
  | .note k ep t b => x.noted p k ep t b
  | .ans rq v => x.answered p rq v
def Clu.deliver (x : Clu) (i : Int) : Clu × Int := match atL x.bg i with
  | none => (x, 212)
  | some p => (({ x with bg := x.bg.eraseIdx i.toNat } : Clu).arrive p, 0)
def Clu.start (x : Clu) (i : Int) (s : Nat) (l : List Wri) : Clu × Nat × Int := match atL x.cs i with
  | none => (x, 0, 261)
  | some c => (x.setC i (c.start s l).1, (c.start s l).2.1.r, (c.start s l).2.2)
def Clu.ask (x : Clu) (i nd : Int) : Clu × Int := match atL x.cs i, atL x.rs nd with
  | some c, some _ => match c.now with
    | none => (x, 251)
    | some _ => ((x.setC i c.again.1).send ⟨100 + i, nd, .req (wireB c.again.2.1)⟩, 0)
  | _, _ => (x, 261)
def Clu.copy (x : Clu) (i : Int) : Clu × Int := match atL x.bg i with
  | none => (x, 212)
  | some p => if x.bg.length = 256 then (x, 211) else ({ x with bg := x.bg ++ [p] }, 0)
def Clu.tick (x : Clu) (i : Int) : Clu × Int := match x.rep i with
  | none => (x, 261)
  | some r => ((x.setR i r.tick).flush i, 0)
def Clu.kill (x : Clu) (i : Int) : Clu × Int := match atL x.rs i with
  | none => (x, 261)
  | some _ => ({ x with gone := setD x.gone i true, wt := setD x.wt i [] }, 0)
def firstC (n : Nat) : Cfg := ⟨1, (List.range n).map fun (i : Nat) => (i : Int)⟩
/-- What a master knows. -/
def Clu.config (x : Clu) (m : Int) : Cfg := if 0 ≤ m ∧ m < 3 then foldC (firstC x.rs.length) ((x.g.nd m.toNat).log.map fun s => s.toList) else ⟨0, []⟩
def Clu.learn (x : Clu) (i m : Int) : Clu × Int := match x.rep i with
  | none => (x, 261)
  | some r => if 0 ≤ m ∧ m < 3 then if (r.adopt (x.config m)).2 = 0 then ((x.setR i (r.adopt (x.config m)).1).flush i, 0) else (x.setR i (r.adopt (x.config m)).1, 262) else (x, 261)
def Clu.list (x : Clu) (i : Int) : List Btc := match atL x.rs i with
  | none => []
  | some r => r.l
def Clu.told (x : Clu) (i : Int) : Nat × Vd × Bool := match atL x.cs i with
  | none => (0, ⟨0, 0⟩, false)
  | some c => (c.la.1, c.la.2, decide (0 < c.la.1))
end Go.Proofs.YtlhlcdjkacglnaaGreatDoor
/- Chapter 25 (client) in memory: a client; New, Last. -/
namespace Go.Proofs.YtlhlcdjkacglnaaGreatDoor
open Go.RowKit Go.Lap C
set_option linter.unusedVariables false
set_option linter.unusedSimpArgs false
/-- Where the open request lies, and where its writes lie. -/
structure CliL where
  nb : Nat
  A : Option Addr
  c : Nat
def nowV (L : CliL) (x : Cli) : Value := match x.now with
  | some _ => .pointer (some ⟨L.nb, 0, none⟩)
  | none => .pointer none
def CliCells (L : CliL) (x : Cli) : Array Value := #[.int .u64 (x.id : Int), .int .u64 (x.nx : Int), nowV L x, .int .u64 (x.la.1 : Int), .int .u64 (x.la.2.t : Int), .int .i64 x.la.2.e, .int .u64 (x.saw : Int)]
structure CliAt (w : World) (cp : Nat) (L : CliL) (x : Cli) : Prop where
  blk : Blk w cp 160 (CliCells L x)
  nj : x.now = none → L.nb = cp
  now : ∀ b t, x.now = some (b, t) → Blk w L.nb 164 #[.int .u64 (b.c : Int), .int .u64 (b.r : Int), .int .u64 (b.s : Int), .slice L.A b.l.length L.c, .int .i64 (t : Int)] ∧ BtAt w ⟨b, L.A, L.c⟩
/-- The blocks that are the client's. -/
def CliF (cp : Nat) (L : CliL) (k : Nat) : Prop := k = cp ∨ k = L.nb
section
variable {w w' : World} {S : Nat → Prop} {cp : Nat} {L : CliL} {x : Cli}
theorem CliAt.upd (h : CliAt w cp L x) (hu : Upd S w w') (hS : ∀ k, CliF cp L k → ¬ S k) (hO : Off w 34 S) : CliAt w' cp L x :=
  ⟨h.blk.upd hu (hS _ (.inl rfl)), h.nj, fun b t hb => ⟨(h.now b t hb).1.upd hu (hS _ (.inr rfl)), (h.now b t hb).2.upd hu hO⟩⟩
theorem CliAt.new (h : CliAt w cp L x) (hn : New w w') : CliAt w' cp L x := h.upd (S := fun _ => False) (Upd.new hn) (fun _ _ h => h) (Off.no _ _)
theorem CliAt.lt (h : CliAt w cp L x) : ∀ k, CliF cp L k → k < w.heap.size := by
  rintro k (rfl | rfl)
  · exact h.blk.lt
  · cases hx : x.now with
    | none => rw [h.nj hx]; exact h.blk.lt
    | some p => exact (h.now p.1 p.2 hx).1.lt
theorem CliAt.off (h : CliAt w cp L x) {e : TypeId} (h1 : 160 ≠ e) (h2 : 164 ≠ e) : Off w e (CliF cp L) := by
  refine (Off.blk h.blk h1).or ?_
  cases hx : x.now with
  | none => rw [h.nj hx]; exact Off.blk h.blk h1
  | some p => exact Off.blk (h.now p.1 p.2 hx).1 h2
theorem Blk7U {w : World} {g t : Nat} {a b c d e f h : Value} (hb : Blk w g t #[a, b, c, d, e, f, h]) : g < w.heap.size ∧ w.cell? ⟨g, 0, none⟩ = some a ∧ w.cell? ⟨g, 1, none⟩ = some b ∧ w.cell? ⟨g, 2, none⟩ = some c ∧ w.cell? ⟨g, 3, none⟩ = some d ∧ w.cell? ⟨g, 4, none⟩ = some e ∧ w.cell? ⟨g, 5, none⟩ = some f ∧ w.cell? ⟨g, 6, none⟩ = some h ∧ (∀ i, w.frozen? ⟨g, i, none⟩ = false) :=
  ⟨hb.lt, hb.cell 0, hb.cell 1, hb.cell 2, hb.cell 3, hb.cell 4, hb.cell 5, hb.cell 6, hb.frozen⟩
set_option maxHeartbeats 1000000 in
theorem cnew (i : Nat) (w : World) : Calls Tryz.prog 80 #[.int .u64 (i : Int)] w fun e w' => e = .returned (.pointer (some ⟨w.heap.size, 0, none⟩)) ∧ CliAt w' w.heap.size ⟨w.heap.size, none, 0⟩ (Cli.new_ i) ∧ New w w' := by
  have hb := Blk.mk_new w 160 (CliCells ⟨w.heap.size, none, 0⟩ (Cli.new_ i))
  go_enter Tryz.func80, Tryz.ntmps80
  go_wp2_with fail
  go_ret
  exact ⟨rfl, ⟨hb, fun _ => rfl, fun b t h => by cases h⟩, (New.refl w).alloc _⟩
set_option maxHeartbeats 1000000 in
theorem clast (h : CliAt w cp L x) : Calls Tryz.prog 54 #[.pointer (some ⟨cp, 0, none⟩)] w fun e w' => e = .returned (.tuple #[.int .u64 (x.la.1 : Int), .agg #[.int .u64 (x.la.2.t : Int), .int .i64 x.la.2.e], .bool (decide (0 < x.la.1))]) ∧ New w w' := by
  obtain ⟨id, nx, now, ⟨rq, ⟨vt, ve⟩⟩, saw⟩ := x
  obtain ⟨g0, c0, c1, c2, c3, c4, c5, c6, cz⟩ := Blk7U h.blk
  dsimp only at c3 c4 c5 ⊢
  clear h
  have hd : decide ((0 : Int) < (rq : Int)) = decide (0 < rq) := by by_cases h : 0 < rq <;> simp [h]
  go_enter Tryz.func54, Tryz.ntmps54
  go_upto_region 1 with fail
  go_region
  go_wp2_with fail
  exact bodyPost_ret (v := .tuple #[.int .u64 (rq : Int), .agg #[.int .u64 (vt : Int), .int .i64 ve], .bool (decide (0 < rq))]) (by simp [results, Tryz.results54, go_sem]) rfl ⟨rfl, ((New.refl w).alloc _).drew⟩
end
end Go.Proofs.YtlhlcdjkacglnaaGreatDoor
/- Chapter 24 (replica): slices.Clone of writes, copied. -/
namespace Go.Proofs.YtlhlcdjkacglnaaGreatDoor
open Go.RowKit Go.Lap C
set_option linter.unusedVariables false
section
variable {w w' W : World} {x : BtV} {l : List Wri} {v : Value}
theorem wnil (w : World) (A : Option Addr) (n c : Nat) : (binOp .eql 23 (.slice A n c) (.slice none 0 0)).run Tryz.prog w = .ok (.bool A.isNone) w := by
  cases A <;> kernel_rfl
set_option maxRecDepth 100000 in
set_option maxHeartbeats 2000000 in
theorem wclone (hs : TSl w 34 3 Wri.enc v l) (hl : l.length ≤ 1000) :
    Calls Tryz.prog 85 #[v] w fun e w' => ∃ A c, e = .returned (.slice A l.length c) ∧ TSl w' 34 3 Wri.enc (.slice A l.length c) l ∧ New w w' := by
  have HS := Lib.hid hs
  obtain ⟨A, c, rfl, hlc, hor⟩ := hs
  cases A with
  | none =>
    have hnil : l = [] := by
      rcases hor with h | ⟨b, off, cs, h, _⟩
      · exact h
      · cases h
    subst hnil
    clear hor
    have hq := fun w c => wnil w none 0 c
    simp only [Option.isNone] at hq
    go_enter Tryz.func85, Tryz.ntmps85
    go_wp2_with fail
    go_ret
    exact ⟨none, 0, rfl, TSl.nil _ _ _ _ _ _, New.refl _⟩
  | some a =>
    clear hor
    have hN := (New.refl w).alloc (.cells #[] 34)
    have hrow : Row (w.alloc (.cells #[] 34)) w.heap.size 34 3 Wri.enc (.slice (some ⟨w.heap.size, 0, none⟩) 0 0) ([] : List Wri) := .inr ⟨w.heap.size, 0, 0, #[], rfl, Nat.le_refl _, Blk.mk_new _ _ _, Nat.le_refl _, by decide, by simp, by simp⟩
    have HR := Lib.hid hrow
    have HSL := Lib.hid (HS.out.slIn.new hN)
    have HN := Lib.hid hN
    clear hN hrow
    have hq := fun w c => wnil w (some a) l.length c
    simp only [Option.isNone] at hq
    go_enter Tryz.func85, Tryz.ntmps85
    go_wp2_with (at_builtin; refine wpList_appR wrTy Wri.encOk rfl (.tmp 5) (.tmp 6) rfl rfl rfl HR.out HSL.out (by simp; unfold maxLen; omega) (by simp; omega) (by simp) ?_; intro v' w2 h2 h3 h4)
    obtain ⟨A', c', hv'⟩ := h2.shape
    have hn2 : New w w2 := HN.out.grown h3 (fun k hk => by cases hk; exact Nat.le_refl _)
    have ht := Row.tsl Wri.encOk h2
    rw [List.nil_append] at ht hv'
    subst hv'
    have HT := Lib.hid ht
    have HN2 := Lib.hid hn2
    clear h2 h3 h4 ht hn2
    go_wp2_with fail
    go_ret
    exact ⟨A', c', rfl, HT.out, HN2.out⟩
def CpPost (w : World) (x : BtV) (e : Ending) (w' : World) : Prop := ∃ y : BtV, e = .returned y.val ∧ y.b = x.b ∧ BtAt w' y ∧ New w w'
theorem Blk4K {w : World} {g t : Nat} {a b c d : Value} (h : Blk w g t #[a, b, c, d]) : g < w.heap.size ∧ w.cell? ⟨g, 0, none⟩ = some a ∧ w.cell? ⟨g, 1, none⟩ = some b ∧ w.cell? ⟨g, 2, none⟩ = some c ∧ w.cell? ⟨g, 3, none⟩ = some d ∧ (∀ i, w.frozen? ⟨g, i, none⟩ = false) :=
  ⟨h.lt, h.cell 0, h.cell 1, h.cell 2, h.cell 3, h.frozen⟩
set_option maxRecDepth 100000 in
set_option maxHeartbeats 4000000 in
theorem copied_any (hb : BtAt w x) : Calls Tryz.prog 110 #[x.val] w (CpPost w x) := by
  obtain ⟨⟨c, r, s, l⟩, A, cap⟩ := x
  obtain ⟨hsl, hok⟩ := hb
  have HOK := Lib.hid hok
  obtain ⟨hoc, hor, hos, hol⟩ := hok
  dsimp only [BtV.val, BtV.sl, batV] at hsl hol ⊢
  have hN := ((New.refl w).alloc (.cells #[.int .u64 (c : Int), .int .u64 (r : Int), .int .u64 (s : Int), .slice A l.length cap] 82)).alloc (.cells #[.int .u64 0, .int .u64 0, .int .u64 0, .slice none 0 0] 82)
  have hM := (Blk.mk_new w 82 #[.int .u64 (c : Int), .int .u64 (r : Int), .int .u64 (s : Int), .slice A l.length cap]).alloc (.cells #[.int .u64 0, .int .u64 0, .int .u64 0, .slice none 0 0] 82)
  have hZ := Blk.mk_new (w.alloc (.cells #[.int .u64 (c : Int), .int .u64 (r : Int), .int .u64 (s : Int), .slice A l.length cap] 82)) 82 #[.int .u64 0, .int .u64 0, .int .u64 0, .slice none 0 0]
  rw [World.size_alloc] at hZ
  have HSL := Lib.hid (hsl.new hN)
  have HN := Lib.hid hN
  have HM := Lib.hid hM
  have HZ := Lib.hid hZ
  obtain ⟨q0, q1, q2, q3, q4, qz⟩ := Blk4K hM
  obtain ⟨r0, r1, r2, r3, r4, rz⟩ := Blk4K hZ
  clear hN hM hZ hsl
  go_enter Tryz.func110, Tryz.ntmps110
  go_upto_region 1 with fail
  generalize (w.alloc _).alloc _ = W at *
  go_wp2_with fail
  refine (wclone HSL.out hol).mono ?_
  rintro e w2 ⟨A2, c2, rfl, ht2, hn2⟩
  have hN2 := HN.out.trans hn2
  have hM2 := HM.out.new hn2
  have hZ2 := HZ.out.new hn2
  have hu3 : Upd (· = w.heap.size) w2 (w2.setCell ⟨w.heap.size, 3, none⟩ (.slice A2 l.length c2)) := (Upd.refl _ w2).setIn 3 _
  have hM3 := hM2.set_ 3 (.slice A2 l.length c2)
  have hZ3 := hZ2.upd hu3 (by omega)
  have HT2 := Lib.hid (ht2.upd hu3 (Off.blk hM2 (by decide)))
  have HM3 := Lib.hid hM3
  have HZ3 := Lib.hid hZ3
  have hN3 : New w (w2.setCell ⟨w.heap.size, 3, none⟩ (.slice A2 l.length c2)) := hN2.upd hu3 (fun i e => by omega)
  have HN3 := Lib.hid hN3
  clear q0 q1 q2 q3 q4 qz r0 r1 r2 r3 r4 rz
  obtain ⟨q0, q1, q2, q3, q4, qz⟩ := Blk4K hM2
  obtain ⟨p0, p1, p2, p3, p4, pz⟩ := Blk4K hM3
  obtain ⟨r0, r1, r2, r3, r4, rz⟩ := Blk4K hZ3
  have HU3 := Lib.hid hu3
  clear hN2 hM2 hZ2 hM3 hZ3 hN3 hn2 hu3 ht2
  go_upto_region 2 with fail
  clear q0 q1 q2 q3 q4 qz
  generalize w2.setCell ⟨w.heap.size, 3, none⟩ (.slice A2 l.length c2) = w3 at *
  go_wp2_with fail
  have hu4 : Upd (· = w.heap.size + 1) w3 ((((w3.setCell ⟨w.heap.size + 1, 0, none⟩ (.int .u64 (c : Int))).setCell ⟨w.heap.size + 1, 1, none⟩ (.int .u64 (r : Int))).setCell ⟨w.heap.size + 1, 2, none⟩ (.int .u64 (s : Int))).setCell ⟨w.heap.size + 1, 3, none⟩ (.slice A2 l.length c2)) := ((((Upd.refl _ w3).setIn 0 _).setIn 1 _).setIn 2 _).setIn 3 _
  exact bodyPost_ret (v := batV c r s (.slice A2 l.length c2)) (by simp [results, Tryz.results110, go_sem, r1, r2, r3, r4]) rfl ⟨⟨⟨c, r, s, l⟩, A2, c2⟩, rfl, rfl, ⟨HT2.out.upd hu4 (Off.blk HZ3.out (by decide)), HOK.out⟩, HN3.out.upd hu4 (fun i e => by omega)⟩
end
end Go.Proofs.YtlhlcdjkacglnaaGreatDoor
/- Chapter 24 (replica): last, send. Printed by genRpS.py. -/
namespace Go.Proofs.YtlhlcdjkacglnaaGreatDoor
open Go.RowKit Go.Lap C
set_option linter.unusedVariables false
section
variable {w w' W wa : World} {S : Nat → Prop} {rp B a c r s : Nat} {L : RpL} {x : Rpl} {b : BtV} {sl : Value}
/-- The row of notes turns. -/
theorem RpAt.setOut (h : RpAt w rp B L x) {v : Value} {o : List Nt} (ho : NtRow wa 0 v o) (hl : o.length ≤ B + 1) (hg : w.grownBy wa L.ov.ownBlock) (hv : v.ownBlock = L.ov.ownBlock ∨ v.ownBlock = some w.heap.size ∨ v.ownBlock = none) :
    RpAt (wa.setCell ⟨rp, 6, none⟩ v) rp (B + 1) { L with ov := v } { x with out := o } := by
  obtain ⟨qs, _, hqs, _⟩ := h.out
  obtain ⟨ps, _, hps, _⟩ := h.l
  have hu : Upd (fun k => L.ov.ownBlock = some k) w wa := (Upd.refl _ w).grown hg (fun k _ e => e)
  have hrn : ¬ L.ov.ownBlock = some rp := fun e => hqs.ne_blk h.blk (by decide) e
  have hW : Off w 34 (fun k => L.ov.ownBlock = some k) := Off.row hqs (by decide)
  have hI : Off w 3 (fun k => L.ov.ownBlock = some k) := Off.row hqs (by decide)
  have hb : Blk wa rp _ _ := h.blk.upd hu hrn
  have hu2 : Upd (· = rp) wa (wa.setCell ⟨rp, 6, none⟩ v) := (Upd.refl _ wa).setIn 6 v
  have hjn : ∀ k, JdF L.jl k → ¬ L.ov.ownBlock = some k := by
    obtain ⟨m, _, hm⟩ := h.j.wh
    obtain ⟨n, _, hn⟩ := h.j.sn
    rintro k (rfl | rfl | rfl) e
    · exact hqs.ne_blk h.j.blk (by decide) e
    · exact Row.ne_map hqs hm e
    · exact Row.ne_map hqs hn e
  have hjr : ∀ k, JdF L.jl k → ¬ k = rp := by
    obtain ⟨m, _, hm⟩ := h.j.wh
    obtain ⟨n, _, hn⟩ := h.j.sn
    rintro k (rfl | rfl | rfl) e
    · exact Blk.ne_ h.j.blk h.blk (by decide) e
    · exact Blk.ne_map h.blk hm e.symm
    · exact Blk.ne_map h.blk hn e.symm
  have hlo : ∀ k, L.lv.ownBlock = some k → ¬ L.ov.ownBlock = some k := fun k hk e => Row.ne_row hps hqs (by decide) hk e
  have hlr : ∀ k, L.lv.ownBlock = some k → ¬ k = rp := fun k hk e => hps.ne_blk h.blk (by decide) (e ▸ hk)
  have hvr : ∀ k, v.ownBlock = some k → ¬ k = rp := fun k hk e => by
    obtain ⟨us, _, hus, _⟩ := ho
    exact hus.ne_blk hb (by decide) (e ▸ hk)
  have hWr : Off wa 34 (· = rp) := Off.blk hb (by decide)
  have hIr : Off wa 3 (· = rp) := Off.blk hb (by decide)
  exact ⟨hb.set_ 6 v, (h.cf.upd hu hI).upd hu2 hIr, h.cl7, h.ce, ((h.j.upd hu hjn).upd hu2 hjr).mono (Nat.le_succ B), (h.l.upd hu hlo hW).upd hu2 hlr hWr, ho.upd hu2 hvr hWr, Nat.le_succ_of_le h.ll, hl, Nat.le_succ_of_le h.cl⟩
theorem cell_ne {p i : Nat} {o : Nat} {v u : Value} {w : World} (h : w.cell? ⟨p, o, none⟩ = some v) (hne : o ≠ i) : (w.setCell ⟨p, i, none⟩ u).cell? ⟨p, o, none⟩ = some v := by
  exact (World.cell?_setCell_other _ _ _ _ (by intro e; cases e; exact hne rfl)).trans h
theorem cell_far {p g i : Nat} {o : Nat} {v u : Value} {w : World} (h : w.cell? ⟨g, o, none⟩ = some v) (hne : ¬ g = p) : (w.setCell ⟨p, i, none⟩ u).cell? ⟨g, o, none⟩ = some v := by
  exact (World.cell?_setCell_other _ _ _ _ (by intro e; cases e; exact hne rfl)).trans h
set_option maxHeartbeats 1000000 in
theorem rlast (h : RpAt w rp B L x) (hB : B ≤ 100000000) : Calls Tryz.prog 106 #[.pointer (some ⟨rp, 0, none⟩)] w fun e w' => e = .returned (.int .u64 (x.la : Int)) ∧ w' = w := by
  obtain ⟨g0, c0, c1, c2, c3, c4, c5, c6, cz⟩ := h.facts
  obtain ⟨A, n, hv⟩ := h.l.shape
  have hla : x.la = x.l.length := rfl
  have hll := h.ll
  have hw : IntKind.u64.wrap (x.l.length : Int) = (x.l.length : Int) := IntWalk.u64_in _ (by omega)
  rw [hv] at c4
  clear h hv
  rw [hla]
  clear hla
  go_enter Tryz.func106, Tryz.ntmps106
  go_wp2_with fail
  go_ret
  exact ⟨by simp, rfl⟩
set_option maxRecDepth 100000 in
set_option maxHeartbeats 8000000 in
theorem rsend (h : RpAt w rp B L x) (ds k : Int) {t : Nat} (ht : t < big) (hb : BtAt w b) (hB : B ≤ 100000000) :
    Calls Tryz.prog 146 #[.pointer (some ⟨rp, 0, none⟩), .int .i64 ds, .int .i64 k, .int .u64 (t : Int), b.val] w (fun e w' => e = .returned (.tuple #[]) ∧ RpPost w rp (B + 1) L (x.send ds k t b.b) w') := by
  obtain ⟨⟨c, r, s, l⟩, A, cap⟩ := b
  have HB0 := Lib.hid hB
  have HSZ := Lib.hid h.lt
  dsimp only [BtV.val, BtV.sl, batV]
  have hN := (New.refl w).alloc (.cells #[.int .u64 (c : Int), .int .u64 (r : Int), .int .u64 (s : Int), .slice A l.length cap] 82)
  have hM := Blk.mk_new w 82 #[.int .u64 (c : Int), .int .u64 (r : Int), .int .u64 (s : Int), .slice A l.length cap]
  have hR := h.new hN
  have HR := Lib.hid hR
  have HN := Lib.hid hN
  have HB := Lib.hid (hb.new hN)
  have HM := Lib.hid hM
  have HZW : Hid ((w.alloc (.cells #[.int .u64 (c : Int), .int .u64 (r : Int), .int .u64 (s : Int), .slice A l.length cap] 82)).heap.size = w.heap.size + 1) := Lib.hid (by simp)
  obtain ⟨q0, q1, q2, q3, q4, qz⟩ := Blk4K hM
  obtain ⟨g0, c0, c1, c2, c3, c4, c5, c6, cz⟩ := hR.facts
  clear h hN hM hR hb hB
  go_enter Tryz.func146, Tryz.ntmps146
  go_upto_region 1 with fail
  generalize w.alloc (.cells #[.int .u64 (c : Int), .int .u64 (r : Int), .int .u64 (s : Int), .slice A l.length cap] 82) = W at *
  refine wp_region_held_drew (S := fun w' => w'.cell? ⟨rp, 0, none⟩ = some (.int .i64 x.id) ∧ w'.cell? ⟨rp, 1, none⟩ = some (.int .u64 (x.cf.e : Int)) ∧ w'.cell? ⟨w.heap.size, 0, none⟩ = some (.int .u64 (c : Int)) ∧ w'.cell? ⟨w.heap.size, 1, none⟩ = some (.int .u64 (r : Int)) ∧ w'.cell? ⟨w.heap.size, 2, none⟩ = some (.int .u64 (s : Int)) ∧ w'.cell? ⟨w.heap.size, 3, none⟩ = some (.slice A l.length cap)) (by kernel_rfl) (⟨c0, c1, q1, q2, q3, q4⟩) (fun hHeld => ?_)
  refine tkN (i := 0) rfl ?_
  try simp only [Act.put, sA, sZ, sS]
  refine tkN (i := 1) rfl ?_
  try simp only [Act.put, sA, sZ, sS]
  refine tkN (i := 2) rfl ?_
  try simp only [Act.put, sA, sZ, sS]
  refine tkN (i := 3) rfl ?_
  try simp only [Act.put, sA, sZ, sS]
  refine tkN (i := 5) rfl ?_
  try simp only [Act.put, sA, sZ, sS]
  refine tkN (i := 6) rfl ?_
  try simp only [Act.put, sA, sZ, sS]
  refine tkN (i := 7) rfl ?_
  try simp only [Act.put, sA, sZ, sS]
  refine tkN (i := 8) rfl ?_
  try simp only [Act.put, sA, sZ, sS]
  refine tkN (i := 9) rfl ?_
  try simp only [Act.put, sA, sZ, sS]
  refine tkN (i := 10) rfl ?_
  try simp only [Act.put, sA, sZ, sS]
  refine tkN (i := 11) rfl ?_
  try simp only [Act.put, sA, sZ, sS]
  refine tkN (i := 12) rfl ?_
  try simp only [Act.put, sA, sZ, sS]
  refine tkN (i := 13) rfl ?_
  try simp only [Act.put, sA, sZ, sS]
  refine tkN (i := 14) rfl ?_
  try simp only [Act.put, sA, sZ, sS]
  refine tkN (i := 15) rfl ?_
  try simp only [Act.put, sA, sZ, sS]
  refine tkN (i := 16) rfl ?_
  try simp only [Act.put, sA, sZ, sS]
  refine tkN (i := 17) rfl ?_
  try simp only [Act.put, sA, sZ, sS]
  refine wpAnyH_ready (rs := [4, 18]) (by kernel_rfl) (by simp) ?_
  refine rdN rfl (fun K hK => ?_) (rdN rfl (fun K hK => ?_) AllReadyH.nil)
  · go_simp
    refine hK.out _ _ ?_ (fun hHeld => ?_)
    · exact hHeld
    clear hK K
    try simp only [Act.put, sA, sZ, sS]
    refine stN (i := 18) rfl (fun K hK => ?_)
    go_simp
    refine (copied_any (HB.out.new (New.refl W).drew)).mono ?_
    rintro e w5 ⟨y, rfl, hyb, hy5, hn5⟩
    obtain ⟨⟨yc, yr, ys, yl⟩, yA, ycap⟩ := y
    dsimp only at hyb
    cases hyb
    dsimp only [BtV.val, BtV.sl, batV]
    have hn5W : New W w5 := (New.refl W).drew.trans hn5
    have hR5 := HR.out.new hn5W
    have HR5 := Lib.hid hR5
    have HY5 := Lib.hid hy5
    have HN5 := Lib.hid hn5W
    obtain ⟨G0, C0, C1, C2, C3, C4, C5, C6, CZ⟩ := hR5.facts
    obtain ⟨D0, D1, D2, D3, D4, DZ⟩ := Blk4K (HM.out.new hn5W)
    clear hR5 hy5 hn5
    refine hK.out _ _ ?_ (fun hHeld => ?_)
    · exact ⟨C0, C1, D1, D2, D3, D4⟩
    clear hK K
    try simp only [Act.put, sA, sZ, sS]
    refine tkN (i := 19) rfl ?_
    try simp only [Act.put, sA, sZ, sS]
    refine stN (i := 20) rfl (fun K hK => ?_)
    go_simp
    have hn6 := (New.refl w5).alloc (.cells #[.int .i64 k, .int .i64 x.id, .int .i64 ds, .int .u64 (x.cf.e : Int), .int .u64 (t : Int), .int .u64 (c : Int), .int .u64 (r : Int), .int .u64 (s : Int), .slice yA l.length ycap] 177)
    have hp6 := Blk.mk_new w5 177 #[.int .i64 k, .int .i64 x.id, .int .i64 ds, .int .u64 (x.cf.e : Int), .int .u64 (t : Int), .int .u64 (c : Int), .int .u64 (r : Int), .int .u64 (s : Int), .slice yA l.length ycap]
    have hR6 := HR5.out.new hn6
    have HR6 := Lib.hid hR6
    have HY6 := Lib.hid (HY5.out.new hn6)
    have HP6 := Lib.hid hp6
    have HN6 := Lib.hid (HN5.out.trans hn6)
    obtain ⟨G0, C0, C1, C2, C3, C4, C5, C6, CZ⟩ := hR6.facts
    obtain ⟨D0, D1, D2, D3, D4, DZ⟩ := Blk4K ((HM.out.new hn5W).new hn6)
    have HM6 := Lib.hid ((HM.out.new hn5W).new hn6)
    clear hR6 hn6 hp6
    generalize w5.alloc (.cells #[.int .i64 k, .int .i64 x.id, .int .i64 ds, .int .u64 (x.cf.e : Int), .int .u64 (t : Int), .int .u64 (c : Int), .int .u64 (r : Int), .int .u64 (s : Int), .slice yA l.length ycap] 177) = w6 at *
    refine hK.out _ _ ?_ (fun hHeld => ?_)
    · exact ⟨C0, C1, D1, D2, D3, D4⟩
    clear hK K
    try simp only [Act.put, sA, sZ, sS]
    refine stN (i := 21) rfl (fun K hK => ?_)
    obtain ⟨qs, hqs, hrow, hqa⟩ := HR6.out.out
    have HQS := Lib.hid hqs
    have HQA := Lib.hid hqa
    have HROW := Lib.hid hrow
    have hql : qs.length ≤ B := by have := HR6.out.ol; rw [← hqs, List.length_map] at this; exact this
    have hB := HB0.out
    refine step_appR (m := [(⟨k, x.id, ds, x.cf.e, t, ⟨⟨c, r, s, l⟩, yA, ycap⟩⟩ : NtV)]) ntTy NtV.encOk rfl (.tmp 14) (.tmp 30) rfl rfl rfl hrow (SlIn.one HP6.out NtV.encOk rfl) (by simp; unfold maxLen; omega) (by simp; omega) (Nat.zero_le _) ?_
    intro v7 w7 h7 hg7 hv7
    have hou : Upd (fun i => L.ov.ownBlock = some i) w6 w7 := (Upd.refl _ w6).grown hg7 (fun i _ e => e)
    have hrn : ¬ L.ov.ownBlock = some rp := fun e => hrow.ne_blk HR6.out.blk (by decide) e
    have hbn : ¬ L.ov.ownBlock = some w.heap.size := fun e => hrow.ne_blk HM6.out (by decide) e
    have hcr := fun o => keepR hou G0 hrn o
    have hcb := fun o => keepR hou D0 hbn o
    have HYR : Hid (NtRow w7 0 v7 (x.send ds k t ⟨c, r, s, l⟩).out) := Lib.hid ⟨qs ++ [(⟨k, x.id, ds, x.cf.e, t, ⟨⟨c, r, s, l⟩, yA, ycap⟩⟩ : NtV)], by rw [List.map_append, HQS.out]; rfl, h7, fun p hp => (List.mem_append.1 hp).elim (fun hp => (HQA.out p hp).upd hou (Off.row HROW.out (by decide))) (fun hp => by rw [List.mem_singleton.1 hp]; exact HY6.out.upd hou (Off.row HROW.out (by decide)))⟩
    have hfz : ∀ i, w7.frozen? ⟨rp, i, none⟩ = false := (HR6.out.blk.upd hou hrn).frozen
    obtain ⟨A7, n7, c7, hs7⟩ := h7.shp
    have HS7 := Lib.hid hs7
    have HG7 := Lib.hid hg7
    have HV7 := Lib.hid hv7
    have HOU := Lib.hid hou
    rw [hs7]
    have E0 := (hcr 0).trans C0
    have E1 := (hcr 1).trans C1
    have E6 := (hcr 6).trans C6
    have F1 := (hcb 0).trans D1
    have F2 := (hcb 1).trans D2
    have F3 := (hcb 2).trans D3
    have F4 := (hcb 3).trans D4
    have gl : rp < w7.heap.size := Nat.lt_of_lt_of_le G0 hou.size
    have hbr : ¬ w.heap.size = rp := fun e => Blk.ne_ HM6.out HR6.out.blk (by decide) e
    have hrb : ¬ rp = w.heap.size := fun e => hbr e.symm
    clear hqs hqa hrow h7 hg7 hv7 hou hrn hbn hcr hcb hql hB hs7
    refine hK.out _ _ ?_ (fun hHeld => ?_)
    · exact ⟨E0, E1, F1, F2, F3, F4⟩
    clear hK K
    try simp only [Act.put, sA, sZ, sS]
    refine tkN (i := 22) rfl ?_
    try simp only [Act.put, sA, sZ, sS]
    refine tkN (i := 23) rfl ?_
    try simp only [Act.put, sA, sZ, sS]
    refine stN (i := 24) rfl (fun K hK => ?_)
    go_simp
    have H0 := cell_ne (u := .slice A7 n7 c7) (i := 6) E0 (by decide)
    have H1 := cell_ne (u := .slice A7 n7 c7) (i := 6) E1 (by decide)
    have I1 := cell_far (u := .slice A7 n7 c7) (i := 6) F1 hbr
    have I2 := cell_far (u := .slice A7 n7 c7) (i := 6) F2 hbr
    have I3 := cell_far (u := .slice A7 n7 c7) (i := 6) F3 hbr
    have I4 := cell_far (u := .slice A7 n7 c7) (i := 6) F4 hbr
    refine hK.out _ _ ?_ (fun hHeld => ?_)
    · exact ⟨H0, H1, I1, I2, I3, I4⟩
    clear hK K
    try simp only [Act.put, sA, sZ, sS]
    refine wpAnyH_done (by kernel_rfl) ?_ _
    clear hHeld
    go_wp2_with fail
    go_end0
    refine ⟨rfl, { L with ov := .slice A7 n7 c7 }, ?_, ?_, ?_⟩
    · have := HR6.out.setOut HYR.out (by have := HR6.out.ol; show (x.out ++ _).length ≤ _; rw [List.length_append, List.length_singleton]; omega) HG7.out (HV7.out.elim .inl (fun e => .inr (.inl e)))
      rw [HS7.out] at this
      exact this
    · rintro i (hi | hi | hi | hi)
      · exact .inl (.inl hi)
      · exact .inl (.inr (.inl hi))
      · exact .inl (.inr (.inr (.inl hi)))
      · rw [← HS7.out] at hi
        exact HV7.out.elim (fun e => .inl (.inr (.inr (.inr (e ▸ hi))))) (fun e => .inr (by rw [e] at hi; cases hi; have := HN6.out.size; have := HZW.out; omega))
    · exact (((Upd.new (S := RpF rp L) (HN.out.trans HN6.out))).trans HOU.out (fun i _ hi => .inr (.inr (.inr hi)))).setCell (p := ⟨rp, 6, none⟩) (fun _ => .inl rfl) _
  · go_simp
    refine (copied_any (HB.out.new (New.refl W).drew)).mono ?_
    rintro e w5 ⟨y, rfl, hyb, hy5, hn5⟩
    obtain ⟨⟨yc, yr, ys, yl⟩, yA, ycap⟩ := y
    dsimp only at hyb
    cases hyb
    dsimp only [BtV.val, BtV.sl, batV]
    have hn5W : New W w5 := (New.refl W).drew.trans hn5
    have hR5 := HR.out.new hn5W
    have HR5 := Lib.hid hR5
    have HY5 := Lib.hid hy5
    have HN5 := Lib.hid hn5W
    obtain ⟨G0, C0, C1, C2, C3, C4, C5, C6, CZ⟩ := hR5.facts
    obtain ⟨D0, D1, D2, D3, D4, DZ⟩ := Blk4K (HM.out.new hn5W)
    clear hR5 hy5 hn5
    refine hK.out _ _ ?_ (fun hHeld => ?_)
    · exact ⟨C0, C1, D1, D2, D3, D4⟩
    clear hK K
    try simp only [Act.put, sA, sZ, sS]
    refine tkN (i := 19) rfl ?_
    try simp only [Act.put, sA, sZ, sS]
    refine wpAnyH_ready (rs := [4, 20]) (by kernel_rfl) (by simp) ?_
    refine rdN rfl (fun K hK => ?_) (rdN rfl (fun K hK => ?_) AllReadyH.nil)
    · go_simp
      refine hK.out _ _ ?_ (fun hHeld => ?_)
      · exact hHeld
      clear hK K
      try simp only [Act.put, sA, sZ, sS]
      refine stN (i := 20) rfl (fun K hK => ?_)
      go_simp
      have hn6 := (New.refl w5).alloc (.cells #[.int .i64 k, .int .i64 x.id, .int .i64 ds, .int .u64 (x.cf.e : Int), .int .u64 (t : Int), .int .u64 (c : Int), .int .u64 (r : Int), .int .u64 (s : Int), .slice yA l.length ycap] 177)
      have hp6 := Blk.mk_new w5 177 #[.int .i64 k, .int .i64 x.id, .int .i64 ds, .int .u64 (x.cf.e : Int), .int .u64 (t : Int), .int .u64 (c : Int), .int .u64 (r : Int), .int .u64 (s : Int), .slice yA l.length ycap]
      have hR6 := HR5.out.new hn6
      have HR6 := Lib.hid hR6
      have HY6 := Lib.hid (HY5.out.new hn6)
      have HP6 := Lib.hid hp6
      have HN6 := Lib.hid (HN5.out.trans hn6)
      obtain ⟨G0, C0, C1, C2, C3, C4, C5, C6, CZ⟩ := hR6.facts
      obtain ⟨D0, D1, D2, D3, D4, DZ⟩ := Blk4K ((HM.out.new hn5W).new hn6)
      have HM6 := Lib.hid ((HM.out.new hn5W).new hn6)
      clear hR6 hn6 hp6
      generalize w5.alloc (.cells #[.int .i64 k, .int .i64 x.id, .int .i64 ds, .int .u64 (x.cf.e : Int), .int .u64 (t : Int), .int .u64 (c : Int), .int .u64 (r : Int), .int .u64 (s : Int), .slice yA l.length ycap] 177) = w6 at *
      refine hK.out _ _ ?_ (fun hHeld => ?_)
      · exact ⟨C0, C1, D1, D2, D3, D4⟩
      clear hK K
      try simp only [Act.put, sA, sZ, sS]
      refine stN (i := 21) rfl (fun K hK => ?_)
      obtain ⟨qs, hqs, hrow, hqa⟩ := HR6.out.out
      have HQS := Lib.hid hqs
      have HQA := Lib.hid hqa
      have HROW := Lib.hid hrow
      have hql : qs.length ≤ B := by have := HR6.out.ol; rw [← hqs, List.length_map] at this; exact this
      have hB := HB0.out
      refine step_appR (m := [(⟨k, x.id, ds, x.cf.e, t, ⟨⟨c, r, s, l⟩, yA, ycap⟩⟩ : NtV)]) ntTy NtV.encOk rfl (.tmp 14) (.tmp 30) rfl rfl rfl hrow (SlIn.one HP6.out NtV.encOk rfl) (by simp; unfold maxLen; omega) (by simp; omega) (Nat.zero_le _) ?_
      intro v7 w7 h7 hg7 hv7
      have hou : Upd (fun i => L.ov.ownBlock = some i) w6 w7 := (Upd.refl _ w6).grown hg7 (fun i _ e => e)
      have hrn : ¬ L.ov.ownBlock = some rp := fun e => hrow.ne_blk HR6.out.blk (by decide) e
      have hbn : ¬ L.ov.ownBlock = some w.heap.size := fun e => hrow.ne_blk HM6.out (by decide) e
      have hcr := fun o => keepR hou G0 hrn o
      have hcb := fun o => keepR hou D0 hbn o
      have HYR : Hid (NtRow w7 0 v7 (x.send ds k t ⟨c, r, s, l⟩).out) := Lib.hid ⟨qs ++ [(⟨k, x.id, ds, x.cf.e, t, ⟨⟨c, r, s, l⟩, yA, ycap⟩⟩ : NtV)], by rw [List.map_append, HQS.out]; rfl, h7, fun p hp => (List.mem_append.1 hp).elim (fun hp => (HQA.out p hp).upd hou (Off.row HROW.out (by decide))) (fun hp => by rw [List.mem_singleton.1 hp]; exact HY6.out.upd hou (Off.row HROW.out (by decide)))⟩
      have hfz : ∀ i, w7.frozen? ⟨rp, i, none⟩ = false := (HR6.out.blk.upd hou hrn).frozen
      obtain ⟨A7, n7, c7, hs7⟩ := h7.shp
      have HS7 := Lib.hid hs7
      have HG7 := Lib.hid hg7
      have HV7 := Lib.hid hv7
      have HOU := Lib.hid hou
      rw [hs7]
      have E0 := (hcr 0).trans C0
      have E1 := (hcr 1).trans C1
      have E6 := (hcr 6).trans C6
      have F1 := (hcb 0).trans D1
      have F2 := (hcb 1).trans D2
      have F3 := (hcb 2).trans D3
      have F4 := (hcb 3).trans D4
      have gl : rp < w7.heap.size := Nat.lt_of_lt_of_le G0 hou.size
      have hbr : ¬ w.heap.size = rp := fun e => Blk.ne_ HM6.out HR6.out.blk (by decide) e
      have hrb : ¬ rp = w.heap.size := fun e => hbr e.symm
      clear hqs hqa hrow h7 hg7 hv7 hou hrn hbn hcr hcb hql hB hs7
      refine hK.out _ _ ?_ (fun hHeld => ?_)
      · exact ⟨E0, E1, F1, F2, F3, F4⟩
      clear hK K
      try simp only [Act.put, sA, sZ, sS]
      refine tkN (i := 22) rfl ?_
      try simp only [Act.put, sA, sZ, sS]
      refine tkN (i := 23) rfl ?_
      try simp only [Act.put, sA, sZ, sS]
      refine stN (i := 24) rfl (fun K hK => ?_)
      go_simp
      have H0 := cell_ne (u := .slice A7 n7 c7) (i := 6) E0 (by decide)
      have H1 := cell_ne (u := .slice A7 n7 c7) (i := 6) E1 (by decide)
      have I1 := cell_far (u := .slice A7 n7 c7) (i := 6) F1 hbr
      have I2 := cell_far (u := .slice A7 n7 c7) (i := 6) F2 hbr
      have I3 := cell_far (u := .slice A7 n7 c7) (i := 6) F3 hbr
      have I4 := cell_far (u := .slice A7 n7 c7) (i := 6) F4 hbr
      refine hK.out _ _ ?_ (fun hHeld => ?_)
      · exact ⟨H0, H1, I1, I2, I3, I4⟩
      clear hK K
      try simp only [Act.put, sA, sZ, sS]
      refine wpAnyH_done (by kernel_rfl) ?_ _
      clear hHeld
      go_wp2_with fail
      go_end0
      refine ⟨rfl, { L with ov := .slice A7 n7 c7 }, ?_, ?_, ?_⟩
      · have := HR6.out.setOut HYR.out (by have := HR6.out.ol; show (x.out ++ _).length ≤ _; rw [List.length_append, List.length_singleton]; omega) HG7.out (HV7.out.elim .inl (fun e => .inr (.inl e)))
        rw [HS7.out] at this
        exact this
      · rintro i (hi | hi | hi | hi)
        · exact .inl (.inl hi)
        · exact .inl (.inr (.inl hi))
        · exact .inl (.inr (.inr (.inl hi)))
        · rw [← HS7.out] at hi
          exact HV7.out.elim (fun e => .inl (.inr (.inr (.inr (e ▸ hi))))) (fun e => .inr (by rw [e] at hi; cases hi; have := HN6.out.size; have := HZW.out; omega))
      · exact (((Upd.new (S := RpF rp L) (HN.out.trans HN6.out))).trans HOU.out (fun i _ hi => .inr (.inr (.inr hi)))).setCell (p := ⟨rp, 6, none⟩) (fun _ => .inl rfl) _
    · go_simp
      have hn6 := (New.refl w5).alloc (.cells #[.int .i64 k, .int .i64 x.id, .int .i64 ds, .int .u64 (x.cf.e : Int), .int .u64 (t : Int), .int .u64 (c : Int), .int .u64 (r : Int), .int .u64 (s : Int), .slice yA l.length ycap] 177)
      have hp6 := Blk.mk_new w5 177 #[.int .i64 k, .int .i64 x.id, .int .i64 ds, .int .u64 (x.cf.e : Int), .int .u64 (t : Int), .int .u64 (c : Int), .int .u64 (r : Int), .int .u64 (s : Int), .slice yA l.length ycap]
      have hR6 := HR5.out.new hn6
      have HR6 := Lib.hid hR6
      have HY6 := Lib.hid (HY5.out.new hn6)
      have HP6 := Lib.hid hp6
      have HN6 := Lib.hid (HN5.out.trans hn6)
      obtain ⟨G0, C0, C1, C2, C3, C4, C5, C6, CZ⟩ := hR6.facts
      obtain ⟨D0, D1, D2, D3, D4, DZ⟩ := Blk4K ((HM.out.new hn5W).new hn6)
      have HM6 := Lib.hid ((HM.out.new hn5W).new hn6)
      clear hR6 hn6 hp6
      generalize w5.alloc (.cells #[.int .i64 k, .int .i64 x.id, .int .i64 ds, .int .u64 (x.cf.e : Int), .int .u64 (t : Int), .int .u64 (c : Int), .int .u64 (r : Int), .int .u64 (s : Int), .slice yA l.length ycap] 177) = w6 at *
      refine hK.out _ _ ?_ (fun hHeld => ?_)
      · exact ⟨C0, C1, D1, D2, D3, D4⟩
      clear hK K
      try simp only [Act.put, sA, sZ, sS]
      refine stN (i := 4) rfl (fun K hK => ?_)
      go_simp
      refine hK.out _ _ ?_ (fun hHeld => ?_)
      · exact hHeld
      clear hK K
      try simp only [Act.put, sA, sZ, sS]
      refine stN (i := 21) rfl (fun K hK => ?_)
      obtain ⟨qs, hqs, hrow, hqa⟩ := HR6.out.out
      have HQS := Lib.hid hqs
      have HQA := Lib.hid hqa
      have HROW := Lib.hid hrow
      have hql : qs.length ≤ B := by have := HR6.out.ol; rw [← hqs, List.length_map] at this; exact this
      have hB := HB0.out
      refine step_appR (m := [(⟨k, x.id, ds, x.cf.e, t, ⟨⟨c, r, s, l⟩, yA, ycap⟩⟩ : NtV)]) ntTy NtV.encOk rfl (.tmp 14) (.tmp 30) rfl rfl rfl hrow (SlIn.one HP6.out NtV.encOk rfl) (by simp; unfold maxLen; omega) (by simp; omega) (Nat.zero_le _) ?_
      intro v7 w7 h7 hg7 hv7
      have hou : Upd (fun i => L.ov.ownBlock = some i) w6 w7 := (Upd.refl _ w6).grown hg7 (fun i _ e => e)
      have hrn : ¬ L.ov.ownBlock = some rp := fun e => hrow.ne_blk HR6.out.blk (by decide) e
      have hbn : ¬ L.ov.ownBlock = some w.heap.size := fun e => hrow.ne_blk HM6.out (by decide) e
      have hcr := fun o => keepR hou G0 hrn o
      have hcb := fun o => keepR hou D0 hbn o
      have HYR : Hid (NtRow w7 0 v7 (x.send ds k t ⟨c, r, s, l⟩).out) := Lib.hid ⟨qs ++ [(⟨k, x.id, ds, x.cf.e, t, ⟨⟨c, r, s, l⟩, yA, ycap⟩⟩ : NtV)], by rw [List.map_append, HQS.out]; rfl, h7, fun p hp => (List.mem_append.1 hp).elim (fun hp => (HQA.out p hp).upd hou (Off.row HROW.out (by decide))) (fun hp => by rw [List.mem_singleton.1 hp]; exact HY6.out.upd hou (Off.row HROW.out (by decide)))⟩
      have hfz : ∀ i, w7.frozen? ⟨rp, i, none⟩ = false := (HR6.out.blk.upd hou hrn).frozen
      obtain ⟨A7, n7, c7, hs7⟩ := h7.shp
      have HS7 := Lib.hid hs7
      have HG7 := Lib.hid hg7
      have HV7 := Lib.hid hv7
      have HOU := Lib.hid hou
      rw [hs7]
      have E0 := (hcr 0).trans C0
      have E1 := (hcr 1).trans C1
      have E6 := (hcr 6).trans C6
      have F1 := (hcb 0).trans D1
      have F2 := (hcb 1).trans D2
      have F3 := (hcb 2).trans D3
      have F4 := (hcb 3).trans D4
      have gl : rp < w7.heap.size := Nat.lt_of_lt_of_le G0 hou.size
      have hbr : ¬ w.heap.size = rp := fun e => Blk.ne_ HM6.out HR6.out.blk (by decide) e
      have hrb : ¬ rp = w.heap.size := fun e => hbr e.symm
      clear hqs hqa hrow h7 hg7 hv7 hou hrn hbn hcr hcb hql hB hs7
      refine hK.out _ _ ?_ (fun hHeld => ?_)
      · exact ⟨E0, E1, F1, F2, F3, F4⟩
      clear hK K
      try simp only [Act.put, sA, sZ, sS]
      refine tkN (i := 22) rfl ?_
      try simp only [Act.put, sA, sZ, sS]
      refine tkN (i := 23) rfl ?_
      try simp only [Act.put, sA, sZ, sS]
      refine stN (i := 24) rfl (fun K hK => ?_)
      go_simp
      have H0 := cell_ne (u := .slice A7 n7 c7) (i := 6) E0 (by decide)
      have H1 := cell_ne (u := .slice A7 n7 c7) (i := 6) E1 (by decide)
      have I1 := cell_far (u := .slice A7 n7 c7) (i := 6) F1 hbr
      have I2 := cell_far (u := .slice A7 n7 c7) (i := 6) F2 hbr
      have I3 := cell_far (u := .slice A7 n7 c7) (i := 6) F3 hbr
      have I4 := cell_far (u := .slice A7 n7 c7) (i := 6) F4 hbr
      refine hK.out _ _ ?_ (fun hHeld => ?_)
      · exact ⟨H0, H1, I1, I2, I3, I4⟩
      clear hK K
      try simp only [Act.put, sA, sZ, sS]
      refine wpAnyH_done (by kernel_rfl) ?_ _
      clear hHeld
      go_wp2_with fail
      go_end0
      refine ⟨rfl, { L with ov := .slice A7 n7 c7 }, ?_, ?_, ?_⟩
      · have := HR6.out.setOut HYR.out (by have := HR6.out.ol; show (x.out ++ _).length ≤ _; rw [List.length_append, List.length_singleton]; omega) HG7.out (HV7.out.elim .inl (fun e => .inr (.inl e)))
        rw [HS7.out] at this
        exact this
      · rintro i (hi | hi | hi | hi)
        · exact .inl (.inl hi)
        · exact .inl (.inr (.inl hi))
        · exact .inl (.inr (.inr (.inl hi)))
        · rw [← HS7.out] at hi
          exact HV7.out.elim (fun e => .inl (.inr (.inr (.inr (e ▸ hi))))) (fun e => .inr (by rw [e] at hi; cases hi; have := HN6.out.size; have := HZW.out; omega))
      · exact (((Upd.new (S := RpF rp L) (HN.out.trans HN6.out))).trans HOU.out (fun i _ hi => .inr (.inr (.inr hi)))).setCell (p := ⟨rp, 6, none⟩) (fun _ => .inl rfl) _
end
end Go.Proofs.YtlhlcdjkacglnaaGreatDoor
/- Chapter 24 (replica): tell, ask, cleaned, added. Printed by genRpT.py. -/
namespace Go.Proofs.YtlhlcdjkacglnaaGreatDoor
open Go.RowKit Go.Lap C
set_option linter.unusedVariables false
set_option linter.unusedSimpArgs false
section
variable {w w' W wa : World} {S : Nat → Prop} {rp B D : Nat} {L : RpL} {x x' : Rpl} {b : BtV}
theorem rbefore (h : RpAt w rp B L x) : Calls Tryz.prog 134 #[.agg #[.int .u64 (x.cf.e : Int), L.cv], .int .i64 x.id] w (AtPost w (befC x.cf x.id)) := before_any x.cf.e L.cv x.cf.ms x.id w (by have := h.cl7; omega) h.cf.slIn
theorem rnext (h : RpAt w rp B L x) : Calls Tryz.prog 93 #[.agg #[.int .u64 (x.cf.e : Int), L.cv], .int .i64 x.id] w (AtPost w (nextC x.cf x.id)) := next_any x.cf.e L.cv x.cf.ms x.id w (by have := h.cl7; omega) h.cf.slIn
theorem RpPost.pre (hn : New w W) (h : RpPost W rp B L x' wa) : RpPost w rp B L x' wa := by
  obtain ⟨L', h1, h2, h3⟩ := h
  exact ⟨L', h1, fun k hk => (h2 k hk).imp id (fun h => Nat.le_trans hn.size h), (Upd.new hn).trans h3 (fun _ _ h => h)⟩
theorem RpPost.mono {C : Nat} (h : RpPost w rp B L x wa) (hB : B ≤ C) : RpPost w rp C L x wa := let ⟨L', h1, h2, h3⟩ := h; ⟨L', h1.mono hB, h2, h3⟩
/-- One act behind another one. -/
theorem RpPost.trans {L1 : RpL} (h1 : RpAt W rp B L1 x) (hk : ∀ k, RpF rp L1 k → RpF rp L k ∨ w.heap.size ≤ k) (hu : Upd (RpF rp L) w W) (h : RpPost W rp D L1 x' wa) : RpPost w rp D L x' wa := by
  obtain ⟨L', h2, h3, h4⟩ := h
  refine ⟨L', h2, fun k hk2 => ?_, hu.trans h4 (fun k hlt hk2 => (hk k hk2).resolve_right (by omega))⟩
  rcases h3 k hk2 with h5 | h5
  · exact hk k h5
  · exact .inr (Nat.le_trans hu.size h5)
set_option maxRecDepth 100000 in
set_option maxHeartbeats 4000000 in
theorem rtell (h : RpAt w rp B L x) (hB : B ≤ 10000000) :
    Calls Tryz.prog 95 #[.pointer (some ⟨rp, 0, none⟩)] w (fun e w' => e = .returned (.tuple #[]) ∧ RpPost w rp (B + 1) L x.tell w') := by
  have HR := Lib.hid h
  obtain ⟨g0, c0, c1, c2, c3, c4, c5, c6, cz⟩ := h.facts
  have hcl := h.cl
  have hll := h.ll
  clear h
  cases hbf : befC x.cf x.id with
  | mk y ok =>
  cases ok with
  | false =>
    have HF : Hid (x.tell = x) := Lib.hid (by unfold Rpl.tell; rw [hbf]; rfl)
    have HBF := Lib.hid hbf
    clear hbf
    go_enter Tryz.func95, Tryz.ntmps95
    go_upto_region 0 with fail
    refine wp_region_held_drew (S := fun w' => Held w w') (by kernel_rfl) (Held.of (New.refl _).drew) (fun hHeld => ?_)
    refine tkN (i := 0) rfl ?_
    try simp only [Act.put, sA, sZ, sS]
    refine tkN (i := 1) rfl ?_
    try simp only [Act.put, sA, sZ, sS]
    refine tkN (i := 2) rfl ?_
    try simp only [Act.put, sA, sZ, sS]
    refine tkN (i := 3) rfl ?_
    try simp only [Act.put, sA, sZ, sS]
    refine tkN (i := 4) rfl ?_
    try simp only [Act.put, sA, sZ, sS]
    refine tkN (i := 5) rfl ?_
    try simp only [Act.put, sA, sZ, sS]
    refine tkN (i := 6) rfl ?_
    try simp only [Act.put, sA, sZ, sS]
    refine tkN (i := 7) rfl ?_
    try simp only [Act.put, sA, sZ, sS]
    refine stN (i := 8) rfl (fun K hK => ?_)
    go_simp
    have hcall := rbefore (HR.out.new (New.refl w).drew)
    rw [HBF.out] at hcall
    refine hcall.mono ?_
    rintro e w5 ⟨rfl, hn5⟩
    have hn5W : New w w5 := (New.refl w).drew.trans hn5
    refine hK.out _ _ ?_ (fun hHeld => ?_)
    · exact Held.of hn5W
    clear hK K
    try simp only [Act.put, sA, sZ, sS]
    refine tkN (i := 9) rfl ?_
    try simp only [Act.put, sA, sZ, sS]
    refine tkN (i := 10) rfl ?_
    try simp only [Act.put, sA, sZ, sS]
    refine tkN (i := 11) rfl ?_
    try simp only [Act.put, sA, sZ, sS]
    refine tkN (i := 12) rfl ?_
    try simp only [Act.put, sA, sZ, sS]
    refine tkN (i := 13) rfl ?_
    try simp only [Act.put, sA, sZ, sS]
    refine wpAnyH_done (by kernel_rfl) ?_ _
    clear hHeld
    have HN5 := Lib.hid hn5W
    clear hn5 hn5W
    go_wp2_with fail
    go_end0
    exact ⟨rfl, by rw [HF.out]; exact (RpPost.new HR.out HN5.out).mono (Nat.le_succ B)⟩
  | true =>
    have HF : Hid (x.tell = x.send y 1 x.cl Btc.none) := Lib.hid (by unfold Rpl.tell; rw [hbf]; rfl)
    have HBF := Lib.hid hbf
    clear hbf
    go_enter Tryz.func95, Tryz.ntmps95
    go_upto_region 0 with fail
    refine wp_region_held_drew (S := fun w' => Held w w') (by kernel_rfl) (Held.of (New.refl _).drew) (fun hHeld => ?_)
    refine tkN (i := 0) rfl ?_
    try simp only [Act.put, sA, sZ, sS]
    refine tkN (i := 1) rfl ?_
    try simp only [Act.put, sA, sZ, sS]
    refine tkN (i := 2) rfl ?_
    try simp only [Act.put, sA, sZ, sS]
    refine tkN (i := 3) rfl ?_
    try simp only [Act.put, sA, sZ, sS]
    refine tkN (i := 4) rfl ?_
    try simp only [Act.put, sA, sZ, sS]
    refine tkN (i := 5) rfl ?_
    try simp only [Act.put, sA, sZ, sS]
    refine tkN (i := 6) rfl ?_
    try simp only [Act.put, sA, sZ, sS]
    refine tkN (i := 7) rfl ?_
    try simp only [Act.put, sA, sZ, sS]
    refine stN (i := 8) rfl (fun K hK => ?_)
    go_simp
    have hcall := rbefore (HR.out.new (New.refl w).drew)
    rw [HBF.out] at hcall
    refine hcall.mono ?_
    rintro e w5 ⟨rfl, hn5⟩
    have hn5W : New w w5 := (New.refl w).drew.trans hn5
    refine hK.out _ _ ?_ (fun hHeld => ?_)
    · exact Held.of hn5W
    clear hK K
    try simp only [Act.put, sA, sZ, sS]
    refine tkN (i := 9) rfl ?_
    try simp only [Act.put, sA, sZ, sS]
    refine tkN (i := 10) rfl ?_
    try simp only [Act.put, sA, sZ, sS]
    refine tkN (i := 11) rfl ?_
    try simp only [Act.put, sA, sZ, sS]
    refine tkN (i := 12) rfl ?_
    try simp only [Act.put, sA, sZ, sS]
    refine tkN (i := 13) rfl ?_
    try simp only [Act.put, sA, sZ, sS]
    refine wpAnyH_done (by kernel_rfl) ?_ _
    clear hHeld
    have HN5 := Lib.hid hn5W
    have HR5 := Lib.hid (HR.out.new hn5W)
    clear hn5 hn5W g0 c0 c1 c2 c3 c4 c5 c6 cz
    obtain ⟨g0, c0, c1, c2, c3, c4, c5, c6, cz⟩ := HR5.out.facts
    go_wp2_with fail
    refine (rsend HR5.out y 1 (t := x.cl) (by unfold big; omega) (BtAt.nil _) (by omega)).mono ?_
    rintro e w7 ⟨rfl, hp⟩
    go_wp2_with fail
    go_end0
    exact ⟨rfl, by rw [HF.out]; exact RpPost.pre HN5.out hp⟩
set_option maxRecDepth 100000 in
set_option maxHeartbeats 4000000 in
theorem rask (h : RpAt w rp B L x) (hB : B ≤ 10000000) :
    Calls Tryz.prog 96 #[.pointer (some ⟨rp, 0, none⟩)] w (fun e w' => e = .returned (.tuple #[]) ∧ RpPost w rp (B + 1) L x.ask w') := by
  have HR := Lib.hid h
  obtain ⟨g0, c0, c1, c2, c3, c4, c5, c6, cz⟩ := h.facts
  have hcl := h.cl
  have hll := h.ll
  clear h
  cases hbf : befC x.cf x.id with
  | mk y ok =>
  cases ok with
  | false =>
    have HF : Hid (x.ask = x) := Lib.hid (by unfold Rpl.ask; rw [hbf]; rfl)
    have HBF := Lib.hid hbf
    clear hbf
    go_enter Tryz.func96, Tryz.ntmps96
    go_upto_region 0 with fail
    refine wp_region_held_drew (S := fun w' => Held w w') (by kernel_rfl) (Held.of (New.refl _).drew) (fun hHeld => ?_)
    refine tkN (i := 0) rfl ?_
    try simp only [Act.put, sA, sZ, sS]
    refine tkN (i := 1) rfl ?_
    try simp only [Act.put, sA, sZ, sS]
    refine tkN (i := 2) rfl ?_
    try simp only [Act.put, sA, sZ, sS]
    refine tkN (i := 3) rfl ?_
    try simp only [Act.put, sA, sZ, sS]
    refine tkN (i := 4) rfl ?_
    try simp only [Act.put, sA, sZ, sS]
    refine tkN (i := 5) rfl ?_
    try simp only [Act.put, sA, sZ, sS]
    refine tkN (i := 6) rfl ?_
    try simp only [Act.put, sA, sZ, sS]
    refine tkN (i := 7) rfl ?_
    try simp only [Act.put, sA, sZ, sS]
    refine stN (i := 8) rfl (fun K hK => ?_)
    go_simp
    have hcall := rbefore (HR.out.new (New.refl w).drew)
    rw [HBF.out] at hcall
    refine hcall.mono ?_
    rintro e w5 ⟨rfl, hn5⟩
    have hn5W : New w w5 := (New.refl w).drew.trans hn5
    refine hK.out _ _ ?_ (fun hHeld => ?_)
    · exact Held.of hn5W
    clear hK K
    try simp only [Act.put, sA, sZ, sS]
    refine tkN (i := 9) rfl ?_
    try simp only [Act.put, sA, sZ, sS]
    refine tkN (i := 10) rfl ?_
    try simp only [Act.put, sA, sZ, sS]
    refine tkN (i := 11) rfl ?_
    try simp only [Act.put, sA, sZ, sS]
    refine tkN (i := 12) rfl ?_
    try simp only [Act.put, sA, sZ, sS]
    refine tkN (i := 13) rfl ?_
    try simp only [Act.put, sA, sZ, sS]
    refine wpAnyH_done (by kernel_rfl) ?_ _
    clear hHeld
    have HN5 := Lib.hid hn5W
    clear hn5 hn5W
    go_wp2_with fail
    go_end0
    exact ⟨rfl, by rw [HF.out]; exact (RpPost.new HR.out HN5.out).mono (Nat.le_succ B)⟩
  | true =>
    have HF : Hid (x.ask = x.send y 2 (x.la + 1) Btc.none) := Lib.hid (by unfold Rpl.ask; rw [hbf]; rfl)
    have HBF := Lib.hid hbf
    clear hbf
    go_enter Tryz.func96, Tryz.ntmps96
    go_upto_region 0 with fail
    refine wp_region_held_drew (S := fun w' => Held w w') (by kernel_rfl) (Held.of (New.refl _).drew) (fun hHeld => ?_)
    refine tkN (i := 0) rfl ?_
    try simp only [Act.put, sA, sZ, sS]
    refine tkN (i := 1) rfl ?_
    try simp only [Act.put, sA, sZ, sS]
    refine tkN (i := 2) rfl ?_
    try simp only [Act.put, sA, sZ, sS]
    refine tkN (i := 3) rfl ?_
    try simp only [Act.put, sA, sZ, sS]
    refine tkN (i := 4) rfl ?_
    try simp only [Act.put, sA, sZ, sS]
    refine tkN (i := 5) rfl ?_
    try simp only [Act.put, sA, sZ, sS]
    refine tkN (i := 6) rfl ?_
    try simp only [Act.put, sA, sZ, sS]
    refine tkN (i := 7) rfl ?_
    try simp only [Act.put, sA, sZ, sS]
    refine stN (i := 8) rfl (fun K hK => ?_)
    go_simp
    have hcall := rbefore (HR.out.new (New.refl w).drew)
    rw [HBF.out] at hcall
    refine hcall.mono ?_
    rintro e w5 ⟨rfl, hn5⟩
    have hn5W : New w w5 := (New.refl w).drew.trans hn5
    refine hK.out _ _ ?_ (fun hHeld => ?_)
    · exact Held.of hn5W
    clear hK K
    try simp only [Act.put, sA, sZ, sS]
    refine tkN (i := 9) rfl ?_
    try simp only [Act.put, sA, sZ, sS]
    refine tkN (i := 10) rfl ?_
    try simp only [Act.put, sA, sZ, sS]
    refine tkN (i := 11) rfl ?_
    try simp only [Act.put, sA, sZ, sS]
    refine tkN (i := 12) rfl ?_
    try simp only [Act.put, sA, sZ, sS]
    refine tkN (i := 13) rfl ?_
    try simp only [Act.put, sA, sZ, sS]
    refine wpAnyH_done (by kernel_rfl) ?_ _
    clear hHeld
    have HN5 := Lib.hid hn5W
    have HR5 := Lib.hid (HR.out.new hn5W)
    clear hn5 hn5W g0 c0 c1 c2 c3 c4 c5 c6 cz
    obtain ⟨g0, c0, c1, c2, c3, c4, c5, c6, cz⟩ := HR5.out.facts
    go_wp2_with fail
    refine (rlast HR5.out (by omega)).mono ?_
    rintro e w6 ⟨rfl, rfl⟩
    have hla : x.la ≤ B := hll
    have hwr : IntKind.u64.wrap ((x.la : Int) + 1) = (x.la : Int) + 1 := IntWalk.u64_in _ (by omega)
    clear hll
    go_wp2_with fail
    refine (rsend HR5.out y 2 (t := x.la + 1) (by unfold big; have : x.la = x.l.length := rfl; omega) (BtAt.nil _) (by omega)).mono ?_
    rintro e w7 ⟨rfl, hp⟩
    go_wp2_with fail
    go_end0
    exact ⟨rfl, by rw [HF.out]; exact RpPost.pre HN5.out hp⟩
theorem RpAt.setCl (h : RpAt w rp B L x) {t : Nat} (ht : t ≤ B) : RpAt (w.setCell ⟨rp, 5, none⟩ (.int .u64 (t : Int))) rp B L { x with cl := t } ∧ Upd (RpF rp L) w (w.setCell ⟨rp, 5, none⟩ (.int .u64 (t : Int))) := by
  have hu : Upd (· = rp) w (w.setCell ⟨rp, 5, none⟩ (.int .u64 (t : Int))) := (Upd.refl _ w).setIn 5 _
  obtain ⟨ps, _, hps, _⟩ := h.l
  obtain ⟨qs, _, hqs, _⟩ := h.out
  have hjr : ∀ k, JdF L.jl k → ¬ k = rp := by
    obtain ⟨m, _, hm⟩ := h.j.wh
    obtain ⟨n, _, hn⟩ := h.j.sn
    rintro k (rfl | rfl | rfl) e
    · exact Blk.ne_ h.j.blk h.blk (by decide) e
    · exact Blk.ne_map h.blk hm e.symm
    · exact Blk.ne_map h.blk hn e.symm
  have hWr : Off w 34 (· = rp) := Off.blk h.blk (by decide)
  have hIr : Off w 3 (· = rp) := Off.blk h.blk (by decide)
  exact ⟨⟨h.blk.set_ 5 _, h.cf.upd hu hIr, h.cl7, h.ce, h.j.upd hu hjr, h.l.upd hu (fun k hk e => hps.ne_blk h.blk (by decide) (e ▸ hk)) hWr, h.out.upd hu (fun k hk e => hqs.ne_blk h.blk (by decide) (e ▸ hk)) hWr, h.ll, h.ol, ht⟩, hu.mono (fun _ _ e => .inl e)⟩
set_option maxHeartbeats 2000000 in
theorem rcleaned (h : RpAt w rp B L x) {t : Nat} (ht : t ≤ B) (hB : B ≤ 10000000) :
    Calls Tryz.prog 105 #[.pointer (some ⟨rp, 0, none⟩), .int .u64 (t : Int)] w (fun e w' => e = .returned (.tuple #[]) ∧ RpPost w rp (B + 1) L (x.cleaned t) w') := by
  obtain ⟨h1, h2⟩ := h.setCl ht
  have H1 := Lib.hid h1
  have H2 := Lib.hid h2
  obtain ⟨g0, c0, c1, c2, c3, c4, c5, c6, cz⟩ := h.facts
  clear h h1 h2
  go_enter Tryz.func105, Tryz.ntmps105
  go_wp2_with fail
  refine (rtell H1.out hB).mono ?_
  rintro e w5 ⟨rfl, hp⟩
  go_wp2_with fail
  go_end0
  exact ⟨rfl, RpPost.trans H1.out (fun k hk => .inl hk) H2.out hp⟩
def Rpl.addC (y : Rpl) (b : Btc) : Rpl := if (nextC y.cf y.id).2 = true then y.send (nextC y.cf y.id).1 0 y.la b else y.cleaned y.la
/-- The last batch of a list. -/
theorem BtRow.last {v : Value} {l : List Btc} {b : Btc} {m : Nat} (h : BtRow w 0 v l) (hm : l.length = m + 1) (hb : l[m]? = some b) : ∃ g off cap A c, v = .slice (some ⟨g, off, none⟩) (m + 1) cap ∧ m + 1 ≤ cap ∧ BtAt w ⟨b, A, c⟩ ∧
    w.cell? ⟨g, off + m * 4, none⟩ = some (.int .u64 (b.c : Int)) ∧ w.cell? ⟨g, off + m * 4 + 1, none⟩ = some (.int .u64 (b.r : Int)) ∧ w.cell? ⟨g, off + m * 4 + 2, none⟩ = some (.int .u64 (b.s : Int)) ∧ w.cell? ⟨g, off + m * 4 + 3, none⟩ = some (.slice A b.l.length c) ∧ g < w.heap.size := by
  obtain ⟨ps, rfl, h2, h3⟩ := h
  rw [List.length_map] at hm
  rw [List.getElem?_map] at hb
  obtain ⟨p, hp, rfl⟩ := Option.map_eq_some_iff.1 hb
  obtain ⟨g, off, cap, rfl, _, hr⟩ := h2.at_ (by intro e; rw [e] at hm; simp at hm)
  refine ⟨g, off, cap, p.A, p.c, by rw [hm], by rw [← hm]; exact hr.len.1, h3 p (List.mem_of_getElem? hp), ?_, ?_, ?_, ?_, hr.lt⟩
  · exact hr.cell BtV.encOk hp (j := 0) rfl
  · exact hr.cell BtV.encOk hp (j := 1) rfl
  · exact hr.cell BtV.encOk hp (j := 2) rfl
  · exact hr.cell BtV.encOk hp (j := 3) rfl
set_option maxRecDepth 100000 in
set_option maxHeartbeats 8000000 in
theorem radded (h : RpAt w rp B L x) {b : Btc} {m : Nat} (hm : x.l.length = m + 1) (hb : x.l[m]? = some b) (hB : B ≤ 10000000) :
    Calls Tryz.prog 183 #[.pointer (some ⟨rp, 0, none⟩)] w (fun e w' => e = .returned (.tuple #[]) ∧ RpPost w rp (B + 1) L (x.addC b) w') := by
  have HR := Lib.hid h
  obtain ⟨g0, c0, c1, c2, c3, c4, c5, c6, cz⟩ := h.facts
  obtain ⟨g, off, cap, A, cp, hv, hcap, hba, e0, e1, e2, e3, hg⟩ := h.l.last hm hb
  have hll := h.ll
  have HBA := Lib.hid hba
  have HM := Lib.hid hm
  rw [hv] at c4
  have hi1 : (m : Int) < (m : Int) + 1 := by omega
  have hi0 : (0 : Int) ≤ (m : Int) := by omega
  have hwm : IntKind.i64.wrap (m : Int) = (m : Int) := IntWalk.i64_in _ (by omega)
  clear h hv hba hm hb
  obtain ⟨bc, br, bs, bl⟩ := b
  dsimp only at e0 e1 e2 e3 HBA
  go_enter Tryz.func183, Tryz.ntmps183
  go_upto_region 0 with fail
  go_cut [2] (fun s2 wx => ∃ a, s2 = .pointer (some ⟨a, 0, none⟩) ∧ w.heap.size ≤ a ∧ Blk wx a 82 #[.int .u64 (bc : Int), .int .u64 (br : Int), .int .u64 (bs : Int), .slice A bl.length cp] ∧ New w wx)
  case first =>
    refine wp_region_held_drew (S := fun w' => Held w w') (by kernel_rfl) (Held.of (New.refl _).drew) (fun hHeld => ?_)
    refine tkN (i := 0) rfl ?_
    try simp only [Act.put, sA, sZ, sS]
    refine tkN (i := 1) rfl ?_
    try simp only [Act.put, sA, sZ, sS]
    refine tkN (i := 2) rfl ?_
    try simp only [Act.put, sA, sZ, sS]
    refine tkN (i := 3) rfl ?_
    try simp only [Act.put, sA, sZ, sS]
    refine tkN (i := 4) rfl ?_
    try simp only [Act.put, sA, sZ, sS]
    refine tkN (i := 5) rfl ?_
    try simp only [Act.put, sA, sZ, sS]
    refine tkN (i := 6) rfl ?_
    try simp only [Act.put, sA, sZ, sS]
    refine tkN (i := 7) rfl ?_
    try simp only [Act.put, sA, sZ, sS]
    refine tkN (i := 8) rfl ?_
    try simp only [Act.put, sA, sZ, sS]
    refine tkN (i := 9) rfl ?_
    try simp only [Act.put, sA, sZ, sS]
    refine tkN (i := 10) rfl ?_
    try simp only [Act.put, sA, sZ, sS]
    refine tkN (i := 11) rfl ?_
    try simp only [Act.put, sA, sZ, sS]
    refine stN (i := 12) rfl (fun K hK => ?_)
    go_simp
    refine hK.out _ _ ?_ (fun hHeld => ?_)
    · exact Held.of ((New.refl w).alloc _).drew
    clear hK K
    try simp only [Act.put, sA, sZ, sS]
    refine stN (i := 13) rfl (fun K hK => ?_)
    go_simp
    refine hK.out _ _ ?_ (fun hHeld => ?_)
    · exact Held.of ((New.refl w).alloc _).drew
    clear hK K
    try simp only [Act.put, sA, sZ, sS]
    refine wpAnyH_done (by kernel_rfl) ?_ _
    clear hHeld
    go_wp2_with fail
    go_meet
    exact ⟨w.heap.size, rfl, Nat.le_refl _, (Blk.mk_new w _ _).drew, ((New.refl w).alloc _).drew⟩
  case rest =>
    obtain ⟨a, rfl, ha, hba, hnc⟩ := hcut
    have HRC := Lib.hid (HR.out.new hnc)
    have HBC := Lib.hid (HBA.out.new hnc)
    have HNC := Lib.hid hnc
    have HBX := Lib.hid hba
    clear g0 c0 c1 c2 c3 c4 c5 c6 cz e0 e1 e2 e3 hwm hi1 hi0 hcap hnc
    obtain ⟨g0, c0, c1, c2, c3, c4, c5, c6, cz⟩ := HRC.out.facts
    clear hba
    cases hbf : nextC x.cf x.id with
    | mk y ok =>
    cases ok with
    | false =>
      have HF : Hid (x.addC ⟨bc, br, bs, bl⟩ = x.cleaned x.la) := Lib.hid (by unfold Rpl.addC; rw [hbf]; rfl)
      have HBF := Lib.hid hbf
      clear hbf
      go_upto_region 1 with fail
      refine wp_region_held_drew (S := fun w' => Held wc w') (by kernel_rfl) (Held.of (New.refl _).drew) (fun hHeld => ?_)
      refine tkN (i := 0) rfl ?_
      try simp only [Act.put, sA, sZ, sS]
      refine tkN (i := 1) rfl ?_
      try simp only [Act.put, sA, sZ, sS]
      refine tkN (i := 2) rfl ?_
      try simp only [Act.put, sA, sZ, sS]
      refine tkN (i := 3) rfl ?_
      try simp only [Act.put, sA, sZ, sS]
      refine tkN (i := 4) rfl ?_
      try simp only [Act.put, sA, sZ, sS]
      refine tkN (i := 5) rfl ?_
      try simp only [Act.put, sA, sZ, sS]
      refine tkN (i := 6) rfl ?_
      try simp only [Act.put, sA, sZ, sS]
      refine tkN (i := 7) rfl ?_
      try simp only [Act.put, sA, sZ, sS]
      refine stN (i := 8) rfl (fun K hK => ?_)
      go_simp
      have hcall := rnext (HRC.out.new (New.refl wc).drew)
      rw [HBF.out] at hcall
      refine hcall.mono ?_
      rintro e w5 ⟨rfl, hn5⟩
      have hn5W : New wc w5 := (New.refl wc).drew.trans hn5
      refine hK.out _ _ ?_ (fun hHeld => ?_)
      · exact Held.of hn5W
      clear hK K
      try simp only [Act.put, sA, sZ, sS]
      refine tkN (i := 9) rfl ?_
      try simp only [Act.put, sA, sZ, sS]
      refine tkN (i := 10) rfl ?_
      try simp only [Act.put, sA, sZ, sS]
      refine tkN (i := 11) rfl ?_
      try simp only [Act.put, sA, sZ, sS]
      refine tkN (i := 12) rfl ?_
      try simp only [Act.put, sA, sZ, sS]
      refine tkN (i := 13) rfl ?_
      try simp only [Act.put, sA, sZ, sS]
      refine wpAnyH_done (by kernel_rfl) ?_ _
      clear hHeld
      have HN5 := Lib.hid hn5W
      have HR5 := Lib.hid (HRC.out.new hn5W)
      clear hn5 hn5W g0 c0 c1 c2 c3 c4 c5 c6 cz
      go_wp2_with fail
      refine (rlast HR5.out (by omega)).mono ?_
      rintro e w6 ⟨rfl, rfl⟩
      go_wp2_with fail
      refine (rcleaned HR5.out (t := x.la) hll hB).mono ?_
      rintro e w7 ⟨rfl, hp⟩
      go_wp2_with fail
      go_end0
      exact ⟨rfl, by rw [HF.out]; exact RpPost.pre (HNC.out.trans HN5.out) hp⟩
    | true =>
      have HF : Hid (x.addC ⟨bc, br, bs, bl⟩ = x.send y 0 x.la ⟨bc, br, bs, bl⟩) := Lib.hid (by unfold Rpl.addC; rw [hbf]; rfl)
      have HBF := Lib.hid hbf
      clear hbf
      go_upto_region 1 with fail
      refine wp_region_held_drew (S := fun w' => Held wc w') (by kernel_rfl) (Held.of (New.refl _).drew) (fun hHeld => ?_)
      refine tkN (i := 0) rfl ?_
      try simp only [Act.put, sA, sZ, sS]
      refine tkN (i := 1) rfl ?_
      try simp only [Act.put, sA, sZ, sS]
      refine tkN (i := 2) rfl ?_
      try simp only [Act.put, sA, sZ, sS]
      refine tkN (i := 3) rfl ?_
      try simp only [Act.put, sA, sZ, sS]
      refine tkN (i := 4) rfl ?_
      try simp only [Act.put, sA, sZ, sS]
      refine tkN (i := 5) rfl ?_
      try simp only [Act.put, sA, sZ, sS]
      refine tkN (i := 6) rfl ?_
      try simp only [Act.put, sA, sZ, sS]
      refine tkN (i := 7) rfl ?_
      try simp only [Act.put, sA, sZ, sS]
      refine stN (i := 8) rfl (fun K hK => ?_)
      go_simp
      have hcall := rnext (HRC.out.new (New.refl wc).drew)
      rw [HBF.out] at hcall
      refine hcall.mono ?_
      rintro e w5 ⟨rfl, hn5⟩
      have hn5W : New wc w5 := (New.refl wc).drew.trans hn5
      refine hK.out _ _ ?_ (fun hHeld => ?_)
      · exact Held.of hn5W
      clear hK K
      try simp only [Act.put, sA, sZ, sS]
      refine tkN (i := 9) rfl ?_
      try simp only [Act.put, sA, sZ, sS]
      refine tkN (i := 10) rfl ?_
      try simp only [Act.put, sA, sZ, sS]
      refine tkN (i := 11) rfl ?_
      try simp only [Act.put, sA, sZ, sS]
      refine tkN (i := 12) rfl ?_
      try simp only [Act.put, sA, sZ, sS]
      refine tkN (i := 13) rfl ?_
      try simp only [Act.put, sA, sZ, sS]
      refine wpAnyH_done (by kernel_rfl) ?_ _
      clear hHeld
      have HN5 := Lib.hid hn5W
      have HR5 := Lib.hid (HRC.out.new hn5W)
      have HX5 := Lib.hid (HBX.out.new hn5W)
      obtain ⟨d0, d1, d2, d3, d4, dz⟩ := Blk4K (HBX.out.new hn5W)
      clear hn5 hn5W g0 c0 c1 c2 c3 c4 c5 c6 cz
      go_upto_region 3 with fail
      refine wp_region_held_drew (S := fun w' => ∀ o, w'.cell? ⟨a, o, none⟩ = w5.cell? ⟨a, o, none⟩) (by kernel_rfl) (fun _ => rfl) (fun hHeld => ?_)
      refine tkN (i := 0) rfl ?_
      try simp only [Act.put, sA, sZ, sS]
      refine tkN (i := 1) rfl ?_
      try simp only [Act.put, sA, sZ, sS]
      refine tkN (i := 2) rfl ?_
      try simp only [Act.put, sA, sZ, sS]
      refine tkN (i := 4) rfl ?_
      try simp only [Act.put, sA, sZ, sS]
      refine stN (i := 3) rfl (fun K hK => ?_)
      go_simp
      refine (rlast (HR5.out.new (New.refl w5).drew) (by omega)).mono ?_
      rintro e w6 ⟨rfl, rfl⟩
      refine hK.out _ _ ?_ (fun hHeld => ?_)
      · exact fun _ => rfl
      clear hK K
      try simp only [Act.put, sA, sZ, sS]
      refine stN (i := 5) rfl (fun K hK => ?_)
      go_simp
      refine (rsend (HR5.out.new (New.refl w5).drew) y 0 (t := x.la) (by unfold big; have : x.la = x.l.length := rfl; omega) (HBC.out.new (HN5.out.drew)) (by omega)).mono ?_
      rintro e w7 ⟨rfl, hp⟩
      have hkeep := fun o => keepR (show Upd (RpF rp L) w5.drew w7 from let ⟨_, _, _, h⟩ := hp; h) (show a < w5.drew.heap.size from HX5.out.lt) (fun hk => by have := HR.out.lt _ hk; omega) o
      refine hK.out _ _ ?_ (fun hHeld => ?_)
      · exact hkeep
      clear hK K
      try simp only [Act.put, sA, sZ, sS]
      refine wpAnyH_done (by kernel_rfl) ?_ _
      clear hHeld hkeep
      go_wp2_with fail
      refine bodyPost_ret (results_none rfl _ _ _) rfl ?_
      exact ⟨rfl, by rw [HF.out]; exact RpPost.pre ((HNC.out.trans HN5.out).drew) hp⟩
end
end Go.Proofs.YtlhlcdjkacglnaaGreatDoor
