/- Chapter 18 (pins), the laws: do. -/
import Derived.Test.YtcganajbfplmpaaPnB
namespace Go.Proofs.Ytcganajbfplmpaa
open Go.RowKit Go.Lap
set_option linter.unusedVariables false

/-- An act as it lies in memory. -/
structure PAct where
  kind : Int
  name : ByteArray
  r : Nat
  a : Nat
  u : Nat
def paE (x : PAct) : List Value := [.int .i64 x.kind, .string x.name, .int .u64 (x.r : Int), .int .u64 (x.a : Int), .int .u64 (x.u : Int)]
structure PAct.good (x : PAct) : Prop where
  n : okS x.name
  r : okU x.r
  a : okU x.a
  u : okU x.u
/-- What an act makes: the names, the leases, its error, how many expired. -/
def doE (E : List Pnm) (x : PAct) : List Pnm := if x.kind = 0 then pinE E x.name x.a else if x.kind = 1 then delE E x.name else E
def doK (K : List Lse) (x : PAct) : List Lse := if x.kind = 2 then leaseE K x.r x.a x.u else if x.kind = 3 then expK K x.u else K
def doR (E : List Pnm) (K : List Lse) (x : PAct) : Int := if x.kind = 0 then pinErr E x.name else if x.kind = 1 then dropErr E x.name else if x.kind = 2 then leaseErr K x.r x.a else 0
def doN (K : List Lse) (x : PAct) : Nat := if x.kind = 3 then K.length - (expK K x.u).length else 0
theorem Blk5P {w : World} {g t : Nat} {a b c d e : Value} (h : Blk w g t #[a, b, c, d, e]) : g < w.heap.size ∧ w.cell? ⟨g, 0, none⟩ = some a ∧ w.cell? ⟨g, 1, none⟩ = some b ∧ w.cell? ⟨g, 2, none⟩ = some c ∧ w.cell? ⟨g, 3, none⟩ = some d ∧ w.cell? ⟨g, 4, none⟩ = some e ∧ (∀ i, w.frozen? ⟨g, i, none⟩ = false) := ⟨h.lt, h.cell 0, h.cell 1, h.cell 2, h.cell 3, h.cell 4, h.frozen⟩
section
variable {w w' : World} {S : Nat → Prop} {p nm lm : Nat} {E : List Pnm} {K : List Lse}
def DoPost (w : World) (p nm lm : Nat) (E : List Pnm) (K : List Lse) (x : PAct) (e : Ending) (w' : World) : Prop :=
  e = .returned (.tuple #[.int .i64 (doR E K x), .int .i64 ((doN K x : Nat) : Int)]) ∧ PSt w' p nm lm (doE E x) (doK K x) ∧ Upd (PnF p nm lm) w w'
set_option maxRecDepth 100000 in
set_option maxHeartbeats 4000000 in
theorem do18 (w : World) (h : PSt w p nm lm E K) (x : PAct) (hx : x.good) :
    Calls Try.prog 26 #[.pointer (some ⟨p, 0, none⟩), .agg #[.int .i64 x.kind, .string x.name, .int .u64 (x.r : Int), .int .u64 (x.a : Int), .int .u64 (x.u : Int)]] w (DoPost w p nm lm E K x) := by
  obtain ⟨hn, hr, ha, hu⟩ := hx
  have hnew := (New.refl w).alloc (.cells #[.int .i64 x.kind, .string x.name, .int .u64 (x.r : Int), .int .u64 (x.a : Int), .int .u64 (x.u : Int)] 62)
  have h1 := h.new hnew
  obtain ⟨q0, q1, q2, q3, q4, q5, qz⟩ := Blk5P (Blk.mk_new w 62 #[.int .i64 x.kind, .string x.name, .int .u64 (x.r : Int), .int .u64 (x.a : Int), .int .u64 (x.u : Int)])
  have HH := Lib.hid (show ∀ (w' : World) (E' : List Pnm) (K' : List Lse) (r : Int) (n : Nat), doR E K x = r → doN K x = n → doE E x = E' → doK K x = K' → PSt w' p nm lm E' K' → Upd (PnF p nm lm) (w.alloc (.cells #[.int .i64 x.kind, .string x.name, .int .u64 (x.r : Int), .int .u64 (x.a : Int), .int .u64 (x.u : Int)] 62)) w' →
      DoPost w p nm lm E K x (.returned (.tuple #[.int .i64 r, .int .i64 (n : Int)])) w' from by
    rintro w' E' K' r n rfl rfl rfl rfl h2 h3
    exact ⟨rfl, h2, (Upd.new hnew).trans h3 (fun _ _ h => h)⟩)
  have H1 := Lib.hid h1
  clear hnew h
  obtain ⟨xk, xn, xr, xa, xu⟩ := x
  dsimp only at *
  by_cases k0 : xk = 0
  · subst k0
    go_enter Try.func26, Try.ntmps26
    go_wp2_with (go_at_call 44; refine (pinS _ H1.out xn hn xa ha).mono ?_; rintro e w5 ⟨rfl, h5, hu5⟩)
    go_ret2
    exact HH.out _ _ _ _ 0 rfl rfl rfl rfl h5 hu5
  by_cases k1 : xk = 1
  · subst k1
    go_enter Try.func26, Try.ntmps26
    go_wp2_with (go_at_call 48; refine (dropS _ H1.out xn hn).mono ?_; rintro e w5 ⟨rfl, h5, hu5⟩)
    go_ret2
    exact HH.out _ _ _ _ 0 rfl rfl rfl rfl h5 hu5
  by_cases k2 : xk = 2
  · subst k2
    go_enter Try.func26, Try.ntmps26
    go_wp2_with (go_at_call 45; refine (leaseS _ H1.out xr xa xu hr ha hu).mono ?_; rintro e w5 ⟨rfl, h5, hu5⟩)
    go_ret2
    exact HH.out _ _ _ _ 0 rfl rfl rfl rfl h5 hu5
  by_cases k3 : xk = 3
  · subst k3
    go_enter Try.func26, Try.ntmps26
    go_wp2_with (go_at_call 36; refine (expS _ H1.out xu).mono ?_; rintro e w5 ⟨rfl, h5, hu5⟩)
    go_ret2
    exact HH.out _ _ _ 0 _ rfl rfl rfl rfl h5 hu5
  · have hr0 : doR E K ⟨xk, xn, xr, xa, xu⟩ = 0 := by unfold doR; rw [if_neg k0, if_neg k1, if_neg k2]
    have hn0 : doN K ⟨xk, xn, xr, xa, xu⟩ = 0 := by unfold doN; rw [if_neg k3]
    have he0 : doE E ⟨xk, xn, xr, xa, xu⟩ = E := by unfold doE; rw [if_neg k0, if_neg k1]
    have hk0 : doK K ⟨xk, xn, xr, xa, xu⟩ = K := by unfold doK; rw [if_neg k2, if_neg k3]
    have HF := Lib.hid (HH.out _ _ _ 0 0 hr0 hn0 he0 hk0 H1.out (Upd.refl _ _))
    clear hr0 hn0 he0 hk0
    go_enter Try.func26, Try.ntmps26
    go_wp2_with fail
    go_ret2
    exact HF.out
end
end Go.Proofs.Ytcganajbfplmpaa
