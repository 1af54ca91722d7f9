/- Chapter 22 (decree), the laws: an act. -/
import Derived.Test.YtghhcjpilcoblaaDg16
namespace Go.Proofs.Ytghhcjpilcoblaa
open Go.RowKit Go.Lap
set_option linter.unusedVariables false
theorem Blk5P {w : World} {g t : Nat} {a b c d e : Value} (h : Blk w g t #[a, b, c, d, e]) : g < w.heap.size ∧ w.cell? ⟨g, 0, none⟩ = some a ∧ w.cell? ⟨g, 1, none⟩ = some b ∧ w.cell? ⟨g, 2, none⟩ = some c ∧ w.cell? ⟨g, 3, none⟩ = some d ∧ w.cell? ⟨g, 4, none⟩ = some e ∧ (∀ i, w.frozen? ⟨g, i, none⟩ = false) := ⟨h.lt, h.cell 0, h.cell 1, h.cell 2, h.cell 3, h.cell 4, h.frozen⟩
/-- An act as it lies in memory. -/
structure DAct where
  k : Int
  i : Int
  a : Int
  t : Int
  v : ByteArray
def daE (x : DAct) : List Value := [.int .i64 x.k, .int .i64 x.i, .int .i64 x.a, .int .i64 x.t, .string x.v]
theorem daEok : Enc daE 5 := fun x => ⟨rfl, by simp [daE, Value.oneCell']⟩
/-- What an act answers and makes. -/
def doR (n : Nat) (g : Gm) (x : DAct) : Int :=
  if x.k = 0 then proposeR n x.i x.v else if x.k = 1 then tickR n x.i else if x.k = 2 then deliverR g x.a else if x.k = 3 then copyR g x.a else if x.k = 4 then 0 else if x.k = 5 then tickR n x.i else 0
def doG (n : Nat) (g : Gm) (x : DAct) : Gm :=
  if x.k = 0 then proposeG n g x.i x.v else if x.k = 1 then tickG n g x.i else if x.k = 2 then deliverG n g x.a else if x.k = 3 then copyG g x.a else if x.k = 4 then g.lose x.i x.t else if x.k = 5 then crashG n g x.i else g
section
variable {w W : World} {F : Nat → Prop} {n B gp : Nat} {g : Gm}
set_option maxRecDepth 100000 in
set_option maxHeartbeats 4000000 in
theorem do22 (h : GSt F W n B gp g) (hn7 : n ≤ 7) (hB0 : 0 < B) (hB : B ≤ 100000000) (x : DAct) :
    Calls Try.prog 28 #[.pointer (some ⟨gp, 0, none⟩), .agg #[.int .i64 x.k, .int .i64 x.i, .int .i64 x.a, .int .i64 x.t, .string x.v]] W (StPost F W n (B + 1) gp (doR n g x) (doG n g x)) := by
  have hnew := (New.refl W).alloc (.cells #[.int .i64 x.k, .int .i64 x.i, .int .i64 x.a, .int .i64 x.t, .string x.v] 66)
  have h1 := h.new hnew
  obtain ⟨q0, q1, q2, q3, q4, q5, qz⟩ := Blk5P (Blk.mk_new W 66 #[.int .i64 x.k, .int .i64 x.i, .int .i64 x.a, .int .i64 x.t, .string x.v])
  have HH := Lib.hid (show ∀ (w' : World) (g' : Gm) (r : Int), doR n g x = r → doG n g x = g' → GSt F w' n (B + 1) gp g' → Upd F (W.alloc (.cells #[.int .i64 x.k, .int .i64 x.i, .int .i64 x.a, .int .i64 x.t, .string x.v] 66)) w' → StPost F W n (B + 1) gp (doR n g x) (doG n g x) (.returned (.int .i64 r)) w' from by
    rintro w' g' r rfl rfl h2 hu
    exact ⟨rfl, h2, (Upd.new hnew).trans hu (fun _ _ h => h)⟩)
  have H1 := Lib.hid h1
  clear hnew h
  obtain ⟨xk, xi, xa, xt, xv⟩ := x
  dsimp only at *
  by_cases k0 : xk = 0
  · subst k0
    have HD := Lib.hid (st_propose H1.out hB xi xv)
    go_enter Try.func28, Try.ntmps28
    go_wp2_with (go_at_call 20; refine HD.out.mono ?_; rintro e w5 ⟨rfl, h5, hu5⟩)
    go_ret
    exact HH.out _ _ _ rfl rfl h5 hu5
  by_cases k1 : xk = 1
  · subst k1
    have HD := Lib.hid (st_tick H1.out hn7 hB xi)
    go_enter Try.func28, Try.ntmps28
    go_wp2_with (go_at_call 21; refine HD.out.mono ?_; rintro e w5 ⟨rfl, h5, hu5⟩)
    go_ret
    exact HH.out _ _ _ rfl rfl h5 hu5
  by_cases k2 : xk = 2
  · subst k2
    have HD := Lib.hid (st_deliver H1.out hn7 hB xa)
    go_enter Try.func28, Try.ntmps28
    go_wp2_with (go_at_call 51; refine HD.out.mono ?_; rintro e w5 ⟨rfl, h5, hu5⟩)
    go_ret
    exact HH.out _ _ _ rfl rfl h5 hu5
  by_cases k3 : xk = 3
  · subst k3
    have HD := Lib.hid (st_copy H1.out xa)
    go_enter Try.func28, Try.ntmps28
    go_wp2_with (go_at_call 53; refine HD.out.mono ?_; rintro e w5 ⟨rfl, h5, hu5⟩)
    go_ret
    exact HH.out _ _ _ rfl rfl h5 hu5
  by_cases k4 : xk = 4
  · subst k4
    have HD := Lib.hid (st_lose H1.out xi xt)
    go_enter Try.func28, Try.ntmps28
    go_wp2_with (go_at_call 31; refine HD.out.mono ?_; rintro e w5 ⟨rfl, h5, hu5⟩)
    go_ret
    exact HH.out _ _ 0 rfl rfl h5 hu5
  by_cases k5 : xk = 5
  · subst k5
    have HD := Lib.hid (st_crash H1.out hB0 xi)
    go_enter Try.func28, Try.ntmps28
    go_wp2_with (go_at_call 22; refine HD.out.mono ?_; rintro e w5 ⟨rfl, h5, hu5⟩)
    go_ret
    exact HH.out _ _ _ rfl rfl h5 hu5
  · have hr0 : doR n g ⟨xk, xi, xa, xt, xv⟩ = 0 := by unfold doR; rw [if_neg k0, if_neg k1, if_neg k2, if_neg k3, if_neg k4, if_neg k5]
    have hg0 : doG n g ⟨xk, xi, xa, xt, xv⟩ = g := by unfold doG; rw [if_neg k0, if_neg k1, if_neg k2, if_neg k3, if_neg k4, if_neg k5]
    have HF := Lib.hid (HH.out _ _ 0 hr0 hg0 (H1.out.mono (Nat.le_succ B)) (Upd.refl _ _))
    clear hr0 hg0
    go_enter Try.func28, Try.ntmps28
    go_wp2_with fail
    go_ret
    exact HF.out
end
end Go.Proofs.Ytghhcjpilcoblaa
