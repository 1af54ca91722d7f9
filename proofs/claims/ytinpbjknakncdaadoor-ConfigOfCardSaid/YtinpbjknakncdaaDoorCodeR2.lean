/- Contracts of code.Reader, more: Text, Count, Flag, End, Rest (chapter 3). -/
import Derived.Test.YtinpbjknakncdaaDoorCodeR
namespace Go.Proofs.YtinpbjknakncdaaDoor
open Go.RowKit Go.Lap
set_option linter.unusedVariables false

theorem ownBlock_slice (A : Option Addr) (n c n' c' : Nat) : (Value.slice A n c).ownBlock = (Value.slice A n' c').ownBlock := by cases A <;> rfl

theorem ownBlock_drop (A : Option Addr) (k n c n' c' : Nat) : (Value.slice (Option.map (fun x => x.add k) A) n c).ownBlock = (Value.slice A n' c').ownBlock := by
  cases A with
  | none => rfl
  | some a => simp only [Option.map, Value.ownBlock, Addr.add]; split <;> rfl

/-- A text: what is taken, the rest, what goes wrong. -/
def textR (bs : List UInt8) (err : Int) : List UInt8 × List UInt8 × Int :=
  if err = 0 ∧ (takeV bs).1 = 0 ∧ ((takeV bs).2.1 : Int) ≤ 65536 then
    if (takeV bs).2.2.length < (takeV bs).2.1 then ([], bs, 30) else ((takeV bs).2.2.take (takeV bs).2.1, (takeV bs).2.2.drop (takeV bs).2.1, 0)
  else ([], bs, belowErr bs err)

def countR (bs : List UInt8) (err most : Int) : Nat × List UInt8 × Int :=
  if err = 0 ∧ (takeV bs).1 = 0 ∧ ((takeV bs).2.1 : Int) ≤ most then ((takeV bs).2.1, (takeV bs).2.2, 0) else (0, bs, belowErr bs err)

set_option maxRecDepth 100000 in
set_option maxHeartbeats 1000000 in
theorem count_any (g : Nat) (v : Value) (bs : List UInt8) (err most : Int) (w : World) (h : RdAt w g v bs err) (hb : bs.length ≤ 1000000000) (hm0 : -9223372036854775808 ≤ most) (hm1 : most ≤ 9223372036854775807) :
    Calls Tryd.prog 44 #[.pointer (some ⟨g, 0, none⟩), .int .i64 most] w (RdPost w g v (.int .i64 (countR bs err most).1) (countR bs err most).2.1 (countR bs err most).2.2) := by
  go_enter Tryd.func44, Tryd.ntmps44
  go_wp2_with fail
  refine (below_any g v bs err most w h hb hm0 hm1).mono ?_
  intro e w1 ht
  rcases ht with ⟨hok, u, rfl, ho, hn1⟩ | ⟨hno, rfl, h1, hu1⟩
  · have hR : countR bs err most = ((takeV bs).2.1, (takeV bs).2.2, 0) := by unfold countR; exact if_pos hok
    obtain ⟨A1, n1, c1, hv1⟩ := (Owns.slIn bEncOk ho).shape
    subst hv1
    have h1 := h.new hn1
    obtain ⟨hg, c0, c1', hz⟩ := h1.facts
    have HR := Lib.hid hR
    have HE := Lib.hid hok.1
    clear hR hok
    go_wp2_with fail
    go_ret
    refine ⟨.slice A1 n1 c1, by rw [HR.out]; rfl, ?_, (Upd.new hn1).setIn _ _, Fr.new ho⟩
    rw [HR.out]
    have hb1 := h1.1
    rw [HE.out] at hb1
    exact ⟨hb1.set_ 0 _, (Owns.slIn bEncOk ho).setFar (owns_ne h ho) _, owns_ne h ho⟩
  · have hR : countR bs err most = (0, bs, belowErr bs err) := by unfold countR; exact if_neg hno
    have HR := Lib.hid hR
    clear hR hno
    go_wp2_with fail
    go_ret
    exact ⟨v, by rw [HR.out]; rfl, by rw [HR.out]; exact h1, hu1, Fr.refl _ _⟩

def endR (bs : List UInt8) (err : Int) : Int := if err = 0 then if bs = [] then 0 else 31 else err

set_option maxHeartbeats 1000000 in
theorem end_any (g : Nat) (v : Value) (bs : List UInt8) (err : Int) (w : World) (h : RdAt w g v bs err) (hb : bs.length ≤ 1000000000) :
    Calls Tryd.prog 45 #[.pointer (some ⟨g, 0, none⟩)] w fun e w' => e = .returned (.int .i64 (endR bs err)) ∧ w = w' := by
  obtain ⟨hg, c0, c1, hz⟩ := h.facts
  obtain ⟨A1, c1', hv1⟩ := h.2.1.form
  subst hv1
  by_cases he : err = 0
  · subst he
    by_cases hbs : bs.length = 0
    · have hR : endR bs 0 = 0 := by have := List.eq_nil_of_length_eq_zero hbs; simp [endR, this]
      have HR := Lib.hid hR
      have h1 : ¬ (0 : Int) < (bs.length : Int) := by omega
      have h1n : ¬ 0 < bs.length := by omega
      clear hR hbs
      go_enter Tryd.func45, Tryd.ntmps45
      go_wp2_with fail
      go_ret
      exact ⟨by rw [HR.out]; rfl, rfl⟩
    · have hR : endR bs 0 = 31 := by have : bs ≠ [] := fun h => hbs (by rw [h]; rfl); simp [endR, this]
      have HR := Lib.hid hR
      have h1 : (0 : Int) < (bs.length : Int) := by omega
      clear hR hbs
      go_enter Tryd.func45, Tryd.ntmps45
      go_wp2_with fail
      go_ret
      exact ⟨by rw [HR.out]; rfl, rfl⟩
  · have hR : endR bs err = err := by simp [endR, he]
    have HR := Lib.hid hR
    have hne : ((err : Int) == 0) = false := by simpa using he
    clear hR he
    go_enter Tryd.func45, Tryd.ntmps45
    go_wp2_with fail
    go_ret
    exact ⟨by rw [HR.out]; rfl, rfl⟩

def flagR (bs : List UInt8) (err : Int) : Bool × List UInt8 × Int :=
  if err = 0 then match bs with | [] => (false, [], 30) | x :: xs => if 1 < x.toNat then (false, x :: xs, 33) else (decide (x.toNat = 1), xs, 0) else (false, bs, err)

end Go.Proofs.YtinpbjknakncdaaDoor
