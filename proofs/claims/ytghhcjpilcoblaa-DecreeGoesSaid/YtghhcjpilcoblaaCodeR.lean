/- Contracts of code.Reader (chapter 3): what is taken, and what goes wrong first. -/
import Derived.Test.YtghhcjpilcoblaaRef03
namespace Go.Lap
theorem SlIn.setFar {α : Type} {enc : α → List Value} {size : Nat} {l : List α} {w : World} {v : Value} (h : SlIn w size enc v l) {p : Addr} (hp : v.ownBlock ≠ some p.block) (u : Value) : SlIn (w.setCell p u) size enc v l :=
  h.upd (S := fun k => k = p.block) ((Upd.refl (fun k => k = p.block) w).setCell (fun _ => rfl) u) (fun k hk e => hp (by rw [hk, e]))
end Go.Lap

namespace Go.Proofs.Ytghhcjpilcoblaa
open Go.RowKit Go.Lap
set_option linter.unusedVariables false

/-- A reader in memory. -/
def RdAt (w : World) (g : Nat) (v : Value) (bs : List UInt8) (err : Int) : Prop :=
  Blk w g 110 #[v, .int .i64 err] ∧ SlIn w 1 bEnc v bs ∧ v.ownBlock ≠ some g

theorem RdAt.facts {w : World} {g : Nat} {v : Value} {bs : List UInt8} {err : Int} (h : RdAt w g v bs err) :
    g < w.heap.size ∧ w.cell? ⟨g, 0, none⟩ = some v ∧ w.cell? ⟨g, 1, none⟩ = some (.int .i64 err) ∧ (∀ i, w.frozen? ⟨g, i, none⟩ = false) := ⟨h.1.lt, h.1.cell 0, h.1.cell 1, h.1.frozen⟩
theorem RdAt.new {w w' : World} {g : Nat} {v : Value} {bs : List UInt8} {err : Int} (h : RdAt w g v bs err) (hn : New w w') : RdAt w' g v bs err := ⟨h.1.new hn, h.2.1.new hn, h.2.2⟩
theorem RdAt.upd {w w' : World} {S : Nat → Prop} {g : Nat} {v : Value} {bs : List UInt8} {err : Int} (h : RdAt w g v bs err) (hu : Upd S w w') (hg : ¬ S g) (hv : ∀ k, v.ownBlock = some k → ¬ S k) : RdAt w' g v bs err := ⟨h.1.upd hu hg, h.2.1.upd hu hv, h.2.2⟩

set_option maxRecDepth 100000 in
set_option maxHeartbeats 1000000 in
theorem read_any (bs : List UInt8) (v : Value) (w : World) (hb : bs.length ≤ 140737488355328) (hs : SlIn w 1 bEnc v bs) :
    Calls Try.prog 32 #[v] w fun e w' => ∃ g u, e = .returned (.pointer (some ⟨g, 0, none⟩)) ∧ w.heap.size ≤ g ∧ (∀ k, u.ownBlock = some k → w.heap.size ≤ k) ∧ RdAt w' g u bs 0 ∧ New w w' := by
  have hm1 : ([] : List UInt8).length + bs.length ≤ maxLen := by simp [maxLen]; omega
  have hm2 : (([] : List UInt8).length + bs.length) * 1 ≤ 140737488355328 := by simp; omega
  have HM1 := Lib.hid hm1
  have HM2 := Lib.hid hm2
  clear hm1 hm2
  go_enter Try.func32, Try.ntmps32
  go_wp2_with (at_builtin; have ho0 : Owns _ w.heap.size 5 1 bEnc _ ([] : List UInt8) := World.ownsRow_made (base := w.heap.size) (e := 5) (size := 1) w #[] 0 (Nat.le_refl _) (by simp) (by simp); refine wpList_app bTy bEncOk rfl (.tmp 3) (.tmp 4) rfl rfl rfl ho0 (hs.alloc _) HM1.out HM2.out (by simp) ?_; intro v1 w1 ho1 hg1 _; obtain ⟨A1, n1, c1, hv1⟩ := (Owns.slIn bEncOk ho1).shape; subst hv1)
  have hN1 : New w w1 := ((New.refl w).alloc _).grown hg1 (fun k hk => ho0.blockGe k hk)
  go_ret
  refine ⟨_, _, rfl, hN1.size, fun k hk => ho1.blockGe k hk, ⟨Blk.mk_new w1 _ _, (Owns.slIn bEncOk ho1).alloc _, fun h => ?_⟩, hN1.alloc _⟩
  have := (ho1.lt _ h).2
  omega

def FailPost (w : World) (g : Nat) (v : Value) (bs : List UInt8) (err : Int) (e : Ending) (w' : World) : Prop := e = .returned (.bool false) ∧ RdAt w' g v bs err ∧ Upd (· = g) w w'

set_option maxHeartbeats 400000 in
theorem fail_any (g : Nat) (v : Value) (bs : List UInt8) (err k : Int) (w : World) (h : RdAt w g v bs err) :
    Calls Try.prog 57 #[.pointer (some ⟨g, 0, none⟩), .int .i64 k] w (FailPost w g v bs (if err = 0 then k else err)) := by
  obtain ⟨hg, c0, c1, hz⟩ := h.facts
  by_cases he : err = 0
  · subst he
    rw [if_pos rfl]
    go_enter Try.func57, Try.ntmps57
    go_wp2_with fail
    go_ret
    exact ⟨rfl, ⟨h.1.set_ 1 _, h.2.1.setFar h.2.2 _, h.2.2⟩, (Upd.refl _ _).setIn _ _⟩
  · have hne : ((err : Int) == 0) = false := by simpa using he
    rw [if_neg he]
    go_enter Try.func57, Try.ntmps57
    go_wp2_with fail
    go_ret
    exact ⟨rfl, h, Upd.refl _ _⟩

/-- What the number that stands first is to a reader: what goes wrong (0: nothing), the number, the rest. -/
def takeV (bs : List UInt8) : Int × Nat × List UInt8 := let r := getV 0 0 bs; (if r.1 = 10 then 30 else r.1, r.2.1, r.2.2)

/-- What take answers; the reader's own bytes stay. -/
def TakePost (w : World) (g : Nat) (v : Value) (bs : List UInt8) (err : Int) (e : Ending) (w' : World) : Prop :=
  if err = 0 then
    if (takeV bs).1 = 0 then ∃ u, e = .returned (.tuple #[.int .u64 ((takeV bs).2.1 : Int), u, .bool true]) ∧ Owns w' w.heap.size 5 1 bEnc u (takeV bs).2.2 ∧ New w w'
    else e = .returned (.tuple #[.int .u64 0, .slice none 0 0, .bool false]) ∧ RdAt w' g v bs (takeV bs).1 ∧ Upd (· = g) w w'
  else e = .returned (.tuple #[.int .u64 0, .slice none 0 0, .bool false]) ∧ New w w'

theorem getV_code (bs : List UInt8) : ∀ i acc, (getV i acc bs).1 = 0 ∨ (getV i acc bs).1 = 10 ∨ (getV i acc bs).1 = 12 := by
  induction bs with
  | nil => intro i acc; right; left; rfl
  | cons x xs ih =>
    intro i acc
    rw [getV]
    split
    · right; right; rfl
    · split
      · left; rfl
      · exact ih _ _

set_option maxRecDepth 100000 in
set_option maxHeartbeats 1000000 in
theorem take_rd (g : Nat) (v : Value) (bs : List UInt8) (err : Int) (w : World) (h : RdAt w g v bs err) (hb : bs.length ≤ 1000000000) :
    Calls Try.prog 55 #[.pointer (some ⟨g, 0, none⟩)] w (TakePost w g v bs err) := by
  obtain ⟨hg, c0, c1, hz⟩ := h.facts
  by_cases he : err = 0
  · subst he
    obtain ⟨A1, n1, c1', hv1⟩ := h.2.1.shape
    subst hv1
    go_enter Try.func55, Try.ntmps55
    go_wp2_with fail
    refine (getVar_any bs _ _ hb h.2.1).mono ?_
    rintro e w1 ⟨u, rfl, hu, hn1⟩
    have hT : takeV bs = (if (getV 0 0 bs).1 = 10 then 30 else (getV 0 0 bs).1, (getV 0 0 bs).2.1, (getV 0 0 bs).2.2) := rfl
    have hcode := getV_code bs 0 0
    generalize getV 0 0 bs = r at *
    obtain ⟨rc, rn, rest⟩ := r
    have h1 := h.new hn1
    rcases hcode with hc | hc | hc
    all_goals
      simp only at hc
      subst hc
    · have t1 : (takeV bs).1 = 0 := by rw [hT]; rfl
      have t2 : (takeV bs).2 = (rn, rest) := by rw [hT]
      have hu' : Owns w1 w.heap.size 5 1 bEnc u rest := by simpa using hu
      have T1 := Lib.hid t1
      have T2 := Lib.hid t2
      clear hT hu t1 t2
      go_wp2_with fail
      go_ret3
      unfold TakePost
      rw [if_pos rfl, if_pos T1.out, T2.out]
      exact ⟨u, rfl, hu', hn1⟩
    · have t1 : (takeV bs).1 = 30 := by rw [hT]; rfl
      have T1 := Lib.hid t1
      clear hT t1
      go_wp2_with fail
      refine (fail_any g _ bs 0 30 w1 h1).mono ?_
      rintro e w2 ⟨rfl, h2, hu2⟩
      go_wp2_with fail
      go_ret3
      unfold TakePost
      rw [if_pos rfl, T1.out, if_neg (by decide)]
      exact ⟨rfl, h2, (Upd.new hn1).trans hu2 (fun _ _ h => h)⟩
    · have t1 : (takeV bs).1 = 12 := by rw [hT]; rfl
      have T1 := Lib.hid t1
      clear hT t1
      go_wp2_with fail
      refine (fail_any g _ bs 0 12 w1 h1).mono ?_
      rintro e w2 ⟨rfl, h2, hu2⟩
      go_wp2_with fail
      go_ret3
      unfold TakePost
      rw [if_pos rfl, T1.out, if_neg (by decide)]
      exact ⟨rfl, h2, (Upd.new hn1).trans hu2 (fun _ _ h => h)⟩
  · have hne : ((err : Int) != 0) = true := by simpa using he
    go_enter Try.func55, Try.ntmps55
    go_wp2_with fail
    go_ret3
    unfold TakePost
    rw [if_neg he]
    exact ⟨rfl, New.refl _⟩
/-- What a take leaves: an answer, and the reader in a new state. -/
def RdPost (w : World) (g : Nat) (v : Value) (val : Value) (bs : List UInt8) (err : Int) (e : Ending) (w' : World) : Prop :=
  ∃ v', e = .returned val ∧ RdAt w' g v' bs err ∧ Upd (· = g) w w' ∧ Fr w v v'

def numR (bs : List UInt8) (err : Int) : Nat × List UInt8 × Int := if err = 0 then if (takeV bs).1 = 0 then ((takeV bs).2.1, (takeV bs).2.2, 0) else (0, bs, (takeV bs).1) else (0, bs, err)

theorem owns_ne {w w1 : World} {g : Nat} {v : Value} {bs l : List UInt8} {err : Int} (h : RdAt w g v bs err) {u : Value} (ho : Owns w1 w.heap.size 5 1 bEnc u l) : u.ownBlock ≠ some g := fun hk => by
  have := ho.blockGe g hk
  have := h.1.lt
  omega

set_option maxRecDepth 100000 in
set_option maxHeartbeats 1000000 in
theorem rnum_any (g : Nat) (v : Value) (bs : List UInt8) (err : Int) (w : World) (h : RdAt w g v bs err) (hb : bs.length ≤ 1000000000) :
    Calls Try.prog 33 #[.pointer (some ⟨g, 0, none⟩)] w (RdPost w g v (.int .u64 (numR bs err).1) (numR bs err).2.1 (numR bs err).2.2) := by
  have hR : numR bs err = if err = 0 then if (takeV bs).1 = 0 then ((takeV bs).2.1, (takeV bs).2.2, 0) else (0, bs, (takeV bs).1) else (0, bs, err) := rfl
  have HR0 := Lib.hid hR
  clear hR
  go_enter Try.func33, Try.ntmps33
  go_wp2_with fail
  refine (take_rd g v bs err w h hb).mono ?_
  intro e w1 ht
  unfold TakePost at ht
  have hR := HR0.out
  clear HR0
  by_cases he : err = 0
  · rw [if_pos he] at ht hR
    by_cases ht1 : (takeV bs).1 = 0
    · rw [if_pos ht1] at ht hR
      obtain ⟨u, rfl, ho, hn1⟩ := ht
      obtain ⟨A1, n1, c1, hv1⟩ := (Owns.slIn bEncOk ho).shape
      subst hv1
      have h1 := h.new hn1
      obtain ⟨hg, c0, c1', hz⟩ := h1.facts
      have HR := Lib.hid hR
      have HE := Lib.hid he
      clear hR ht1 he
      go_wp2_with fail
      go_ret
      refine ⟨.slice A1 n1 c1, by rw [HR.out]; rfl, ?_, (Upd.new hn1).setIn _ _, Fr.new ho⟩
      rw [HR.out]
      have hb1 := h1.1
      rw [HE.out] at hb1
      exact ⟨hb1.set_ 0 _, (Owns.slIn bEncOk ho).setFar (owns_ne h ho) _, owns_ne h ho⟩
    · rw [if_neg ht1] at ht hR
      obtain ⟨rfl, h1, hu1⟩ := ht
      have HR := Lib.hid hR
      clear hR ht1 he
      go_wp2_with fail
      go_ret
      exact ⟨v, by rw [HR.out]; rfl, by rw [HR.out]; exact h1, hu1, Fr.refl _ _⟩
  · rw [if_neg he] at ht hR
    obtain ⟨rfl, hn1⟩ := ht
    have HR := Lib.hid hR
    clear hR he
    go_wp2_with fail
    go_ret
    exact ⟨v, by rw [HR.out]; rfl, by rw [HR.out]; exact h.new hn1, Upd.new hn1, Fr.refl _ _⟩

def belowOk (bs : List UInt8) (err most : Int) : Prop := err = 0 ∧ (takeV bs).1 = 0 ∧ ((takeV bs).2.1 : Int) ≤ most
def belowErr (bs : List UInt8) (err : Int) : Int := if err = 0 then if (takeV bs).1 = 0 then 32 else (takeV bs).1 else err

/-- What below answers. -/
def BelowPost (w : World) (g : Nat) (v : Value) (bs : List UInt8) (err most : Int) (e : Ending) (w' : World) : Prop :=
  (belowOk bs err most ∧ ∃ u, e = .returned (.tuple #[.int .i64 ((takeV bs).2.1 : Int), u, .bool true]) ∧ Owns w' w.heap.size 5 1 bEnc u (takeV bs).2.2 ∧ New w w') ∨
  (¬ belowOk bs err most ∧ e = .returned (.tuple #[.int .i64 0, .slice none 0 0, .bool false]) ∧ RdAt w' g v bs (belowErr bs err) ∧ Upd (· = g) w w')

theorem getV_lt (bs : List UInt8) : ∀ i acc, i ≤ 9 → acc < 128 ^ i → (getV i acc bs).2.1 < 18446744073709551616 := by
  induction bs with
  | nil => intro i acc _ _; simp [getV]
  | cons x xs ih =>
    intro i acc hi hacc
    have hx := x.toNat_lt
    rw [getV]
    split
    · simp
    · rename_i hbad
      split
      · rename_i h128
        exact (put_fits hi hacc h128 (fun h => by
          rcases Nat.lt_or_ge 1 x.toNat with h1 | h1
          · exact absurd (.inl ⟨h, h1⟩) hbad
          · exact h1)).2
      · rename_i h128
        have h9 : i ≠ 9 := fun h => hbad (.inl ⟨h, by omega⟩)
        refine ih (i + 1) _ (by omega) ?_
        rw [Nat.pow_succ]
        have h1 : (x.toNat - 128) * 128 ^ i ≤ 127 * 128 ^ i := Nat.mul_le_mul_right _ (by omega)
        omega
theorem takeV_lt (bs : List UInt8) : (takeV bs).2.1 < 18446744073709551616 := getV_lt bs 0 0 (by omega) (by simp)

set_option maxRecDepth 100000 in
set_option maxHeartbeats 2000000 in
theorem below_any (g : Nat) (v : Value) (bs : List UInt8) (err most : Int) (w : World) (h : RdAt w g v bs err) (hb : bs.length ≤ 1000000000) (hm0 : -9223372036854775808 ≤ most) (hm1 : most ≤ 9223372036854775807) :
    Calls Try.prog 58 #[.pointer (some ⟨g, 0, none⟩), .func (.func 55) #[.pointer (some ⟨g, 0, none⟩)] #[], .int .i64 most] w (BelowPost w g v bs err most) := by
  have hlt := takeV_lt bs
  go_enter Try.func58, Try.ntmps58
  go_wp2_with fail
  refine (take_rd g v bs err w h hb).mono ?_
  intro e w1 ht
  unfold TakePost at ht
  by_cases he : err = 0
  · rw [if_pos he] at ht
    by_cases ht1 : (takeV bs).1 = 0
    · rw [if_pos ht1] at ht
      obtain ⟨u, rfl, ho, hn1⟩ := ht
      obtain ⟨A1, n1, c1, hv1⟩ := (Owns.slIn bEncOk ho).shape
      subst hv1
      have HE := Lib.hid he
      have HT1 := Lib.hid ht1
      have h1 := h.new hn1
      have hBE : belowErr bs err = 32 := by simp [belowErr, he, ht1]
      have HBE := Lib.hid hBE
      generalize htn : (takeV bs).2.1 = tn at *
      have HTN := Lib.hid htn
      clear he ht1 htn hBE
      by_cases hneg : most < 0
      · have hno : ¬ belowOk bs err most := fun hk => by have := hk.2.2; rw [HTN.out] at this; omega
        have HNO := Lib.hid hno
        clear hno
        go_wp2_with fail
        refine (fail_any g v bs err 32 w1 h1).mono ?_
        rintro e w2 ⟨rfl, h2, hu2⟩
        go_wp2_with fail
        go_ret3
        exact .inr ⟨HNO.out, rfl, by rw [HBE.out]; rw [if_pos HE.out] at h2; exact h2, (Upd.new hn1).trans hu2 (fun _ _ h => h)⟩
      · by_cases hgt : most < (tn : Int)
        · have hno : ¬ belowOk bs err most := fun hk => by have := hk.2.2; rw [HTN.out] at this; omega
          have HNO := Lib.hid hno
          clear hno
          go_wp2_with fail
          refine (fail_any g v bs err 32 w1 h1).mono ?_
          rintro e w2 ⟨rfl, h2, hu2⟩
          go_wp2_with fail
          go_ret3
          exact .inr ⟨HNO.out, rfl, by rw [HBE.out]; rw [if_pos HE.out] at h2; exact h2, (Upd.new hn1).trans hu2 (fun _ _ h => h)⟩
        · have hok : belowOk bs err most := ⟨HE.out, HT1.out, by rw [HTN.out]; omega⟩
          have HOK := Lib.hid hok
          clear hok
          go_wp2_with fail
          go_ret3
          exact .inl ⟨HOK.out, .slice A1 n1 c1, by rw [HTN.out]; rfl, ho, hn1⟩
    · rw [if_neg ht1] at ht
      obtain ⟨rfl, h1, hu1⟩ := ht
      have hno : ¬ belowOk bs err most := fun hk => ht1 hk.2.1
      have hBE : belowErr bs err = (takeV bs).1 := by simp [belowErr, he, ht1]
      have HNO := Lib.hid hno
      have HBE := Lib.hid hBE
      clear hno hBE ht1 he
      go_wp2_with fail
      go_ret3
      exact .inr ⟨HNO.out, rfl, by rw [HBE.out]; exact h1, hu1⟩
  · rw [if_neg he] at ht
    obtain ⟨rfl, hn1⟩ := ht
    have hno : ¬ belowOk bs err most := fun hk => he hk.1
    have hBE : belowErr bs err = err := by simp [belowErr, he]
    have HNO := Lib.hid hno
    have HBE := Lib.hid hBE
    clear hno hBE he
    go_wp2_with fail
    go_ret3
    exact .inr ⟨HNO.out, rfl, by rw [HBE.out]; exact h.new hn1, Upd.new hn1⟩
end Go.Proofs.Ytghhcjpilcoblaa
