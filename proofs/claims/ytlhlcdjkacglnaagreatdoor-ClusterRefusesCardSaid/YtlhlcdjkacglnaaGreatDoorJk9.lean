/- The contract of accept.Bytes (chapter 20). -/
import Derived.Test.YtlhlcdjkacglnaaGreatDoorJk7
import Derived.Test.YtlhlcdjkacglnaaGreatDoorJk8
import Derived.Laws.Bits128
import Derived.Laws.IdiomStrings
import Derived.Deep.RegionHeld3
import Derived.Deep.DeepCutAuto
import Derived.Deep.QuietTactic
import Derived.BigQuiet
namespace Go.Proofs.YtlhlcdjkacglnaaGreatDoor.D
open Go.RowKit Go.Lap
set_option linter.unusedVariables false

theorem AccAt.upd {w w' : World} {S : Nat → Prop} {g : Nat} {pr pn : Int} {h : Bool} {ar an : Int} {v : ByteArray} (ha : AccAt w g pr pn h ar an v) (hu : Upd S w w') (hS : ¬ S g) : AccAt w' g pr pn h ar an v := Blk.upd ha hu hS
end Go.Proofs.YtlhlcdjkacglnaaGreatDoor.D
/- Contracts of code.Reader (chapter 3): what is taken, and what goes wrong first. -/
namespace Go.Lap
theorem SlIn.setFar {α : Type} {enc : α → List Value} {size : Nat} {l : List α} {w : World} {v : Value} (h : SlIn w size enc v l) {p : Addr} (hp : v.ownBlock ≠ some p.block) (u : Value) : SlIn (w.setCell p u) size enc v l :=
  h.upd (S := fun k => k = p.block) ((Upd.refl (fun k => k = p.block) w).setCell (fun _ => rfl) u) (fun k hk e => hp (by rw [hk, e]))
end Go.Lap

namespace Go.Proofs.YtlhlcdjkacglnaaGreatDoor.D
open Go.RowKit Go.Lap
set_option linter.unusedVariables false

/-- A reader in memory. -/
def RdAt (w : World) (g : Nat) (v : Value) (bs : List UInt8) (err : Int) : Prop :=
  Blk w g 200 #[v, .int .i64 err] ∧ SlIn w 1 bEnc v bs ∧ v.ownBlock ≠ some g

theorem RdAt.facts {w : World} {g : Nat} {v : Value} {bs : List UInt8} {err : Int} (h : RdAt w g v bs err) :
    g < w.heap.size ∧ w.cell? ⟨g, 0, none⟩ = some v ∧ w.cell? ⟨g, 1, none⟩ = some (.int .i64 err) ∧ (∀ i, w.frozen? ⟨g, i, none⟩ = false) := ⟨h.1.lt, h.1.cell 0, h.1.cell 1, h.1.frozen⟩
theorem RdAt.new {w w' : World} {g : Nat} {v : Value} {bs : List UInt8} {err : Int} (h : RdAt w g v bs err) (hn : New w w') : RdAt w' g v bs err := ⟨h.1.new hn, h.2.1.new hn, h.2.2⟩
set_option maxRecDepth 100000 in
set_option maxHeartbeats 1000000 in
theorem read_any (bs : List UInt8) (v : Value) (w : World) (hb : bs.length ≤ 140737488355328) (hs : SlIn w 1 bEnc v bs) :
    Calls Tryz.prog 58 #[v] w fun e w' => ∃ g u, e = .returned (.pointer (some ⟨g, 0, none⟩)) ∧ w.heap.size ≤ g ∧ (∀ k, u.ownBlock = some k → w.heap.size ≤ k) ∧ RdAt w' g u bs 0 ∧ New w w' := by
  have hm1 : ([] : List UInt8).length + bs.length ≤ maxLen := by simp [maxLen]; omega
  have hm2 : (([] : List UInt8).length + bs.length) * 1 ≤ 140737488355328 := by simp; omega
  have HM1 := Lib.hid hm1
  have HM2 := Lib.hid hm2
  clear hm1 hm2
  go_enter Tryz.func58, Tryz.ntmps58
  go_wp2_with (at_builtin; have ho0 : Owns _ w.heap.size 5 1 bEnc _ ([] : List UInt8) := World.ownsRow_made (base := w.heap.size) (e := 5) (size := 1) w #[] 0 (Nat.le_refl _) (by simp) (by simp); refine wpList_app bTy bEncOk rfl (.tmp 3) (.tmp 4) rfl rfl rfl ho0 (hs.alloc _) HM1.out HM2.out (by simp) ?_; intro v1 w1 ho1 hg1 _; obtain ⟨A1, n1, c1, hv1⟩ := (Owns.slIn bEncOk ho1).shape; subst hv1)
  have hN1 : New w w1 := ((New.refl w).alloc _).grown hg1 (fun k hk => ho0.blockGe k hk)
  go_ret
  refine ⟨_, _, rfl, hN1.size, fun k hk => ho1.blockGe k hk, ⟨Blk.mk_new w1 _ _, (Owns.slIn bEncOk ho1).alloc _, fun h => ?_⟩, hN1.alloc _⟩
  have := (ho1.lt _ h).2
  omega

def FailPost (w : World) (g : Nat) (v : Value) (bs : List UInt8) (err : Int) (e : Ending) (w' : World) : Prop := e = .returned (.bool false) ∧ RdAt w' g v bs err ∧ Upd (· = g) w w'

set_option maxHeartbeats 400000 in
theorem fail_any (g : Nat) (v : Value) (bs : List UInt8) (err k : Int) (w : World) (h : RdAt w g v bs err) :
    Calls Tryz.prog 157 #[.pointer (some ⟨g, 0, none⟩), .int .i64 k] w (FailPost w g v bs (if err = 0 then k else err)) := by
  obtain ⟨hg, c0, c1, hz⟩ := h.facts
  by_cases he : err = 0
  · subst he
    rw [if_pos rfl]
    go_enter Tryz.func157, Tryz.ntmps157
    go_wp2_with fail
    go_ret
    exact ⟨rfl, ⟨h.1.set_ 1 _, h.2.1.setFar h.2.2 _, h.2.2⟩, (Upd.refl _ _).setIn _ _⟩
  · have hne : ((err : Int) == 0) = false := by simpa using he
    rw [if_neg he]
    go_enter Tryz.func157, Tryz.ntmps157
    go_wp2_with fail
    go_ret
    exact ⟨rfl, h, Upd.refl _ _⟩

/-- What the number that stands first is to a reader: what goes wrong (0: nothing), the number, the rest. -/
def takeV (bs : List UInt8) : Int × Nat × List UInt8 := let r := getV 0 0 bs; (if r.1 = 10 then 30 else r.1, r.2.1, r.2.2)

/-- What take answers; the reader's own bytes stay. -/
def TakePost (w : World) (g : Nat) (v : Value) (bs : List UInt8) (err : Int) (e : Ending) (w' : World) : Prop :=
  if err = 0 then
    if (takeV bs).1 = 0 then ∃ u, e = .returned (.tuple #[.int .u64 ((takeV bs).2.1 : Int), u, .bool true]) ∧ Owns w' w.heap.size 5 1 bEnc u (takeV bs).2.2 ∧ New w w'
    else e = .returned (.tuple #[.int .u64 0, .slice none 0 0, .bool false]) ∧ RdAt w' g v bs (takeV bs).1 ∧ Upd (· = g) w w'
  else e = .returned (.tuple #[.int .u64 0, .slice none 0 0, .bool false]) ∧ New w w'

theorem getV_code (bs : List UInt8) : ∀ i acc, (getV i acc bs).1 = 0 ∨ (getV i acc bs).1 = 10 ∨ (getV i acc bs).1 = 12 := by
  induction bs with
  | nil => intro i acc; right; left; rfl
  | cons x xs ih =>
    intro i acc
    rw [getV]
    split
    · right; right; rfl
    · split
      · left; rfl
      · exact ih _ _

set_option maxRecDepth 100000 in
set_option maxHeartbeats 1000000 in
theorem take_rd (g : Nat) (v : Value) (bs : List UInt8) (err : Int) (w : World) (h : RdAt w g v bs err) (hb : bs.length ≤ 1000000000) :
    Calls Tryz.prog 116 #[.pointer (some ⟨g, 0, none⟩)] w (TakePost w g v bs err) := by
  obtain ⟨hg, c0, c1, hz⟩ := h.facts
  by_cases he : err = 0
  · subst he
    obtain ⟨A1, n1, c1', hv1⟩ := h.2.1.shape
    subst hv1
    go_enter Tryz.func116, Tryz.ntmps116
    go_wp2_with fail
    refine (getVar_any bs _ _ hb h.2.1).mono ?_
    rintro e w1 ⟨u, rfl, hu, hn1⟩
    have hT : takeV bs = (if (getV 0 0 bs).1 = 10 then 30 else (getV 0 0 bs).1, (getV 0 0 bs).2.1, (getV 0 0 bs).2.2) := rfl
    have hcode := getV_code bs 0 0
    generalize getV 0 0 bs = r at *
    obtain ⟨rc, rn, rest⟩ := r
    have h1 := h.new hn1
    rcases hcode with hc | hc | hc
    all_goals
      simp only at hc
      subst hc
    · have t1 : (takeV bs).1 = 0 := by rw [hT]; rfl
      have t2 : (takeV bs).2 = (rn, rest) := by rw [hT]
      have hu' : Owns w1 w.heap.size 5 1 bEnc u rest := by simpa using hu
      have T1 := Lib.hid t1
      have T2 := Lib.hid t2
      clear hT hu t1 t2
      go_wp2_with fail
      go_ret3
      unfold TakePost
      rw [if_pos rfl, if_pos T1.out, T2.out]
      exact ⟨u, rfl, hu', hn1⟩
    · have t1 : (takeV bs).1 = 30 := by rw [hT]; rfl
      have T1 := Lib.hid t1
      clear hT t1
      go_wp2_with fail
      refine (fail_any g _ bs 0 30 w1 h1).mono ?_
      rintro e w2 ⟨rfl, h2, hu2⟩
      go_wp2_with fail
      go_ret3
      unfold TakePost
      rw [if_pos rfl, T1.out, if_neg (by decide)]
      exact ⟨rfl, h2, (Upd.new hn1).trans hu2 (fun _ _ h => h)⟩
    · have t1 : (takeV bs).1 = 12 := by rw [hT]; rfl
      have T1 := Lib.hid t1
      clear hT t1
      go_wp2_with fail
      refine (fail_any g _ bs 0 12 w1 h1).mono ?_
      rintro e w2 ⟨rfl, h2, hu2⟩
      go_wp2_with fail
      go_ret3
      unfold TakePost
      rw [if_pos rfl, T1.out, if_neg (by decide)]
      exact ⟨rfl, h2, (Upd.new hn1).trans hu2 (fun _ _ h => h)⟩
  · have hne : ((err : Int) != 0) = true := by simpa using he
    go_enter Tryz.func116, Tryz.ntmps116
    go_wp2_with fail
    go_ret3
    unfold TakePost
    rw [if_neg he]
    exact ⟨rfl, New.refl _⟩
/-- What a take leaves: an answer, and the reader in a new state. -/
def RdPost (w : World) (g : Nat) (v : Value) (val : Value) (bs : List UInt8) (err : Int) (e : Ending) (w' : World) : Prop :=
  ∃ v', e = .returned val ∧ RdAt w' g v' bs err ∧ Upd (· = g) w w' ∧ Fr w v v'

def numR (bs : List UInt8) (err : Int) : Nat × List UInt8 × Int := if err = 0 then if (takeV bs).1 = 0 then ((takeV bs).2.1, (takeV bs).2.2, 0) else (0, bs, (takeV bs).1) else (0, bs, err)

theorem owns_ne {w w1 : World} {g : Nat} {v : Value} {bs l : List UInt8} {err : Int} (h : RdAt w g v bs err) {u : Value} (ho : Owns w1 w.heap.size 5 1 bEnc u l) : u.ownBlock ≠ some g := fun hk => by
  have := ho.blockGe g hk
  have := h.1.lt
  omega

set_option maxRecDepth 100000 in
set_option maxHeartbeats 1000000 in
theorem rnum_any (g : Nat) (v : Value) (bs : List UInt8) (err : Int) (w : World) (h : RdAt w g v bs err) (hb : bs.length ≤ 1000000000) :
    Calls Tryz.prog 140 #[.pointer (some ⟨g, 0, none⟩)] w (RdPost w g v (.int .u64 (numR bs err).1) (numR bs err).2.1 (numR bs err).2.2) := by
  have hR : numR bs err = if err = 0 then if (takeV bs).1 = 0 then ((takeV bs).2.1, (takeV bs).2.2, 0) else (0, bs, (takeV bs).1) else (0, bs, err) := rfl
  have HR0 := Lib.hid hR
  clear hR
  go_enter Tryz.func140, Tryz.ntmps140
  go_wp2_with fail
  refine (take_rd g v bs err w h hb).mono ?_
  intro e w1 ht
  unfold TakePost at ht
  have hR := HR0.out
  clear HR0
  by_cases he : err = 0
  · rw [if_pos he] at ht hR
    by_cases ht1 : (takeV bs).1 = 0
    · rw [if_pos ht1] at ht hR
      obtain ⟨u, rfl, ho, hn1⟩ := ht
      obtain ⟨A1, n1, c1, hv1⟩ := (Owns.slIn bEncOk ho).shape
      subst hv1
      have h1 := h.new hn1
      obtain ⟨hg, c0, c1', hz⟩ := h1.facts
      have HR := Lib.hid hR
      have HE := Lib.hid he
      clear hR ht1 he
      go_wp2_with fail
      go_ret
      refine ⟨.slice A1 n1 c1, by rw [HR.out]; rfl, ?_, (Upd.new hn1).setIn _ _, Fr.new ho⟩
      rw [HR.out]
      have hb1 := h1.1
      rw [HE.out] at hb1
      exact ⟨hb1.set_ 0 _, (Owns.slIn bEncOk ho).setFar (owns_ne h ho) _, owns_ne h ho⟩
    · rw [if_neg ht1] at ht hR
      obtain ⟨rfl, h1, hu1⟩ := ht
      have HR := Lib.hid hR
      clear hR ht1 he
      go_wp2_with fail
      go_ret
      exact ⟨v, by rw [HR.out]; rfl, by rw [HR.out]; exact h1, hu1, Fr.refl _ _⟩
  · rw [if_neg he] at ht hR
    obtain ⟨rfl, hn1⟩ := ht
    have HR := Lib.hid hR
    clear hR he
    go_wp2_with fail
    go_ret
    exact ⟨v, by rw [HR.out]; rfl, by rw [HR.out]; exact h.new hn1, Upd.new hn1, Fr.refl _ _⟩

def belowOk (bs : List UInt8) (err most : Int) : Prop := err = 0 ∧ (takeV bs).1 = 0 ∧ ((takeV bs).2.1 : Int) ≤ most
def belowErr (bs : List UInt8) (err : Int) : Int := if err = 0 then if (takeV bs).1 = 0 then 32 else (takeV bs).1 else err

/-- What below answers. -/
def BelowPost (w : World) (g : Nat) (v : Value) (bs : List UInt8) (err most : Int) (e : Ending) (w' : World) : Prop :=
  (belowOk bs err most ∧ ∃ u, e = .returned (.tuple #[.int .i64 ((takeV bs).2.1 : Int), u, .bool true]) ∧ Owns w' w.heap.size 5 1 bEnc u (takeV bs).2.2 ∧ New w w') ∨
  (¬ belowOk bs err most ∧ e = .returned (.tuple #[.int .i64 0, .slice none 0 0, .bool false]) ∧ RdAt w' g v bs (belowErr bs err) ∧ Upd (· = g) w w')

theorem getV_lt (bs : List UInt8) : ∀ i acc, i ≤ 9 → acc < 128 ^ i → (getV i acc bs).2.1 < 18446744073709551616 := by
  induction bs with
  | nil => intro i acc _ _; simp [getV]
  | cons x xs ih =>
    intro i acc hi hacc
    have hx := x.toNat_lt
    rw [getV]
    split
    · simp
    · rename_i hbad
      split
      · rename_i h128
        exact (put_fits hi hacc h128 (fun h => by
          rcases Nat.lt_or_ge 1 x.toNat with h1 | h1
          · exact absurd (.inl ⟨h, h1⟩) hbad
          · exact h1)).2
      · rename_i h128
        have h9 : i ≠ 9 := fun h => hbad (.inl ⟨h, by omega⟩)
        refine ih (i + 1) _ (by omega) ?_
        rw [Nat.pow_succ]
        have h1 : (x.toNat - 128) * 128 ^ i ≤ 127 * 128 ^ i := Nat.mul_le_mul_right _ (by omega)
        omega
theorem takeV_lt (bs : List UInt8) : (takeV bs).2.1 < 18446744073709551616 := getV_lt bs 0 0 (by omega) (by simp)

set_option maxRecDepth 100000 in
set_option maxHeartbeats 2000000 in
theorem below_any (g : Nat) (v : Value) (bs : List UInt8) (err most : Int) (w : World) (h : RdAt w g v bs err) (hb : bs.length ≤ 1000000000) (hm0 : -9223372036854775808 ≤ most) (hm1 : most ≤ 9223372036854775807) :
    Calls Tryz.prog 115 #[.pointer (some ⟨g, 0, none⟩), .func (.func 116) #[.pointer (some ⟨g, 0, none⟩)] #[], .int .i64 most] w (BelowPost w g v bs err most) := by
  have hlt := takeV_lt bs
  go_enter Tryz.func115, Tryz.ntmps115
  go_wp2_with fail
  refine (take_rd g v bs err w h hb).mono ?_
  intro e w1 ht
  unfold TakePost at ht
  by_cases he : err = 0
  · rw [if_pos he] at ht
    by_cases ht1 : (takeV bs).1 = 0
    · rw [if_pos ht1] at ht
      obtain ⟨u, rfl, ho, hn1⟩ := ht
      obtain ⟨A1, n1, c1, hv1⟩ := (Owns.slIn bEncOk ho).shape
      subst hv1
      have HE := Lib.hid he
      have HT1 := Lib.hid ht1
      have h1 := h.new hn1
      have hBE : belowErr bs err = 32 := by simp [belowErr, he, ht1]
      have HBE := Lib.hid hBE
      generalize htn : (takeV bs).2.1 = tn at *
      have HTN := Lib.hid htn
      clear he ht1 htn hBE
      by_cases hneg : most < 0
      · have hno : ¬ belowOk bs err most := fun hk => by have := hk.2.2; rw [HTN.out] at this; omega
        have HNO := Lib.hid hno
        clear hno
        go_wp2_with fail
        refine (fail_any g v bs err 32 w1 h1).mono ?_
        rintro e w2 ⟨rfl, h2, hu2⟩
        go_wp2_with fail
        go_ret3
        exact .inr ⟨HNO.out, rfl, by rw [HBE.out]; rw [if_pos HE.out] at h2; exact h2, (Upd.new hn1).trans hu2 (fun _ _ h => h)⟩
      · by_cases hgt : most < (tn : Int)
        · have hno : ¬ belowOk bs err most := fun hk => by have := hk.2.2; rw [HTN.out] at this; omega
          have HNO := Lib.hid hno
          clear hno
          go_wp2_with fail
          refine (fail_any g v bs err 32 w1 h1).mono ?_
          rintro e w2 ⟨rfl, h2, hu2⟩
          go_wp2_with fail
          go_ret3
          exact .inr ⟨HNO.out, rfl, by rw [HBE.out]; rw [if_pos HE.out] at h2; exact h2, (Upd.new hn1).trans hu2 (fun _ _ h => h)⟩
        · have hok : belowOk bs err most := ⟨HE.out, HT1.out, by rw [HTN.out]; omega⟩
          have HOK := Lib.hid hok
          clear hok
          go_wp2_with fail
          go_ret3
          exact .inl ⟨HOK.out, .slice A1 n1 c1, by rw [HTN.out]; rfl, ho, hn1⟩
    · rw [if_neg ht1] at ht
      obtain ⟨rfl, h1, hu1⟩ := ht
      have hno : ¬ belowOk bs err most := fun hk => ht1 hk.2.1
      have hBE : belowErr bs err = (takeV bs).1 := by simp [belowErr, he, ht1]
      have HNO := Lib.hid hno
      have HBE := Lib.hid hBE
      clear hno hBE ht1 he
      go_wp2_with fail
      go_ret3
      exact .inr ⟨HNO.out, rfl, by rw [HBE.out]; exact h1, hu1⟩
  · rw [if_neg he] at ht
    obtain ⟨rfl, hn1⟩ := ht
    have hno : ¬ belowOk bs err most := fun hk => he hk.1
    have hBE : belowErr bs err = err := by simp [belowErr, he]
    have HNO := Lib.hid hno
    have HBE := Lib.hid hBE
    clear hno hBE he
    go_wp2_with fail
    go_ret3
    exact .inr ⟨HNO.out, rfl, by rw [HBE.out]; exact h.new hn1, Upd.new hn1⟩
end Go.Proofs.YtlhlcdjkacglnaaGreatDoor.D
/- Contracts of code.Reader, more: Text, Count, Flag, End, Rest (chapter 3). -/
namespace Go.Proofs.YtlhlcdjkacglnaaGreatDoor.D
open Go.RowKit Go.Lap
set_option linter.unusedVariables false

theorem ownBlock_slice (A : Option Addr) (n c n' c' : Nat) : (Value.slice A n c).ownBlock = (Value.slice A n' c').ownBlock := by cases A <;> rfl

theorem ownBlock_drop (A : Option Addr) (k n c n' c' : Nat) : (Value.slice (Option.map (fun x => x.add k) A) n c).ownBlock = (Value.slice A n' c').ownBlock := by
  cases A with
  | none => rfl
  | some a => simp only [Option.map, Value.ownBlock, Addr.add]; split <;> rfl

/-- A text: what is taken, the rest, what goes wrong. -/
def textR (bs : List UInt8) (err : Int) : List UInt8 × List UInt8 × Int :=
  if err = 0 ∧ (takeV bs).1 = 0 ∧ ((takeV bs).2.1 : Int) ≤ 65536 then
    if (takeV bs).2.2.length < (takeV bs).2.1 then ([], bs, 30) else ((takeV bs).2.2.take (takeV bs).2.1, (takeV bs).2.2.drop (takeV bs).2.1, 0)
  else ([], bs, belowErr bs err)

def countR (bs : List UInt8) (err most : Int) : Nat × List UInt8 × Int :=
  if err = 0 ∧ (takeV bs).1 = 0 ∧ ((takeV bs).2.1 : Int) ≤ most then ((takeV bs).2.1, (takeV bs).2.2, 0) else (0, bs, belowErr bs err)

set_option maxRecDepth 100000 in
set_option maxHeartbeats 1000000 in
theorem count_any (g : Nat) (v : Value) (bs : List UInt8) (err most : Int) (w : World) (h : RdAt w g v bs err) (hb : bs.length ≤ 1000000000) (hm0 : -9223372036854775808 ≤ most) (hm1 : most ≤ 9223372036854775807) :
    Calls Tryz.prog 59 #[.pointer (some ⟨g, 0, none⟩), .int .i64 most] w (RdPost w g v (.int .i64 (countR bs err most).1) (countR bs err most).2.1 (countR bs err most).2.2) := by
  go_enter Tryz.func59, Tryz.ntmps59
  go_wp2_with fail
  refine (below_any g v bs err most w h hb hm0 hm1).mono ?_
  intro e w1 ht
  rcases ht with ⟨hok, u, rfl, ho, hn1⟩ | ⟨hno, rfl, h1, hu1⟩
  · have hR : countR bs err most = ((takeV bs).2.1, (takeV bs).2.2, 0) := by unfold countR; exact if_pos hok
    obtain ⟨A1, n1, c1, hv1⟩ := (Owns.slIn bEncOk ho).shape
    subst hv1
    have h1 := h.new hn1
    obtain ⟨hg, c0, c1', hz⟩ := h1.facts
    have HR := Lib.hid hR
    have HE := Lib.hid hok.1
    clear hR hok
    go_wp2_with fail
    go_ret
    refine ⟨.slice A1 n1 c1, by rw [HR.out]; rfl, ?_, (Upd.new hn1).setIn _ _, Fr.new ho⟩
    rw [HR.out]
    have hb1 := h1.1
    rw [HE.out] at hb1
    exact ⟨hb1.set_ 0 _, (Owns.slIn bEncOk ho).setFar (owns_ne h ho) _, owns_ne h ho⟩
  · have hR : countR bs err most = (0, bs, belowErr bs err) := by unfold countR; exact if_neg hno
    have HR := Lib.hid hR
    clear hR hno
    go_wp2_with fail
    go_ret
    exact ⟨v, by rw [HR.out]; rfl, by rw [HR.out]; exact h1, hu1, Fr.refl _ _⟩

set_option maxRecDepth 100000 in
set_option maxHeartbeats 1000000 in
theorem rtext_any (g : Nat) (v : Value) (bs : List UInt8) (err : Int) (w : World) (h : RdAt w g v bs err) (hb : bs.length ≤ 1000000000) :
    Calls Tryz.prog 138 #[.pointer (some ⟨g, 0, none⟩)] w (RdPost w g v (.string (str (textR bs err).1)) (textR bs err).2.1 (textR bs err).2.2) := by
  go_enter Tryz.func138, Tryz.ntmps138
  go_wp2_with fail
  refine (below_any g v bs err 65536 w h hb (by decide) (by decide)).mono ?_
  intro e w1 ht
  rcases ht with ⟨hok, u, rfl, ho, hn1⟩ | ⟨hno, rfl, h1, hu1⟩
  · have hT := hok.2.2
    have HE := Lib.hid hok.1
    have hR0 : textR bs err = if (takeV bs).2.2.length < (takeV bs).2.1 then ([], bs, 30) else ((takeV bs).2.2.take (takeV bs).2.1, (takeV bs).2.2.drop (takeV bs).2.1, 0) := by unfold textR; exact if_pos hok
    have HR0 := Lib.hid hR0
    clear hR0 hok
    generalize takeV bs = t at *
    obtain ⟨t1, tn, rest⟩ := t
    simp only at hT ho
    obtain ⟨A1, c1, hv1⟩ := (Owns.slIn bEncOk ho).form
    subst hv1
    have h1 := h.new hn1
    have hsl := Owns.slIn bEncOk ho
    by_cases hlt : rest.length < tn
    · have hlt' : (rest.length : Int) < (tn : Int) := by omega
      have hR : textR bs err = ([], bs, 30) := by rw [HR0.out]; exact if_pos hlt
      have HR := Lib.hid hR
      clear hR HR0
      go_wp2_with fail
      refine (fail_any g v bs err 30 w1 h1).mono ?_
      rintro e w2 ⟨rfl, h2, hu2⟩
      go_wp2_with fail
      go_ret
      exact ⟨v, by rw [HR.out]; rfl, by rw [HR.out]; rw [if_pos HE.out] at h2; exact h2, (Upd.new hn1).trans hu2 (fun _ _ h => h), Fr.refl _ _⟩
    · have hlt' : ¬ (rest.length : Int) < (tn : Int) := by omega
      have hR : textR bs err = (rest.take tn, rest.drop tn, 0) := by rw [HR0.out]; exact if_neg hlt
      have HR := Lib.hid hR
      clear hR HR0
      obtain ⟨hg, c0, c1', hz⟩ := h1.facts
      have hob := owns_ne h ho
      have k1 : (tn : Int) ≤ (c1 : Int) := by have := hsl.cap_le.1; omega
      have k2 : (tn : Int) ≤ (rest.length : Int) := by omega
      have k3 : (0 : Int) ≤ (tn : Int) := by omega
      have k4 : tn ≤ c1 := by omega
      have hb1 := h1.1
      rw [HE.out] at hb1
      by_cases hct : c1 = tn
      · subst hct
        have hdr := hsl.drop_end (by omega)
        have htk := hsl.take (k := c1) (c' := c1) (by omega) (Nat.le_refl _)
        have hcv := run_str (w1.setCell ⟨g, 0, none⟩ (.slice A1 (rest.length - c1) 0)) (htk.setFar (by rw [ownBlock_slice A1 c1 c1 rest.length c1]; exact hob) (.slice A1 (rest.length - c1) 0))
        have hbo : (Value.slice A1 (rest.length - c1) 0).ownBlock ≠ some g := by rw [ownBlock_slice A1 _ _ rest.length c1]; exact hob
        have HDR := Lib.hid hdr
        clear hdr htk
        go_wp2_with fail
        go_ret
        refine ⟨_, by rw [HR.out]; rfl, by rw [HR.out]; exact ⟨hb1.set_ 0 _, HDR.out.setFar hbo _, hbo⟩, (Upd.new hn1).setIn _ _, fun k hk => ?_⟩
        rw [ownBlock_slice A1 _ _ rest.length c1] at hk
        exact .inr (ho.blockGe k hk)
      · have hdr := hsl.drop_far (k := tn) (by omega) hct
        have htk := hsl.take (k := tn) (c' := c1) (by omega) k4
        rw [Nat.mul_one] at hdr
        have hbo : (Value.slice (Option.map (fun x => x.add tn) A1) (rest.length - tn) (c1 - tn)).ownBlock ≠ some g := by rw [ownBlock_drop A1 _ _ _ rest.length c1]; exact hob
        have hcv := run_str (w1.setCell ⟨g, 0, none⟩ (.slice (Option.map (fun x => x.add tn) A1) (rest.length - tn) (c1 - tn))) (htk.setFar (by rw [ownBlock_slice A1 tn c1 rest.length c1]; exact hob) (.slice (Option.map (fun x => x.add tn) A1) (rest.length - tn) (c1 - tn)))
        have HDR := Lib.hid hdr
        clear hdr htk
        go_wp2_with fail
        go_ret
        refine ⟨_, by rw [HR.out]; rfl, by rw [HR.out]; exact ⟨hb1.set_ 0 _, HDR.out.setFar hbo _, hbo⟩, (Upd.new hn1).setIn _ _, fun k hk => ?_⟩
        rw [ownBlock_drop A1 _ _ _ rest.length c1] at hk
        exact .inr (ho.blockGe k hk)
  · have hR : textR bs err = ([], bs, belowErr bs err) := by unfold textR; exact if_neg hno
    have HR := Lib.hid hR
    clear hR hno
    go_wp2_with fail
    go_ret
    exact ⟨v, by rw [HR.out]; rfl, by rw [HR.out]; exact h1, hu1, Fr.refl _ _⟩

def endR (bs : List UInt8) (err : Int) : Int := if err = 0 then if bs = [] then 0 else 31 else err

set_option maxHeartbeats 1000000 in
theorem end_any (g : Nat) (v : Value) (bs : List UInt8) (err : Int) (w : World) (h : RdAt w g v bs err) (hb : bs.length ≤ 1000000000) :
    Calls Tryz.prog 184 #[.pointer (some ⟨g, 0, none⟩)] w fun e w' => e = .returned (.int .i64 (endR bs err)) ∧ w = w' := by
  obtain ⟨hg, c0, c1, hz⟩ := h.facts
  obtain ⟨A1, c1', hv1⟩ := h.2.1.form
  subst hv1
  by_cases he : err = 0
  · subst he
    by_cases hbs : bs.length = 0
    · have hR : endR bs 0 = 0 := by have := List.eq_nil_of_length_eq_zero hbs; simp [endR, this]
      have HR := Lib.hid hR
      have h1 : ¬ (0 : Int) < (bs.length : Int) := by omega
      have h1n : ¬ 0 < bs.length := by omega
      clear hR hbs
      go_enter Tryz.func184, Tryz.ntmps184
      go_wp2_with fail
      go_ret
      exact ⟨by rw [HR.out]; rfl, rfl⟩
    · have hR : endR bs 0 = 31 := by have : bs ≠ [] := fun h => hbs (by rw [h]; rfl); simp [endR, this]
      have HR := Lib.hid hR
      have h1 : (0 : Int) < (bs.length : Int) := by omega
      clear hR hbs
      go_enter Tryz.func184, Tryz.ntmps184
      go_wp2_with fail
      go_ret
      exact ⟨by rw [HR.out]; rfl, rfl⟩
  · have hR : endR bs err = err := by simp [endR, he]
    have HR := Lib.hid hR
    have hne : ((err : Int) == 0) = false := by simpa using he
    clear hR he
    go_enter Tryz.func184, Tryz.ntmps184
    go_wp2_with fail
    go_ret
    exact ⟨by rw [HR.out]; rfl, rfl⟩

def flagR (bs : List UInt8) (err : Int) : Bool × List UInt8 × Int :=
  if err = 0 then match bs with | [] => (false, [], 30) | x :: xs => if 1 < x.toNat then (false, x :: xs, 33) else (decide (x.toNat = 1), xs, 0) else (false, bs, err)

set_option maxHeartbeats 400000 in
theorem flag1_any (gb g : Nat) (v : Value) (bs : List UInt8) (err k : Int) (w : World) (h : RdAt w g v bs err) (hc : w.cell? ⟨gb, 0, none⟩ = some (.pointer (some ⟨g, 0, none⟩))) (he : err = 0) :
    Calls Tryz.prog 199 #[.int .i64 k, .pointer (some ⟨gb, 0, none⟩)] w (FailPost w g v bs k) := by
  go_enter Tryz.func199, Tryz.ntmps199
  go_wp2_with fail
  refine (fail_any g v bs err k w h).mono ?_
  rintro e w2 ⟨rfl, h2, hu2⟩
  rw [if_pos he] at h2
  go_wp2_with fail
  go_ret
  exact ⟨rfl, h2, hu2⟩

set_option maxRecDepth 100000 in
set_option maxHeartbeats 2000000 in
theorem rflag_any (g : Nat) (v : Value) (bs : List UInt8) (err : Int) (w : World) (h : RdAt w g v bs err) (hb : bs.length ≤ 1000000000) :
    Calls Tryz.prog 161 #[.pointer (some ⟨g, 0, none⟩)] w (RdPost w g v (.bool (flagR bs err).1) (flagR bs err).2.1 (flagR bs err).2.2) := by
  obtain ⟨hg, c0, c1, hz⟩ := h.facts
  obtain ⟨A1, c1', hv1⟩ := h.2.1.form
  subst hv1
  have hg1 : g < w.heap.size + 1 := by omega
  by_cases he : err = 0
  · subst he
    cases bs with
    | nil =>
      go_enter Tryz.func161, Tryz.ntmps161
      go_wp2_with fail
      refine (flag1_any w.heap.size g _ [] 0 30 _ (h.new ((New.refl w).alloc _)) (by simp [go_sem]) rfl).mono ?_
      rintro e w2 ⟨rfl, h2, hu2⟩
      go_wp2_with fail
      go_ret
      exact ⟨_, rfl, h2, ((Upd.refl _ w).alloc _).trans hu2 (fun _ _ h => h), Fr.refl _ _⟩
    | cons x xs =>
      obtain ⟨A0, c0', hv, hlc, hh⟩ := h.2.1
      injection hv with hA hn hcc
      subst hA hcc
      rcases hh with hh | ⟨b, off, hA, hbl, hc⟩
      · cases hh
      subst hA
      have e0 : w.cell? ⟨b, off, none⟩ = some (.int .u8 (x.toNat : Int)) := by simpa [bEnc] using hc 0 x rfl 0 _ rfl
      have hb1 : b < w.heap.size + 1 := by omega
      have hsl := h.2.1
      have hbg : b ≠ g := fun e => h.2.2 (by rw [e]; rfl)
      by_cases hx : 1 < x.toNat
      · have hx' : (1 : Int) < (x.toNat : Int) := by omega
        have hR : flagR (x :: xs) 0 = (false, x :: xs, 33) := by simp [flagR, hx]
        have HR := Lib.hid hR
        clear hR hc
        go_enter Tryz.func161, Tryz.ntmps161
        go_wp2_with fail
        refine (flag1_any w.heap.size g _ (x :: xs) 0 33 _ (h.new ((New.refl w).alloc _)) (by simp [go_sem]) rfl).mono ?_
        rintro e w2 ⟨rfl, h2, hu2⟩
        go_wp2_with fail
        go_ret
        exact ⟨_, by rw [HR.out]; rfl, by rw [HR.out]; exact h2, ((Upd.refl _ w).alloc _).trans hu2 (fun _ _ h => h), Fr.refl _ _⟩
      · have hx' : ¬ (1 : Int) < (x.toNat : Int) := by omega
        have hR : flagR (x :: xs) 0 = (decide (x.toNat = 1), xs, 0) := by simp [flagR, hx]
        have HR := Lib.hid hR
        have HRD := Lib.hid h
        have HSL := Lib.hid hsl
        have hxb : ((x.toNat : Int) == 1) = decide (x.toNat = 1) := by rw [Bool.eq_iff_iff]; simp; omega
        have HXB := Lib.hid hxb
        clear hR hc hxb hsl
        go_enter Tryz.func161, Tryz.ntmps161
        go_wp2_with fail
        go_region
        all_goals go_wp2_with fail
        all_goals go_ret
        · have hc1 : c1' = 1 := by assumption
          have hd := HSL.out.drop (k := 1) (by simp)
          rw [if_pos hc1] at hd
          simp only [List.length_cons, Nat.add_sub_cancel, List.drop_succ_cons, List.drop_zero, hc1, Nat.sub_self] at hd
          have hbo : (Value.slice (some ⟨b, off, none⟩) xs.length 0).ownBlock ≠ some g := HRD.out.2.2
          refine ⟨.slice (some ⟨b, off, none⟩) xs.length 0, ?_, ?_, (((Upd.refl _ w).setIn _ _).alloc _).drew, fun k hk => .inl hk⟩
          · rw [HR.out]; exact ret_bool HXB.out
          · rw [HR.out]
            exact ⟨(HRD.out.1.set_ 0 _).alloc _, (hd.setFar hbo _).alloc _, hbo⟩
        · have hc1 : ¬ c1' = 1 := by assumption
          have hd := HSL.out.drop_at (k := 1) (by simp) hc1
          simp only [List.length_cons, Nat.add_sub_cancel, List.drop_succ_cons, List.drop_zero, Nat.mul_one] at hd
          have hbo : (Value.slice (some ⟨b, off + 1, none⟩) xs.length (c1' - 1)).ownBlock ≠ some g := HRD.out.2.2
          refine ⟨.slice (some ⟨b, off + 1, none⟩) xs.length (c1' - 1), ?_, ?_, (((Upd.refl _ w).setIn _ _).alloc _).drew, fun k hk => .inl hk⟩
          · rw [HR.out]; exact ret_bool HXB.out
          · rw [HR.out]
            exact ⟨(HRD.out.1.set_ 0 _).alloc _, (hd.setFar hbo _).alloc _, hbo⟩
  · have hne : ((err : Int) != 0) = true := by simpa using he
    have hR : flagR bs err = (false, bs, err) := by simp [flagR, he]
    have HR := Lib.hid hR
    clear hR
    go_enter Tryz.func161, Tryz.ntmps161
    go_wp2_with fail
    go_ret
    exact ⟨_, by rw [HR.out]; rfl, by rw [HR.out]; exact h.new ((New.refl w).alloc _), (Upd.refl _ w).alloc _, Fr.refl _ _⟩
end Go.Proofs.YtlhlcdjkacglnaaGreatDoor.D
/- Chapter 3, what needs no law of it: fields taken and put as plain functions; readers and writers side by side. -/
namespace Go.Proofs.YtlhlcdjkacglnaaGreatDoor.D
open Go.RowKit Go.Lap
set_option linter.unusedVariables false

theorem RdAt.step {w a b : World} {g : Nat} (hn : New w a) (hg : w.heap.size ≤ g) (hu : Upd (· = g) a b) : New w b := hn.upd hu (fun i hi => by omega)

structure Fld where
  kind : Int
  v : Nat
  s : ByteArray
  yes : Bool
  most : Int

/-- What is taken of a kind: the field, the rest, what went wrong. -/
def takeF (kind most : Int) (bs : List UInt8) (err : Int) : Fld × List UInt8 × Int :=
  if kind = 0 then (⟨kind, (numR bs err).1, str [], false, 0⟩, (numR bs err).2)
  else if kind = 1 then (⟨kind, 0, str (textR bs err).1, false, 0⟩, (textR bs err).2)
  else if kind = 2 then (⟨kind, 0, str [], (flagR bs err).1, 0⟩, (flagR bs err).2)
  else (⟨kind, (countR bs err most).1, str [], false, 0⟩, (countR bs err most).2)

theorem countR_le (bs : List UInt8) (err most : Int) : ((countR bs err most).1 : Int) ≤ most ∨ (countR bs err most).1 = 0 := by
  unfold countR; split
  · next h => exact .inl h.2.2
  · exact .inr rfl

theorem ofNat_toNat8 {n : Nat} (h : n < 256) : (UInt8.ofNat n).toNat = n := by simp [UInt8.toNat_ofNat']; omega

theorem getV_varB : ∀ (n i acc : Nat) (rest : List UInt8), i ≤ 9 → n * 128 ^ i < 18446744073709551616 → (0 < i → n ≠ 0) → getV i acc (varB n ++ rest) = (0, acc + n * 128 ^ i, rest) := by
  intro n
  induction n using Nat.strongRecOn with
  | ind n ih =>
    intro i acc rest hi hn h0
    by_cases h : n < 128
    · rw [varB_small h]
      show getV i acc (UInt8.ofNat n :: rest) = _
      rw [getV, ofNat_toNat8 (by omega)]
      rw [if_neg, if_pos h]
      rintro (⟨h9, h1⟩ | ⟨hi0, hz⟩)
      · subst h9
        have : (2 : Nat) * 128 ^ 9 ≤ n * 128 ^ 9 := Nat.mul_le_mul_right _ h1
        omega
      · exact h0 hi0 hz
    · have h8 : i ≠ 9 := by
        intro h9
        subst h9
        have : (2 : Nat) * 128 ^ 9 ≤ n * 128 ^ 9 := Nat.mul_le_mul_right _ (by omega)
        omega
      rw [varB_big (by omega)]
      show getV i acc (UInt8.ofNat (n % 128 + 128) :: (varB (n / 128) ++ rest)) = _
      rw [getV, ofNat_toNat8 (by omega), if_neg (by omega), if_neg (by omega), Nat.add_sub_cancel]
      have hp : n / 128 * 128 ^ (i + 1) ≤ n * 128 ^ i := by
        rw [Nat.pow_succ, Nat.mul_comm (128 ^ i) 128, ← Nat.mul_assoc]
        exact Nat.mul_le_mul_right _ (by omega)
      rw [ih (n / 128) (by omega) (i + 1) _ rest (by omega) (by omega) (fun _ => by omega)]
      have : acc + n % 128 * 128 ^ i + n / 128 * 128 ^ (i + 1) = acc + n * 128 ^ i := by
        rw [Nat.pow_succ, Nat.mul_comm (128 ^ i) 128, ← Nat.mul_assoc, Nat.add_assoc, ← Nat.add_mul]
        congr 2
        omega
      rw [this]

theorem takeV_varB (n : Nat) (rest : List UInt8) (h : n < 18446744073709551616) : takeV (varB n ++ rest) = (0, n, rest) := by
  unfold takeV
  rw [getV_varB n 0 0 rest (by omega) (by simpa using h) (by omega)]
  simp

theorem numR_enc (n : Nat) (rest : List UInt8) (h : n < 18446744073709551616) : numR (varB n ++ rest) 0 = (n, rest, 0) := by
  unfold numR
  rw [if_pos rfl, takeV_varB n rest h, if_pos rfl]

theorem textR_enc (s : ByteArray) (rest : List UInt8) (h : s.size ≤ 65536) : textR (varB s.size ++ s.data.toList ++ rest) 0 = (s.data.toList, rest, 0) := by
  unfold textR
  rw [List.append_assoc, takeV_varB _ _ (by omega), if_pos ⟨rfl, rfl, by simp only; omega⟩]
  have hl := strLen s
  rw [if_neg (by simp only [List.length_append]; omega)]
  simp only [← hl]
  rw [List.take_left, List.drop_left]

theorem flagR_enc (b : Bool) (rest : List UInt8) : flagR (varB (flagN b) ++ rest) 0 = (b, rest, 0) := by
  cases b
  · rw [show varB (flagN false) = [0] from by rw [varB_small (by decide)]; rfl]; simp [flagR]
  · rw [show varB (flagN true) = [1] from by rw [varB_small (by decide)]; rfl]; simp [flagR]

/-- '[]byte(s)': a new row that reads as the string's bytes. -/
theorem run_bytesP (s : ByteArray) (w : World) : ∃ v w', (convert 9 86 (.string s)).run Tryz.prog w = .ok v w' ∧ SlIn w' 1 bEnc v s.data.toList ∧ New w w' := by
  refine ⟨_, _, run_bytes_of_string w 9 86 5 s Tryz.underlying9 Tryz.underlying86 Tryz.underlying5, ?_, (New.refl w).drew.alloc _⟩
  have hge := grownCap_ge w s.size 0 5
  generalize grownCap w s.size 0 5 = cap at *
  have hlen : s.data.toList.length = s.size := Array.length_toList
  refine ⟨some ⟨w.heap.size, 0, none⟩, cap, by rw [hlen], by omega, .inr ⟨w.heap.size, 0, rfl, by simp, ?_⟩⟩
  intro k x hk j u hu
  have hj : j = 0 := by
    have := (List.getElem?_eq_some_iff.1 hu).1
    simp [bEnc] at this
    exact this
  subst hj
  simp [bEnc] at hu
  have hk2 := (List.getElem?_eq_some_iff.1 hk).1
  rw [hlen] at hk2
  have hb : (w.drew.alloc (.cells (bytesRow s cap) 5 ((bytesRow s cap).size, (bytesRow s cap).size + 1))).heap[w.heap.size]? = some (.cells (bytesRow s cap) 5 ((bytesRow s cap).size, (bytesRow s cap).size + 1)) := by
    show (w.heap.push _)[w.heap.size]? = _
    simp
  unfold World.cell?
  simp only [hb]
  rw [Array.getElem?_toList] at hk
  obtain ⟨hk3, hk4⟩ := Array.getElem?_eq_some_iff.1 hk
  simp [bytesRow, Array.getElem?_append, hk2, ← hu, hk4]

theorem getV_lenP (bs : List UInt8) : ∀ i acc, (getV i acc bs).2.2.length ≤ bs.length := by
  induction bs with
  | nil => intro i acc; simp [getV]
  | cons x xs ih =>
    intro i acc
    rw [getV]
    repeat' split
    · simp
    · simp
    · exact Nat.le_succ_of_le (ih (i + 1) (acc + (x.toNat - 128) * 128 ^ i))

theorem takeV_lenP (bs : List UInt8) : (takeV bs).2.2.length ≤ bs.length := getV_lenP bs 0 0

theorem takeF_lenP (kind most : Int) (bs : List UInt8) (err : Int) : (takeF kind most bs err).2.1.length ≤ bs.length := by
  have h := takeV_lenP bs
  unfold takeF numR textR flagR countR
  repeat' split
  all_goals first | exact Nat.le_refl _ | exact h | (simp; done) | (simp; omega)

theorem RdAt.own_lt {w : World} {g : Nat} {v : Value} {bs : List UInt8} {err : Int} (h : RdAt w g v bs err) (hne : bs ≠ []) : ∀ k, v.ownBlock = some k → k < w.heap.size := by
  intro k hk
  obtain ⟨A, c, rfl, hc, hh⟩ := h.2.1
  rcases hh with hh | ⟨b, off, rfl, hb, hh⟩
  · exact absurd hh hne
  · have : b = k := by simpa [Value.ownBlock] using hk
    omega

theorem numR_lenE (bs : List UInt8) (err : Int) : (numR bs err).2.1.length ≤ bs.length := by simpa [takeF] using takeF_lenP 0 0 bs err

theorem textR_lenE (bs : List UInt8) (err : Int) : (textR bs err).2.1.length ≤ bs.length := by simpa [takeF] using takeF_lenP 1 0 bs err

theorem flagR_lenE (bs : List UInt8) (err : Int) : (flagR bs err).2.1.length ≤ bs.length := by simpa [takeF] using takeF_lenP 2 0 bs err

/-- The reader's bytes do not lie in block p. -/
def Off (p : Nat) (v : Value) (bs : List UInt8) : Prop := bs = [] ∨ v.ownBlock ≠ some p

theorem Off.start {w : World} {g : Nat} {v : Value} {bs : List UInt8} {err : Int} (h : RdAt w g v bs err) {p : Nat} (hp : w.heap.size ≤ p) : Off p v bs := by
  by_cases hne : bs = []
  · exact .inl hne
  · exact .inr (fun hk => by have := h.own_lt hne _ hk; omega)

theorem Off.read {w : World} {v v' : Value} {bs bs' : List UInt8} {p : Nat} (h : Off p v bs) (hf : Fr w v v') (hp : p < w.heap.size) (hl : bs'.length ≤ bs.length) : Off p v' bs' := by
  rcases h with rfl | h
  · exact .inl (List.eq_nil_of_length_eq_zero (by simpa using hl))
  · right
    intro hk
    rcases hf p hk with h1 | h1
    · exact h h1
    · omega

theorem RdAt.off {S : Nat → Prop} {w w' : World} {g p : Nat} {v : Value} {bs : List UInt8} {err : Int} (h : RdAt w g v bs err) (ho : Off p v bs) (hu : Upd S w w') (hg : ¬ S g) (hS : ∀ k, S k → k = p) : RdAt w' g v bs err := by
  refine ⟨h.1.upd hu hg, ?_, h.2.2⟩
  rcases ho with rfl | ho
  · obtain ⟨A, c, rfl, hc, _⟩ := h.2.1
    exact ⟨A, c, rfl, hc, .inl rfl⟩
  · exact h.2.1.upd hu (fun k hk hs => ho (by rw [← hS k hs]; exact hk))

theorem str_list (l : List UInt8) : (str l).data.toList = l := by simp [str]

end Go.Proofs.YtlhlcdjkacglnaaGreatDoor.D
/- Chapter 22 (decree): what a packet says; show and parse. -/
namespace Go.Proofs.YtlhlcdjkacglnaaGreatDoor.D
open Go.RowKit Go.Lap
set_option linter.unusedVariables false

/-- What a packet says. -/
structure Msg where
  k : Nat
  s : Nat
  r : Nat
  n : Nat
  v : ByteArray
  h : Bool
  hr : Nat
  hn : Nat
  hv : ByteArray
def Msg.enc (m : Msg) : List UInt8 := varB m.k ++ (varB m.s ++ (varB m.r ++ (varB m.n ++ (varB m.v.size ++ m.v.data.toList ++ (varB (flagN m.h) ++ (varB m.hr ++ (varB m.hn ++ (varB m.hv.size ++ m.hv.data.toList ++ []))))))))
end Go.Proofs.YtlhlcdjkacglnaaGreatDoor.D
/- Chapter 22 (decree): the group as plain data: what each call makes of it. No program here. -/
namespace Go.Proofs.YtlhlcdjkacglnaaGreatDoor.D
open Go.Lap
set_option linter.unusedVariables false

/-- An acceptor. -/
structure Acr where
  r : Nat
  n : Nat
  h : Bool
  ar : Nat
  an : Nat
  v : ByteArray
/-- A proposal. -/
structure Prs where
  s : Nat
  r : Nat
  n : Nat
  pm : List Pro
  fr : List Int
  by_ : List Int
  v : ByteArray
  ch : Bool
/-- A node. -/
structure Nod where
  ac : Nat → Option Acr
  lg : Nat → Option ByteArray
  rd : Nat
  pe : List ByteArray
  nw : Option Prs
def Nod.zero : Nod := ⟨fun _ => none, fun _ => none, 0, [], none⟩
/-- A packet under way. -/
structure Pkt where
  fr : Nat
  ds : Nat
  m : Msg
/-- A group. -/
structure Gm where
  nd : Nat → Nod
  bg : List Pkt
def set {α : Type} (f : Nat → α) (k : Nat) (x : α) (j : Nat) : α := if j = k then x else f j
theorem set_same {α : Type} (f : Nat → α) (k : Nat) (x : α) : set f k x k = x := if_pos rfl
theorem set_ne {α : Type} (f : Nat → α) {k j : Nat} (x : α) (h : j ≠ k) : set f k x j = f j := if_neg h
theorem set_self {α : Type} (f : Nat → α) (k : Nat) : set f k (f k) = f := by
  funext j; unfold set; split
  · rename_i h; rw [h]
  · rfl
def E0 : ByteArray := ⟨#[]⟩
/-- The first slot from s on whose value is not known. -/
def firstF (lg : Nat → Option ByteArray) : Nat → Nat → Nat
  | 0, s => s
  | f + 1, s => if (lg s).isSome then firstF lg f (s + 1) else s
def Nod.first (x : Nod) : Nat := firstF x.lg 1000000000 0
/-- The known values from slot 0 on. -/
def Nod.log (x : Nod) : List ByteArray := (List.range x.first).map fun s => (x.lg s).getD E0
/-- The acts of a group of n nodes. -/
def Gm.propose (g : Gm) (i : Nat) (v : ByteArray) : Gm := { g with nd := set g.nd i { g.nd i with pe := (g.nd i).pe ++ [v] } }
/-- What holds of a message, a node, a group: all numbers are below B, all texts are short. -/
structure MsgOk (B : Nat) (m : Msg) : Prop where
  k : m.k ≤ 6
  s : m.s < B
  r : m.r < B
  n : m.n < 8
  v : m.v.size ≤ 64
  hr : m.hr < B
  hn : m.hn < 8
  hv : m.hv.size ≤ 64
structure AcrOk (B : Nat) (a : Acr) : Prop where
  r : a.r < B
  n : a.n < 8
  ar : a.ar < B
  an : a.an < 8
  v : a.v.size ≤ 64
structure PrsOk (B : Nat) (p : Prs) : Prop where
  s : p.s < B
  r : p.r < B
  n : p.n < 8
  v : p.v.size ≤ 64
  pm : ∀ q ∈ p.pm, q.v.size ≤ 64
  pl : p.pm.length ≤ 8
  fl : p.fr.length ≤ 8
  bl : p.by_.length ≤ 8
  fn : p.fr.Nodup
  bn : p.by_.Nodup
  fm : ∀ k ∈ p.fr, 0 ≤ k ∧ k < 8
  bm : ∀ k ∈ p.by_, 0 ≤ k ∧ k < 8
  fp : p.pm.length = p.fr.length
structure NodOk (B : Nat) (x : Nod) : Prop where
  ac : ∀ s a, x.ac s = some a → s < B ∧ AcrOk B a
  lg : ∀ s v, x.lg s = some v → s < B ∧ v.size ≤ 64
  rd : x.rd < B
  pe : ∀ v ∈ x.pe, 1 ≤ v.size ∧ v.size ≤ 64
  pl : x.pe.length < B
  nw : ∀ p, x.nw = some p → PrsOk B p ∧ x.pe ≠ []
structure GmOk (n B : Nat) (g : Gm) : Prop where
  nd : ∀ i, i < n → NodOk B (g.nd i)
  bg : ∀ p ∈ g.bg, p.fr < n ∧ p.ds < n ∧ MsgOk B p.m
  len : g.bg.length ≤ 256

theorem MsgOk.mono {B C : Nat} {m : Msg} (h : MsgOk B m) (hB : B ≤ C) : MsgOk C m := ⟨h.k, Nat.lt_of_lt_of_le h.s hB, Nat.lt_of_lt_of_le h.r hB, h.n, h.v, Nat.lt_of_lt_of_le h.hr hB, h.hn, h.hv⟩
theorem AcrOk.mono {B C : Nat} {a : Acr} (h : AcrOk B a) (hB : B ≤ C) : AcrOk C a := ⟨Nat.lt_of_lt_of_le h.r hB, h.n, Nat.lt_of_lt_of_le h.ar hB, h.an, h.v⟩
theorem PrsOk.mono {B C : Nat} {p : Prs} (h : PrsOk B p) (hB : B ≤ C) : PrsOk C p := { h with s := Nat.lt_of_lt_of_le h.s hB, r := Nat.lt_of_lt_of_le h.r hB }
theorem NodOk.mono {B C : Nat} {x : Nod} (h : NodOk B x) (hB : B ≤ C) : NodOk C x :=
  ⟨fun s a ha => ⟨Nat.lt_of_lt_of_le (h.ac s a ha).1 hB, (h.ac s a ha).2.mono hB⟩, fun s v hv => ⟨Nat.lt_of_lt_of_le (h.lg s v hv).1 hB, (h.lg s v hv).2⟩, Nat.lt_of_lt_of_le h.rd hB, h.pe, Nat.lt_of_lt_of_le h.pl hB, fun p hp => ⟨(h.nw p hp).1.mono hB, (h.nw p hp).2⟩⟩
/-- The first unknown slot. -/
structure IsFirst (lg : Nat → Option ByteArray) (s : Nat) : Prop where
  no : lg s = none
  yes : ∀ j, j < s → (lg j).isSome = true
theorem firstF_is {lg : Nat → Option ByteArray} {B : Nat} (hB : ∀ s v, lg s = some v → s < B) : ∀ (f s : Nat), B ≤ s + f → (∀ j, j < s → (lg j).isSome = true) → IsFirst lg (firstF lg f s)
  | 0, s, h, hs => by
    refine ⟨?_, hs⟩
    cases hl : lg (firstF lg 0 s) with
    | none => rfl
    | some v => have := hB _ _ hl; unfold firstF at this; omega
  | f + 1, s, h, hs => by
    unfold firstF
    by_cases hl : (lg s).isSome = true
    · rw [if_pos hl]
      exact firstF_is hB f (s + 1) (by omega) fun j hj => by
        by_cases hjs : j = s
        · rw [hjs]; exact hl
        · exact hs j (by omega)
    · rw [if_neg hl]
      exact ⟨by simpa using hl, hs⟩
theorem NodOk.first {B : Nat} {x : Nod} (h : NodOk B x) (hB : B ≤ 1000000000) : IsFirst x.lg x.first ∧ x.first ≤ B := by
  have h1 := firstF_is (B := B) (fun s v hs => (h.lg s v hs).1) 1000000000 0 (by omega) (fun j hj => by omega)
  refine ⟨h1, ?_⟩
  rcases Nat.lt_or_ge B x.first with h2 | h2
  · have := h1.yes B h2
    obtain ⟨v, hv⟩ := Option.isSome_iff_exists.1 this
    have := (h.lg _ _ hv).1
    omega
  · exact h2
end Go.Proofs.YtlhlcdjkacglnaaGreatDoor.D
