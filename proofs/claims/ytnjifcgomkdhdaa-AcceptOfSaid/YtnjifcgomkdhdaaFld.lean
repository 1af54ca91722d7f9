/- The laws' own helpers of chapter 3: a field put, a field taken. -/
import Derived.Test.YtnjifcgomkdhdaaAwake03
import Derived.Laws.Bits128
namespace Go.Proofs.Ytnjifcgomkdhdaa
open Go.RowKit Go.Lap
set_option linter.unusedVariables false

structure Fld where
  kind : Int
  v : Nat
  s : ByteArray
  yes : Bool
  most : Int
def Fld.enc (f : Fld) : List Value := [.int .i64 f.kind, .int .u64 (f.v : Int), .string f.s, .bool f.yes, .int .i64 f.most]
def Fld.val (f : Fld) : Value := .agg #[.int .i64 f.kind, .int .u64 (f.v : Int), .string f.s, .bool f.yes, .int .i64 f.most]
def Fld.good (f : Fld) : Prop := f.v < 18446744073709551616 ∧ f.s.size ≤ maxLen ∧ -9223372036854775808 ≤ f.kind ∧ f.kind ≤ 9223372036854775807 ∧ -9223372036854775808 ≤ f.most ∧ f.most ≤ 9223372036854775807

theorem and3 (n : Int) : bits .and .i64 n 3 = n % 4 := by
  have h3 : (BitVec.ofInt 64 3).toNat = 2 ^ 2 - 1 := by decide
  have key : (BitVec.ofInt 64 n &&& BitVec.ofInt 64 3).toNat = (n % ((2 ^ 64 : Nat) : Int)).toNat % 2 ^ 2 := by
    rw [BitVec.toNat_and, BitVec.toNat_ofInt, h3, Nat.and_two_pow_sub_one_eq_mod]
  show IntKind.i64.wrap ((BitVec.ofInt 64 n &&& BitVec.ofInt 64 3).toNat : Nat) = n % 4
  rw [key, IntKind.wrap_i64]
  omega

def kindF (f : Fld) : Fld := { f with kind := f.kind % 4 }

set_option maxHeartbeats 1000000 in
theorem kinds_any (f : Fld) (w : World) :
    Calls Try.prog 28 #[.agg #[.int .i64 f.kind, .int .u64 (f.v : Int), .string f.s, .bool f.yes, .int .i64 f.most]] w fun e w' => e = .returned (.agg #[.int .i64 (f.kind % 4), .int .u64 (f.v : Int), .string f.s, .bool f.yes, .int .i64 f.most]) ∧ New w w' := by
  have h3 := and3 f.kind
  go_enter Try.func28, Try.ntmps28
  go_wp2
  exact bodyPost_ret (v := .agg #[.int .i64 (f.kind % 4), .int .u64 (f.v : Int), .string f.s, .bool f.yes, .int .i64 f.most]) (by simp [results, Try.results28, go_sem]) rfl ⟨rfl, ((New.refl _).alloc _).alloc _⟩

/-- What a field put makes of the bytes and of what went wrong. -/
def putF (st : List UInt8 × Int) (f : Fld) : List UInt8 × Int :=
  if f.kind = 1 then textS st f.s else if f.kind = 2 then (numB st.2 st.1 [flagN f.yes], st.2) else (numB st.2 st.1 [f.v], st.2)

set_option maxRecDepth 100000 in
set_option maxHeartbeats 1000000 in
theorem put_any (base g : Nat) (v : Value) (bs : List UInt8) (err : Int) (f : Fld) (w : World) (h : WrAt w base g v bs err) (hb : bs.length ≤ 80000000) (hf : f.good) :
    Calls Try.prog 29 #[.pointer (some ⟨g, 0, none⟩), .agg #[.int .i64 f.kind, .int .u64 (f.v : Int), .string f.s, .bool f.yes, .int .i64 f.most]] w (PutPost w base g v (putF (bs, err) f).1 (putF (bs, err) f).2) := by
  obtain ⟨kind, fv, fs, yes, most⟩ := f
  obtain ⟨h1, h2, _⟩ := hf
  simp only at h1 h2
  have H1 := Lib.hid h1
  have H2 := Lib.hid h2
  clear h1 h2
  have hN := (New.refl w).alloc (Obj.cells #[.int .i64 kind, .int .u64 (fv : Int), .string fs, .bool yes, .int .i64 most] 55)
  have hw1 := h.new hN
  have hfr : ∀ v', Fr ((w.alloc (Obj.cells #[.int .i64 kind, .int .u64 (fv : Int), .string fs, .bool yes, .int .i64 most] 55))) v v' → Fr w v v' := fun v' hf i hi => by
    rcases hf i hi with h1 | h1
    · exact .inl h1
    · exact .inr (by simp at h1; omega)
  have HFR := Lib.hid hfr
  clear hfr
  by_cases hk1 : kind = 1
  · subst hk1
    have hP : putF (bs, err) ⟨1, fv, fs, yes, most⟩ = textB (bs, err) [fs] := rfl
    rw [hP]
    go_enter Try.func29, Try.ntmps29
    go_wp2_with fail
    have hwa := hw1.new ((New.refl _).alloc (Obj.cells #[.string fs] 9))
    have hB := Blk.mk_new (w.alloc (Obj.cells #[.int .i64 1, .int .u64 (fv : Int), .string fs, .bool yes, .int .i64 most] 55)) 9 #[.string fs]
    rw [World.size_alloc] at hB
    refine (text_any base g v bs err _ [fs] _ hwa (SlIn.one (x := fs) hB sEncOk rfl) (fun i hi => hw1.fresh (by simp [Value.ownBlock] at hi; simp; omega)) (by simp only [List.length_cons, List.length_nil]; omega) (fun s hs => by rw [List.mem_singleton] at hs; rw [hs]; exact H2.out)).mono ?_
    rintro e w2 ⟨v2, rfl, hw2, hu2, hf2⟩
    go_wp2_with fail
    go_end0
    exact ⟨v2, rfl, hw2, (((Upd.refl _ w).alloc _).alloc _).trans hu2 (fun _ _ h => h), fun i hi => by rcases hf2 i hi with h1 | h1; exact .inl h1; exact .inr (by simp at h1; omega)⟩
  · by_cases hk2 : kind = 2
    · subst hk2
      have hP : putF (bs, err) ⟨2, fv, fs, yes, most⟩ = (numB err bs [flagN yes], err) := rfl
      rw [hP]
      go_enter Try.func29, Try.ntmps29
      go_wp2_with fail
      refine (flag_any base g v bs err yes _ hw1 (by omega)).mono ?_
      rintro e w2 ⟨v2, rfl, hw2, hu2, hf2⟩
      go_wp2_with fail
      go_end0
      exact ⟨v2, rfl, hw2, ((Upd.refl _ w).alloc _).trans hu2 (fun _ _ h => h), HFR.out _ hf2⟩
    · have hP : putF (bs, err) ⟨kind, fv, fs, yes, most⟩ = (numB err bs [fv], err) := by simp [putF, hk1, hk2]
      rw [hP]
      have b1 : ((kind : Int) == 1) = false := by simpa using hk1
      have b2 : ((kind : Int) == 2) = false := by simpa using hk2
      clear hP hk1 hk2
      go_enter Try.func29, Try.ntmps29
      go_wp2_with fail
      have hwa := hw1.new ((New.refl _).alloc (Obj.cells #[.int .u64 (fv : Int)] 28))
      have hB := Blk.mk_new (w.alloc (Obj.cells #[.int .i64 kind, .int .u64 (fv : Int), .string fs, .bool yes, .int .i64 most] 55)) 28 #[.int .u64 (fv : Int)]
      rw [World.size_alloc] at hB
      refine (num_any base g v bs err _ [fv] _ hwa (SlIn.one (x := fv) hB nEncOk rfl) (fun i hi => hw1.fresh (by simp [Value.ownBlock] at hi; simp; omega)) (by omega) (fun s hs => by rw [List.mem_singleton] at hs; rw [hs]; exact H1.out) (by simp)).mono ?_
      rintro e w2 ⟨v2, rfl, hw2, hu2, hf2⟩
      go_wp2_with fail
      go_end0
      exact ⟨v2, rfl, hw2, (((Upd.refl _ w).alloc _).alloc _).trans hu2 (fun _ _ h => h), fun i hi => by rcases hf2 i hi with h1 | h1; exact .inl h1; exact .inr (by simp at h1; omega)⟩
end Go.Proofs.Ytnjifcgomkdhdaa
