/- Chapter 18 (pins): what each call does to names and leases as lists. -/
import Derived.Test.YtcganajbfplmpaaPn8
namespace Go.Proofs.Ytcganajbfplmpaa
open Go.RowKit Go.Lap
set_option linter.unusedVariables false

/-- The pins at p hold the names E and the leases K. -/
structure PSt (w : World) (p nm lm : Nat) (E : List Pnm) (K : List Lse) : Prop where
  at_ : PnAt w p nm lm (lookE E) E.length (lookK K) K.length
  e : GoodE E
  k : GoodK K
def pinErr (E : List Pnm) (s : ByteArray) : Int := pinR (lookE E) E.length s
def pinE (E : List Pnm) (s : ByteArray) (n : Nat) : List Pnm := if pinErr E s = 0 then insP E s n else E
def dropErr (E : List Pnm) (s : ByteArray) : Int := if (lookE E s).isSome then 0 else 180
def leaseErr (K : List Lse) (r a : Nat) : Int := leaseR (lookK K) K.length r a
def leaseE (K : List Lse) (r a u : Nat) : List Lse := if leaseErr K r a = 0 then leaseK K r a u else K

theorem pinErr_zero {E : List Pnm} {s : ByteArray} (h : pinErr E s = 0) : lookE E s = none ∧ 0 < s.size ∧ s.size ≤ 32 ∧ E.length < 16 := by
  unfold pinErr pinR at h
  split at h
  · cases h
  · rename_i h1
    split at h
    · cases h
    · rename_i h2
      simp only [not_or] at h1
      refine ⟨by simpa using h1.1, by omega, by omega, by omega⟩
theorem good_pin {E : List Pnm} (h : GoodE E) (s : ByteArray) {n : Nat} (hn : okU n) : GoodE (pinE E s n) := by
  unfold pinE
  split
  · rename_i h0
    obtain ⟨h1, h2, h3, h4⟩ := pinErr_zero h0
    refine ⟨srt_ins h.srt n h1, by rw [ins_len]; omega, fun x hx => ?_⟩
    rcases mem_ins.1 hx with rfl | hx
    · exact ⟨h2, h3, hn⟩
    · exact h.nm x hx
  · exact h
theorem good_del {E : List Pnm} (h : GoodE E) (s : ByteArray) : GoodE (delE E s) :=
  ⟨srt_del h.srt s, Nat.le_trans (List.length_filter_le ..) h.len, fun x hx => h.nm x ((List.mem_filter.1 hx).1)⟩
theorem leaseErr_zero {K : List Lse} {r a : Nat} (h : leaseErr K r a = 0) : (∃ x, lookK K r = some x ∧ x.1 = a) ∨ (lookK K r = none ∧ K.length < 16) := by
  unfold leaseErr leaseR at h
  cases hl : lookK K r with
  | some x =>
    rw [hl] at h
    dsimp only at h
    split at h
    · rename_i e; exact .inl ⟨x, rfl, e⟩
    · cases h
  | none =>
    rw [hl] at h
    dsimp only at h
    split at h
    · cases h
    · exact .inr ⟨rfl, by omega⟩
theorem good_lease {K : List Lse} (h : GoodK K) {r a u : Nat} (hr : okU r) (ha : okU a) (hu : okU u) : GoodK (leaseE K r a u) := by
  unfold leaseE
  split
  · rename_i h0
    unfold leaseK
    rcases leaseErr_zero h0 with ⟨x, hx, _⟩ | ⟨hx, hl⟩
    · rw [hx]
      refine ⟨uni_set h.uni r a u, by unfold setK; simpa using h.len, fun y hy => ?_⟩
      obtain ⟨z, hz, rfl⟩ := List.mem_map.1 hy
      have := h.nm z hz
      split
      · exact ⟨this.1, this.2.1, hu⟩
      · exact this
    · rw [hx]
      refine ⟨uni_app h.uni hx, by simp; omega, fun y hy => ?_⟩
      rcases List.mem_append.1 hy with hy | hy
      · exact h.nm y hy
      · simp at hy; subst hy; exact ⟨hr, ha, hu⟩
  · exact h
theorem good_exp {K : List Lse} (h : GoodK K) (t : Nat) : GoodK (expK K t) :=
  ⟨h.uni.sublist List.filter_sublist, Nat.le_trans (List.length_filter_le ..) h.len, fun x hx => h.nm x ((List.mem_filter.1 hx).1)⟩
theorem goodE0 : GoodE [] := ⟨List.Pairwise.nil, by simp, by simp⟩
theorem goodK0 : GoodK [] := ⟨List.Pairwise.nil, by simp, by simp⟩
section
variable {P : Program} {kt : TypeId} {κ : Type} [DecidableEq κ] {val : κ → Value} {lit : κ → Lit} {ok : κ → Prop} {w : World} {b m : Nat} {f : κ → Option Value}
theorem mp_len_of (I : KeyI P kt val lit ok) (h : MpAt P kt lit ok w b m f) {l : List κ} (hn : l.Nodup) (ho : ∀ k ∈ l, ok k) (hm : ∀ k, ok k → ((f k).isSome = true ↔ k ∈ l)) : m = l.length := by
  obtain ⟨l₂, g1, g3, g4, g5⟩ := h.keys I
  rw [← g3]
  refine ((List.perm_ext_iff_of_nodup g1 hn).2 fun k => ?_).length_eq
  constructor
  · intro hk; exact (hm k (g4 k hk)).1 ((g5 k (g4 k hk)).2 hk)
  · intro hk; exact (g5 k (ho k hk)).1 ((hm k (ho k hk)).2 hk)
end
section
variable {w w' : World} {S : Nat → Prop} {p nm lm : Nat} {E : List Pnm} {K : List Lse}
theorem PSt.upd (h : PSt w p nm lm E K) (hu : Upd S w w') (hS : ∀ k, PnF p nm lm k → ¬ S k) : PSt w' p nm lm E K := ⟨h.at_.upd hu hS, h.e, h.k⟩
theorem PSt.new (h : PSt w p nm lm E K) (hn : New w w') : PSt w' p nm lm E K := ⟨h.at_.new hn, h.e, h.k⟩
theorem PSt.lt (h : PSt w p nm lm E K) : ∀ k, PnF p nm lm k → k < w.heap.size := by
  rintro k (rfl | rfl | rfl)
  · exact h.at_.blk.lt
  · exact h.at_.na.lt
  · exact h.at_.le.lt
theorem newS (w : World) : Calls Try.prog 23 #[] w fun e w' => ∃ p nm lm, e = .returned (.pointer (some ⟨p, 0, none⟩)) ∧ PSt w' p nm lm [] [] ∧ (∀ k, PnF p nm lm k → w.heap.size ≤ k) ∧ New w w' := by
  refine (pnew w).mono ?_
  rintro e w' ⟨p, nm, lm, rfl, h, hF, hn⟩
  exact ⟨p, nm, lm, rfl, ⟨h, goodE0, goodK0⟩, hF, hn⟩
theorem findS (w : World) (h : PSt w p nm lm E K) (s : ByteArray) (hs : okS s) :
    Calls Try.prog 31 #[.pointer (some ⟨p, 0, none⟩), .string s] w fun e w' => e = .returned (.tuple #[.int .u64 (((lookE E s).getD 0 : Nat) : Int), .int .i64 (dropErr E s)]) ∧ w' = w := pfind w h.at_ s hs
def StPost (w : World) (p nm lm : Nat) (v : Value) (E : List Pnm) (K : List Lse) (e : Ending) (w' : World) : Prop := e = .returned v ∧ PSt w' p nm lm E K ∧ Upd (PnF p nm lm) w w'
theorem pinS (w : World) (h : PSt w p nm lm E K) (s : ByteArray) (hs : okS s) (n : Nat) (hn : okU n) :
    Calls Try.prog 44 #[.pointer (some ⟨p, 0, none⟩), .string s, .int .u64 (n : Int)] w (StPost w p nm lm (.int .i64 (pinErr E s)) (pinE E s n) K) := by
  refine (ppin w h.at_ s hs n (by have := h.e.len; omega)).mono ?_
  rintro e w' ⟨rfl, h1, h2⟩
  refine ⟨rfl, ⟨?_, good_pin h.e s hn, h.k⟩, h2⟩
  have e1 : pinR (lookE E) E.length s = pinErr E s := rfl
  rw [e1] at h1
  unfold pinE
  by_cases h0 : pinErr E s = 0
  · rw [if_pos h0, if_pos h0] at h1
    rw [if_pos h0, ins_len, look_ins (pinErr_zero h0).1]
    exact h1
  · rw [if_neg h0, if_neg h0] at h1
    rw [if_neg h0]
    exact h1
theorem dropS (w : World) (h : PSt w p nm lm E K) (s : ByteArray) (hs : okS s) :
    Calls Try.prog 48 #[.pointer (some ⟨p, 0, none⟩), .string s] w (StPost w p nm lm (.int .i64 (dropErr E s)) (delE E s) K) := by
  refine (pdrop w h.at_ s hs).mono ?_
  rintro e w' ⟨rfl, h1, h2⟩
  exact ⟨rfl, ⟨by rw [look_del, del_len h.e.srt]; exact h1, good_del h.e s, h.k⟩, h2⟩
theorem leaseS (w : World) (h : PSt w p nm lm E K) (r a u : Nat) (hr : okU r) (ha : okU a) (hu : okU u) :
    Calls Try.prog 45 #[.pointer (some ⟨p, 0, none⟩), .int .u64 (r : Int), .int .u64 (a : Int), .int .u64 (u : Int)] w (StPost w p nm lm (.int .i64 (leaseErr K r a)) E (leaseE K r a u)) := by
  refine (please w h.at_ r a u hr (by have := h.k.len; omega)).mono ?_
  rintro e w' ⟨rfl, h1, h2⟩
  refine ⟨rfl, ⟨?_, h.e, good_lease h.k hr ha hu⟩, h2⟩
  have e1 : leaseR (lookK K) K.length r a = leaseErr K r a := rfl
  rw [e1] at h1
  unfold leaseE
  by_cases h0 : leaseErr K r a = 0
  · rw [if_pos h0] at h1
    rw [if_pos h0]
    unfold leaseK
    rcases leaseErr_zero h0 with ⟨x, hx, hxa⟩ | ⟨hx, hl⟩
    · rw [hx, if_neg (by simp)] at h1
      rw [hx]
      dsimp only [Option.isSome]
      rw [if_pos rfl, look_set K r a u hx hxa]
      unfold setK
      rw [List.length_map]
      exact h1
    · rw [hx, if_pos ⟨h0, rfl⟩] at h1
      rw [hx, if_neg (by simp), look_app hx, List.length_append, List.length_singleton]
      exact h1
  · rw [if_neg h0, if_neg (fun h => h0 h.1)] at h1
    rw [if_neg h0]
    exact h1
theorem expS (w : World) (h : PSt w p nm lm E K) (t : Nat) :
    Calls Try.prog 36 #[.pointer (some ⟨p, 0, none⟩), .int .u64 (t : Int)] w (StPost w p nm lm (.int .i64 ((K.length - (expK K t).length : Nat) : Int)) E (expK K t)) := by
  refine (pexpire w h.at_ t (by have := h.k.len; omega)).mono ?_
  rintro e w' ⟨l', hl, rfl, h1, h2⟩
  have hlen : l' = (expK K t).length := by
    have := mp_len_of keyN h1.le (l := (expK K t).map (·.r)) (by rw [List.nodup_iff_pairwise_ne, List.pairwise_map]; exact (good_exp h.k t).uni) (fun k hk => by
      obtain ⟨x, hx, rfl⟩ := List.mem_map.1 hk
      exact ((good_exp h.k t).nm x hx).1) (fun k hk => by
      rw [valL_some, ← look_exp h.k.uni]
      constructor
      · intro hs
        obtain ⟨x, hx⟩ := Option.isSome_iff_exists.1 hs
        exact List.mem_map.2 ⟨_, lookK_mem hx, rfl⟩
      · intro hm
        obtain ⟨x, hx, rfl⟩ := List.mem_map.1 hm
        rw [lookK_of (good_exp h.k t).uni hx]; rfl)
    rw [this, List.length_map]
  subst hlen
  exact ⟨by rw [show (K.length : Int) - ((expK K t).length : Int) = ((K.length - (expK K t).length : Nat) : Int) by omega], ⟨by rw [look_exp h.k.uni]; exact h1, h.e, good_exp h.k t⟩, h2⟩
theorem floorS (w : World) (h : PSt w p nm lm E K) (last : Nat) :
    Calls Try.prog 25 #[.pointer (some ⟨p, 0, none⟩), .int .u64 (last : Int)] w fun e w' => e = .returned (.int .u64 ((floorP E K last : Nat) : Int)) ∧ New w w' := by
  refine (pfloor w h.at_ last).mono ?_
  rintro e w' ⟨r, rfl, h1, h2⟩
  exact ⟨by rw [floor_is h.e h.k h1], h2⟩
def LsPost (w : World) (E : List Pnm) (e : Ending) (w' : World) : Prop := ∃ v, e = .returned v ∧ SlIn w' 2 pnC v E ∧ (∀ k, v.ownBlock = some k → w.heap.size ≤ k ∧ k < w'.heap.size) ∧ New w w'
theorem listS (w : World) (h : PSt w p nm lm E K) : Calls Try.prog 27 #[.pointer (some ⟨p, 0, none⟩)] w (LsPost w E) := by
  refine (plist w h.at_ (by have := h.e.len; omega)).mono ?_
  rintro e w' ⟨v, l, rfl, h1, h2, h3, h4, h5, h6⟩
  have : l = E := srt_eq h2 h.e.srt fun x => by
    constructor
    · intro hx
      exact lookE_mem ((h4 x.s x.n (h3 x hx)).1 hx)
    · intro hx
      exact (h4 x.s x.n (by have := h.e.nm x hx; unfold okS maxLen; omega)).2 (lookE_of h.e.srt hx)
  subst this
  exact ⟨v, rfl, h1, h5, h6⟩
end
end Go.Proofs.Ytcganajbfplmpaa
