/- Chapter 24 (replica): Scan. -/
import Derived.Test.YtecniafnihpjmaaGreatDoorRdB
namespace Go.Proofs.YtecniafnihpjmaaGreatDoor
open Go.RowKit Go.Lap C
set_option linter.unusedVariables false
set_option linter.unusedSimpArgs false
/-- The row in the midst of the keys. -/
def MidC (P : List (Nat × Wri)) (x : Rng) (left : ByteArray → Bool) (L : List Cel) : Prop :=
  (L.map (·.key)).Nodup ∧ (∀ c ∈ L, okS c.key) ∧ ∀ c : Cel, okS c.key → (c ∈ L ↔ vsOf P c.key ≠ [] ∧ left c.key = false ∧ valR P x c.key = some c.val)
/-- The row with a key more. -/
def addC (P : List (Nat × Wri)) (x : Rng) (L : List Cel) (k : ByteArray) : List Cel := match valR P x k with
  | some v => L ++ [⟨k, v⟩]
  | none => L
theorem addC_len (P : List (Nat × Wri)) (x : Rng) (L : List Cel) (k : ByteArray) : (addC P x L k).length ≤ L.length + 1 := by
  unfold addC; split <;> simp
theorem MidC.step {P : List (Nat × Wri)} {x : Rng} {left : ByteArray → Bool} {L : List Cel} (h : MidC P x left L) {k : ByteArray} (hk : okS k) (hl : left k = true) (hv : vsOf P k ≠ []) :
    MidC P x (fun j => left j && !decide (j = k)) (addC P x L k) := by
  obtain ⟨h1, h2, h3⟩ := h
  unfold addC
  cases hr : valR P x k with
  | none =>
    refine ⟨h1, h2, fun c hc => ?_⟩
    rw [h3 c hc]
    by_cases e : c.key = k
    · rw [e, hr]; simp
    · simp [e]
  | some v =>
    refine ⟨?_, fun c hc => ?_, fun c hc => ?_⟩
    · dsimp only
      rw [List.map_append, List.nodup_append]
      refine ⟨h1, by simp, fun a ha b hb => ?_⟩
      simp at hb
      subst hb
      rintro rfl
      obtain ⟨y, hy, rfl⟩ := List.mem_map.1 ha
      have := ((h3 y hk).1 hy).2.1
      rw [hl] at this
      cases this
    · rcases List.mem_append.1 hc with hc | hc
      · exact h2 c hc
      · simp at hc; subst hc; exact hk
    · dsimp only
      rw [List.mem_append, h3 c hc]
      obtain ⟨ck, cv⟩ := c
      dsimp only
      by_cases e : ck = k
      · subst e
        simp [hl, hr, hv, eq_comm]
      · simp [e]
theorem MidC.done {P : List (Nat × Wri)} {x : Rng} {left : ByteArray → Bool} {L : List Cel} (h : MidC P x left L) (hl : ∀ k, okS k → left k = false) (hok : ∀ p ∈ P, okS p.2.key) (c : Cel) : c ∈ L ↔ valR P x c.key = some c.val := by
  constructor
  · intro hc
    exact ((h.2.2 c (h.2.1 c hc)).1 hc).2.2
  · intro hc
    have hk := valR_key hc
    obtain ⟨p, hp, hpk⟩ := List.mem_map.1 hk
    have ho : okS c.key := by rw [← hpk]; exact hok p hp
    refine (h.2.2 c ho).2 ⟨fun h0 => ?_, hl _ ho, hc⟩
    unfold valR at hc
    split at hc
    · unfold valP at hc; rw [h0] at hc; cases hc
    · cases hc
theorem cutN_all {l : List Ver} {a : Int} (h : ∀ x ∈ l, x.at_ ≤ a) : cutN l a = l.length := by
  unfold cutN
  congr 1
  induction l with
  | nil => rfl
  | cons x l ih =>
    rw [List.takeWhile_cons, if_pos (decide_eq_true (h x (by simp))), ih (fun y hy => h y (by simp [hy]))]
theorem atV_last (l : List Ver) : atV l l.length = lastV l := by
  unfold atV lastV
  rw [List.getLast?_eq_getElem?]
  by_cases h : l.length = 0
  · rw [if_pos h, List.getElem?_eq_none (by omega)]
  · rw [if_neg h]
    cases l[l.length - 1]? <;> rfl
/-- The four blocks that the closure knows. -/
def rngC (x : Rng) : Array Value := #[.string x.fr, .string x.te, .bool x.op, .bool x.bk, .int .i64 x.lim]
theorem Blk5C {w : World} {g t : Nat} {a b c d e : Value} (h : Blk w g t #[a, b, c, d, e]) : g < w.heap.size ∧ w.cell? ⟨g, 0, none⟩ = some a ∧ w.cell? ⟨g, 1, none⟩ = some b ∧ w.cell? ⟨g, 2, none⟩ = some c ∧ w.cell? ⟨g, 3, none⟩ = some d ∧ w.cell? ⟨g, 4, none⟩ = some e ∧ (∀ i, w.frozen? ⟨g, i, none⟩ = false) :=
  ⟨h.lt, h.cell 0, h.cell 1, h.cell 2, h.cell 3, h.cell 4, h.frozen⟩
theorem Blk1C {w : World} {g t : Nat} {a : Value} (h : Blk w g t #[a]) : g < w.heap.size ∧ w.cell? ⟨g, 0, none⟩ = some a ∧ (∀ i, w.frozen? ⟨g, i, none⟩ = false) := ⟨h.lt, h.cell 0, h.frozen⟩
def TakePost (w : World) (base gl : Nat) (lv : Value) (L' : List Cel) (e : Ending) (w' : World) : Prop :=
  e = .returned (.tuple #[]) ∧ ∃ lv', Blk w' gl 83 #[lv'] ∧ Owns w' base 124 2 celC lv' L' ∧ Upd (fun k => k = gl ∨ lv.ownBlock = some k) w w'
theorem ownsShape {α : Type} {w : World} {base : Nat} {e size : Nat} {enc : α → List Value} {v : Value} {l : List α} (hE : Enc enc size) (h : Owns w base e size enc v l) : ∃ A n c, v = .slice A n c := by
  obtain ⟨A, c, hv, _⟩ := Owns.slIn hE h; exact ⟨A, _, c, hv⟩
theorem ownsUpdC {α : Type} {w w' : World} {S : Nat → Prop} {v : Value} {base e size : Nat} {enc : α → List Value} {l : List α} (h : Owns w base e size enc v l) (hu : Upd S w w') (hS : ∀ k, v.ownBlock = some k → ¬ S k) : Owns w' base e size enc v l := by
  refine ⟨h.1, ?_⟩
  rcases h.2 with h2 | ⟨g, cap, cur, rfl, hg, hh, r⟩
  · exact .inl h2
  · exact .inr ⟨g, cap, cur, rfl, hg, Blk.upd (t := e) (cs := cur) hh hu (hS g rfl), r⟩
theorem owns_ne_blk {α : Type} {w : World} {v : Value} {base e size t g : Nat} {enc : α → List Value} {l : List α} {cs : Array Value} (h : Owns w base e size enc v l) (hb : Blk w g t cs) (hne : e ≠ t) : v.ownBlock ≠ some g := Row.ne_blk (Owns.row h) hb hne
set_option maxRecDepth 100000 in
set_option maxHeartbeats 4000000 in
theorem take_any {w : World} {base ga gx gl a : Nat} {P : List (Nat × Wri)} {x : Rng} {L : List Cel} {lv rv : Value} (key : ByteArray)
    (hga : Blk w ga 22 #[.int .u64 (a : Int)]) (hgx : Blk w gx 77 (rngC x)) (hgl : Blk w gl 83 #[lv]) (ho : Owns w base 124 2 celC lv L)
    (hr : SlIn w 3 Ver.enc rv (vsOf P key)) (hrise : Rise (vsOf P key)) (hat : ∀ p ∈ P, p.1 ≤ a) (hP : P.length ≤ 1000000) (hL : L.length ≤ 1000000) (hbs : base ≤ w.heap.size) :
    Calls Tryz.prog 65 #[.string key, rv, .pointer (some ⟨ga, 0, none⟩), .pointer (some ⟨gx, 0, none⟩), .pointer (some ⟨gl, 0, none⟩)] w (TakePost w base gl lv (addC P x L key)) := by
  obtain ⟨a0, a1, az⟩ := Blk1C hga
  obtain ⟨rA, rc, rfl, hrc, hrr⟩ := id hr
  have HAT := Lib.hid (at_any (vsOf P key) _ (a : Int) w (by have := vsOf_len P key; omega) hrise hr)
  have HALL : Hid (∀ y ∈ vsOf P key, y.at_ ≤ (a : Int)) := Lib.hid (fun y hy => by obtain ⟨p, hp, e⟩ := vsOf_at hy; have := hat p hp; rw [e]; omega)
  have HR : Hid ((atV (vsOf P key) (cutN (vsOf P key) (a : Int))) = lastV (vsOf P key)) := Lib.hid (by rw [cutN_all HALL.out, atV_last])
  have HVP := Lib.hid (valP_last P key)
  have HGX := Lib.hid hgx
  have HGL := Lib.hid hgl
  have HO := Lib.hid ho
  have HBS := Lib.hid hbs
  have HLL := Lib.hid hL
  clear hr hrr hrc hrise hat hP hgx hgl ho hga hbs hL
  go_enter Tryz.func65, Tryz.ntmps65
  go_wp2_with fail
  refine HAT.out.mono ?_
  rintro e w5 ⟨rfl, hn5⟩
  rw [HR.out]
  clear HR HALL a0 a1 az
  have hvp := HVP.out
  generalize lastV (vsOf P key) = r at hvp ⊢
  obtain ⟨rs, rn⟩ := r
  dsimp only at hvp
  have HN5 := Lib.hid hn5
  obtain ⟨x0, x1, x2, x3, x4, x5, xz⟩ := Blk5C (HGX.out.new hn5)
  obtain ⟨l0, l1, lz⟩ := Blk1C (HGL.out.new hn5)
  clear hn5
  have hno : valR P x key = none → TakePost w base gl lv (addC P x L key) (.returned (.tuple #[])) w5 := fun h0 => by
    refine ⟨rfl, lv, HGL.out.new HN5.out, ?_, Upd.new HN5.out⟩
    unfold addC; rw [h0]; exact HO.out.new HN5.out
  by_cases h0 : rn = 0
  · subst h0
    have hvs : valP P key = some rs := by
      cases hc : valP P key with
      | none => rw [hc] at hvp; simp at hvp
      | some s => rw [hc] at hvp; simp at hvp; rw [hvp]
    cases hlo : lsK key x.fr with
    | true =>
      have hlo' : Op.bytesLess key.toList x.fr.toList = true := hlo
      have HE := Lib.hid (hno (by unfold valR Rng.has; rw [hlo]; simp))
      clear hno hvp hvs hlo
      go_wp2_with fail
      go_end0
      exact HE.out
    | false =>
      have hlo' : Op.bytesLess key.toList x.fr.toList = false := hlo
      cases hin : (x.op || lsK key x.te) with
      | false =>
        obtain ⟨hop, hto⟩ := Bool.or_eq_false_iff.1 hin
        have hto' : Op.bytesLess key.toList x.te.toList = false := hto
        have HE := Lib.hid (hno (by unfold valR Rng.has; rw [hin]; simp))
        clear hno hvp hvs hlo hin hto
        rw [hop] at x3
        go_wp2_with fail
        go_end0
        exact HE.out
      | true =>
        have HA : Hid (addC P x L key = L ++ [⟨key, rs⟩]) := Lib.hid (by unfold addC valR Rng.has; rw [hlo, hin, hvs]; rfl)
        obtain ⟨lA, ln, lc, rfl⟩ := ownsShape celOk HO.out
        have HRest : Hid (∀ W : World, W = W → True) := Lib.hid (fun _ _ => trivial)
        have hyb := Blk.mk_new w5 124 #[.string key, .string rs]
        have hny := (New.refl w5).alloc (.cells #[.string key, .string rs] 124)
        have hoy := (HO.out.new HN5.out).new hny
        have hsl : SlIn (w5.alloc (.cells #[.string key, .string rs] 124)) 2 celC (.slice (some ⟨w5.heap.size, 0, none⟩) 1 1) [(⟨key, rs⟩ : Cel)] := SlIn.one (x := (⟨key, rs⟩ : Cel)) hyb celOk rfl
        have HM1 := Lib.hid (show L.length + [(⟨key, rs⟩ : Cel)].length ≤ maxLen by have := HLL.out; unfold maxLen; simp only [List.length_singleton]; omega)
        have HM2 := Lib.hid (show (L.length + [(⟨key, rs⟩ : Cel)].length) * 32 ≤ 140737488355328 by have := HLL.out; simp only [List.length_singleton]; omega)
        have HM3 := Lib.hid (show base ≤ (w5.alloc (.cells #[.string key, .string rs] 124)).heap.size from Nat.le_trans HBS.out (Nat.le_trans HN5.out.size hny.size))
        have HNY := Lib.hid hny
        have HOY := Lib.hid hoy
        have HSL := Lib.hid hsl
        clear hno hvp hvs hyb hny hoy hsl
        have hend : ∀ (v9 : Value) (w9 : World), Owns w9 base 124 2 celC v9 (L ++ [⟨key, rs⟩]) → (w5.alloc (.cells #[.string key, .string rs] 124)).grownBy w9 (Value.slice lA ln lc).ownBlock → TakePost w base gl (.slice lA ln lc) (addC P x L key) (.returned (.tuple #[])) (w9.setCell ⟨gl, 0, none⟩ v9) := by
          intro v9 w9 ho9 hg9
          have hglb := (HGL.out.new HN5.out).new HNY.out
          have hne : (Value.slice lA ln lc).ownBlock ≠ some gl := owns_ne_blk HOY.out hglb (by decide)
          have hgl9 := hglb.grown hg9 (fun e => hne e.symm)
          have hu : Upd (fun k => k = gl ∨ (Value.slice lA ln lc).ownBlock = some k) w w9 := (Upd.new (HN5.out.trans HNY.out)).grown hg9 (fun k _ e => .inr e)
          refine ⟨rfl, v9, hgl9.set_ 0 v9, ?_, hu.setCell (fun _ => .inl rfl) v9⟩
          rw [HA.out]
          exact ownsUpdC ho9 ((Upd.refl (· = gl) w9).setIn 0 v9) (fun k hk e => owns_ne_blk ho9 hgl9 (by decide) (by rw [hk, e]))
        have HEND := Lib.hid hend
        clear hend
        cases hop : x.op with
        | true =>
          rw [hop] at x3
          clear hin hlo
          go_wp2_with (at_builtin; refine wpList_app celTy celOk rfl _ _ rfl rfl rfl HOY.out HSL.out HM1.out HM2.out HM3.out ?_; intro v9 w9 ho9 hg9 hb9; obtain ⟨A9, n9, c9, hv9⟩ := ownsShape celOk ho9; subst hv9; have HE9 := Lib.hid (HEND.out _ w9 ho9 hg9); have hglb := ((HGL.out.new HN5.out).new HNY.out).grown hg9 (fun e => owns_ne_blk HOY.out ((HGL.out.new HN5.out).new HNY.out) (by decide) e.symm); obtain ⟨l0, l1, lz⟩ := Blk1C hglb; clear ho9 hg9 hb9 hglb)
          go_end0
          exact HE9.out
        | false =>
          rw [hop] at x3
          have hto : lsK key x.te = true := by rw [hop] at hin; simpa using hin
          have hto' : Op.bytesLess key.toList x.te.toList = true := hto
          clear hin hlo hto
          go_wp2_with (at_builtin; refine wpList_app celTy celOk rfl _ _ rfl rfl rfl HOY.out HSL.out HM1.out HM2.out HM3.out ?_; intro v9 w9 ho9 hg9 hb9; obtain ⟨A9, n9, c9, hv9⟩ := ownsShape celOk ho9; subst hv9; have HE9 := Lib.hid (HEND.out _ w9 ho9 hg9); have hglb := ((HGL.out.new HN5.out).new HNY.out).grown hg9 (fun e => owns_ne_blk HOY.out ((HGL.out.new HN5.out).new HNY.out) (by decide) e.symm); obtain ⟨l0, l1, lz⟩ := Blk1C hglb; clear ho9 hg9 hb9 hglb)
          go_end0
          exact HE9.out
  · have h1 : (rn == 0) = false := by simp [h0]
    have h2 : decide (rn = 0) = false := by simp [h0]
    have HE := Lib.hid (hno (by
      have : valP P key = none := by
        cases hc : valP P key with
        | none => rfl
        | some s => rw [hc] at hvp; simp [h0] at hvp
      unfold valR; split
      · exact this
      · rfl))
    clear hno hvp
    go_wp2_with fail
    go_end0
    exact HE.out
end Go.Proofs.YtecniafnihpjmaaGreatDoor
