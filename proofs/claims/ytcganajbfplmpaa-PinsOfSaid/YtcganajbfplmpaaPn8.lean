/- Chapter 18 (pins): List. -/
import Derived.Test.YtcganajbfplmpaaPn7
namespace Go.Proofs.Ytcganajbfplmpaa
open Go.RowKit Go.Lap Go.Sort Go.Shelf
set_option linter.unusedVariables false

section
variable {w w' : World} {S : Nat → Prop} {p nm lm nn ln : Nat} {N : ByteArray → Option Nat} {L : Nat → Option (Nat × Nat)}
theorem ownsUpdP {α : Type} {w w' : World} {S : Nat → Prop} {v : Value} {base e size : Nat} {enc : α → List Value} {l : List α} (h : Owns w base e size enc v l) (hu : Upd S w w') (hS : ∀ k, v.ownBlock = some k → ¬ S k) : Owns w' base e size enc v l := by
  refine ⟨h.1, ?_⟩
  rcases h.2 with h2 | ⟨g, cap, cur, rfl, hg, hh, r⟩
  · exact .inl h2
  · exact .inr ⟨g, cap, cur, rfl, hg, Blk.upd (t := e) (cs := cur) hh hu (hS g rfl), r⟩
theorem slShape {α : Type} {w : World} {size : Nat} {enc : α → List Value} {v : Value} {l : List α} (h : SlIn w size enc v l) : ∃ A n c, v = .slice A n c := let ⟨A, c, hv, _⟩ := h; ⟨A, _, c, hv⟩
/-- The row in the midst of the names. -/
def MidP (N : ByteArray → Option Nat) (left : ByteArray → Bool) (l : List Pnm) : Prop := (l.map (·.s)).Nodup ∧ (∀ x ∈ l, okS x.s) ∧ ∀ s n, okS s → ((⟨s, n⟩ : Pnm) ∈ l ↔ left s = false ∧ N s = some n)
theorem MidP.step {left : ByteArray → Bool} {l : List Pnm} (h : MidP N left l) {x : ByteArray} {n : Nat} (hx : okS x) (hl : left x = true) (hn : N x = some n) : MidP N (fun k => left k && !decide (k = x)) (l ++ [⟨x, n⟩]) := by
  obtain ⟨h1, h2, h3⟩ := h
  refine ⟨?_, fun y hy => ?_, fun s m hs => ?_⟩
  · rw [List.map_append, List.nodup_append]
    refine ⟨h1, by simp, fun a ha b hb => ?_⟩
    simp at hb
    subst hb
    rintro rfl
    obtain ⟨y, hy, rfl⟩ := List.mem_map.1 ha
    have := (h3 y.s y.n hx).1 hy
    rw [hl] at this
    cases this.1
  · rcases List.mem_append.1 hy with hy | hy
    · exact h2 y hy
    · simp at hy; subst hy; exact hx
  · rw [List.mem_append, h3 s m hs]
    by_cases hsx : s = x
    · subst hsx
      simp [hl, hn, eq_comm]
    · simp [hsx]
def PListPost (w : World) (nn : Nat) (N : ByteArray → Option Nat) (e : Ending) (w' : World) : Prop :=
  ∃ (v : Value) (l : List Pnm), e = .returned v ∧ SlIn w' 2 pnC v l ∧ SrtE l ∧ (∀ x ∈ l, okS x.s) ∧ (∀ s n, okS s → ((⟨s, n⟩ : Pnm) ∈ l ↔ N s = some n)) ∧ (∀ k, v.ownBlock = some k → w.heap.size ≤ k ∧ k < w'.heap.size) ∧ New w w'
set_option maxRecDepth 100000 in
set_option maxHeartbeats 4000000 in
theorem plist (w : World) (h : PnAt w p nm lm N nn L ln) (hnn : nn ≤ 1000) :
    Calls Try.prog 27 #[.pointer (some ⟨p, 0, none⟩)] w (PListPost w nn N) := by
  obtain ⟨d0, d1, d2, dz⟩ := Blk2P h.blk
  have hna := h.na
  have HP := Lib.hid h
  go_enter Try.func27, Try.ntmps27
  go_wp2_with (at_range; refine wpList_mp_range keyS.toKeyB rfl _ _ 55 rfl Try.underlying99 rfl hna ?_; intro w0 hrg0 hN0 hs0)
  go_frame
  generalize hr : w.heap.size = r at hrg0 hs0 ⊢
  have HR := Lib.hid hr
  have HN0 := Lib.hid hN0
  have HS0 := Lib.hid hs0
  clear hr hna d0 d1 d2 dz h hs0 hN0
  go_loopw [3, 4, 5] (fun v _ _ wr => ∃ (cnt : Nat) (left : ByteArray → Bool) (l : List Pnm), MpRg Try.prog 9 litS okS wr nm r nn (valN N) left cnt ∧ Owns wr (r + 1) 66 2 pnC v l ∧ MidP N left l ∧ l.length + cnt ≤ nn ∧ New w wr ∧ r < wr.heap.size) (fun _ _ _ wr => wr.rangeLeft nm r)
  case atStart =>
    refine ⟨_, _, [], hrg0, Owns.nil _ _ _ _ _, ⟨List.nodup_nil, by simp, fun s n hs => ?_⟩, by simp, HN0.out, by have := HS0.out; omega⟩
    constructor
    · intro h; cases h
    · rintro ⟨h1, h2⟩
      have h1' : (valN N s).isSome = false := h1
      rw [valN_some, h2] at h1'
      cases h1'
  case round =>
    obtain ⟨cnt, left, l, hrg, ho, hmid, hlc, hnw, hrw⟩ := hrel
    obtain ⟨sA, sc, hsv, -, -⟩ := Owns.slIn pnOk ho
    subst hsv
    have hle := hrg.left_eq
    have HLE := Lib.hid hle
    have HM := Lib.hid hmid
    have HN := Lib.hid hnw
    have HLC := Lib.hid hlc
    clear hmid hle hnw hlc
    go_wp2_with (at_next; refine wpList_mp_next keyS rfl _ rfl rfl hrg ?_ ?_)
    · intro h0 hl
      have hso := sort_pin wr ho (by have := HLC.out; omega) HM.out.1
      go_wp2_with (go_at_call 49; refine hso.mono ?_; rintro e w2 ⟨rfl, l2, hs2, hp2, hst2, hu2⟩)
      go_ret
      have hge := ho.lt
      refine ⟨_, l2, rfl, hs2, hst2, fun x hx => HM.out.2.1 x (hp2.mem_iff.1 hx), fun s n hs => ?_, fun k hk => ?_, HN.out.upd hu2 (fun k hk => ?_)⟩
      · rw [hp2.mem_iff, HM.out.2.2 s n hs, hl s hs]
        simp
      · have := hge k hk
        have := HR.out
        have := hu2.size
        omega
      · have := (hge k hk).1
        have := HR.out
        omega
    · intro x v w1 cnt1 hx hlx hfx hrg1 hlt hu1 hsz1 hen
      obtain ⟨n, hNx, rfl⟩ := valN_at hfx
      have ho1 := ownsUpdP ho hu1 (fun k hk e => by have := (ho.lt k hk).1; omega)
      have hN1 := HN.out.upd hu1 (fun i hi => by have := HR.out; omega)
      have hyb := Blk.mk_new w1 66 #[.string x, .int .u64 (n : Int)]
      have hoy := ho1.alloc (.cells #[.string x, .int .u64 (n : Int)] 66)
      have hny := (New.refl w1).alloc (.cells #[.string x, .int .u64 (n : Int)] 66)
      have HMS := Lib.hid (HM.out.step hx hlx hNx)
      have HLL := Lib.hid (show l.length ≤ 1000 by have := HLC.out; omega)
      have HM1 := Lib.hid (show l.length + [(⟨x, n⟩ : Pnm)].length ≤ maxLen by have := HLL.out; unfold maxLen; simp only [List.length_singleton]; omega)
      have HM2 := Lib.hid (show (l.length + [(⟨x, n⟩ : Pnm)].length) * 24 ≤ 140737488355328 by have := HLL.out; simp only [List.length_singleton]; omega)
      have HM3 := Lib.hid (show r + 1 ≤ (w1.alloc (.cells #[.string x, .int .u64 (n : Int)] 66)).heap.size by have := hny.size; omega)
      have HO := Lib.hid ho1
      have HNY := Lib.hid hny
      have HN1 := Lib.hid hN1
      clear hfx hNx hx hlx hny hN1 ho1 hsz1
      go_wp2_with (at_builtin; refine wpList_app pnTy pnOk rfl _ _ rfl rfl rfl hoy (SlIn.one (x := (⟨x, n⟩ : Pnm)) hyb pnOk rfl) HM1.out HM2.out HM3.out ?_; intro v9 w9 ho9 hg9 hb9; obtain ⟨A9, n9, c9, hv9⟩ := slShape (Owns.slIn pnOk ho9); subst hv9)
      have hU9 : Upd (fun j => (Value.slice sA l.length sc).ownBlock = some j) w1 w9 := (Upd.new HNY.out).grown hg9 (fun j _ hj => hj)
      have hrg9 := hrg1.upd hU9 (fun e => by have h1 := (HO.out.lt _ e).1; have h2 := HP.out.na.lt; have := HR.out; omega) (fun e => by have := (HO.out.lt _ e).1; omega)
      go_roundw
      case rel =>
        exact ⟨cnt1, _, _, hrg9, ho9, HMS.out, by rw [List.length_append, List.length_singleton]; have := HLC.out; omega, HN1.out.upd hU9 (fun k hk => by have := (HO.out.lt k hk).1; have := HR.out; omega), hrg9.lt⟩
      case measure =>
        rw [hrg9.left_eq, HLE.out]
        exact hlt
end
end Go.Proofs.Ytcganajbfplmpaa
