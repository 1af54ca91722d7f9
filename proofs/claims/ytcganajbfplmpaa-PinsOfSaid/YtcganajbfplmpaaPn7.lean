/- Chapter 18 (pins): slices.SortFunc of names. -/
import Derived.Test.YtcganajbfplmpaaPn6
import Derived.Test.YtcganajbfplmpaaSrt
import Derived.Shelf.SlSortCmp.NoneTotal
namespace Go.Proofs.Ytcganajbfplmpaa
open Go.RowKit Go.Lap Go.Sort Go.Shelf
set_option linter.unusedVariables false

instance : Inhabited Pnm := ⟨⟨⟨#[]⟩, 0⟩⟩
def pnC (x : Pnm) : List Value := [.string x.s, .int .u64 (x.n : Int)]
theorem pnOk : Enc pnC 2 := fun x => ⟨rfl, by simp [pnC, Value.oneCell']⟩
theorem pnTy : SlTy Try.prog 63 66 (.agg #[.string ⟨#[]⟩, .int .u64 0]) 2 24 := ⟨Try.underlying63, by kernel_rfl, rfl, by decide⟩
def cmpP (x y : Pnm) : Int := cmpS x.s y.s
theorem ltP (x y : Pnm) : ltOf cmpP x y = lsS x.s y.s := by
  unfold ltOf cmpP cmpS lsS
  cases h1 : Op.bytesLess x.s.toList y.s.toList with
  | true => simp
  | false => cases h2 : Op.bytesLess y.s.toList x.s.toList <;> simp
theorem swoP : SWO (ltOf cmpP) where
  irrefl x := by rw [ltP]; exact lsS_irr _
  trans x y z h1 h2 := by rw [ltP] at *; exact lsS_trans h1 h2
  ntrans x y z h1 h2 := by
    rw [ltP] at *
    cases h : lsS x.s z.s with
    | false => rfl
    | true =>
      exfalso
      by_cases e : y.s = x.s
      · rw [e, h] at h2; cases h2
      · have h3 := lsS_tri h1 (fun e2 => e e2.symm)
        have := lsS_trans h3 h
        rw [h2] at this; cases this
set_option maxHeartbeats 1000000 in
theorem closP (x y : Pnm) (W : World) : Calls Try.prog 50 #[.agg #[.string x.s, .int .u64 (x.n : Int)], .agg #[.string y.s, .int .u64 (y.n : Int)]] W fun e w' => e = .returned (.int .i64 (cmpP x y)) ∧ ∃ q os', w' = grow (W.drewN q) os' := by
  have hcon := fun W' => compare_any x.s y.s W'
  unfold cmpP
  generalize cmpS x.s y.s = r at hcon ⊢
  go_enter Try.func50, Try.ntmps50
  go_wp2_with (go_at_call 51; refine (hcon _).mono ?_; rintro e w' ⟨rfl, rfl⟩)
  go_ret
  exact ⟨rfl, 0, _, by rw [alloc_eq_grow, alloc_eq_grow, grow_grow]; rfl⟩
theorem lays_P (blk off size : Nat) (w : World) : CmpLays Try.prog 50 #[] pnC 2 cmpP blk off size w :=
  fun _ _ _ _ x y => closP x y _
/-- slices.SortFunc of names. -/
theorem sort_pin {base : Nat} {v : Value} {l : List Pnm} (w : World) (ho : Owns w base 66 2 pnC v l) (hl : l.length ≤ 1000000) (hnd : (l.map (·.s)).Nodup) :
    Calls Try.prog 49 #[v, .func (.func 50) #[] #[]] w fun e w' => e = .returned (.tuple #[]) ∧ ∃ l', SlIn w' 2 pnC v l' ∧ l'.Perm l ∧ SrtE l' ∧ Upd (fun k => v.ownBlock = some k) w w' := by
  obtain ⟨A, cp, hv, hcp, hor⟩ := Owns.slIn pnOk ho
  subst hv
  by_cases h0 : l = []
  · subst h0
    refine (AnyF.slices_SortFunc_none Try.sortP A cp (.func (.func 50) #[] #[]) w).mono ?_
    rintro e w' ⟨rfl, rfl⟩
    exact ⟨rfl, [], Owns.slIn pnOk ho, List.Perm.refl _, List.Pairwise.nil, Upd.refl _ _⟩
  obtain ⟨g, rfl⟩ : ∃ g, A = some ⟨g, 0, none⟩ := by
    rcases ho.2 with h2 | ⟨g, cap, cur, hv, _⟩
    · exact absurd (List.length_eq_zero_iff.1 h2.2) h0
    · cases hv; exact ⟨g, rfl⟩
  have hH := holdsK_of pnOk (by decide) ho
  have hb : g < w.heap.size := (ho.lt g rfl).2
  have eg : ∀ args w, (callFunc 50 args).run Try.prog w = .ok (.enter 50 args) w := enters_of Try.func50 (by kernel_rfl) rfl
  have hcon := AnyQ.slices_SortFunc Try.sortP 2 Try.isAgg66 Try.sizeOf66 pnC (fun _ => rfl) (fun x v hv => by simp [pnC] at hv; rcases hv with rfl | rfl <;> rfl) cmpP swoP 50 #[] g 0 cp l.toArray w eg (lays_P g 0 _ w) hH hb (by simp; omega)
  refine Calls.mono (show Calls Try.prog 49 #[.slice (some ⟨g, 0, none⟩) l.length cp, .func (.func 50) #[] #[]] w _ from hcon) ?_
  rintro e w' ⟨rfl, d', n, os, hp, hs, rfl⟩
  obtain ⟨h1, h2, h3⟩ := rising_of hp hs
  have h1' : d'.toList.Perm l := by simpa using h1
  refine ⟨rfl, d'.toList, slIn_sortK pnOk hb hH h2 (by simpa using hcp), h1', ?_, (upd_sortK w g 0 n d' os).mono fun k _ hk => by rw [hk]; rfl⟩
  have hnd' : (d'.toList.map (·.s)).Nodup := ((h1'.map _).nodup_iff).2 hnd
  rw [List.nodup_iff_pairwise_ne, List.pairwise_map] at hnd'
  refine (h3.and hnd').imp ?_
  rintro x y ⟨ha, hb⟩
  rw [ltP] at ha
  exact lsS_tri ha (fun e => hb e.symm)
end Go.Proofs.Ytcganajbfplmpaa
