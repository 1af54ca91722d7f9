/- Chapter 18 (pins), the document's answer: Do (Expire). -/
import Derived.Test.YtcganajbfplmpaaPnD
namespace Go.Proofs.Ytcganajbfplmpaa
open Go.RowKit Go.Lap
set_option linter.unusedVariables false

theorem DoAt.upd {w wx wy : World} {S : Nat → Prop} {v1 v2 : Value} {x : PAct} (h : DoAt w wx v1 v2 x) (hu : Upd S wx wy) (hS : ∀ k, S k → w.heap.size + 3 ≤ k) : DoAt w wy v1 v2 x :=
  ⟨h.n.upd hu (fun k hk => by have := hS k hk; omega), h.p.upd hu (fun hk => by have := hS _ hk; omega), h.a.upd hu (fun hk => by have := hS _ hk; omega), h.r.upd hu (fun hk => by have := hS _ hk; omega)⟩
theorem exp_snoc {K : List Lse} {k t : Nat} {x : Lse} (hx : K[k]? = some x) : expK (K.take (k + 1)) t = if t < x.u then expK (K.take k) t ++ [x] else expK (K.take k) t := by
  have : K.take (k + 1) = K.take k ++ [x] := by rw [List.take_add_one, hx]; rfl
  rw [this]
  unfold expK
  rw [List.filter_append]
  by_cases h : t < x.u <;> simp [h]
theorem ls3 {w : World} {b off : Nat} {K : List Lse} (hc : ∀ k x, K[k]? = some x → ∀ j u, (lsC x)[j]? = some u → w.cell? ⟨b, off + k * 3 + j, none⟩ = some u) {k : Nat} {x : Lse} (hx : K[k]? = some x) :
    w.cell? ⟨b, off + k * 3, none⟩ = some (.int .u64 (x.r : Int)) ∧ w.cell? ⟨b, off + k * 3 + 1, none⟩ = some (.int .u64 (x.a : Int)) ∧ w.cell? ⟨b, off + k * 3 + 2, none⟩ = some (.int .u64 (x.u : Int)) :=
  ⟨by have := hc _ x hx 0 _ rfl; simpa using this, by have := hc _ x hx 1 _ rfl; simpa using this, by have := hc _ x hx 2 _ rfl; simpa using this⟩
theorem doUpd1 (w wx : World) (a b c : Value) : Upd (fun k => k = w.heap.size ∨ k = w.heap.size + 2) wx (((wx.setCell ⟨w.heap.size, 1, none⟩ a).setCell ⟨w.heap.size + 2, 0, none⟩ b).setCell ⟨w.heap.size + 2, 1, none⟩ c) :=
  (((Upd.refl _ wx).setCell (p := ⟨w.heap.size, 1, none⟩) (fun _ => .inl rfl) _).setCell (p := ⟨w.heap.size + 2, 0, none⟩) (fun _ => .inr rfl) _).setCell (p := ⟨w.heap.size + 2, 1, none⟩) (fun _ => .inr rfl) _
theorem owns_made (w : World) (e : TypeId) {α : Type} (enc : α → List Value) (size : Nat) : Owns (w.alloc (.cells #[] e)) w.heap.size e size enc (.slice (some ⟨w.heap.size, 0, none⟩) 0 0) ([] : List α) := by
  have := World.ownsRow_made (base := w.heap.size) (e := e) (size := size) w #[] 0 (Nat.le_refl _) (by simp) (by simp)
  exact this
section
variable {v1 v2 : Value} {E : List Pnm} {K : List Lse}
set_option maxRecDepth 100000 in
set_option maxHeartbeats 8000000 in
theorem rdo_exp (w : World) (hs1 : SlIn w 2 pnC v1 E) (hs2 : SlIn w 3 lsC v2 K) (hl : K.length ≤ 1000) (x : PAct) (k0 : x.kind = 3) :
    Calls Try.prog 28 #[.agg #[v1, v2], .agg #[.int .i64 x.kind, .string x.name, .int .u64 (x.r : Int), .int .u64 (x.a : Int), .int .u64 (x.u : Int)]] w (RDoPost w E K x) := by
  obtain ⟨A1, n1, c1, rfl⟩ := pnShape hs1
  obtain ⟨A2, c2, rfl, hcp, hor⟩ := _root_.id hs2
  have hD := doAt w (.slice A1 n1 c1) (.slice A2 K.length c2) x
  obtain ⟨p0, p1, pz, a0, a1, a2, a3, a4, r0, r1, rz⟩ := hD.facts
  have hDn := hD.new ((New.refl _).alloc (.cells #[] 114))
  have hO := owns_made (doW w (.slice A1 n1 c1) (.slice A2 K.length c2) x) 114 lsC 3
  have hsz : (doW w (.slice A1 n1 c1) (.slice A2 K.length c2) x).heap.size = w.heap.size + 3 := by unfold doW; simp only [World.size_alloc]
  rw [hsz] at hO
  unfold doW at p0 p1 pz a0 a1 a2 a3 a4 r0 r1 rz
  have HR := Lib.hid (show ∀ wx u n, New w wx → doN K x = n → SlIn wx 3 lsC u (doK K x) → RDoPost w E K x (.returned (.tuple #[.agg #[.slice A1 n1 c1, u], .int .i64 0, .int .i64 (n : Int)])) wx from fun wx u n hn hr hu => by
    refine ⟨_, _, by rw [hr]; unfold doR; rw [if_neg (by omega), if_neg (by omega), if_neg (by omega)], ?_, hu, hn⟩
    unfold doE; rw [if_neg (by omega), if_neg (by omega)]; exact hs1.new hn)
  have hre : doN K x = K.length - (expK K x.u).length := by unfold doN; rw [if_pos k0]
  have hee : doK K x = expK K x.u := by unfold doK; rw [if_neg (by omega), if_pos k0]
  rw [hre, hee] at HR
  have HD := Lib.hid hDn
  have HO := Lib.hid hO
  have HS2 := Lib.hid hs2
  obtain ⟨xk, xs, xr, xa, xu⟩ := x
  dsimp only at *
  subst k0
  clear hD hDn hO hsz hs1 hs2 hre hee
  go_enter Try.func28, Try.ntmps28
  go_wp2_with fail
  go_loopw [12, 13] (fun u i wr => ∃ k : Nat, k ≤ K.length ∧ i = .int .i64 k ∧ DoAt w wr (.slice A1 n1 c1) (.slice A2 K.length c2) ⟨3, xs, xr, xa, xu⟩ ∧ Owns wr (w.heap.size + 3) 114 3 lsC u (expK (K.take k) xu)) (fun _ i _ => K.length - (intOf i).toNat)
  case atStart => exact ⟨0, by omega, rfl, HD.out, by rw [show expK (K.take 0) xu = [] from rfl]; exact HO.out⟩
  case round =>
    clear HD HO p0 p1 pz a0 a1 a2 a3 a4 r0 r1 rz
    obtain ⟨k, hk, rfl, hD, ho⟩ := hrel
    obtain ⟨p0, p1, pz, a0, a1, a2, a3, a4, r0, r1, rz⟩ := hD.facts
    dsimp only at a0 a1 a2 a3 a4
    obtain ⟨sA, sn, sc, hsv⟩ := slShape (Owns.slIn lsOk ho)
    subst hsv
    have hel : (expK (K.take k) xu).length ≤ k := by have := List.length_filter_le (fun x : Lse => decide (xu < x.u)) (K.take k); rw [List.length_take] at this; unfold expK; omega
    have HD := Lib.hid hD
    by_cases hlt : k < K.length
    · have hlt' : (k : Int) < (K.length : Int) := by omega
      have hk0 : (0 : Int) ≤ (k : Int) := by omega
      rcases hor with hor | ⟨b, off, rfl, hb, hc⟩
      · rw [hor] at hlt; simp at hlt
      obtain ⟨y, hy⟩ : ∃ y, K[k]? = some y := ⟨_, List.getElem?_eq_getElem hlt⟩
      obtain ⟨e0, e1, e2⟩ := ls3 (w := wr) (fun k x h j u hu => (hD.n.cells.1 _ _ hb).trans (hc k x h j u hu)) hy
      have HST := Lib.hid (exp_snoc (t := xu) hy)
      have hbl := Nat.lt_of_lt_of_le hb hD.n.size
      have hpl : w.heap.size < wr.heap.size := hD.p.lt
      have hal : w.heap.size + 1 < wr.heap.size := hD.a.lt
      have HO := Lib.hid ho
      generalize expK (K.take k) xu = M at ho hel HST HO ⊢
      clear hc hy hD
      by_cases ht : xu < y.u
      · have ht' : (xu : Int) < (y.u : Int) := by omega
        have ht2 : decide (xu < y.u) = true := decide_eq_true ht
        have HT := Lib.hid (HST.out.trans (if_pos ht))
        clear ht HST
        go_wp2_with fail
        go_quiet (fail)
        have hbx := Blk.mk_new (wr.drewN nq) 114 #[.int .u64 (y.r : Int), .int .u64 (y.a : Int), .int .u64 (y.u : Int)]
        have hox := (ho.new ((New.refl wr).drewN nq)).alloc (.cells #[.int .u64 (y.r : Int), .int .u64 (y.a : Int), .int .u64 (y.u : Int)] 114)
        have HN9 := Lib.hid (((New.refl wr).drewN nq).alloc (.cells #[.int .u64 (y.r : Int), .int .u64 (y.a : Int), .int .u64 (y.u : Int)] 114))
        have HM1 := Lib.hid (show M.length + [y].length ≤ maxLen by unfold maxLen; simp only [List.length_singleton]; omega)
        have HM2 := Lib.hid (show (M.length + [y].length) * 24 ≤ 140737488355328 by simp only [List.length_singleton]; omega)
        have HM3 := Lib.hid (show w.heap.size + 3 ≤ ((wr.drewN nq).alloc (.cells #[.int .u64 (y.r : Int), .int .u64 (y.a : Int), .int .u64 (y.u : Int)] 114)).heap.size by have := HN9.out.size; have := HD.out.r.lt; omega)
        clear ho
        go_wp2_with (at_builtin; refine wpList_app lsTy lsOk rfl _ _ rfl rfl rfl hox (SlIn.one (x := (y : Lse)) hbx lsOk rfl) HM1.out HM2.out HM3.out ?_; intro v9 w9 ho9 hg9 hb9; obtain ⟨A9, n9, c9, hv9⟩ := slShape (Owns.slIn lsOk ho9); subst hv9)
        go_roundw
        case rel => exact ⟨k + 1, by omega, by go_num, HD.out.upd ((Upd.new HN9.out).grown hg9 (fun j _ hj => hj)) (fun j hj => hox.blockGe j hj), by rw [HT.out]; exact ho9⟩
        case measure => simp [intOf]; omega
      · have ht' : ¬ (xu : Int) < (y.u : Int) := by omega
        have ht2 : decide (xu < y.u) = false := decide_eq_false ht
        have HT := Lib.hid (HST.out.trans (if_neg ht))
        clear ht HST ho
        go_wp2_with fail
        go_quiet (fail)
        go_wp2_with fail
        go_roundw
        case rel => exact ⟨k + 1, by omega, by go_num, HD.out.new ((New.refl _).drewN _), by rw [HT.out]; exact HO.out.new ((New.refl _).drewN _)⟩
        case measure => simp [intOf]; omega
    · have hlt' : ¬ (k : Int) < (K.length : Int) := by omega
      obtain rfl : k = K.length := by omega
      rw [List.take_length] at ho hel
      have HO := Lib.hid ho
      have hgt : w.heap.size + 2 < wr.heap.size := hD.r.lt
      have hU := doUpd1 w wr (.slice sA sn sc) (.slice A1 n1 c1) (.slice sA sn sc)
      have hs6 := (Owns.slIn lsOk ho).upd hU (fun k hk h => by have := (ho.lt k hk).1; omega)
      have hn6 := hD.n.upd hU (fun k h => by omega)
      have HS6 := Lib.hid hs6
      have HN6 := Lib.hid hn6
      have hsn : sn = (expK K xu).length := by obtain ⟨_, _, h, _⟩ := Owns.slIn lsOk ho; injection h
      have HSN := Lib.hid hsn
      have hsn2 : sn ≤ K.length := by omega
      clear hU hs6 hn6 ho hsn hel
      go_wp2_with fail
      exact bodyPost_ret (v := .tuple #[.agg #[.slice A1 n1 c1, .slice sA sn sc], .int .i64 0, .int .i64 ((K.length - sn : Nat) : Int)]) (by simp [results, Try.results28, go_sem, r0, r1]; omega) rfl (HR.out _ _ _ HN6.out (by rw [HSN.out]) HS6.out)
end
end Go.Proofs.Ytcganajbfplmpaa
