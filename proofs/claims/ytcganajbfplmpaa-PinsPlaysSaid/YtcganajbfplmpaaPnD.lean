/- Chapter 18 (pins), the document's answer: Do (Pin, and what is no act). -/
import Derived.Test.YtcganajbfplmpaaPnR
namespace Go.Proofs.Ytcganajbfplmpaa
open Go.RowKit Go.Lap
set_option linter.unusedVariables false

def lsC (x : Lse) : List Value := [.int .u64 (x.r : Int), .int .u64 (x.a : Int), .int .u64 (x.u : Int)]
theorem lsOk : Enc lsC 3 := fun x => ⟨rfl, by simp [lsC, Value.oneCell']⟩
theorem lsTy : SlTy Try.prog 68 114 (.agg #[.int .u64 0, .int .u64 0, .int .u64 0]) 3 24 := ⟨Try.underlying68, by kernel_rfl, rfl, by decide⟩
theorem lsShape {w : World} {v : Value} {l : List Lse} (h : SlIn w 3 lsC v l) : ∃ A n c, v = .slice A n c := let ⟨A, c, hv, _⟩ := h; ⟨A, _, c, hv⟩
def RDoPost (w : World) (E : List Pnm) (K : List Lse) (x : PAct) (e : Ending) (w' : World) : Prop :=
  ∃ u1 u2, e = .returned (.tuple #[.agg #[u1, u2], .int .i64 (doR E K x), .int .i64 ((doN K x : Nat) : Int)]) ∧ SlIn w' 2 pnC u1 (doE E x) ∧ SlIn w' 3 lsC u2 (doK K x) ∧ New w w'
/-- The world in which Do works: its arguments' boxes, and the result's. -/
def doW (w : World) (v1 v2 : Value) (x : PAct) : World :=
  ((w.alloc (.cells #[v1, v2] 70)).alloc (.cells #[.int .i64 x.kind, .string x.name, .int .u64 (x.r : Int), .int .u64 (x.a : Int), .int .u64 (x.u : Int)] 62)).alloc (.cells #[.slice none 0 0, .slice none 0 0] 70)
/-- Its boxes. -/
structure DoAt (w wx : World) (v1 v2 : Value) (x : PAct) : Prop where
  n : New w wx
  p : Blk wx w.heap.size 70 #[v1, v2]
  a : Blk wx (w.heap.size + 1) 62 #[.int .i64 x.kind, .string x.name, .int .u64 (x.r : Int), .int .u64 (x.a : Int), .int .u64 (x.u : Int)]
  r : Blk wx (w.heap.size + 2) 70 #[.slice none 0 0, .slice none 0 0]
theorem doAt (w : World) (v1 v2 : Value) (x : PAct) : DoAt w (doW w v1 v2 x) v1 v2 x := by
  have h1 := Blk.mk_new w 70 #[v1, v2]
  have h2 := Blk.mk_new (w.alloc (.cells #[v1, v2] 70)) 62 #[.int .i64 x.kind, .string x.name, .int .u64 (x.r : Int), .int .u64 (x.a : Int), .int .u64 (x.u : Int)]
  have h3 := Blk.mk_new ((w.alloc (.cells #[v1, v2] 70)).alloc (.cells #[.int .i64 x.kind, .string x.name, .int .u64 (x.r : Int), .int .u64 (x.a : Int), .int .u64 (x.u : Int)] 62)) 70 #[.slice none 0 0, .slice none 0 0]
  rw [World.size_alloc] at h2
  rw [World.size_alloc, World.size_alloc] at h3
  exact ⟨(((New.refl w).alloc _).alloc _).alloc _, (h1.alloc _).alloc _, h2.alloc _, h3⟩
theorem DoAt.new {w wx wy : World} {v1 v2 : Value} {x : PAct} (h : DoAt w wx v1 v2 x) (hn : New wx wy) : DoAt w wy v1 v2 x := ⟨h.n.trans hn, h.p.new hn, h.a.new hn, h.r.new hn⟩
theorem DoAt.out {w wx : World} {v1 v2 : Value} {x : PAct} (h : DoAt w wx v1 v2 x) (u1 u2 : Value) : New w ((wx.setCell ⟨w.heap.size + 2, 0, none⟩ u1).setCell ⟨w.heap.size + 2, 1, none⟩ u2) :=
  (h.n.setCell (p := ⟨w.heap.size + 2, 0, none⟩) (Nat.le_add_right _ _) _).setCell (p := ⟨w.heap.size + 2, 1, none⟩) (Nat.le_add_right _ _) _
theorem DoAt.facts {w wx : World} {v1 v2 : Value} {x : PAct} (h : DoAt w wx v1 v2 x) :
    wx.cell? ⟨w.heap.size, 0, none⟩ = some v1 ∧ wx.cell? ⟨w.heap.size, 1, none⟩ = some v2 ∧ (∀ i, wx.frozen? ⟨w.heap.size, i, none⟩ = false) ∧
    wx.cell? ⟨w.heap.size + 1, 0, none⟩ = some (.int .i64 x.kind) ∧ wx.cell? ⟨w.heap.size + 1, 1, none⟩ = some (.string x.name) ∧ wx.cell? ⟨w.heap.size + 1, 2, none⟩ = some (.int .u64 (x.r : Int)) ∧ wx.cell? ⟨w.heap.size + 1, 3, none⟩ = some (.int .u64 (x.a : Int)) ∧ wx.cell? ⟨w.heap.size + 1, 4, none⟩ = some (.int .u64 (x.u : Int)) ∧
    wx.cell? ⟨w.heap.size + 2, 0, none⟩ = some (.slice none 0 0) ∧ wx.cell? ⟨w.heap.size + 2, 1, none⟩ = some (.slice none 0 0) ∧ (∀ i, wx.frozen? ⟨w.heap.size + 2, i, none⟩ = false) :=
  ⟨h.p.cell 0, h.p.cell 1, h.p.frozen, h.a.cell 0, h.a.cell 1, h.a.cell 2, h.a.cell 3, h.a.cell 4, h.r.cell 0, h.r.cell 1, h.r.frozen⟩
theorem doUpd (w wx : World) (a b c : Value) : Upd (fun k => k = w.heap.size ∨ k = w.heap.size + 2) wx (((wx.setCell ⟨w.heap.size, 0, none⟩ a).setCell ⟨w.heap.size + 2, 0, none⟩ b).setCell ⟨w.heap.size + 2, 1, none⟩ c) :=
  (((Upd.refl _ wx).setCell (p := ⟨w.heap.size, 0, none⟩) (fun _ => .inl rfl) _).setCell (p := ⟨w.heap.size + 2, 0, none⟩) (fun _ => .inr rfl) _).setCell (p := ⟨w.heap.size + 2, 1, none⟩) (fun _ => .inr rfl) _
section
variable {v1 v2 : Value} {E : List Pnm} {K : List Lse}
set_option maxRecDepth 100000 in
set_option maxHeartbeats 4000000 in
theorem rdo_else (w : World) (hs1 : SlIn w 2 pnC v1 E) (hs2 : SlIn w 3 lsC v2 K) (x : PAct) (k0 : x.kind ≠ 0) (k1 : x.kind ≠ 1) (k2 : x.kind ≠ 2) (k3 : x.kind ≠ 3) :
    Calls Try.prog 28 #[.agg #[v1, v2], .agg #[.int .i64 x.kind, .string x.name, .int .u64 (x.r : Int), .int .u64 (x.a : Int), .int .u64 (x.u : Int)]] w (RDoPost w E K x) := by
  obtain ⟨A1, n1, c1, rfl⟩ := pnShape hs1
  obtain ⟨A2, n2, c2, rfl⟩ := lsShape hs2
  have hD := doAt w (.slice A1 n1 c1) (.slice A2 n2 c2) x
  obtain ⟨p0, p1, pz, a0, a1, a2, a3, a4, r0, r1, rz⟩ := hD.facts
  have HD := Lib.hid hD
  have HR := Lib.hid (show ∀ wx, New w wx → RDoPost w E K x (.returned (.tuple #[.agg #[.slice A1 n1 c1, .slice A2 n2 c2], .int .i64 0, .int .i64 0])) wx from fun wx hn => by
    refine ⟨_, _, by unfold doR doN; rw [if_neg k0, if_neg k1, if_neg k2, if_neg k3]; rfl, ?_, ?_, hn⟩
    · unfold doE; rw [if_neg k0, if_neg k1]; exact hs1.new hn
    · unfold doK; rw [if_neg k2, if_neg k3]; exact hs2.new hn)
  unfold doW at p0 p1 pz a0 a1 a2 a3 a4 r0 r1 rz
  clear hD
  go_enter Try.func28, Try.ntmps28
  go_wp2_with fail
  exact bodyPost_ret (v := .tuple #[.agg #[.slice A1 n1 c1, .slice A2 n2 c2], .int .i64 0, .int .i64 0]) (by simp [results, Try.results28, go_sem]) rfl (HR.out _ ((((New.refl w).alloc _).alloc _).alloc _))
theorem plcJ_has (E : List Pnm) (s : ByteArray) : (0 ≤ plcJ E s) ↔ (lookE E s).isSome = true := by
  rw [← plcP_has]
  unfold plcJ
  by_cases h : plcP E s < E.length
  · rw [if_pos h]; simp [h]
  · rw [if_neg h]; simp [h]
set_option maxRecDepth 100000 in
set_option maxHeartbeats 8000000 in
theorem rdo_pin (w : World) (hs1 : SlIn w 2 pnC v1 E) (hs2 : SlIn w 3 lsC v2 K) (hl : E.length ≤ 1000) (x : PAct) (k0 : x.kind = 0) :
    Calls Try.prog 28 #[.agg #[v1, v2], .agg #[.int .i64 x.kind, .string x.name, .int .u64 (x.r : Int), .int .u64 (x.a : Int), .int .u64 (x.u : Int)]] w (RDoPost w E K x) := by
  obtain ⟨A1, c1, rfl, -, -⟩ := _root_.id hs1
  obtain ⟨A2, n2, c2, rfl⟩ := lsShape hs2
  have hD := doAt w (.slice A1 E.length c1) (.slice A2 n2 c2) x
  obtain ⟨p0, p1, pz, a0, a1, a2, a3, a4, r0, r1, rz⟩ := hD.facts
  have HD := Lib.hid hD
  have hnw := hD.n
  unfold doW at hnw
  have HNW := Lib.hid hnw
  have HR := Lib.hid (show ∀ wx u r, New w wx → doR E K x = r → SlIn wx 2 pnC u (doE E x) → RDoPost w E K x (.returned (.tuple #[.agg #[u, .slice A2 n2 c2], .int .i64 r, .int .i64 0])) wx from fun wx u r hn hr hu => by
    refine ⟨_, _, by rw [hr]; unfold doN; rw [if_neg (by omega)]; rfl, hu, ?_, hn⟩
    unfold doK; rw [if_neg (by omega), if_neg (by omega)]; exact hs2.new hn)
  have hre : doR E K x = pinErr E x.name := by unfold doR; rw [if_pos k0]
  have hee : doE E x = pinE E x.name x.a := by unfold doE; rw [if_pos k0]
  rw [hre, hee] at HR
  unfold doW at p0 p1 pz a0 a1 a2 a3 a4 r0 r1 rz
  have HS1 := Lib.hid hs1
  have hstay : ∀ r, pinErr E x.name = r → r ≠ 0 → ∀ wx, New w wx → RDoPost w E K x (.returned (.tuple #[.agg #[.slice A1 E.length c1, .slice A2 n2 c2], .int .i64 r, .int .i64 0])) wx := fun r hr h0 wx hn =>
    HR.out wx _ r hn hr (by unfold pinE; rw [if_neg (by rw [hr]; exact h0)]; exact hs1.new hn)
  have HST := Lib.hid hstay
  obtain ⟨xk, xs, xr, xa, xu⟩ := x
  dsimp only at *
  subst k0
  clear hD hre hee hstay hs1 hs2 hnw
  have hpe : pinErr E xs = if (lookE E xs).isSome = true ∨ xs.size = 0 ∨ 32 < xs.size then 180 else if 16 ≤ E.length then 182 else 0 := rfl
  by_cases h0 : xs.size < 1
  · have h0' : (xs.size : Int) < 1 := by omega
    have HPE := Lib.hid (hpe.trans (if_pos (.inr (.inl (by omega)))))
    clear hpe h0
    go_enter Try.func28, Try.ntmps28
    go_wp2_with fail
    exact bodyPost_ret (v := .tuple #[.agg #[.slice A1 E.length c1, .slice A2 n2 c2], .int .i64 180, .int .i64 0]) (by simp [results, Try.results28, go_sem]) rfl (HST.out _ HPE.out (by decide) _ ((((New.refl w).alloc _).alloc _).alloc _))
  have h0' : ¬ (xs.size : Int) < 1 := by omega
  by_cases h32 : 32 < xs.size
  · have h32' : (32 : Int) < (xs.size : Int) := by omega
    have HPE := Lib.hid (hpe.trans (if_pos (.inr (.inr h32))))
    clear hpe h0 h32
    go_enter Try.func28, Try.ntmps28
    go_wp2_with fail
    exact bodyPost_ret (v := .tuple #[.agg #[.slice A1 E.length c1, .slice A2 n2 c2], .int .i64 180, .int .i64 0]) (by simp [results, Try.results28, go_sem]) rfl (HST.out _ HPE.out (by decide) _ ((((New.refl w).alloc _).alloc _).alloc _))
  have h32' : ¬ (32 : Int) < (xs.size : Int) := by omega
  by_cases hf : (lookE E xs).isSome = true
  · have HPE := Lib.hid (hpe.trans (if_pos (.inl hf)))
    have hpl := (plcJ_has E xs).2 hf
    clear hpe h0 h32 hf
    go_enter Try.func28, Try.ntmps28
    go_wp2_with fail
    refine (rpfind_any _ (HS1.out.new HNW.out) (by omega) xs).mono ?_
    rintro e w2 ⟨rfl, hw2⟩
    subst hw2
    generalize plcJ E xs = pj at hpl ⊢
    go_wp2_with fail
    exact bodyPost_ret (v := .tuple #[.agg #[.slice A1 E.length c1, .slice A2 n2 c2], .int .i64 180, .int .i64 0]) (by simp [results, Try.results28, go_sem]) rfl (HST.out _ HPE.out (by decide) _ ((((New.refl w).alloc _).alloc _).alloc _))
  have hpl : ¬ 0 ≤ plcJ E xs := fun h => hf ((plcJ_has E xs).1 h)
  have hpe2 : pinErr E xs = if 16 ≤ E.length then 182 else 0 := by
    rw [hpe, if_neg]
    rintro (h | h | h)
    · exact hf h
    · omega
    · omega
  by_cases h16 : 16 ≤ E.length
  · have h16' : (16 : Int) ≤ (E.length : Int) := by omega
    have HPE := Lib.hid (hpe2.trans (if_pos h16))
    clear hpe hpe2 h0 h32 hf h16
    go_enter Try.func28, Try.ntmps28
    go_wp2_with fail
    refine (rpfind_any _ (HS1.out.new HNW.out) (by omega) xs).mono ?_
    rintro e w2 ⟨rfl, hw2⟩
    subst hw2
    generalize plcJ E xs = pj at hpl ⊢
    go_wp2_with fail
    exact bodyPost_ret (v := .tuple #[.agg #[.slice A1 E.length c1, .slice A2 n2 c2], .int .i64 182, .int .i64 0]) (by simp [results, Try.results28, go_sem]) rfl (HST.out _ HPE.out (by decide) _ ((((New.refl w).alloc _).alloc _).alloc _))
  · have h16' : ¬ (16 : Int) ≤ (E.length : Int) := by omega
    have hp0 := hpe2.trans (if_neg h16)
    have HPE := Lib.hid (And.intro hp0 (show pinE E xs xa = insP E xs xa by unfold pinE; rw [if_pos hp0]))
    clear hpe hpe2 h0 h32 hf h16 hp0
    go_enter Try.func28, Try.ntmps28
    go_wp2_with fail
    refine (rpfind_any _ (HS1.out.new HNW.out) (by omega) xs).mono ?_
    rintro e w2 ⟨rfl, hw2⟩
    subst hw2
    generalize plcJ E xs = pj at hpl ⊢
    go_wp2_with fail
    refine (rppin_any _ (HS1.out.new HNW.out) (by omega) xs xa).mono ?_
    rintro e w5 ⟨u, rfl, hs5, hge5, hn5⟩
    have hD5 := HD.out.new hn5
    clear p0 p1 pz a0 a1 a2 a3 a4 r0 r1 rz
    obtain ⟨p0, p1, pz, a0, a1, a2, a3, a4, r0, r1, rz⟩ := hD5.facts
    obtain ⟨Au, nu, cu, rfl⟩ := pnShape hs5
    have hgt : w.heap.size + 2 < w5.heap.size := hD5.r.lt
    have hU := doUpd w w5 (.slice Au nu cu) (.slice Au nu cu) (.slice A2 n2 c2)
    have hs6 := hs5.upd hU (fun k hk h => by have := hge5 k hk; simp only [World.size_alloc] at this; omega)
    have hn6 := hD5.n.upd hU (fun k h => by omega)
    have HS6 := Lib.hid hs6
    have HN6 := Lib.hid hn6
    clear hU hs6 hn6 hs5 hn5
    go_wp2_with fail
    exact bodyPost_ret (v := .tuple #[.agg #[.slice Au nu cu, .slice A2 n2 c2], .int .i64 0, .int .i64 0]) (by simp [results, Try.results28, go_sem, r0, r1]) rfl (HR.out _ _ 0 HN6.out HPE.out.1 (by rw [HPE.out.2]; exact HS6.out))
end
end Go.Proofs.Ytcganajbfplmpaa
