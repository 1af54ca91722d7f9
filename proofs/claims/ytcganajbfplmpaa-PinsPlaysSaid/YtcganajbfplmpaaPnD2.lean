/- Chapter 18 (pins), the document's answer: Do (Lease). -/
import Derived.Test.YtcganajbfplmpaaPnD3
namespace Go.Proofs.Ytcganajbfplmpaa
open Go.RowKit Go.Lap
set_option linter.unusedVariables false

theorem Blk3P {w : World} {g t : Nat} {a b c : Value} (h : Blk w g t #[a, b, c]) : g < w.heap.size ∧ w.cell? ⟨g, 0, none⟩ = some a ∧ w.cell? ⟨g, 1, none⟩ = some b ∧ w.cell? ⟨g, 2, none⟩ = some c ∧ (∀ i, w.frozen? ⟨g, i, none⟩ = false) := ⟨h.lt, h.cell 0, h.cell 1, h.cell 2, h.frozen⟩
def setY (x : Lse) (r u : Nat) : Lse := if x.r = r then ⟨x.r, x.a, u⟩ else x
theorem set_snoc {K : List Lse} {k r a u : Nat} {x : Lse} (hx : K[k]? = some x) : setK (K.take (k + 1)) r a u = setK (K.take k) r a u ++ [setY x r u] := by
  have : K.take (k + 1) = K.take k ++ [x] := by rw [List.take_add_one, hx]; rfl
  rw [this]
  unfold setK setY
  rw [List.map_append]; rfl
theorem lookK_snoc (K : List Lse) (x : Lse) (r : Nat) : (lookK (K ++ [x]) r).isSome = ((lookK K r).isSome || decide (x.r = r)) := by
  induction K with
  | nil =>
    show (if x.r = r then some (x.a, x.u) else none).isSome = _
    by_cases h : x.r = r <;> simp [h, lookK]
  | cons y l ih =>
    rw [List.cons_append, lookK_cons, lookK_cons]
    by_cases h : y.r = r
    · rw [if_pos h, if_pos h]; simp
    · rw [if_neg h, if_neg h, ih]
theorem look_take {K : List Lse} {k r : Nat} {x : Lse} (hx : K[k]? = some x) : (lookK (K.take (k + 1)) r).isSome = ((lookK (K.take k) r).isSome || decide (x.r = r)) := by
  have : K.take (k + 1) = K.take k ++ [x] := by rw [List.take_add_one, hx]; rfl
  rw [this]
  exact lookK_snoc _ _ _
section
variable {v1 v2 : Value} {E : List Pnm} {K : List Lse}
set_option maxRecDepth 100000 in
set_option maxHeartbeats 8000000 in
theorem rdo_lease (w : World) (hs1 : SlIn w 2 pnC v1 E) (hs2 : SlIn w 3 lsC v2 K) (hl : K.length ≤ 1000) (hun : UniK K) (x : PAct) (k0 : x.kind = 2) :
    Calls Try.prog 28 #[.agg #[v1, v2], .agg #[.int .i64 x.kind, .string x.name, .int .u64 (x.r : Int), .int .u64 (x.a : Int), .int .u64 (x.u : Int)]] w (RDoPost w E K x) := by
  obtain ⟨A1, n1, c1, rfl⟩ := pnShape hs1
  obtain ⟨A2, c2, rfl, hcp, hor⟩ := _root_.id hs2
  have hD := doAt w (.slice A1 n1 c1) (.slice A2 K.length c2) x
  obtain ⟨p0, p1, pz, a0, a1, a2, a3, a4, r0, r1, rz⟩ := hD.facts
  have hDn := hD.new ((New.refl _).alloc (.cells #[] 114))
  have hO := owns_made (doW w (.slice A1 n1 c1) (.slice A2 K.length c2) x) 114 lsC 3
  have hsz : (doW w (.slice A1 n1 c1) (.slice A2 K.length c2) x).heap.size = w.heap.size + 3 := by unfold doW; simp only [World.size_alloc]
  rw [hsz] at hO
  unfold doW at p0 p1 pz a0 a1 a2 a3 a4 r0 r1 rz
  have HR := Lib.hid (show ∀ wx u r, New w wx → doR E K x = r → SlIn wx 3 lsC u (doK K x) → RDoPost w E K x (.returned (.tuple #[.agg #[.slice A1 n1 c1, u], .int .i64 r, .int .i64 0])) wx from fun wx u r hn hr hu => by
    refine ⟨_, _, by rw [hr]; unfold doN; rw [if_neg (by omega)]; rfl, ?_, hu, hn⟩
    unfold doE; rw [if_neg (by omega), if_neg (by omega)]; exact hs1.new hn)
  have hre : doR E K x = leaseErr K x.r x.a := by unfold doR; rw [if_neg (by omega), if_neg (by omega), if_pos k0]
  have hee : doK K x = leaseE K x.r x.a x.u := by unfold doK; rw [if_pos k0]
  rw [hre, hee] at HR
  have HST := Lib.hid (show ∀ r, leaseErr K x.r x.a = r → r ≠ 0 → ∀ wx, New w wx → RDoPost w E K x (.returned (.tuple #[.agg #[.slice A1 n1 c1, .slice A2 K.length c2], .int .i64 r, .int .i64 0])) wx from fun r hr h0 wx hn =>
    HR.out wx _ r hn hr (by unfold leaseE; rw [if_neg (by rw [hr]; exact h0)]; exact hs2.new hn))
  have HLE := Lib.hid (show leaseErr K x.r x.a = match lookK K x.r with | some y => if y.1 = x.a then 0 else 181 | none => if 16 ≤ K.length then 182 else 0 from rfl)
  have HD := Lib.hid hDn
  have HO := Lib.hid hO
  obtain ⟨xk, xs, xr, xa, xu⟩ := x
  dsimp only at *
  subst k0
  clear hD hDn hO hsz hs1 hs2 hre hee
  go_enter Try.func28, Try.ntmps28
  go_wp2_with fail
  go_loopw [8, 9, 10, 11] (fun u d i _ wr => ∃ k : Nat, k ≤ K.length ∧ i = .int .i64 k ∧ d = .bool (lookK (K.take k) xr).isSome ∧ DoAt w wr (.slice A1 n1 c1) (.slice A2 K.length c2) ⟨2, xs, xr, xa, xu⟩ ∧ Owns wr (w.heap.size + 3) 114 3 lsC u (setK (K.take k) xr xa xu) ∧ ∀ y ∈ K.take k, y.r = xr → y.a = xa) (fun _ _ i _ _ => K.length - (intOf i).toNat)
  case atStart => exact ⟨0, by omega, rfl, rfl, HD.out, by rw [show setK (K.take 0) xr xa xu = [] from rfl]; exact HO.out, by simp⟩
  case round =>
    clear HD HO p0 p1 pz a0 a1 a2 a3 a4 r0 r1 rz
    obtain ⟨k, hk, rfl, rfl, hD, ho, hall⟩ := hrel
    obtain ⟨p0, p1, pz, a0, a1, a2, a3, a4, r0, r1, rz⟩ := hD.facts
    dsimp only at a0 a1 a2 a3 a4
    obtain ⟨sA, sn, sc, hsv⟩ := slShape (Owns.slIn lsOk ho)
    subst hsv
    have hel : (setK (K.take k) xr xa xu).length ≤ k := by unfold setK; rw [List.length_map, List.length_take]; omega
    have HD := Lib.hid hD
    have HALL := Lib.hid hall
    clear hall
    by_cases hlt : k < K.length
    · have hlt' : (k : Int) < (K.length : Int) := by omega
      have hk0 : (0 : Int) ≤ (k : Int) := by omega
      rcases hor with hor | ⟨b, off, rfl, hb, hc⟩
      · rw [hor] at hlt; simp at hlt
      obtain ⟨y, hy⟩ : ∃ y, K[k]? = some y := ⟨_, List.getElem?_eq_getElem hlt⟩
      obtain ⟨e0, e1, e2⟩ := ls3 (w := wr) (fun k x h j u hu => (hD.n.cells.1 _ _ hb).trans (hc k x h j u hu)) hy
      have HSN := Lib.hid (set_snoc (r := xr) (a := xa) (u := xu) hy)
      have HLT := Lib.hid (look_take (r := xr) hy)
      have HMEM := Lib.hid (show ∀ z ∈ K.take (k + 1), z ∈ K.take k ∨ z = y from fun z hz => by
        have : K.take (k + 1) = K.take k ++ [y] := by rw [List.take_add_one, hy]; rfl
        rw [this] at hz
        simpa using hz)
      have HLK := Lib.hid (lookK_of hun (List.mem_of_getElem? hy))
      have hbl := Nat.lt_of_lt_of_le hb hD.n.size
      have hpl : w.heap.size < wr.heap.size := hD.p.lt
      have hal : w.heap.size + 1 < wr.heap.size := hD.a.lt
      have hrl : w.heap.size + 2 < wr.heap.size := hD.r.lt
      have HO := Lib.hid ho
      generalize setK (K.take k) xr xa xu = M at ho hel HSN HO ⊢
      generalize (lookK (K.take k) xr).isSome = dn at HLT ⊢
      have hBz := Blk.mk_new wr 114 #[.int .u64 0, .int .u64 0, .int .u64 0]
      obtain ⟨z0, z1, z2, z3, zz⟩ := Blk3P hBz
      have hB := Blk.mk_new wr 114 #[.int .u64 (y.r : Int), .int .u64 (y.a : Int), .int .u64 (y.u : Int)]
      obtain ⟨q0, q1, q2, q3, qz⟩ := Blk3P hB
      have hDa := hD.new ((New.refl wr).alloc (.cells #[.int .u64 (y.r : Int), .int .u64 (y.a : Int), .int .u64 (y.u : Int)] 114))
      obtain ⟨f0, f1, fz, g0, g1, g2, g3, g4, s0, s1, sz⟩ := hDa.facts
      dsimp only at g0 g1 g2 g3 g4
      have HM1 := Lib.hid (show ∀ z : Lse, M.length + [z].length ≤ maxLen from fun z => by unfold maxLen; simp only [List.length_singleton]; omega)
      have HM2 := Lib.hid (show ∀ z : Lse, (M.length + [z].length) * 24 ≤ 140737488355328 from fun z => by simp only [List.length_singleton]; omega)
      clear hc hy hBz hB hD hDa
      by_cases hr : y.r = xr
      · by_cases ha : y.a = xa
        · subst hr
          subst ha
          have HSY := Lib.hid (show setY y y.r xu = ⟨y.r, y.a, xu⟩ from if_pos rfl)
          have HAL := Lib.hid (show ∀ z ∈ K.take (k + 1), z.r = y.r → z.a = y.a from fun z hz hzr => by
            rcases HMEM.out z hz with h | rfl
            · exact HALL.out z h hzr
            · rfl)
          have hbx := Blk.mk_new (wr.alloc (.cells #[.int .u64 (y.r : Int), .int .u64 (y.a : Int), .int .u64 (xu : Int)] 114)) 114 #[.int .u64 (y.r : Int), .int .u64 (y.a : Int), .int .u64 (xu : Int)]
          rw [World.size_alloc] at hbx
          have hox := (ho.alloc (.cells #[.int .u64 (y.r : Int), .int .u64 (y.a : Int), .int .u64 (xu : Int)] 114)).alloc (.cells #[.int .u64 (y.r : Int), .int .u64 (y.a : Int), .int .u64 (xu : Int)] 114)
          have HN9 := Lib.hid (((New.refl wr).alloc (.cells #[.int .u64 (y.r : Int), .int .u64 (y.a : Int), .int .u64 (xu : Int)] 114)).alloc (.cells #[.int .u64 (y.r : Int), .int .u64 (y.a : Int), .int .u64 (xu : Int)] 114))
          have HM3 := Lib.hid (show w.heap.size + 3 ≤ ((wr.alloc (.cells #[.int .u64 (y.r : Int), .int .u64 (y.a : Int), .int .u64 (xu : Int)] 114)).alloc (.cells #[.int .u64 (y.r : Int), .int .u64 (y.a : Int), .int .u64 (xu : Int)] 114)).heap.size by have := HN9.out.size; omega)
          clear ho
          go_wp2_with (at_builtin; refine wpList_app lsTy lsOk rfl _ _ rfl rfl rfl hox (SlIn.one (x := (⟨y.r, y.a, xu⟩ : Lse)) hbx lsOk rfl) (HM1.out _) (HM2.out _) HM3.out ?_; intro v9 w9 ho9 hg9 hb9; obtain ⟨A9, n9, c9, hv9⟩ := slShape (Owns.slIn lsOk ho9); subst hv9)
          go_roundw
          case rel => exact ⟨k + 1, by omega, by go_num, by rw [HLT.out]; simp, HD.out.upd ((Upd.new HN9.out).grown hg9 (fun j _ hj => hj)) (fun j hj => hox.blockGe j hj), by rw [HSN.out, HSY.out]; exact ho9, HAL.out⟩
          case measure => simp [intOf]; omega
        · have ha' : ((y.a : Int) != (xa : Int)) = true := bne_iff_ne.2 (by omega)
          have ha2 : ¬ (y.a : Int) = (xa : Int) := by omega
          have HNO := Lib.hid (show leaseErr K xr xa = 181 by rw [HLE.out, ← hr, HLK.out]; exact if_neg ha)
          subst hr
          clear ho
          have hF : Blk (((wr.setCell ⟨w.heap.size + 1 + 1, 0, none⟩ (.slice A1 n1 c1)).setCell ⟨w.heap.size + 1 + 1, 1, none⟩ (.slice (some ⟨b, off, none⟩) K.length c2)).alloc (.cells #[.int .u64 (y.r : Int), .int .u64 (y.a : Int), .int .u64 (y.u : Int)] 114)) (w.heap.size + 1 + 1) 70 #[.slice A1 n1 c1, .slice (some ⟨b, off, none⟩) K.length c2] :=
            ((HD.out.r.set_ 0 (.slice A1 n1 c1)).set_ 1 (.slice (some ⟨b, off, none⟩) K.length c2)).alloc _
          have t0 := hF.cell 0
          have t1 := hF.cell 1
          have HT := Lib.hid (And.intro t0 t1)
          clear hF t0 t1
          go_wp2_with fail
          exact bodyPost_ret (v := .tuple #[.agg #[.slice A1 n1 c1, .slice (some ⟨b, off, none⟩) K.length c2], .int .i64 181, .int .i64 0]) (by simp [results, Try.results28, go_sem, HT.out.1, HT.out.2]) rfl (HST.out _ HNO.out (by decide) _ ((HD.out.out _ _).alloc _))
      · have hr2 : ((y.r : Int) == (xr : Int)) = false := beq_eq_false_iff_ne.2 (by omega)
        have hr3 : ¬ (y.r : Int) = (xr : Int) := by omega
        have HSY := Lib.hid (show setY y xr xu = y from if_neg hr)
        have HAL := Lib.hid (show ∀ z ∈ K.take (k + 1), z.r = xr → z.a = xa from fun z hz hzr => by
          rcases HMEM.out z hz with h | rfl
          · exact HALL.out z h hzr
          · exact absurd hzr hr)
        have HRN := Lib.hid hr
        have hbx := Blk.mk_new (wr.alloc (.cells #[.int .u64 (y.r : Int), .int .u64 (y.a : Int), .int .u64 (y.u : Int)] 114)) 114 #[.int .u64 (y.r : Int), .int .u64 (y.a : Int), .int .u64 (y.u : Int)]
        rw [World.size_alloc] at hbx
        have hox := (ho.alloc (.cells #[.int .u64 (y.r : Int), .int .u64 (y.a : Int), .int .u64 (y.u : Int)] 114)).alloc (.cells #[.int .u64 (y.r : Int), .int .u64 (y.a : Int), .int .u64 (y.u : Int)] 114)
        have HN9 := Lib.hid (((New.refl wr).alloc (.cells #[.int .u64 (y.r : Int), .int .u64 (y.a : Int), .int .u64 (y.u : Int)] 114)).alloc (.cells #[.int .u64 (y.r : Int), .int .u64 (y.a : Int), .int .u64 (y.u : Int)] 114))
        have HM3 := Lib.hid (show w.heap.size + 3 ≤ ((wr.alloc (.cells #[.int .u64 (y.r : Int), .int .u64 (y.a : Int), .int .u64 (y.u : Int)] 114)).alloc (.cells #[.int .u64 (y.r : Int), .int .u64 (y.a : Int), .int .u64 (y.u : Int)] 114)).heap.size by have := HN9.out.size; omega)
        clear ho
        go_wp2_with (at_builtin; refine wpList_app lsTy lsOk rfl _ _ rfl rfl rfl hox (SlIn.one (x := (y : Lse)) hbx lsOk rfl) (HM1.out _) (HM2.out _) HM3.out ?_; intro v9 w9 ho9 hg9 hb9; obtain ⟨A9, n9, c9, hv9⟩ := slShape (Owns.slIn lsOk ho9); subst hv9)
        go_roundw
        case rel => exact ⟨k + 1, by omega, by go_num, by rw [HLT.out]; simp [HRN.out], HD.out.upd ((Upd.new HN9.out).grown hg9 (fun j _ hj => hj)) (fun j hj => hox.blockGe j hj), by rw [HSN.out, HSY.out]; exact ho9, HAL.out⟩
        case measure => simp [intOf]; omega
    · have hlt' : ¬ (k : Int) < (K.length : Int) := by omega
      obtain rfl : k = K.length := by omega
      rw [List.take_length] at ho hel
      rw [List.take_length]
      have HALL2 := Lib.hid (show ∀ y ∈ K, y.r = xr → y.a = xa by have := HALL.out; rwa [List.take_length] at this)
      cases hlk : lookK K xr with
      | some z =>
        have hz0 : leaseErr K xr xa = 0 := by
          rw [HLE.out, hlk]
          exact if_pos (HALL2.out _ (lookK_mem hlk) rfl)
        have HZ := Lib.hid (And.intro hz0 (show leaseE K xr xa xu = setK K xr xa xu by unfold leaseE leaseK; rw [if_pos hz0, hlk]; rfl))
        have hU := doUpd1 w wr (.slice sA sn sc) (.slice A1 n1 c1) (.slice sA sn sc)
        have hs6 := (Owns.slIn lsOk ho).upd hU (fun k hk h => by have := (ho.lt k hk).1; omega)
        have hn6 := hD.n.upd hU (fun k h => by omega)
        have HS6 := Lib.hid hs6
        have HN6 := Lib.hid hn6
        have hgt : w.heap.size + 2 < wr.heap.size := hD.r.lt
        dsimp only [Option.isSome]
        clear hU hs6 hn6 ho hel hlk hz0
        go_wp2_with fail
        exact bodyPost_ret (v := .tuple #[.agg #[.slice A1 n1 c1, .slice sA sn sc], .int .i64 0, .int .i64 0]) (by simp [results, Try.results28, go_sem, r0, r1]) rfl (HR.out _ _ _ HN6.out HZ.out.1 (by rw [HZ.out.2]; exact HS6.out))
      | none =>
        have hsame : setK K xr xa xu = K := by
          unfold setK
          have : ∀ l : List Lse, (∀ y ∈ l, y.r ≠ xr) → l.map (fun x => if x.r = xr then ⟨x.r, x.a, xu⟩ else x) = l := by
            intro l
            induction l with
            | nil => intro _; rfl
            | cons y l ih =>
              intro h
              rw [List.map_cons, if_neg (h y List.mem_cons_self), ih fun z hz => h z (List.mem_cons_of_mem _ hz)]
          exact this K (lookK_none.1 hlk)
        rw [hsame] at ho
        dsimp only [Option.isSome]
        by_cases h16 : 16 ≤ K.length
        · have h16' : (16 : Int) ≤ (K.length : Int) := by omega
          have HNO := Lib.hid (show leaseErr K xr xa = 182 by rw [HLE.out, hlk]; exact if_pos h16)
          have hgt : w.heap.size + 2 < wr.heap.size := hD.r.lt
          clear ho hlk hel
          go_wp2_with fail
          exact bodyPost_ret (v := .tuple #[.agg #[.slice A1 n1 c1, .slice A2 K.length c2], .int .i64 182, .int .i64 0]) (by simp [results, Try.results28, go_sem, r0, r1]) rfl (HST.out _ HNO.out (by decide) _ (HD.out.out _ _))
        · have h16' : ¬ (16 : Int) ≤ (K.length : Int) := by omega
          have hz0 : leaseErr K xr xa = 0 := by rw [HLE.out, hlk]; exact if_neg h16
          have HZ := Lib.hid (And.intro hz0 (show leaseE K xr xa xu = K ++ [⟨xr, xa, xu⟩] by unfold leaseE leaseK; rw [if_pos hz0, hlk]; rfl))
          have hbx := Blk.mk_new wr 114 #[.int .u64 (xr : Int), .int .u64 (xa : Int), .int .u64 (xu : Int)]
          have hox := ho.alloc (.cells #[.int .u64 (xr : Int), .int .u64 (xa : Int), .int .u64 (xu : Int)] 114)
          have HN9 := Lib.hid ((New.refl wr).alloc (.cells #[.int .u64 (xr : Int), .int .u64 (xa : Int), .int .u64 (xu : Int)] 114))
          have HM1 := Lib.hid (show K.length + [(⟨xr, xa, xu⟩ : Lse)].length ≤ maxLen by unfold maxLen; simp only [List.length_singleton]; omega)
          have HM2 := Lib.hid (show (K.length + [(⟨xr, xa, xu⟩ : Lse)].length) * 24 ≤ 140737488355328 by simp only [List.length_singleton]; omega)
          have hgt : w.heap.size + 2 < wr.heap.size := hD.r.lt
          have HM3 := Lib.hid (show w.heap.size + 3 ≤ (wr.alloc (.cells #[.int .u64 (xr : Int), .int .u64 (xa : Int), .int .u64 (xu : Int)] 114)).heap.size by have := HN9.out.size; omega)
          clear ho hel hlk hz0
          go_wp2_with (at_builtin; refine wpList_app lsTy lsOk rfl _ _ rfl rfl rfl hox (SlIn.one (x := (⟨xr, xa, xu⟩ : Lse)) hbx lsOk rfl) HM1.out HM2.out HM3.out ?_; intro v9 w9 ho9 hg9 hb9; obtain ⟨A9, n9, c9, hv9⟩ := slShape (Owns.slIn lsOk ho9); subst hv9; have hD9 := HD.out.upd ((Upd.new HN9.out).grown hg9 (fun j _ hj => hj)) (fun j hj => hox.blockGe j hj); clear p0 p1 pz a0 a1 a2 a3 a4 r0 r1 rz; obtain ⟨p0, p1, pz, a0, a1, a2, a3, a4, r0, r1, rz⟩ := hD9.facts; have hgt9 : w.heap.size + 2 < w9.heap.size := hD9.r.lt)
          have hU := doUpd1 w w9 (.slice A9 n9 c9) (.slice A1 n1 c1) (.slice A9 n9 c9)
          have hs6 := (Owns.slIn lsOk ho9).upd hU (fun k hk h => by have := (ho9.lt k hk).1; omega)
          have hn6 := hD9.n.upd hU (fun k h => by omega)
          exact bodyPost_ret (v := .tuple #[.agg #[.slice A1 n1 c1, .slice A9 n9 c9], .int .i64 0, .int .i64 0]) (by simp [results, Try.results28, go_sem, r0, r1]) rfl (HR.out _ _ _ hn6 HZ.out.1 (by rw [HZ.out.2]; exact hs6))
end
end Go.Proofs.Ytcganajbfplmpaa
