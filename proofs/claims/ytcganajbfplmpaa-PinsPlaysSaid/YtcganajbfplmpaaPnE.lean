/- Chapter 18 (pins), the document's answer: Do whole, Floor. -/
import Derived.Test.YtcganajbfplmpaaPnD1
namespace Go.Proofs.Ytcganajbfplmpaa
open Go.RowKit Go.Lap
set_option linter.unusedVariables false

section
variable {v1 v2 : Value} {E : List Pnm} {K : List Lse}
theorem rdo_any (w : World) (hs1 : SlIn w 2 pnC v1 E) (hs2 : SlIn w 3 lsC v2 K) (hE : GoodE E) (hK : GoodK K) (x : PAct) :
    Calls Try.prog 28 #[.agg #[v1, v2], .agg #[.int .i64 x.kind, .string x.name, .int .u64 (x.r : Int), .int .u64 (x.a : Int), .int .u64 (x.u : Int)]] w (RDoPost w E K x) := by
  have h1 := hE.len
  have h2 := hK.len
  by_cases k0 : x.kind = 0
  · exact rdo_pin w hs1 hs2 (by omega) x k0
  by_cases k1 : x.kind = 1
  · exact rdo_drop w hs1 hs2 (by omega) hE.srt x k1
  by_cases k2 : x.kind = 2
  · exact rdo_lease w hs1 hs2 (by omega) hK.uni x k2
  by_cases k3 : x.kind = 3
  · exact rdo_exp w hs1 hs2 (by omega) x k3
  · exact rdo_else w hs1 hs2 x k0 k1 k2 k3
theorem floorE_snoc {k last : Nat} {x : Pnm} (hx : E[k]? = some x) : floorE (E.take (k + 1)) last = if x.n < floorE (E.take k) last then x.n else floorE (E.take k) last := by
  have : E.take (k + 1) = E.take k ++ [x] := by rw [List.take_add_one, hx]; rfl
  rw [this]
  unfold floorE
  rw [List.foldl_append]; rfl
theorem floorK_snoc {k last : Nat} {x : Lse} (hx : K[k]? = some x) : floorK (K.take (k + 1)) last = if x.a < floorK (K.take k) last then x.a else floorK (K.take k) last := by
  have : K.take (k + 1) = K.take k ++ [x] := by rw [List.take_add_one, hx]; rfl
  rw [this]
  unfold floorK
  rw [List.foldl_append]; rfl
set_option maxRecDepth 100000 in
set_option maxHeartbeats 8000000 in
theorem rfloor_any (w : World) (hs1 : SlIn w 2 pnC v1 E) (hs2 : SlIn w 3 lsC v2 K) (hl1 : E.length ≤ 1000) (hl2 : K.length ≤ 1000) (last : Nat) :
    Calls Try.prog 29 #[.agg #[v1, v2], .int .u64 (last : Int)] w fun e w' => e = .returned (.int .u64 ((floorP E K last : Nat) : Int)) ∧ New w w' := by
  obtain ⟨A1, c1, rfl, hcp1, hor1⟩ := _root_.id hs1
  obtain ⟨A2, c2, rfl, hcp2, hor2⟩ := _root_.id hs2
  have hB := Blk.mk_new w 70 #[.slice A1 E.length c1, .slice A2 K.length c2]
  obtain ⟨p0, p1, p2, pz⟩ := Blk2P hB
  have hN := (New.refl w).alloc (.cells #[.slice A1 E.length c1, .slice A2 K.length c2] 70)
  have HB := Lib.hid hB
  have HN := Lib.hid hN
  clear hB hN hs1 hs2
  go_enter Try.func29, Try.ntmps29
  go_wp2_with fail
  go_loopw [1, 5] (fun m i wr => ∃ k : Nat, k ≤ E.length ∧ i = .int .i64 k ∧ m = .int .u64 ((floorE (E.take k) last : Nat) : Int) ∧ wr = w.alloc (.cells #[.slice A1 E.length c1, .slice A2 K.length c2] 70)) (fun _ i _ => E.length - (intOf i).toNat)
  case atStart => exact ⟨0, by omega, rfl, rfl, rfl⟩
  case round =>
    obtain ⟨k, hk, rfl, rfl, rfl⟩ := hrel
    by_cases hlt : k < E.length
    · have hlt' : (k : Int) < (E.length : Int) := by omega
      have hk0 : (0 : Int) ≤ (k : Int) := by omega
      rcases hor1 with hor | ⟨b, off, rfl, hb, hc⟩
      · rw [hor] at hlt; simp at hlt
      obtain ⟨x, hx⟩ : ∃ x, E[k]? = some x := ⟨_, List.getElem?_eq_getElem hlt⟩
      obtain ⟨e0, e1⟩ := pn2 (fun k x h j u hu => (HN.out.cells.1 _ _ hb).trans (hc k x h j u hu)) hx
      have HST := Lib.hid (floorE_snoc (last := last) hx)
      have hbl := Nat.lt_of_lt_of_le hb HN.out.size
      generalize floorE (E.take k) last = m at HST ⊢
      clear hc hx
      by_cases hm : x.n < m
      · have hm' : (x.n : Int) < (m : Int) := by omega
        have HS := Lib.hid (HST.out.trans (if_pos hm))
        clear HST
        go_wp2_with fail
        go_roundw
        case rel => exact ⟨k + 1, by omega, by go_num, by rw [HS.out], by first | trivial | rfl⟩
        case measure => simp [intOf]; omega
      · have hm' : ¬ (x.n : Int) < (m : Int) := by omega
        have HS := Lib.hid (HST.out.trans (if_neg hm))
        clear HST
        go_wp2_with fail
        go_roundw
        case rel => exact ⟨k + 1, by omega, by go_num, by rw [HS.out], by first | trivial | rfl⟩
        case measure => simp [intOf]; omega
    · have hlt' : ¬ (k : Int) < (E.length : Int) := by omega
      obtain rfl : k = E.length := by omega
      rw [List.take_length]
      have HF := Lib.hid (show floorP E K last = floorK K (floorE E last) from rfl)
      generalize floorE E last = l0 at HF ⊢
      go_wp2_with fail
      go_loopw [1, 6] (fun m i wr => ∃ k : Nat, k ≤ K.length ∧ i = .int .i64 k ∧ m = .int .u64 ((floorK (K.take k) l0 : Nat) : Int) ∧ wr = w.alloc (.cells #[.slice A1 E.length c1, .slice A2 K.length c2] 70)) (fun _ i _ => K.length - (intOf i).toNat)
      case atStart => exact ⟨0, by omega, rfl, rfl, rfl⟩
      case round =>
        obtain ⟨k, hk, rfl, rfl, rfl⟩ := hrel
        by_cases hlt : k < K.length
        · have hlt' : (k : Int) < (K.length : Int) := by omega
          have hk0 : (0 : Int) ≤ (k : Int) := by omega
          rcases hor2 with hor | ⟨b, off, rfl, hb, hc⟩
          · rw [hor] at hlt; simp at hlt
          obtain ⟨x, hx⟩ : ∃ x, K[k]? = some x := ⟨_, List.getElem?_eq_getElem hlt⟩
          obtain ⟨e0, e1, e2⟩ := ls3 (fun k x h j u hu => (HN.out.cells.1 _ _ hb).trans (hc k x h j u hu)) hx
          have HST := Lib.hid (floorK_snoc (last := l0) hx)
          have hbl := Nat.lt_of_lt_of_le hb HN.out.size
          generalize floorK (K.take k) l0 = m at HST ⊢
          clear hc hx
          by_cases hm : x.a < m
          · have hm' : (x.a : Int) < (m : Int) := by omega
            have HS := Lib.hid (HST.out.trans (if_pos hm))
            clear HST
            go_wp2_with fail
            go_roundw
            case rel => exact ⟨k + 1, by omega, by go_num, by rw [HS.out], by first | trivial | rfl⟩
            case measure => simp [intOf]; omega
          · have hm' : ¬ (x.a : Int) < (m : Int) := by omega
            have HS := Lib.hid (HST.out.trans (if_neg hm))
            clear HST
            go_wp2_with fail
            go_roundw
            case rel => exact ⟨k + 1, by omega, by go_num, by rw [HS.out], by first | trivial | rfl⟩
            case measure => simp [intOf]; omega
        · have hlt' : ¬ (k : Int) < (K.length : Int) := by omega
          obtain rfl : k = K.length := by omega
          rw [List.take_length]
          go_wp2_with fail
          go_ret
          exact ⟨by rw [HF.out]; rfl, HN.out⟩
end
end Go.Proofs.Ytcganajbfplmpaa
