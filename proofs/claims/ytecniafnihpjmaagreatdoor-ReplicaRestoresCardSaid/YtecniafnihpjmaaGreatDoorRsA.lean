/- Chapter 19's reference (the judge as all that was said): in memory, When. -/
import Derived.Test.YtecniafnihpjmaaGreatDoorMg5
import Derived.Test.YtecniafnihpjmaaGreatDoorMg10
namespace Go.Proofs.YtecniafnihpjmaaGreatDoor
open Go.RowKit Go.Lap C
set_option linter.unusedVariables false
set_option linter.unusedSimpArgs false
/-- What was said: a batch, and what it was told. -/
structure SdV where
  v : BtV
  d : Vd
  lt : Bool
def SdV.enc (x : SdV) : List Value := [.int .u64 (x.v.b.c : Int), .int .u64 (x.v.b.r : Int), .int .u64 (x.v.b.s : Int), x.v.sl, .int .u64 (x.d.t : Int), .int .i64 x.d.e]
theorem SdV.encOk : Enc SdV.enc 6 := fun x => ⟨rfl, by simp [SdV.enc, BtV.sl, Value.oneCell']⟩
def boE (b : Bool) : List Value := [.bool b]
theorem boEOk : Enc boE 1 := fun x => ⟨rfl, by simp [boE, Value.oneCell']⟩
/-- The reference's judge. -/
structure RjV where
  la : Nat
  L : List SdV
  sv : Value
  tv : Value
def RjV.val (x : RjV) : Value := .agg #[.int .u64 0, .int .u64 (x.la : Int), x.sv, x.tv]
structure RjAt (w : World) (x : RjV) : Prop where
  s : SlIn w 6 SdV.enc x.sv x.L
  t : SlIn w 1 boE x.tv (x.L.map SdV.lt)
  ll : x.L.length ≤ 100000
  ok : ∀ p ∈ x.L, BtAt w p.v
  la : x.la < big
section
variable {w w' : World} {x : RjV}
/-- When a key was written last. -/
def whenR (L : List SdV) (key : ByteArray) : Nat := L.foldl (fun a p => if p.d.e = 0 ∧ hasK key p.v.b.l = true then p.d.t else a) 0
theorem whenR_snoc (L : List SdV) (p : SdV) (key : ByteArray) : whenR (L ++ [p]) key = if p.d.e = 0 ∧ hasK key p.v.b.l = true then p.d.t else whenR L key := by unfold whenR; rw [List.foldl_append]; rfl
theorem take_snocS {l : List SdV} {k : Nat} {y : SdV} (h : l[k]? = some y) : l.take (k + 1) = l.take k ++ [y] := by rw [List.take_add_one, h]; rfl
theorem take_snocT {l : List Wri} {k : Nat} {y : Wri} (h : l[k]? = some y) : l.take (k + 1) = l.take k ++ [y] := by rw [List.take_add_one, h]; rfl
theorem hasK_snoc (key : ByteArray) (l : List Wri) (y : Wri) : hasK key (l ++ [y]) = (hasK key l || keyEq y key) := by unfold hasK; rw [List.any_append]; simp
theorem Blk4R {w : World} {g t : Nat} {a b c d : Value} (h : Blk w g t #[a, b, c, d]) : g < w.heap.size ∧ w.cell? ⟨g, 0, none⟩ = some a ∧ w.cell? ⟨g, 1, none⟩ = some b ∧ w.cell? ⟨g, 2, none⟩ = some c ∧ w.cell? ⟨g, 3, none⟩ = some d ∧ (∀ i, w.frozen? ⟨g, i, none⟩ = false) := ⟨h.lt, h.cell 0, h.cell 1, h.cell 2, h.cell 3, h.frozen⟩
set_option maxRecDepth 100000 in
set_option maxHeartbeats 4000000 in
theorem when_any (h : RjAt w x) (key : ByteArray) :
    Calls Tryz.prog 78 #[x.val, .string key] w fun e w' => e = .returned (.int .u64 (whenR x.L key : Nat)) ∧ New w w' := by
  obtain ⟨la, L, sv, tv⟩ := x
  obtain ⟨hs, ht, hll, hok, hla⟩ := h
  dsimp only [RjV.val] at hs ht hll hok hla ⊢
  obtain ⟨As, cs, rfl, hcs, hh⟩ := hs
  obtain ⟨At, ct, rfl, _, _⟩ := ht
  rw [List.length_map]
  have hN := (New.refl w).alloc (.cells #[.int .u64 0, .int .u64 (la : Int), .slice As L.length cs, .slice At L.length ct] 33)
  have hb := Blk.mk_new w 33 #[.int .u64 0, .int .u64 (la : Int), .slice As L.length cs, .slice At L.length ct]
  have HN := Lib.hid hN
  have HOK : Hid (∀ p ∈ L, BtAt (w.alloc (.cells #[.int .u64 0, .int .u64 (la : Int), .slice As L.length cs, .slice At L.length ct] 33)) p.v) := Lib.hid (fun p hp => (hok p hp).new hN)
  obtain ⟨q0, q1, q2, q3, q4, qz⟩ := Blk4R hb
  clear hN hok hb hla
  go_enter Tryz.func78, Tryz.ntmps78
  go_upto_region 1 with fail
  have hcell : ∀ b off, As = some ⟨b, off, none⟩ → b < w.heap.size → ∀ o, (w.alloc (.cells #[.int .u64 0, .int .u64 (la : Int), .slice As L.length cs, .slice At L.length ct] 33)).cell? ⟨b, o, none⟩ = w.cell? ⟨b, o, none⟩ := fun b off _ hlt o => HN.out.cells.1 b o hlt
  have HCELL := Lib.hid hcell
  clear hcell
  generalize w.alloc (.cells #[.int .u64 0, .int .u64 (la : Int), .slice As L.length cs, .slice At L.length ct] 33) = W at *
  go_wp2_with fail
  go_loopw [5, 6, 7] (fun u5 u6 _ wr => ∃ (i a : Nat), i ≤ L.length ∧ a = whenR (L.take i) key ∧ u5 = .int .u64 (a : Int) ∧ u6 = .int .i64 (i : Int) ∧ wr = W) (fun _ u6 _ _ => L.length - (intOf u6).toNat)
  case atStart => exact ⟨0, 0, by omega, rfl, rfl, rfl, rfl⟩
  case round =>
    obtain ⟨i, a, hi, ha, rfl, rfl, rfl⟩ := hrel
    have HA := Lib.hid ha
    have hi0 : (0 : Int) ≤ (i : Int) := by omega
    clear ha
    by_cases hlt : i < L.length
    · have hlt2 : (i : Int) < (L.length : Int) := by omega
      obtain ⟨p, hp⟩ : ∃ p, L[i]? = some p := ⟨_, List.getElem?_eq_getElem hlt⟩
      rcases hh with rfl | ⟨g, off, rfl, hg, hc⟩
      · simp at hlt
      have f3 := (HCELL.out g off rfl hg (off + i * 6 + 3)).trans (hc i p hp 3 _ rfl)
      have f4 := (HCELL.out g off rfl hg (off + i * 6 + 4)).trans (hc i p hp 4 _ rfl)
      have f5 := (HCELL.out g off rfl hg (off + i * 6 + 5)).trans (hc i p hp 5 _ rfl)
      have HB := Lib.hid (HOK.out p (List.mem_of_getElem? hp))
      have HSN : Hid (whenR (L.take (i + 1)) key = if p.d.e = 0 ∧ hasK key p.v.b.l = true then p.d.t else whenR (L.take i) key) := Lib.hid (by rw [take_snocS hp, whenR_snoc])
      obtain ⟨⟨b, A, c⟩, d, lt⟩ := p
      unfold BtV.sl at f3
      dsimp only at f3 f4 f5 HB HSN
      have hbl := HB.out.ok.l
      dsimp only at hbl
      have HCC := Lib.hid hc
      clear hp hc
      go_wp2_with fail
      obtain ⟨wo, rfl⟩ : ∃ wo, wo = wr := ⟨_, rfl⟩
      go_loopw [5, 7] (fun u5 u7 wr => ∃ (k e : Nat), k ≤ b.l.length ∧ e = (if d.e = 0 ∧ hasK key (b.l.take k) = true then d.t else a) ∧ u5 = .int .u64 (e : Int) ∧ u7 = .int .i64 (k : Int) ∧ wr = wo) (fun _ u7 _ => b.l.length - (intOf u7).toNat)
      case atStart => exact ⟨0, a, by omega, by simp [hasK], rfl, rfl, rfl⟩
      case round =>
        obtain ⟨k, e, hk, he, rfl, rfl, rfl⟩ := hrel
        have HE := Lib.hid he
        have hk0 : (0 : Int) ≤ (k : Int) := by omega
        clear he
        by_cases hkl : k < b.l.length
        · have hkl2 : (k : Int) < (b.l.length : Int) := by omega
          obtain ⟨y, hy⟩ : ∃ y, b.l[k]? = some y := ⟨_, List.getElem?_eq_getElem hkl⟩
          have HK : Hid (hasK key (b.l.take (k + 1)) = (hasK key (b.l.take k) || keyEq y key)) := Lib.hid (by rw [take_snocT hy, hasK_snoc])
          obtain ⟨A', c', hv', _, hh2⟩ := HB.out.sl
          unfold BtV.sl at hv'
          dsimp only at hv' hh2
          cases hv'
          rcases hh2 with h0 | ⟨gw, ow, cs2, rfl, hbw, hcw⟩
          · rw [h0] at hkl; simp at hkl
          obtain ⟨e0, e1, e2⟩ := SlIn.three (fun k x h j u hu => (hbw.cell _).trans (hcw k x h j u hu)) hy
          have hgw := hbw.lt
          clear hy hcw hbw
          by_cases hde : d.e = 0
          · have hdb : (d.e == 0) = true := by rw [hde]; rfl
            by_cases hxy : y.key.toList = key.toList
            · have hb2 : (y.key.toList == key.toList) = true := by rw [hxy]; simp
              have HF : Hid (d.t = if d.e = 0 ∧ hasK key (b.l.take (k + 1)) = true then d.t else a) := Lib.hid (by rw [if_pos ⟨hde, by rw [HK.out]; simp [keyEq, hxy]⟩])
              clear hde hxy
              go_wp2_with fail
              go_roundw
              case rel => exact ⟨k + 1, d.t, by omega, HF.out, by go_num, by go_num, trivial⟩
              case measure => simp [intOf]; omega
            · have hb2 : (y.key.toList == key.toList) = false := by simpa using hxy
              have HF : Hid (e = if d.e = 0 ∧ hasK key (b.l.take (k + 1)) = true then d.t else a) := Lib.hid (by rw [HE.out, HK.out]; simp [keyEq, hxy])
              clear hde hxy
              go_wp2_with fail
              go_roundw
              case rel => exact ⟨k + 1, e, by omega, HF.out, by go_num, by go_num, trivial⟩
              case measure => simp [intOf]; omega
          · have hdb : (d.e == 0) = false := beq_eq_false_iff_ne.2 hde
            have HF : Hid (e = if d.e = 0 ∧ hasK key (b.l.take (k + 1)) = true then d.t else a) := Lib.hid (by rw [HE.out, if_neg (fun h => hde h.1), if_neg (fun h => hde h.1)])
            clear hde
            go_wp2_with fail
            go_roundw
            case rel => exact ⟨k + 1, e, by omega, HF.out, by go_num, by go_num, trivial⟩
            case measure => simp [intOf]; omega
        · obtain rfl : k = b.l.length := by omega
          have hkl2 : ¬ ((b.l.length : Nat) : Int) < (b.l.length : Int) := by omega
          have HF : Hid (e = whenR (L.take (i + 1)) key) := Lib.hid (by rw [HE.out, HSN.out, List.take_length, HA.out])
          go_wp2_with fail
          go_roundw
          case rel => exact ⟨i + 1, e, by omega, HF.out, by go_num, by go_num, trivial⟩
          case measure => simp [intOf]; omega
    · obtain rfl : i = L.length := by omega
      have hlt2 : ¬ ((L.length : Nat) : Int) < (L.length : Int) := by omega
      have HF : Hid (a = whenR L key) := Lib.hid (by rw [HA.out, List.take_length])
      go_wp2_with fail
      go_ret
      exact ⟨by rw [← HF.out]; rfl, HN.out⟩
end
end Go.Proofs.YtecniafnihpjmaaGreatDoor
