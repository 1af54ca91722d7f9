/- The parts RpH, RpG, RpF, joined. -/
import Derived.Test.YtecniafnihpjmaaGreatDoorRpZ2
import Derived.Test.YtecniafnihpjmaaGreatDoorMg5
import Derived.Test.YtecniafnihpjmaaGreatDoorTk
import Derived.Deep.RegionHeld3
/- Chapter 24 (replica): the law's chain in memory. -/
namespace Go.Proofs.YtecniafnihpjmaaGreatDoor
open Go.RowKit Go.Lap C
set_option linter.unusedVariables false
/-- A configuration in a slice. -/
structure CfgV where
  c : Cfg
  A : Option Addr
  n : Nat
structure ChL where
  lv : Value
  uv : Value
  cv : Value
  rp : Nat → Nat
  rl : Nat → RpL
section
variable {w w' W wa : World} {S : Nat → Prop} {n B D : Nat} {L : ChL} {x : Chn}
end
end Go.Proofs.YtecniafnihpjmaaGreatDoor

/- Chapter 24 (replica): the law's gather. Printed by genRpG.py. -/
namespace Go.Proofs.YtecniafnihpjmaaGreatDoor
open Go.RowKit Go.Lap C
set_option linter.unusedVariables false
set_option linter.unusedSimpArgs false
section
variable {w w' W wa : World} {S : Nat → Prop} {n B D a : Nat} {L : ChL} {x : Chn}
end
end Go.Proofs.YtecniafnihpjmaaGreatDoor

/- Chapter 24 (replica): the law's few. -/
namespace Go.Proofs.YtecniafnihpjmaaGreatDoor
open Go.RowKit Go.Lap C
set_option linter.unusedVariables false
def cutS (s : ByteArray) : ByteArray := if 300 < s.size then s.extract 0 300 else s
def cutW (y : Wri) : Wri := ⟨cutS y.key, cutS y.val, y.gone⟩
def cutL (l : List Wri) : List Wri := (l.take 10).map cutW
def Btc.cut (b : Btc) : Btc := { b with l := cutL b.l }
theorem cutL_len (l : List Wri) : (cutL l).length ≤ 10 := by unfold cutL; rw [List.length_map, List.length_take]; omega
theorem cutL_next {l : List Wri} {k : Nat} {y : Wri} (h : l[k]? = some y) : ((l.take (k + 1)).map cutW) = (l.take k).map cutW ++ [cutW y] := by rw [take_snoc h, List.map_append]; rfl
section
variable {w w' W : World}
theorem Blk4f {w : World} {g t : Nat} {a b c d : Value} (h : Blk w g t #[a, b, c, d]) : g < w.heap.size ∧ w.cell? ⟨g, 0, none⟩ = some a ∧ w.cell? ⟨g, 1, none⟩ = some b ∧ w.cell? ⟨g, 2, none⟩ = some c ∧ w.cell? ⟨g, 3, none⟩ = some d ∧ (∀ i, w.frozen? ⟨g, i, none⟩ = false) :=
  ⟨h.lt, h.cell 0, h.cell 1, h.cell 2, h.cell 3, h.frozen⟩
/-- Nothing older than the call's own row has changed. -/
def FewNew (w W wr : World) : Prop := Below (w.heap.size + 2) W wr
theorem FewNew.refl (w W : World) : FewNew w W W := Below.refl _ _
theorem FewNew.all {w W wr : World} (hn : New w W) (h : FewNew w W wr) : New w wr := Below.trans hn (Below.mono h (by omega))
theorem FewNew.blk {w W wr : World} {g t : Nat} {cs : Array Value} (h : FewNew w W wr) (hb : Blk W g t cs) (hg : g < w.heap.size + 2) : Blk wr g t cs := (h.block g hg).trans hb
theorem FewNew.step {α : Type} {enc : α → List Value} {size : Nat} {l : List α} {w W wr w7 : World} {o1 o2 : Obj} {e : TypeId} {v : Value} (h : FewNew w W wr) (hs : w.heap.size + 2 ≤ wr.heap.size) (hr : Row ((wr.alloc o1).alloc o2) (w.heap.size + 2) e size enc v l) (hg : ((wr.alloc o1).alloc o2).grownBy w7 v.ownBlock) : FewNew w W w7 :=
  Below.grown (Below.alloc (Below.alloc h hs o1) (by rw [World.size_alloc]; omega) o2) hg (by rw [World.size_alloc, World.size_alloc]; omega) (fun k hk => (hr.lt k hk).1)
def FewPost (w : World) (b : Btc) (e : Ending) (w' : World) : Prop := ∃ A n, e = .returned (batV b.c b.r b.s (.slice A b.cut.l.length n)) ∧ TSl w' 97 3 Wri.enc (.slice A b.cut.l.length n) b.cut.l ∧ New w w'
set_option maxRecDepth 100000 in
set_option maxHeartbeats 8000000 in
theorem few_any (b : Btc) {A : Option Addr} {cap : Nat} (hs : SlIn w 3 Wri.enc (.slice A b.l.length cap) b.l) (hl : b.l.length ≤ maxLen) :
    Calls Tryz.prog 11 #[batV b.c b.r b.s (.slice A b.l.length cap)] w (FewPost w b) := by
  obtain ⟨c, r, s, l⟩ := b
  obtain ⟨A', cap', hv, hlc, hh⟩ := hs
  dsimp only [batV] at hv hlc hh hl ⊢
  cases hv
  unfold maxLen at hl
  have hN := (((New.refl w).alloc (.cells #[.int .u64 (c : Int), .int .u64 (r : Int), .int .u64 (s : Int), .slice A l.length cap] 40)).alloc (.cells #[.int .u64 0, .int .u64 0, .int .u64 0, .slice none 0 0] 40)).alloc (.cells #[] 97)
  have hM := ((Blk.mk_new w 40 #[.int .u64 (c : Int), .int .u64 (r : Int), .int .u64 (s : Int), .slice A l.length cap]).alloc (.cells #[.int .u64 0, .int .u64 0, .int .u64 0, .slice none 0 0] 40)).alloc (.cells #[] 97)
  have hZ := (Blk.mk_new (w.alloc (.cells #[.int .u64 (c : Int), .int .u64 (r : Int), .int .u64 (s : Int), .slice A l.length cap] 40)) 40 #[.int .u64 0, .int .u64 0, .int .u64 0, .slice none 0 0]).alloc (.cells #[] 97)
  have hE := Blk.mk_new ((w.alloc (.cells #[.int .u64 (c : Int), .int .u64 (r : Int), .int .u64 (s : Int), .slice A l.length cap] 40)).alloc (.cells #[.int .u64 0, .int .u64 0, .int .u64 0, .slice none 0 0] 40)) 97 #[]
  rw [World.size_alloc] at hZ
  rw [World.size_alloc, World.size_alloc] at hE
  have HN := Lib.hid hN
  have HM := Lib.hid hM
  have HZ := Lib.hid hZ
  have hrow : Row (((w.alloc (.cells #[.int .u64 (c : Int), .int .u64 (r : Int), .int .u64 (s : Int), .slice A l.length cap] 40)).alloc (.cells #[.int .u64 0, .int .u64 0, .int .u64 0, .slice none 0 0] 40)).alloc (.cells #[] 97)) (w.heap.size + 2) 97 3 Wri.enc (.slice (some ⟨w.heap.size + 1 + 1, 0, none⟩) 0 0) ([] : List Wri) := .inr ⟨w.heap.size + 1 + 1, 0, 0, #[], rfl, by omega, hE, Nat.le_refl _, by decide, by simp, by simp⟩
  have HROW := Lib.hid hrow
  obtain ⟨q0, q1, q2, q3, q4, qz⟩ := Blk4f hM
  obtain ⟨r0, r1, r2, r3, r4, rz⟩ := Blk4f hZ
  clear hN hM hZ hE hrow
  go_enter Tryz.func11, Tryz.ntmps11
  go_upto_region 2 with fail
  generalize ((w.alloc _).alloc _).alloc _ = W at *
  go_wp2_with fail
  go_loopw [3, 4, 5] (fun s3 i _ wr => ∃ k : Nat, k ≤ l.length ∧ k ≤ 10 ∧ i = .int .i64 (k : Int) ∧ Row wr (w.heap.size + 2) 97 3 Wri.enc s3 ((l.take k).map cutW) ∧ FewNew w W wr) (fun _ i _ _ => 10 - (intOf i).toNat)
  case atStart => exact ⟨0, by omega, by omega, rfl, HROW.out, FewNew.refl w W⟩
  case round =>
    obtain ⟨k, hk, hk10, rfl, hrow, hn⟩ := hrel
    have HR := Lib.hid hrow
    have HNR : Hid (FewNew w W wr) := Lib.hid hn
    have hn : FewNew w W wr := hn
    have hm := hn.blk HM.out (by omega)
    have hz := hn.blk HZ.out (by omega)
    clear q0 q1 q2 q3 q4 qz r0 r1 r2 r3 r4 rz
    obtain ⟨q0, q1, q2, q3, q4, qz⟩ := Blk4f hm
    obtain ⟨r0, r1, r2, r3, r4, rz⟩ := Blk4f hz
    have hk0 : (0 : Int) ≤ (k : Int) := by omega
    by_cases hgo : k < l.length ∧ k < 10
    case neg =>
      obtain ⟨A3, n3, c3, rfl⟩ := hrow.shp
      have hsh : n3 = ((l.take k).map cutW).length := by obtain ⟨a, c, e⟩ := hrow.shape; cases e; rfl
      have hcut : (l.take k).map cutW = cutL l := by
        unfold cutL
        by_cases h10 : k < 10
        · have : ¬ k < l.length := fun h => hgo ⟨h, h10⟩
          rw [List.take_of_length_le (by omega), List.take_of_length_le (by omega)]
        · obtain rfl : k = 10 := by omega
          rfl
      rw [hcut] at hrow hsh
      subst hsh
      have hu9 : Upd (· = w.heap.size) wr (wr.setCell ⟨w.heap.size, 3, none⟩ (.slice A3 (cutL l).length c3)) := (Upd.refl _ wr).setIn 3 _
      have HT9 := Lib.hid ((Row.tsl Wri.encOk hrow).upd hu9 (Off.blk hm (by decide)))
      have hm9 := hm.set_ 3 (.slice A3 (cutL l).length c3)
      have hz9 := hz.upd hu9 (by omega)
      have HZ9 := Lib.hid hz9
      have HN9 : Hid (New w (wr.setCell ⟨w.heap.size, 3, none⟩ (.slice A3 (cutL l).length c3))) := Lib.hid ((FewNew.all HN.out HNR.out).upd hu9 (fun i e => by omega))
      obtain ⟨p0, p1, p2, p3, p4, pz⟩ := Blk4f hm9
      obtain ⟨s0, s1, s2, s3, s4, sz⟩ := Blk4f hz9
      clear hrow hn hm hz hcut hu9 hm9 hz9
      have hfin : ∀ w9 : World, w9 = wr.setCell ⟨w.heap.size, 3, none⟩ (.slice A3 (cutL l).length c3) → True := fun _ _ => trivial
      clear hfin
      by_cases hlt : k < l.length
      · have hlt2 : (k : Int) < (l.length : Int) := by omega
        have h102 : ¬ (k : Int) < 10 := by omega
        go_upto_region 12 with fail
        clear q0 q1 q2 q3 q4 qz r0 r1 r2 r3 r4 rz
        generalize wr.setCell ⟨w.heap.size, 3, none⟩ (.slice A3 (cutL l).length c3) = w9 at *
        go_wp2_with fail
        have hu4 : Upd (· = w.heap.size + 1) w9 ((((w9.setCell ⟨w.heap.size + 1, 0, none⟩ (.int .u64 (c : Int))).setCell ⟨w.heap.size + 1, 1, none⟩ (.int .u64 (r : Int))).setCell ⟨w.heap.size + 1, 2, none⟩ (.int .u64 (s : Int))).setCell ⟨w.heap.size + 1, 3, none⟩ (.slice A3 (cutL l).length c3)) := ((((Upd.refl _ w9).setIn 0 _).setIn 1 _).setIn 2 _).setIn 3 _
        exact bodyPost_ret (v := batV c r s (.slice A3 (cutL l).length c3)) (by simp [results, Tryz.results11, go_sem, s1, s2, s3, s4]) rfl ⟨A3, c3, rfl, HT9.out.upd hu4 (Off.blk HZ9.out (by decide)), HN9.out.upd hu4 (fun i e => by omega)⟩
      · have hlt2 : ¬ (k : Int) < (l.length : Int) := by omega
        go_upto_region 12 with fail
        clear q0 q1 q2 q3 q4 qz r0 r1 r2 r3 r4 rz
        generalize wr.setCell ⟨w.heap.size, 3, none⟩ (.slice A3 (cutL l).length c3) = w9 at *
        go_wp2_with fail
        have hu4 : Upd (· = w.heap.size + 1) w9 ((((w9.setCell ⟨w.heap.size + 1, 0, none⟩ (.int .u64 (c : Int))).setCell ⟨w.heap.size + 1, 1, none⟩ (.int .u64 (r : Int))).setCell ⟨w.heap.size + 1, 2, none⟩ (.int .u64 (s : Int))).setCell ⟨w.heap.size + 1, 3, none⟩ (.slice A3 (cutL l).length c3)) := ((((Upd.refl _ w9).setIn 0 _).setIn 1 _).setIn 2 _).setIn 3 _
        exact bodyPost_ret (v := batV c r s (.slice A3 (cutL l).length c3)) (by simp [results, Tryz.results11, go_sem, s1, s2, s3, s4]) rfl ⟨A3, c3, rfl, HT9.out.upd hu4 (Off.blk HZ9.out (by decide)), HN9.out.upd hu4 (fun i e => by omega)⟩
    case pos =>
      obtain ⟨hlt, h10⟩ := hgo
      have hlt2 : (k : Int) < (l.length : Int) := by omega
      have h102 : (k : Int) < 10 := by omega
      rcases hh with rfl | ⟨b, off, rfl, hb, hc⟩
      · simp at hlt
      obtain ⟨y, hy⟩ : ∃ y, l[k]? = some y := ⟨_, List.getElem?_eq_getElem hlt⟩
      have hcell := ((FewNew.all HN.out hn).cells.1)
      have e0 : wr.cell? ⟨b, off + k * 3, none⟩ = some (.string y.key) := (hcell _ _ hb).trans (by have := hc _ _ hy 0 _ rfl; simpa using this)
      have e1 : wr.cell? ⟨b, off + k * 3 + 1, none⟩ = some (.string y.val) := (hcell _ _ hb).trans (hc _ _ hy 1 _ rfl)
      have e2 : wr.cell? ⟨b, off + k * 3 + 2, none⟩ = some (.bool y.gone) := (hcell _ _ hb).trans (hc _ _ hy 2 _ rfl)
      have HX := Lib.hid (cutL_next hy)
      have hbr : b < wr.heap.size := Nat.lt_of_lt_of_le hb (FewNew.all HN.out hn).size
      clear hcell hc hy hrow hn hm hz
      by_cases hkey : 300 < y.key.size
      · have hk2 : (300 : Int) < (y.key.size : Int) := by omega
        by_cases hval : 300 < y.val.size
        · have hv2 : (300 : Int) < (y.val.size : Int) := by omega
          have HC : Hid (cutW y = ⟨(y.key.extract 0 300), (y.val.extract 0 300), y.gone⟩) := Lib.hid (by unfold cutW cutS; rw [if_pos hkey, if_pos hval])
          have hn6 := ((New.refl wr).alloc (.cells #[.string (y.key.extract 0 300), .string (y.val.extract 0 300), .bool y.gone] 97)).alloc (.cells #[.string (y.key.extract 0 300), .string (y.val.extract 0 300), .bool y.gone] 97)
          have hp6 := Blk.mk_new (wr.alloc (.cells #[.string (y.key.extract 0 300), .string (y.val.extract 0 300), .bool y.gone] 97)) 97 #[.string (y.key.extract 0 300), .string (y.val.extract 0 300), .bool y.gone]
          rw [World.size_alloc] at hp6
          have HP6 := Lib.hid hp6
          have HR6 := Lib.hid (HR.out.new hn6)
          have HBS : Hid (w.heap.size + 2 ≤ ((wr.alloc (.cells #[.string (y.key.extract 0 300), .string (y.val.extract 0 300), .bool y.gone] 97)).alloc (.cells #[.string (y.key.extract 0 300), .string (y.val.extract 0 300), .bool y.gone] 97)).heap.size) := Lib.hid (by have := r0; simp; omega)
          clear hn6 hp6
          go_wp2_with (at_builtin; refine wpList_appR (m := [(⟨(y.key.extract 0 300), (y.val.extract 0 300), y.gone⟩ : Wri)]) wrTy Wri.encOk rfl (.tmp 39) (.tmp 41) rfl rfl rfl HR6.out (SlIn.one HP6.out Wri.encOk rfl) (by simp; unfold maxLen; omega) (by simp; omega) HBS.out ?_; intro v7 w7 h7 hg7 hv7; have HF : Hid (Row w7 (w.heap.size + 2) 97 3 Wri.enc v7 ((l.take (k + 1)).map cutW) ∧ FewNew w W w7) := Lib.hid ⟨by rw [HX.out, HC.out]; exact h7, HNR.out.step (by have := r0; omega) HR6.out hg7⟩; clear h7 hg7 hv7)
          go_roundw
          case rel => exact ⟨k + 1, by omega, by omega, by go_num, HF.out.1, HF.out.2⟩
          case measure => simp [intOf]; omega
        · have hv2 : ¬ (300 : Int) < (y.val.size : Int) := by omega
          have HC : Hid (cutW y = ⟨(y.key.extract 0 300), y.val, y.gone⟩) := Lib.hid (by unfold cutW cutS; rw [if_pos hkey, if_neg hval])
          have hn6 := ((New.refl wr).alloc (.cells #[.string (y.key.extract 0 300), .string y.val, .bool y.gone] 97)).alloc (.cells #[.string (y.key.extract 0 300), .string y.val, .bool y.gone] 97)
          have hp6 := Blk.mk_new (wr.alloc (.cells #[.string (y.key.extract 0 300), .string y.val, .bool y.gone] 97)) 97 #[.string (y.key.extract 0 300), .string y.val, .bool y.gone]
          rw [World.size_alloc] at hp6
          have HP6 := Lib.hid hp6
          have HR6 := Lib.hid (HR.out.new hn6)
          have HBS : Hid (w.heap.size + 2 ≤ ((wr.alloc (.cells #[.string (y.key.extract 0 300), .string y.val, .bool y.gone] 97)).alloc (.cells #[.string (y.key.extract 0 300), .string y.val, .bool y.gone] 97)).heap.size) := Lib.hid (by have := r0; simp; omega)
          clear hn6 hp6
          go_wp2_with (at_builtin; refine wpList_appR (m := [(⟨(y.key.extract 0 300), y.val, y.gone⟩ : Wri)]) wrTy Wri.encOk rfl (.tmp 39) (.tmp 41) rfl rfl rfl HR6.out (SlIn.one HP6.out Wri.encOk rfl) (by simp; unfold maxLen; omega) (by simp; omega) HBS.out ?_; intro v7 w7 h7 hg7 hv7; have HF : Hid (Row w7 (w.heap.size + 2) 97 3 Wri.enc v7 ((l.take (k + 1)).map cutW) ∧ FewNew w W w7) := Lib.hid ⟨by rw [HX.out, HC.out]; exact h7, HNR.out.step (by have := r0; omega) HR6.out hg7⟩; clear h7 hg7 hv7)
          go_roundw
          case rel => exact ⟨k + 1, by omega, by omega, by go_num, HF.out.1, HF.out.2⟩
          case measure => simp [intOf]; omega
      · have hk2 : ¬ (300 : Int) < (y.key.size : Int) := by omega
        by_cases hval : 300 < y.val.size
        · have hv2 : (300 : Int) < (y.val.size : Int) := by omega
          have HC : Hid (cutW y = ⟨y.key, (y.val.extract 0 300), y.gone⟩) := Lib.hid (by unfold cutW cutS; rw [if_neg hkey, if_pos hval])
          have hn6 := ((New.refl wr).alloc (.cells #[.string y.key, .string (y.val.extract 0 300), .bool y.gone] 97)).alloc (.cells #[.string y.key, .string (y.val.extract 0 300), .bool y.gone] 97)
          have hp6 := Blk.mk_new (wr.alloc (.cells #[.string y.key, .string (y.val.extract 0 300), .bool y.gone] 97)) 97 #[.string y.key, .string (y.val.extract 0 300), .bool y.gone]
          rw [World.size_alloc] at hp6
          have HP6 := Lib.hid hp6
          have HR6 := Lib.hid (HR.out.new hn6)
          have HBS : Hid (w.heap.size + 2 ≤ ((wr.alloc (.cells #[.string y.key, .string (y.val.extract 0 300), .bool y.gone] 97)).alloc (.cells #[.string y.key, .string (y.val.extract 0 300), .bool y.gone] 97)).heap.size) := Lib.hid (by have := r0; simp; omega)
          clear hn6 hp6
          go_wp2_with (at_builtin; refine wpList_appR (m := [(⟨y.key, (y.val.extract 0 300), y.gone⟩ : Wri)]) wrTy Wri.encOk rfl (.tmp 39) (.tmp 41) rfl rfl rfl HR6.out (SlIn.one HP6.out Wri.encOk rfl) (by simp; unfold maxLen; omega) (by simp; omega) HBS.out ?_; intro v7 w7 h7 hg7 hv7; have HF : Hid (Row w7 (w.heap.size + 2) 97 3 Wri.enc v7 ((l.take (k + 1)).map cutW) ∧ FewNew w W w7) := Lib.hid ⟨by rw [HX.out, HC.out]; exact h7, HNR.out.step (by have := r0; omega) HR6.out hg7⟩; clear h7 hg7 hv7)
          go_roundw
          case rel => exact ⟨k + 1, by omega, by omega, by go_num, HF.out.1, HF.out.2⟩
          case measure => simp [intOf]; omega
        · have hv2 : ¬ (300 : Int) < (y.val.size : Int) := by omega
          have HC : Hid (cutW y = ⟨y.key, y.val, y.gone⟩) := Lib.hid (by unfold cutW cutS; rw [if_neg hkey, if_neg hval])
          have hn6 := ((New.refl wr).alloc (.cells #[.string y.key, .string y.val, .bool y.gone] 97)).alloc (.cells #[.string y.key, .string y.val, .bool y.gone] 97)
          have hp6 := Blk.mk_new (wr.alloc (.cells #[.string y.key, .string y.val, .bool y.gone] 97)) 97 #[.string y.key, .string y.val, .bool y.gone]
          rw [World.size_alloc] at hp6
          have HP6 := Lib.hid hp6
          have HR6 := Lib.hid (HR.out.new hn6)
          have HBS : Hid (w.heap.size + 2 ≤ ((wr.alloc (.cells #[.string y.key, .string y.val, .bool y.gone] 97)).alloc (.cells #[.string y.key, .string y.val, .bool y.gone] 97)).heap.size) := Lib.hid (by have := r0; simp; omega)
          clear hn6 hp6
          go_wp2_with (at_builtin; refine wpList_appR (m := [(⟨y.key, y.val, y.gone⟩ : Wri)]) wrTy Wri.encOk rfl (.tmp 39) (.tmp 41) rfl rfl rfl HR6.out (SlIn.one HP6.out Wri.encOk rfl) (by simp; unfold maxLen; omega) (by simp; omega) HBS.out ?_; intro v7 w7 h7 hg7 hv7; have HF : Hid (Row w7 (w.heap.size + 2) 97 3 Wri.enc v7 ((l.take (k + 1)).map cutW) ∧ FewNew w W w7) := Lib.hid ⟨by rw [HX.out, HC.out]; exact h7, HNR.out.step (by have := r0; omega) HR6.out hg7⟩; clear h7 hg7 hv7)
          go_roundw
          case rel => exact ⟨k + 1, by omega, by omega, by go_num, HF.out.1, HF.out.2⟩
          case measure => simp [intOf]; omega
end
end Go.Proofs.YtecniafnihpjmaaGreatDoor
