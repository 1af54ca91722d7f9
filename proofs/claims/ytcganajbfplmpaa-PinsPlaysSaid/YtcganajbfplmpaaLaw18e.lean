/- The walk of the law PinsPlays (chapter 18): for every input it answers true. Printed by genLaw18e.py. -/
import Derived.Test.YtcganajbfplmpaaPnG
import Derived.Deep.RegionHeld3
import Derived.Deep.DeepCutAuto
namespace Go.Proofs.Ytcganajbfplmpaa
open Go.RowKit Go.Lap
set_option linter.unusedVariables false

def Aft10 (wr : World) (x : PAct) (E : List Pnm) (Ks : List Lse) (s8 s9 s10 : Value) (wx : World) : Prop :=
  ∃ (B1 : Option Addr) (d1 : Nat) (B2 : Option Addr) (d2 : Nat) (g8 : Nat), wr.heap.size ≤ g8 ∧ s8 = .pointer (some ⟨g8, 0, none⟩) ∧ s9 = .int .i64 (doR E Ks x) ∧ s10 = .int .i64 ((doN Ks x : Nat) : Int) ∧
    Blk wx g8 70 #[.slice B1 (doE E x).length d1, .slice B2 (doK Ks x).length d2] ∧ SlIn wx 2 pnC (.slice B1 (doE E x).length d1) (doE E x) ∧ SlIn wx 3 lsC (.slice B2 (doK Ks x).length d2) (doK Ks x) ∧ New wr wx
set_option maxRecDepth 100000 in
set_option maxHeartbeats 16000000 in
theorem pinsPlays_walk (acts : List PAct) (last : Nat) (v : Value) (w : World) (hl : acts.length ≤ maxLen) (hs : SlIn w 5 paE v acts) (hg : ∀ x ∈ acts, x.good) (hlast : okU last) :
    Calls Try.prog 7 #[v, .int .u64 (last : Int)] w fun e w' => e = .returned (.bool true) ∧ New w w' := by
  unfold maxLen at hl
  obtain ⟨A, cp, hv, hcp, hor⟩ := _root_.id hs
  subst hv
  go_enter Try.func7, Try.ntmps7
  go_wp2_with fail
  refine (newS _).mono ?_
  rintro e w1 ⟨p, nm, lm, rfl, h1, hF, hn1⟩
  have HF := Lib.hid hF
  go_wp2_with fail
  refine (awake18 _).mono ?_
  rintro e w2 ⟨rfl, hn2⟩
  have h2 := h1.new hn2
  have hN2 := hn1.trans hn2
  have hB2z := Blk.mk_new w2 70 #[.slice none 0 0, .slice none 0 0]
  obtain ⟨t0, t1, t2, tz⟩ := Blk2P hB2z
  have HG := Lib.hid hg
  have hgF : ¬ PnF p nm lm w2.heap.size := fun h => by have := h2.lt _ h; omega
  have hgw : w.heap.size ≤ w2.heap.size := hN2.size
  have hR0 : PlRel w (w2.alloc (.cells #[.slice none 0 0, .slice none 0 0] 70)) p nm lm w2.heap.size (.slice none 0 0) (.slice none 0 0) [] [] :=
    ⟨hN2.alloc _, h2.new ((New.refl _).alloc _), hB2z, SlIn.empty _ _ _ _ 0, SlIn.empty _ _ _ _ 0⟩
  have HR0 := Lib.hid hR0
  have HGF := Lib.hid hgF
  clear hn1 hn2 h1 h2 hg hs hF hN2 hgF hR0 hB2z
  go_wp2_with fail
  generalize w2.heap.size = g at *
  go_loopw [7, 8, 9, 10, 11, 12, 13, 14, 15, 16] (fun i _ _ _ _ _ _ _ _ _ wr => ∃ k : Nat, k ≤ acts.length ∧ k ≤ 60 ∧ i = .int .i64 k ∧ ∃ (v1 v2 : Value) (E : List Pnm) (Ks : List Lse), PlRel w wr p nm lm g v1 v2 E Ks) (fun i _ _ _ _ _ _ _ _ _ _ => acts.length - (intOf i).toNat)
  case atStart => exact ⟨0, by omega, by omega, rfl, _, _, [], [], HR0.out⟩
  case round =>
    clear HR0
    obtain ⟨k, hk, hk60, rfl, v1, v2, E, Ks, hR⟩ := hrel
    obtain ⟨A1, c1, hv1, -, -⟩ := _root_.id hR.e
    obtain ⟨A2, c2, hv2, -, -⟩ := _root_.id hR.k
    subst hv1
    subst hv2
    obtain ⟨hgl, g0, g1, gz⟩ := Blk2P hR.b
    by_cases hend : k < acts.length ∧ k < 60
    · obtain ⟨hlt, hlt8⟩ := hend
      have hlt' : (k : Int) < (acts.length : Int) := by omega
      have hlt8' : (k : Int) < 60 := by omega
      have hk0 : (0 : Int) ≤ (k : Int) := by omega
      rcases hor with hor | ⟨b, off, rfl, hb, hc⟩
      · rw [hor] at hlt; simp at hlt
      obtain ⟨x, hx⟩ : ∃ x, acts[k]? = some x := ⟨_, List.getElem?_eq_getElem hlt⟩
      have hgx := HG.out x (List.mem_of_getElem? hx)
      have HCE := Lib.hid (show ∀ wx, New w wx → wx.cell? ⟨b, off + k * 5, none⟩ = some (.int .i64 x.kind) ∧ wx.cell? ⟨b, off + k * 5 + 1, none⟩ = some (.string x.name) ∧ wx.cell? ⟨b, off + k * 5 + 2, none⟩ = some (.int .u64 (x.r : Int)) ∧ wx.cell? ⟨b, off + k * 5 + 3, none⟩ = some (.int .u64 (x.a : Int)) ∧ wx.cell? ⟨b, off + k * 5 + 4, none⟩ = some (.int .u64 (x.u : Int)) from fun wx hn => by
        have hcells := hn.cells.1
        refine ⟨(hcells _ _ hb).trans (by have := hc _ x hx 0 _ rfl; simpa using this), (hcells _ _ hb).trans (by have := hc _ x hx 1 _ rfl; simpa using this), (hcells _ _ hb).trans (by have := hc _ x hx 2 _ rfl; simpa using this), (hcells _ _ hb).trans (by have := hc _ x hx 3 _ rfl; simpa using this), (hcells _ _ hb).trans (by have := hc _ x hx 4 _ rfl; simpa using this)⟩)
      obtain ⟨e0, e1, e2, e3, e4⟩ := HCE.out _ hR.n
      have hbl := Nat.lt_of_lt_of_le hb hR.n.size
      have HBW := Lib.hid hb
      have HGX := Lib.hid hgx
      have HRE := Lib.hid hR
      clear hc hx hgx hR
      by_cases h100 : 100 < x.name.size
      · have h100' : (100 : Int) < (x.name.size : Int) := by omega
        go_wp2_with fail
        go_ret
        exact ⟨rfl, HRE.out.n⟩
      · have h100' : ¬ (100 : Int) < (x.name.size : Int) := by omega
        go_upto_region 10 with fail
        go_cut [8, 9, 10] (fun s8 s9 s10 wx => Aft10 wr x E Ks s8 s9 s10 wx)
        case first =>
          refine wp_region_held_drew (S := fun w' => Held wr w') (by kernel_rfl) (Held.of (New.refl _).drew) (fun hHeld => ?_)
          refine wpAnyH_take (i := 0) (oi := { dst := some 44, op := Op.load 70 (Operand.tmp 6), type := 70, pos := "law.go:45", after := #[], guard := none }) (v := ?_) rfl (by kernel_rfl) (by kernel_rfl) (by kernel_rfl) (fun _ _ _ h => h) (Or.inl ⟨by rfl, ?_⟩) (by assumption) ?_
          rotate_left
          · (intro wq hSw; (try dsimp only at hSw); go_simp; first | done | with_reducible rfl)
          try simp only [Act.put, List.setIfInBounds_toArray, List.set_cons_zero, List.set_cons_succ]
          refine wpAnyH_take (i := 1) (oi := { dst := some 45, op := Op.move (Operand.tmp 0), type := 54, pos := "law.go:45", after := #[], guard := none }) (v := ?_) rfl (by kernel_rfl) (by kernel_rfl) (by kernel_rfl) (fun _ _ _ h => h) (Or.inl ⟨by rfl, ?_⟩) (by assumption) ?_
          rotate_left
          · (intro wq hSw; (try dsimp only at hSw); go_simp; first | done | with_reducible rfl)
          try simp only [Act.put, List.setIfInBounds_toArray, List.set_cons_zero, List.set_cons_succ]
          refine wpAnyH_take (i := 2) (oi := { dst := some 46, op := Op.move (Operand.tmp 7), type := 3, pos := "law.go:45", after := #[], guard := none }) (v := ?_) rfl (by kernel_rfl) (by kernel_rfl) (by kernel_rfl) (fun _ _ _ h => h) (Or.inl ⟨by rfl, ?_⟩) (by assumption) ?_
          rotate_left
          · (intro wq hSw; (try dsimp only at hSw); go_simp; first | done | with_reducible rfl)
          try simp only [Act.put, List.setIfInBounds_toArray, List.set_cons_zero, List.set_cons_succ]
          refine wpAnyH_take (i := 3) (oi := { dst := some 47, op := Op.indexAddr 54 (Operand.tmp 45) (Operand.tmp 46), type := 0, pos := "law.go:45", after := #[{ on := 1, ground := Ground.data }, { on := 2, ground := Ground.data }], guard := none }) (v := ?_) rfl (by kernel_rfl) (by kernel_rfl) (by kernel_rfl) (fun _ _ _ h => h) (Or.inl ⟨by rfl, ?_⟩) (by assumption) ?_
          rotate_left
          · (intro wq hSw; (try dsimp only at hSw); go_simp; first | done | with_reducible rfl)
          try simp only [Act.put, List.setIfInBounds_toArray, List.set_cons_zero, List.set_cons_succ]
          refine wpAnyH_take (i := 4) (oi := { dst := some 48, op := Op.load 62 (Operand.tmp 47), type := 62, pos := "law.go:45", after := #[{ on := 3, ground := Ground.data }], guard := none }) (v := ?_) rfl (by kernel_rfl) (by kernel_rfl) (by kernel_rfl) (fun _ _ _ h => h) (Or.inl ⟨by rfl, ?_⟩) (by assumption) ?_
          rotate_left
          · (intro wq hSw; (try dsimp only at hSw); go_simp; first | done | with_reducible rfl)
          try simp only [Act.put, List.setIfInBounds_toArray, List.set_cons_zero, List.set_cons_succ]
          refine wpAnyH_ready (rs := [5, 10]) (by kernel_rfl) (by simp) ?_
          refine AllReadyH.cons (o := { dst := some 49, op := Op.call { callee := Callee.value (Operand.func 28), args := #[Operand.tmp 44, Operand.tmp 48], argTypes := #[70, 62] }, type := 71, pos := "law.go:45", after := #[{ on := 0, ground := Ground.data }, { on := 4, ground := Ground.data }], guard := none }) rfl (fun K hK => ?_) (AllReadyH.cons (o := { dst := some 8, op := Op.alloc 70, type := 0, pos := "law.go:45", after := #[], guard := none }) rfl (fun K hK => ?_) AllReadyH.nil)
          · go_simp
            refine (rdo_any _ (HRE.out.e.new (New.refl wr).drew) (HRE.out.k.new (New.refl wr).drew) HRE.out.s.e HRE.out.s.k x).mono ?_
            rintro e w3 ⟨ua, ub, rfl, hs31, hs32, hn3⟩
            generalize hE7 : doE E x = E7 at hs31 ⊢
            generalize hK7 : doK Ks x = K7 at hs32 ⊢
            obtain ⟨B1, d1, hu1, -, -⟩ := _root_.id hs31
            subst hu1
            obtain ⟨B2, d2, hu2, -, -⟩ := _root_.id hs32
            subst hu2
            have hm3 := New.trans ((New.refl wr).drew) hn3
            have HS31 := Lib.hid hs31
            have HS32 := Lib.hid hs32
            have HEQ := Lib.hid (And.intro hE7 hK7)
            clear hE7 hK7
            refine hK.out _ _ ?_ (fun hHeld => ?_)
            · exact Held.of hm3
            clear hK K
            try simp only [Act.put, List.setIfInBounds_toArray, List.set_cons_zero, List.set_cons_succ]
            refine wpAnyH_take (i := 6) (oi := { dst := some 43, op := Op.move (Operand.tmp 49), type := 71, pos := "law.go:45", after := #[{ on := 5, ground := Ground.data }], guard := none }) (v := ?_) rfl (by kernel_rfl) (by kernel_rfl) (by kernel_rfl) (fun _ _ _ h => h) (Or.inl ⟨by rfl, ?_⟩) (by assumption) ?_
            rotate_left
            · (intro wq hSw; (try dsimp only at hSw); go_simp; first | done | with_reducible rfl)
            try simp only [Act.put, List.setIfInBounds_toArray, List.set_cons_zero, List.set_cons_succ]
            refine wpAnyH_take (i := 7) (oi := { dst := some 50, op := Op.extract (Operand.tmp 43) 0, type := 70, pos := "law.go:45", after := #[{ on := 6, ground := Ground.data }], guard := none }) (v := ?_) rfl (by kernel_rfl) (by kernel_rfl) (by kernel_rfl) (fun _ _ _ h => h) (Or.inl ⟨by rfl, ?_⟩) (by assumption) ?_
            rotate_left
            · (intro wq hSw; (try dsimp only at hSw); go_simp; first | done | with_reducible rfl)
            try simp only [Act.put, List.setIfInBounds_toArray, List.set_cons_zero, List.set_cons_succ]
            refine wpAnyH_take (i := 8) (oi := { dst := some 51, op := Op.extract (Operand.tmp 43) 1, type := 24, pos := "law.go:45", after := #[{ on := 6, ground := Ground.data }, { on := 11, ground := Ground.gcOnly Departure.lateStores }], guard := none }) (v := ?_) rfl (by kernel_rfl) (by kernel_rfl) (by kernel_rfl) (fun _ _ _ h => h) (Or.inl ⟨by rfl, ?_⟩) (by assumption) ?_
            rotate_left
            · (intro wq hSw; (try dsimp only at hSw); go_simp; first | done | with_reducible rfl)
            try simp only [Act.put, List.setIfInBounds_toArray, List.set_cons_zero, List.set_cons_succ]
            refine wpAnyH_take (i := 9) (oi := { dst := some 52, op := Op.extract (Operand.tmp 43) 2, type := 3, pos := "law.go:45", after := #[{ on := 6, ground := Ground.data }, { on := 12, ground := Ground.gcOnly Departure.lateStores }], guard := none }) (v := ?_) rfl (by kernel_rfl) (by kernel_rfl) (by kernel_rfl) (fun _ _ _ h => h) (Or.inl ⟨by rfl, ?_⟩) (by assumption) ?_
            rotate_left
            · (intro wq hSw; (try dsimp only at hSw); go_simp; first | done | with_reducible rfl)
            try simp only [Act.put, List.setIfInBounds_toArray, List.set_cons_zero, List.set_cons_succ]
            refine wpAnyH_ready (rs := [10]) (by kernel_rfl) (by simp) ?_
            refine AllReadyH.cons (o := { dst := some 8, op := Op.alloc 70, type := 0, pos := "law.go:45", after := #[], guard := none }) rfl (fun K hK => ?_) AllReadyH.nil
            go_simp
            have hm4 := New.alloc (hm3) (.cells #[.slice none 0 0, .slice none 0 0] 70)
            have hb4 := Blk.mk_new w3 70 #[.slice none 0 0, .slice none 0 0]
            obtain ⟨t0, t1, t2, tz⟩ := Blk2P hb4
            refine hK.out _ _ ?_ (fun hHeld => ?_)
            · exact Held.of hm4
            clear hK K
            try simp only [Act.put, List.setIfInBounds_toArray, List.set_cons_zero, List.set_cons_succ]
            refine wpAnyH_ready (rs := [11]) (by kernel_rfl) (by simp) ?_
            refine AllReadyH.cons (o := { dst := none, op := Op.store 70 (Operand.tmp 8) (Operand.tmp 50), type := 0, pos := "law.go:45", after := #[{ on := 10, ground := Ground.data }, { on := 7, ground := Ground.data }, { on := 5, ground := Ground.chain }, { on := 0, ground := Ground.phase }, { on := 1, ground := Ground.phase }, { on := 2, ground := Ground.phase }, { on := 3, ground := Ground.phase }, { on := 4, ground := Ground.phase }, { on := 5, ground := Ground.phase }, { on := 6, ground := Ground.phase }, { on := 7, ground := Ground.phase }, { on := 8, ground := Ground.textOnly Departure.lateStores }, { on := 9, ground := Ground.textOnly Departure.lateStores }, { on := 10, ground := Ground.phase }], guard := none }) rfl (fun K hK => ?_) AllReadyH.nil
            go_simp
            have hm5 := New.alloc hm3 (.cells #[.slice B1 E7.length d1, .slice B2 K7.length d2] 70)
            refine hK.out _ _ ?_ (fun hHeld => ?_)
            · exact Held.of hm5
            clear hK K
            try simp only [Act.put, List.setIfInBounds_toArray, List.set_cons_zero, List.set_cons_succ]
            refine wpAnyH_take (i := 12) (oi := { dst := some 9, op := Op.assign (Operand.tmp 51), type := 24, pos := "law.go:45", after := #[{ on := 8, ground := Ground.data }, { on := 11, ground := Ground.chain }, { on := 0, ground := Ground.phase }, { on := 1, ground := Ground.phase }, { on := 2, ground := Ground.phase }, { on := 3, ground := Ground.phase }, { on := 4, ground := Ground.phase }, { on := 5, ground := Ground.phase }, { on := 6, ground := Ground.phase }, { on := 7, ground := Ground.phase }, { on := 8, ground := Ground.phase }, { on := 9, ground := Ground.textOnly Departure.lateStores }, { on := 10, ground := Ground.phase }, { on := 11, ground := Ground.phase }], guard := none }) (v := ?_) rfl (by kernel_rfl) (by kernel_rfl) (by kernel_rfl) (fun _ _ _ h => h) (Or.inl ⟨by rfl, ?_⟩) (by assumption) ?_
            rotate_left
            · (intro wq hSw; (try dsimp only at hSw); go_simp; first | done | with_reducible rfl)
            try simp only [Act.put, List.setIfInBounds_toArray, List.set_cons_zero, List.set_cons_succ]
            refine wpAnyH_take (i := 13) (oi := { dst := some 10, op := Op.assign (Operand.tmp 52), type := 3, pos := "law.go:45", after := #[{ on := 9, ground := Ground.data }, { on := 12, ground := Ground.chain }, { on := 0, ground := Ground.phase }, { on := 1, ground := Ground.phase }, { on := 2, ground := Ground.phase }, { on := 3, ground := Ground.phase }, { on := 4, ground := Ground.phase }, { on := 5, ground := Ground.phase }, { on := 6, ground := Ground.phase }, { on := 7, ground := Ground.phase }, { on := 8, ground := Ground.phase }, { on := 9, ground := Ground.phase }, { on := 10, ground := Ground.phase }, { on := 11, ground := Ground.phase }, { on := 12, ground := Ground.phase }], guard := none }) (v := ?_) rfl (by kernel_rfl) (by kernel_rfl) (by kernel_rfl) (fun _ _ _ h => h) (Or.inl ⟨by rfl, ?_⟩) (by assumption) ?_
            rotate_left
            · (intro wq hSw; (try dsimp only at hSw); go_simp; first | done | with_reducible rfl)
            try simp only [Act.put, List.setIfInBounds_toArray, List.set_cons_zero, List.set_cons_succ]
            refine wpAnyH_done (by kernel_rfl) ?_ _
            have hB5 := Blk.mk_new w3 70 #[.slice B1 E7.length d1, .slice B2 K7.length d2]
            have hs51 := HS31.out.new ((New.refl w3).alloc (.cells #[.slice B1 E7.length d1, .slice B2 K7.length d2] 70))
            have hs52 := HS32.out.new ((New.refl w3).alloc (.cells #[.slice B1 E7.length d1, .slice B2 K7.length d2] 70))
            have hg8 : wr.heap.size ≤ w3.heap.size := hm3.size
            clear hHeld hb4 t0 t1 t2 tz hm3 hm4 hs31 hs32
            generalize (w3.alloc (.cells #[.slice B1 E7.length d1, .slice B2 K7.length d2] 70)) = w5 at hB5 hs51 hs52 hm5 ⊢
            generalize w3.heap.size = g8 at hB5 hg8 ⊢
            go_wp2_with fail
            go_meet
            exact ⟨B1, d1, B2, d2, g8, hg8, rfl, rfl, rfl, by rw [HEQ.out.1, HEQ.out.2]; exact hB5, by rw [HEQ.out.1]; exact hs51, by rw [HEQ.out.2]; exact hs52, hm5⟩
          · go_simp
            have hm4 := New.alloc ((New.refl wr).drew) (.cells #[.slice none 0 0, .slice none 0 0] 70)
            have hb4 := Blk.mk_new wr.drew 70 #[.slice none 0 0, .slice none 0 0]
            obtain ⟨t0, t1, t2, tz⟩ := Blk2P hb4
            refine hK.out _ _ ?_ (fun hHeld => ?_)
            · exact Held.of hm4
            clear hK K
            try simp only [Act.put, List.setIfInBounds_toArray, List.set_cons_zero, List.set_cons_succ]
            refine wpAnyH_ready (rs := [5]) (by kernel_rfl) (by simp) ?_
            refine AllReadyH.cons (o := { dst := some 49, op := Op.call { callee := Callee.value (Operand.func 28), args := #[Operand.tmp 44, Operand.tmp 48], argTypes := #[70, 62] }, type := 71, pos := "law.go:45", after := #[{ on := 0, ground := Ground.data }, { on := 4, ground := Ground.data }], guard := none }) rfl (fun K hK => ?_) AllReadyH.nil
            go_simp
            refine (rdo_any _ (HRE.out.e.new hm4) (HRE.out.k.new hm4) HRE.out.s.e HRE.out.s.k x).mono ?_
            rintro e w3 ⟨ua, ub, rfl, hs31, hs32, hn3⟩
            generalize hE7 : doE E x = E7 at hs31 ⊢
            generalize hK7 : doK Ks x = K7 at hs32 ⊢
            obtain ⟨B1, d1, hu1, -, -⟩ := _root_.id hs31
            subst hu1
            obtain ⟨B2, d2, hu2, -, -⟩ := _root_.id hs32
            subst hu2
            have hm3 := New.trans (hm4) hn3
            have HS31 := Lib.hid hs31
            have HS32 := Lib.hid hs32
            have HEQ := Lib.hid (And.intro hE7 hK7)
            clear hE7 hK7
            have hb3 : Blk w3 wr.heap.size 70 #[.slice none 0 0, .slice none 0 0] := Blk.new hb4 hn3
            obtain ⟨y0, y1, y2, yz⟩ := Blk2P hb3
            refine hK.out _ _ ?_ (fun hHeld => ?_)
            · exact Held.of hm3
            clear hK K
            try simp only [Act.put, List.setIfInBounds_toArray, List.set_cons_zero, List.set_cons_succ]
            refine wpAnyH_take (i := 6) (oi := { dst := some 43, op := Op.move (Operand.tmp 49), type := 71, pos := "law.go:45", after := #[{ on := 5, ground := Ground.data }], guard := none }) (v := ?_) rfl (by kernel_rfl) (by kernel_rfl) (by kernel_rfl) (fun _ _ _ h => h) (Or.inl ⟨by rfl, ?_⟩) (by assumption) ?_
            rotate_left
            · (intro wq hSw; (try dsimp only at hSw); go_simp; first | done | with_reducible rfl)
            try simp only [Act.put, List.setIfInBounds_toArray, List.set_cons_zero, List.set_cons_succ]
            refine wpAnyH_take (i := 7) (oi := { dst := some 50, op := Op.extract (Operand.tmp 43) 0, type := 70, pos := "law.go:45", after := #[{ on := 6, ground := Ground.data }], guard := none }) (v := ?_) rfl (by kernel_rfl) (by kernel_rfl) (by kernel_rfl) (fun _ _ _ h => h) (Or.inl ⟨by rfl, ?_⟩) (by assumption) ?_
            rotate_left
            · (intro wq hSw; (try dsimp only at hSw); go_simp; first | done | with_reducible rfl)
            try simp only [Act.put, List.setIfInBounds_toArray, List.set_cons_zero, List.set_cons_succ]
            refine wpAnyH_take (i := 8) (oi := { dst := some 51, op := Op.extract (Operand.tmp 43) 1, type := 24, pos := "law.go:45", after := #[{ on := 6, ground := Ground.data }, { on := 11, ground := Ground.gcOnly Departure.lateStores }], guard := none }) (v := ?_) rfl (by kernel_rfl) (by kernel_rfl) (by kernel_rfl) (fun _ _ _ h => h) (Or.inl ⟨by rfl, ?_⟩) (by assumption) ?_
            rotate_left
            · (intro wq hSw; (try dsimp only at hSw); go_simp; first | done | with_reducible rfl)
            try simp only [Act.put, List.setIfInBounds_toArray, List.set_cons_zero, List.set_cons_succ]
            refine wpAnyH_take (i := 9) (oi := { dst := some 52, op := Op.extract (Operand.tmp 43) 2, type := 3, pos := "law.go:45", after := #[{ on := 6, ground := Ground.data }, { on := 12, ground := Ground.gcOnly Departure.lateStores }], guard := none }) (v := ?_) rfl (by kernel_rfl) (by kernel_rfl) (by kernel_rfl) (fun _ _ _ h => h) (Or.inl ⟨by rfl, ?_⟩) (by assumption) ?_
            rotate_left
            · (intro wq hSw; (try dsimp only at hSw); go_simp; first | done | with_reducible rfl)
            try simp only [Act.put, List.setIfInBounds_toArray, List.set_cons_zero, List.set_cons_succ]
            refine wpAnyH_ready (rs := [11]) (by kernel_rfl) (by simp) ?_
            refine AllReadyH.cons (o := { dst := none, op := Op.store 70 (Operand.tmp 8) (Operand.tmp 50), type := 0, pos := "law.go:45", after := #[{ on := 10, ground := Ground.data }, { on := 7, ground := Ground.data }, { on := 5, ground := Ground.chain }, { on := 0, ground := Ground.phase }, { on := 1, ground := Ground.phase }, { on := 2, ground := Ground.phase }, { on := 3, ground := Ground.phase }, { on := 4, ground := Ground.phase }, { on := 5, ground := Ground.phase }, { on := 6, ground := Ground.phase }, { on := 7, ground := Ground.phase }, { on := 8, ground := Ground.textOnly Departure.lateStores }, { on := 9, ground := Ground.textOnly Departure.lateStores }, { on := 10, ground := Ground.phase }], guard := none }) rfl (fun K hK => ?_) AllReadyH.nil
            go_simp
            have hm5 : New wr ((w3.setCell ⟨wr.heap.size, 0, none⟩ (.slice B1 E7.length d1)).setCell ⟨wr.heap.size, 1, none⟩ (.slice B2 K7.length d2)) := New.setCell (New.setCell hm3 (p := ⟨wr.heap.size, 0, none⟩) (Nat.le_refl _) _) (p := ⟨wr.heap.size, 1, none⟩) (Nat.le_refl _) _
            refine hK.out _ _ ?_ (fun hHeld => ?_)
            · exact Held.of hm5
            clear hK K
            try simp only [Act.put, List.setIfInBounds_toArray, List.set_cons_zero, List.set_cons_succ]
            refine wpAnyH_take (i := 12) (oi := { dst := some 9, op := Op.assign (Operand.tmp 51), type := 24, pos := "law.go:45", after := #[{ on := 8, ground := Ground.data }, { on := 11, ground := Ground.chain }, { on := 0, ground := Ground.phase }, { on := 1, ground := Ground.phase }, { on := 2, ground := Ground.phase }, { on := 3, ground := Ground.phase }, { on := 4, ground := Ground.phase }, { on := 5, ground := Ground.phase }, { on := 6, ground := Ground.phase }, { on := 7, ground := Ground.phase }, { on := 8, ground := Ground.phase }, { on := 9, ground := Ground.textOnly Departure.lateStores }, { on := 10, ground := Ground.phase }, { on := 11, ground := Ground.phase }], guard := none }) (v := ?_) rfl (by kernel_rfl) (by kernel_rfl) (by kernel_rfl) (fun _ _ _ h => h) (Or.inl ⟨by rfl, ?_⟩) (by assumption) ?_
            rotate_left
            · (intro wq hSw; (try dsimp only at hSw); go_simp; first | done | with_reducible rfl)
            try simp only [Act.put, List.setIfInBounds_toArray, List.set_cons_zero, List.set_cons_succ]
            refine wpAnyH_take (i := 13) (oi := { dst := some 10, op := Op.assign (Operand.tmp 52), type := 3, pos := "law.go:45", after := #[{ on := 9, ground := Ground.data }, { on := 12, ground := Ground.chain }, { on := 0, ground := Ground.phase }, { on := 1, ground := Ground.phase }, { on := 2, ground := Ground.phase }, { on := 3, ground := Ground.phase }, { on := 4, ground := Ground.phase }, { on := 5, ground := Ground.phase }, { on := 6, ground := Ground.phase }, { on := 7, ground := Ground.phase }, { on := 8, ground := Ground.phase }, { on := 9, ground := Ground.phase }, { on := 10, ground := Ground.phase }, { on := 11, ground := Ground.phase }, { on := 12, ground := Ground.phase }], guard := none }) (v := ?_) rfl (by kernel_rfl) (by kernel_rfl) (by kernel_rfl) (fun _ _ _ h => h) (Or.inl ⟨by rfl, ?_⟩) (by assumption) ?_
            rotate_left
            · (intro wq hSw; (try dsimp only at hSw); go_simp; first | done | with_reducible rfl)
            try simp only [Act.put, List.setIfInBounds_toArray, List.set_cons_zero, List.set_cons_succ]
            refine wpAnyH_done (by kernel_rfl) ?_ _
            have hU5 : Upd (· = wr.heap.size) w3 ((w3.setCell ⟨wr.heap.size, 0, none⟩ (.slice B1 E7.length d1)).setCell ⟨wr.heap.size, 1, none⟩ (.slice B2 K7.length d2)) := ((Upd.refl _ w3).setIn 0 _).setIn 1 _
            have hB5 : Blk ((w3.setCell ⟨wr.heap.size, 0, none⟩ (.slice B1 E7.length d1)).setCell ⟨wr.heap.size, 1, none⟩ (.slice B2 K7.length d2)) wr.heap.size 70 #[.slice B1 E7.length d1, .slice B2 K7.length d2] := (Blk.set_ hb3 0 (.slice B1 E7.length d1)).set_ 1 (.slice B2 K7.length d2)
            have hs51 := slGK HS31.out hb3 ⟨_, _, _, rfl⟩ ⟨_, _, _, rfl⟩ hU5 (fun x => by simp [pnC]) pnC_sl
            have hs52 := slGK HS32.out hb3 ⟨_, _, _, rfl⟩ ⟨_, _, _, rfl⟩ hU5 (fun x => by simp [lsC]) lsC_sl
            have hg8 : wr.heap.size ≤ wr.heap.size := Nat.le_refl _
            clear hHeld hU5 hb3 hb4 y0 y1 y2 yz t0 t1 t2 tz hm3 hm4 hs31 hs32
            generalize ((w3.setCell ⟨wr.heap.size, 0, none⟩ (.slice B1 E7.length d1)).setCell ⟨wr.heap.size, 1, none⟩ (.slice B2 K7.length d2)) = w5 at hB5 hs51 hs52 hm5 ⊢
            obtain ⟨g8, hg8e⟩ : ∃ g8, g8 = wr.heap.size := ⟨_, rfl⟩
            rw [← hg8e] at hB5 ⊢
            replace hg8 : wr.heap.size ≤ g8 := by omega
            clear hg8e
            go_wp2_with fail
            go_meet
            exact ⟨B1, d1, B2, d2, g8, hg8, rfl, rfl, rfl, by rw [HEQ.out.1, HEQ.out.2]; exact hB5, by rw [HEQ.out.1]; exact hs51, by rw [HEQ.out.2]; exact hs52, hm5⟩
        case rest =>
          obtain ⟨B1, d1, B2, d2, g8, hg8, rfl, rfl, rfl, hB5, hs51, hs52, hm5⟩ := hcut
          generalize hE7 : doE E x = E7 at hB5 hs51 ⊢
          generalize hK7 : doK Ks x = K7 at hB5 hs52 ⊢
          have HEQ := Lib.hid (And.intro hE7 hK7)
          clear hE7 hK7
          have hR5 := HRE.out.new hm5
          obtain ⟨t0, t1, t2, tz⟩ := Blk2P hB5
          clear g0 g1 gz hgl e0 e1 e2 e3 e4
          obtain ⟨hgl, g0, g1, gz⟩ := Blk2P hR5.b
          obtain ⟨hN6, hP6, hB6, hs61, hs62⟩ := hR5.act hs51 hs52 hgw HGF.out
          obtain ⟨e0, e1, e2, e3, e4⟩ := HCE.out _ hN6
          have hgg : ¬ g = g8 := by have := HRE.out.b.lt; omega
          have hgg2 : ¬ g8 = g := fun h => hgg h.symm
          have hbl5 := Nat.lt_of_lt_of_le HBW.out hR5.n.size
          have HP6 := Lib.hid hP6
          have HS61 := Lib.hid (And.intro hs61 hs62)
          have HB6 := Lib.hid hB6
          have HN6 := Lib.hid hN6
          clear hR5 hB5 hs51 hs52 hm5 hP6 hB6 hs61 hs62 hN6
          go_wp2_with fail
          refine (do18 _ HP6.out x HGX.out).mono ?_
          rintro e w7 ⟨rfl, hP7, hu7⟩
          rw [HEQ.out.1, HEQ.out.2] at hP7
          have hs71 := slPK HS61.out.1 HP6.out hu7 (fun x => by simp [pnC]) pnC_map
          have hs72 := slPK HS61.out.2 HP6.out hu7 (fun x => by simp [lsC]) lsC_map
          have hB7 := HB6.out.upd hu7 HGF.out
          have hN7 := HN6.out.upd hu7 HF.out
          clear g0 g1 gz hgl e0 e1 e2 e3 e4 t0 t1 t2 tz hgg hgg2 hg8 hbl5 hu7 HS61 HB6 HN6
          obtain ⟨hgl, g0, g1, gz⟩ := Blk2P hB7
          have hgE := hP7.e.len
          have hgK := hP7.k.len
          have HL1 := Lib.hid (show E7.length ≤ 1000 by omega)
          have HL2 := Lib.hid (show K7.length ≤ 1000 by omega)
          have HL3 := Lib.hid (show E7.length ≤ 100000 by omega)
          have HP7 := Lib.hid hP7
          have HE7 := Lib.hid hs71
          have HK7 := Lib.hid hs72
          have HB7 := Lib.hid hB7
          have HN7 := Lib.hid hN7
          generalize doR E Ks x = rr
          generalize doN Ks x = nn
          clear hP7 hs71 hs72 hB7 hN7 hgE hgK
          go_upto_region 13 with fail
          go_cut [87] (fun s87 wx => s87 = .bool false ∧ New w7 wx)
          case first =>
            refine wp_region_held_drew (S := fun w' => Held w7 w') (by kernel_rfl) (Held.of (New.refl _).drew) (fun hHeld => ?_)
            refine wpAnyH_take (i := 0) (oi := { dst := some 63, op := Op.move (Operand.tmp 9), type := 24, pos := "law.go:48", after := #[], guard := none }) (v := ?_) rfl (by kernel_rfl) (by kernel_rfl) (by kernel_rfl) (fun _ _ _ h => h) (Or.inl ⟨by rfl, ?_⟩) (by assumption) ?_
            rotate_left
            · (intro wq hSw; (try dsimp only at hSw); go_simp; first | done | with_reducible rfl)
            try simp only [Act.put, List.setIfInBounds_toArray, List.set_cons_zero, List.set_cons_succ]
            refine wpAnyH_take (i := 1) (oi := { dst := some 64, op := Op.move (Operand.tmp 11), type := 24, pos := "law.go:48", after := #[], guard := none }) (v := ?_) rfl (by kernel_rfl) (by kernel_rfl) (by kernel_rfl) (fun _ _ _ h => h) (Or.inl ⟨by rfl, ?_⟩) (by assumption) ?_
            rotate_left
            · (intro wq hSw; (try dsimp only at hSw); go_simp; first | done | with_reducible rfl)
            try simp only [Act.put, List.setIfInBounds_toArray, List.set_cons_zero, List.set_cons_succ]
            refine wpAnyH_take (i := 2) (oi := { dst := some 65, op := Op.binOp BinOp.neq 24 (Operand.tmp 63) (Operand.tmp 64) 24, type := 4, pos := "law.go:48", after := #[{ on := 0, ground := Ground.data }, { on := 1, ground := Ground.data }], guard := none }) (v := (.bool false)) rfl (by kernel_rfl) (by kernel_rfl) (by kernel_rfl) (fun _ _ _ h => h) (Or.inl ⟨by rfl, ?_⟩) (by assumption) ?_
            · (intro wq hSw; (try dsimp only at hSw); go_simp; first | done | (simp; done))
            try simp only [Act.put, List.setIfInBounds_toArray, List.set_cons_zero, List.set_cons_succ]
            refine wpAnyH_take (i := 3) (oi := { dst := some 66, op := Op.move (Operand.tmp 65), type := 4, pos := "law.go:48", after := #[{ on := 2, ground := Ground.data }], guard := none }) (v := ?_) rfl (by kernel_rfl) (by kernel_rfl) (by kernel_rfl) (fun _ _ _ h => h) (Or.inl ⟨by rfl, ?_⟩) (by assumption) ?_
            rotate_left
            · (intro wq hSw; (try dsimp only at hSw); go_simp; first | done | with_reducible rfl)
            try simp only [Act.put, List.setIfInBounds_toArray, List.set_cons_zero, List.set_cons_succ]
            refine wpAnyH_take (i := 4) (oi := { dst := some 67, op := Op.move (Operand.tmp 10), type := 3, pos := "law.go:48", after := #[{ on := 3, ground := Ground.guard }], guard := some (3, false) }) (v := ?_) rfl (by kernel_rfl) (by kernel_rfl) (by kernel_rfl) (fun _ _ _ h => h) (Or.inl ⟨by rfl, ?_⟩) (by assumption) ?_
            rotate_left
            · (intro wq hSw; (try dsimp only at hSw); go_simp; first | done | with_reducible rfl)
            try simp only [Act.put, List.setIfInBounds_toArray, List.set_cons_zero, List.set_cons_succ]
            refine wpAnyH_take (i := 5) (oi := { dst := some 68, op := Op.move (Operand.tmp 12), type := 3, pos := "law.go:48", after := #[{ on := 3, ground := Ground.guard }], guard := some (3, false) }) (v := ?_) rfl (by kernel_rfl) (by kernel_rfl) (by kernel_rfl) (fun _ _ _ h => h) (Or.inl ⟨by rfl, ?_⟩) (by assumption) ?_
            rotate_left
            · (intro wq hSw; (try dsimp only at hSw); go_simp; first | done | with_reducible rfl)
            try simp only [Act.put, List.setIfInBounds_toArray, List.set_cons_zero, List.set_cons_succ]
            refine wpAnyH_take (i := 6) (oi := { dst := some 69, op := Op.binOp BinOp.neq 3 (Operand.tmp 67) (Operand.tmp 68) 3, type := 4, pos := "law.go:48", after := #[{ on := 4, ground := Ground.data }, { on := 5, ground := Ground.data }, { on := 3, ground := Ground.guard }], guard := some (3, false) }) (v := (.bool false)) rfl (by kernel_rfl) (by kernel_rfl) (by kernel_rfl) (fun _ _ _ h => h) (Or.inl ⟨by rfl, ?_⟩) (by assumption) ?_
            · (intro wq hSw; (try dsimp only at hSw); go_simp; first | done | (simp; done))
            try simp only [Act.put, List.setIfInBounds_toArray, List.set_cons_zero, List.set_cons_succ]
            refine wpAnyH_take (i := 7) (oi := { dst := some 70, op := Op.pick (Operand.tmp 66) (Operand.const (Value.bool true)) (Operand.tmp 69), type := 4, pos := "law.go:48", after := #[{ on := 3, ground := Ground.data }, { on := 6, ground := Ground.data }], guard := none }) (v := ?_) rfl (by kernel_rfl) (by kernel_rfl) (by kernel_rfl) (fun _ _ _ h => h) (Or.inl ⟨by rfl, ?_⟩) (by assumption) ?_
            rotate_left
            · (intro wq hSw; (try dsimp only at hSw); go_simp; first | done | with_reducible rfl)
            try simp only [Act.put, List.setIfInBounds_toArray, List.set_cons_zero, List.set_cons_succ]
            refine wpAnyH_take (i := 8) (oi := { dst := some 71, op := Op.move (Operand.tmp 70), type := 4, pos := "law.go:48", after := #[{ on := 7, ground := Ground.data }, { on := 3, ground := Ground.chain }], guard := none }) (v := ?_) rfl (by kernel_rfl) (by kernel_rfl) (by kernel_rfl) (fun _ _ _ h => h) (Or.inl ⟨by rfl, ?_⟩) (by assumption) ?_
            rotate_left
            · (intro wq hSw; (try dsimp only at hSw); go_simp; first | done | with_reducible rfl)
            try simp only [Act.put, List.setIfInBounds_toArray, List.set_cons_zero, List.set_cons_succ]
            refine wpAnyH_take (i := 9) (oi := { dst := some 72, op := Op.move (Operand.tmp 5), type := 56, pos := "law.go:48", after := #[{ on := 8, ground := Ground.guard }], guard := some (8, false) }) (v := ?_) rfl (by kernel_rfl) (by kernel_rfl) (by kernel_rfl) (fun _ _ _ h => h) (Or.inl ⟨by rfl, ?_⟩) (by assumption) ?_
            rotate_left
            · (intro wq hSw; (try dsimp only at hSw); go_simp; first | done | with_reducible rfl)
            try simp only [Act.put, List.setIfInBounds_toArray, List.set_cons_zero, List.set_cons_succ]
            refine wpAnyH_take (i := 10) (oi := { dst := some 73, op := Op.move (Operand.tmp 1), type := 55, pos := "law.go:48", after := #[{ on := 8, ground := Ground.guard }], guard := some (8, false) }) (v := ?_) rfl (by kernel_rfl) (by kernel_rfl) (by kernel_rfl) (fun _ _ _ h => h) (Or.inl ⟨by rfl, ?_⟩) (by assumption) ?_
            rotate_left
            · (intro wq hSw; (try dsimp only at hSw); go_simp; first | done | with_reducible rfl)
            try simp only [Act.put, List.setIfInBounds_toArray, List.set_cons_zero, List.set_cons_succ]
            refine wpAnyH_take (i := 12) (oi := { dst := some 75, op := Op.load 70 (Operand.tmp 6), type := 70, pos := "law.go:48", after := #[{ on := 8, ground := Ground.guard }], guard := some (8, false) }) (v := ?_) rfl (by kernel_rfl) (by kernel_rfl) (by kernel_rfl) (fun _ _ _ h => h) (Or.inl ⟨by rfl, ?_⟩) (by assumption) ?_
            rotate_left
            · (intro wq hSw; (try dsimp only at hSw); go_simp; first | done | with_reducible rfl)
            try simp only [Act.put, List.setIfInBounds_toArray, List.set_cons_zero, List.set_cons_succ]
            refine wpAnyH_take (i := 13) (oi := { dst := some 76, op := Op.move (Operand.tmp 1), type := 55, pos := "law.go:48", after := #[{ on := 8, ground := Ground.guard }], guard := some (8, false) }) (v := ?_) rfl (by kernel_rfl) (by kernel_rfl) (by kernel_rfl) (fun _ _ _ h => h) (Or.inl ⟨by rfl, ?_⟩) (by assumption) ?_
            rotate_left
            · (intro wq hSw; (try dsimp only at hSw); go_simp; first | done | with_reducible rfl)
            try simp only [Act.put, List.setIfInBounds_toArray, List.set_cons_zero, List.set_cons_succ]
            refine wpAnyH_ready (rs := [11]) (by kernel_rfl) (by simp) ?_
            refine AllReadyH.cons (o := { dst := some 74, op := Op.call { callee := Callee.value (Operand.func 25), args := #[Operand.tmp 72, Operand.tmp 73], argTypes := #[56, 55] }, type := 55, pos := "law.go:48", after := #[{ on := 9, ground := Ground.data }, { on := 10, ground := Ground.data }, { on := 8, ground := Ground.chain }, { on := 8, ground := Ground.guard }], guard := some (8, false) }) rfl (fun K hK => ?_) AllReadyH.nil
            go_simp
            refine (floorS _ (HP7.out.new (New.refl w7).drew) last).mono ?_
            rintro e wa0 ⟨rfl, hv0⟩
            have hn0 := New.trans ((New.refl w7).drew) hv0
            refine hK.out _ _ ?_ (fun hHeld => ?_)
            · exact Held.of hn0
            clear hK K
            try simp only [Act.put, List.setIfInBounds_toArray, List.set_cons_zero, List.set_cons_succ]
            refine wpAnyH_ready (rs := [14]) (by kernel_rfl) (by simp) ?_
            refine AllReadyH.cons (o := { dst := some 77, op := Op.call { callee := Callee.value (Operand.func 29), args := #[Operand.tmp 75, Operand.tmp 76], argTypes := #[70, 55] }, type := 55, pos := "law.go:48", after := #[{ on := 12, ground := Ground.data }, { on := 13, ground := Ground.data }, { on := 11, ground := Ground.chain }, { on := 8, ground := Ground.guard }], guard := some (8, false) }) rfl (fun K hK => ?_) AllReadyH.nil
            go_simp
            refine (rfloor_any _ (HE7.out.new hn0) (HK7.out.new hn0) HL1.out HL2.out last).mono ?_
            rintro e wa1 ⟨rfl, hv1⟩
            have hn1 := New.trans (hn0) hv1
            refine hK.out _ _ ?_ (fun hHeld => ?_)
            · exact Held.of hn1
            clear hK K
            try simp only [Act.put, List.setIfInBounds_toArray, List.set_cons_zero, List.set_cons_succ]
            refine wpAnyH_take (i := 15) (oi := { dst := some 78, op := Op.binOp BinOp.neq 55 (Operand.tmp 74) (Operand.tmp 77) 55, type := 4, pos := "law.go:48", after := #[{ on := 11, ground := Ground.data }, { on := 14, ground := Ground.data }, { on := 8, ground := Ground.guard }], guard := some (8, false) }) (v := (.bool false)) rfl (by kernel_rfl) (by kernel_rfl) (by kernel_rfl) (fun _ _ _ h => h) (Or.inl ⟨by rfl, ?_⟩) (by assumption) ?_
            · (intro wq hSw; (try dsimp only at hSw); go_simp; first | done | (simp; done))
            try simp only [Act.put, List.setIfInBounds_toArray, List.set_cons_zero, List.set_cons_succ]
            refine wpAnyH_take (i := 16) (oi := { dst := some 79, op := Op.pick (Operand.tmp 71) (Operand.const (Value.bool true)) (Operand.tmp 78), type := 4, pos := "law.go:48", after := #[{ on := 8, ground := Ground.data }, { on := 15, ground := Ground.data }], guard := none }) (v := ?_) rfl (by kernel_rfl) (by kernel_rfl) (by kernel_rfl) (fun _ _ _ h => h) (Or.inl ⟨by rfl, ?_⟩) (by assumption) ?_
            rotate_left
            · (intro wq hSw; (try dsimp only at hSw); go_simp; first | done | with_reducible rfl)
            try simp only [Act.put, List.setIfInBounds_toArray, List.set_cons_zero, List.set_cons_succ]
            refine wpAnyH_take (i := 17) (oi := { dst := some 80, op := Op.move (Operand.tmp 79), type := 4, pos := "law.go:48", after := #[{ on := 16, ground := Ground.data }, { on := 14, ground := Ground.chain }], guard := none }) (v := ?_) rfl (by kernel_rfl) (by kernel_rfl) (by kernel_rfl) (fun _ _ _ h => h) (Or.inl ⟨by rfl, ?_⟩) (by assumption) ?_
            rotate_left
            · (intro wq hSw; (try dsimp only at hSw); go_simp; first | done | with_reducible rfl)
            try simp only [Act.put, List.setIfInBounds_toArray, List.set_cons_zero, List.set_cons_succ]
            refine wpAnyH_take (i := 18) (oi := { dst := some 81, op := Op.move (Operand.tmp 5), type := 56, pos := "law.go:48", after := #[{ on := 17, ground := Ground.guard }], guard := some (17, false) }) (v := ?_) rfl (by kernel_rfl) (by kernel_rfl) (by kernel_rfl) (fun _ _ _ h => h) (Or.inl ⟨by rfl, ?_⟩) (by assumption) ?_
            rotate_left
            · (intro wq hSw; (try dsimp only at hSw); go_simp; first | done | with_reducible rfl)
            try simp only [Act.put, List.setIfInBounds_toArray, List.set_cons_zero, List.set_cons_succ]
            refine wpAnyH_take (i := 20) (oi := { dst := some 83, op := Op.fieldAddr 70 (Operand.tmp 6) 0, type := 0, pos := "law.go:48", after := #[{ on := 17, ground := Ground.guard }], guard := some (17, false) }) (v := ?_) rfl (by kernel_rfl) (by kernel_rfl) (by kernel_rfl) (fun _ _ _ h => h) (Or.inl ⟨by rfl, ?_⟩) (by assumption) ?_
            rotate_left
            · (intro wq hSw; (try dsimp only at hSw); go_simp; first | done | with_reducible rfl)
            try simp only [Act.put, List.setIfInBounds_toArray, List.set_cons_zero, List.set_cons_succ]
            refine wpAnyH_take (i := 21) (oi := { dst := some 84, op := Op.load 63 (Operand.tmp 83), type := 63, pos := "law.go:48", after := #[{ on := 20, ground := Ground.data }, { on := 17, ground := Ground.guard }], guard := some (17, false) }) (v := ?_) rfl (by kernel_rfl) (by kernel_rfl) (by kernel_rfl) (fun _ _ _ h => h) (Or.inl ⟨by rfl, ?_⟩) (by assumption) ?_
            rotate_left
            · (intro wq hSw; (try dsimp only at hSw); go_simp; first | done | with_reducible rfl)
            try simp only [Act.put, List.setIfInBounds_toArray, List.set_cons_zero, List.set_cons_succ]
            refine wpAnyH_ready (rs := [19]) (by kernel_rfl) (by simp) ?_
            refine AllReadyH.cons (o := { dst := some 82, op := Op.call { callee := Callee.value (Operand.func 27), args := #[Operand.tmp 81], argTypes := #[56] }, type := 63, pos := "law.go:48", after := #[{ on := 18, ground := Ground.data }, { on := 17, ground := Ground.chain }, { on := 17, ground := Ground.guard }], guard := some (17, false) }) rfl (fun K hK => ?_) AllReadyH.nil
            go_simp
            refine (listS _ (HP7.out.new hn1)).mono ?_
            rintro e wa2 ⟨ul, rfl, hsl2, -, hv2⟩
            have hn2 := New.trans (hn1) hv2
            refine hK.out _ _ ?_ (fun hHeld => ?_)
            · exact Held.of hn2
            clear hK K
            try simp only [Act.put, List.setIfInBounds_toArray, List.set_cons_zero, List.set_cons_succ]
            refine wpAnyH_ready (rs := [22]) (by kernel_rfl) (by simp) ?_
            refine AllReadyH.cons (o := { dst := some 85, op := Op.call { callee := Callee.value (Operand.func 30), args := #[Operand.tmp 82, Operand.tmp 84], argTypes := #[63, 63] }, type := 4, pos := "law.go:48", after := #[{ on := 19, ground := Ground.data }, { on := 21, ground := Ground.data }, { on := 19, ground := Ground.chain }, { on := 17, ground := Ground.guard }], guard := some (17, false) }) rfl (fun K hK => ?_) AllReadyH.nil
            go_simp
            refine (psame_eq _ hsl2 (HE7.out.new hn2) HL3.out).mono ?_
            rintro e wa3 ⟨rfl, hv3⟩
            have hn3 := New.trans (hn2) hv3
            refine hK.out _ _ ?_ (fun hHeld => ?_)
            · exact Held.of hn3
            clear hK K
            try simp only [Act.put, List.setIfInBounds_toArray, List.set_cons_zero, List.set_cons_succ]
            refine wpAnyH_take (i := 23) (oi := { dst := some 86, op := Op.unOp UnOp.not 4 (Operand.tmp 85), type := 4, pos := "law.go:48", after := #[{ on := 22, ground := Ground.data }, { on := 17, ground := Ground.guard }], guard := some (17, false) }) (v := ?_) rfl (by kernel_rfl) (by kernel_rfl) (by kernel_rfl) (fun _ _ _ h => h) (Or.inl ⟨by rfl, ?_⟩) (by assumption) ?_
            rotate_left
            · (intro wq hSw; (try dsimp only at hSw); go_simp; first | done | with_reducible rfl)
            try simp only [Act.put, List.setIfInBounds_toArray, List.set_cons_zero, List.set_cons_succ]
            refine wpAnyH_take (i := 24) (oi := { dst := some 87, op := Op.pick (Operand.tmp 80) (Operand.const (Value.bool true)) (Operand.tmp 86), type := 4, pos := "law.go:48", after := #[{ on := 17, ground := Ground.data }, { on := 23, ground := Ground.data }], guard := none }) (v := ?_) rfl (by kernel_rfl) (by kernel_rfl) (by kernel_rfl) (fun _ _ _ h => h) (Or.inl ⟨by rfl, ?_⟩) (by assumption) ?_
            rotate_left
            · (intro wq hSw; (try dsimp only at hSw); go_simp; first | done | with_reducible rfl)
            try simp only [Act.put, List.setIfInBounds_toArray, List.set_cons_zero, List.set_cons_succ]
            refine wpAnyH_done (by kernel_rfl) ?_ _
            clear hHeld
            go_wp2_with fail
            go_meet
            exact ⟨rfl, hn3⟩
          case rest =>
            obtain ⟨rfl, hN13⟩ := hcut
            have hR8 : PlRel w wc p nm lm g (.slice B1 E7.length d1) (.slice B2 K7.length d2) E7 K7 := ⟨HN7.out.trans hN13, HP7.out.new hN13, HB7.out.new hN13, HE7.out.new hN13, HK7.out.new hN13⟩
            have HR8 := Lib.hid hR8
            clear g0 g1 gz hgl
            obtain ⟨hgl, g0, g1, gz⟩ := Blk2P hR8.b
            obtain ⟨e0, e1, e2, e3, e4⟩ := HCE.out _ hR8.n
            have hbl8 := Nat.lt_of_lt_of_le HBW.out hR8.n.size
            obtain ⟨wo, hwo⟩ : ∃ wo, wo = wr := ⟨_, rfl⟩
            clear hwo hR8 hN13
            go_wp2_with fail
            refine (findS wc HR8.out.s x.name HGX.out.n).mono ?_
            rintro e w9 ⟨rfl, hw9⟩
            subst w9
            obtain ⟨A9, c9, hv9, hcp9, hor9⟩ := _root_.id HR8.out.e
            obtain ⟨rfl, -, rfl⟩ := Value.slice.inj hv9
            clear hv9
            have hsrt := HR8.out.s.e.srt
            have hE16 := HR8.out.s.e.len
            cases hlk : lookE E7 x.name with
            | none =>
              have hno := lookE_none.1 hlk
              have hde : dropErr E7 x.name = 180 := by unfold dropErr; rw [hlk]; rfl
              rw [hde]
              dsimp only [Option.getD]
              have HNO := Lib.hid hno
              clear hlk hno hde hsrt
              go_wp2_with fail
              go_loopw [15, 16] (fun h i wr => ∃ q : Nat, q ≤ E7.length ∧ i = .int .i64 q ∧ h = .bool false ∧ New wc wr) (fun _ i _ => E7.length - (intOf i).toNat)
              case atStart => exact ⟨0, by omega, rfl, rfl, New.refl _⟩
              case round =>
                obtain ⟨q, hq, rfl, rfl, hnq⟩ := hrel
                have hRq := HR8.out.new hnq
                clear g0 g1 gz hgl e0 e1 e2 e3 e4
                obtain ⟨hgl, g0, g1, gz⟩ := Blk2P hRq.b
                obtain ⟨e0, e1, e2, e3, e4⟩ := HCE.out _ hRq.n
                have hblq := Nat.lt_of_lt_of_le HBW.out hRq.n.size
                by_cases hql : q < E7.length
                · have hql' : (q : Int) < (E7.length : Int) := by omega
                  have hq0 : (0 : Int) ≤ (q : Int) := by omega
                  rcases hor9 with hor9 | ⟨b9, off9, rfl, hb9, hc9⟩
                  · rw [hor9] at hql; simp at hql
                  obtain ⟨y, hy⟩ : ∃ y, E7[q]? = some y := ⟨_, List.getElem?_eq_getElem hql⟩
                  obtain ⟨f0, f1⟩ := pn2 (w := wr) (fun k x h j u hu => (hnq.cells.1 _ _ hb9).trans (hc9 k x h j u hu)) hy
                  have hb9l := Nat.lt_of_lt_of_le hb9 hnq.size
                  have hbe := beq_ne (HNO.out y (List.mem_of_getElem? hy))
                  have HNQ := Lib.hid hnq
                  clear hc9 hy hRq hnq
                  go_wp2_with fail
                  go_quiet (fail)
                  go_wp2_with fail
                  go_roundw
                  case rel => exact ⟨q + 1, by omega, by go_num, rfl, HNQ.out.drewN _⟩
                  case measure => simp [intOf]; omega
                · have hql' : ¬ (q : Int) < (E7.length : Int) := by omega
                  have HRQ := Lib.hid hRq
                  clear hnq hRq
                  go_wp2_with fail
                  go_roundw
                  case rel => exact ⟨k + 1, by omega, by omega, by first | rfl | go_num, _, _, _, _, HRQ.out⟩
                  case measure => simp [intOf]; omega
            | some n =>
              have hmm := lookE_mem hlk
              have hde : dropErr E7 x.name = 0 := by unfold dropErr; rw [hlk]; rfl
              rw [hde]
              dsimp only [Option.getD]
              have HUQ := Lib.hid (show ∀ y ∈ E7, y.s = x.name → y.n = n from fun y hy hs => by
                have h1 := lookE_of hsrt hy
                rw [hs, hlk] at h1
                injection h1 with h1
                exact h1.symm)
              have HMM := Lib.hid hmm
              clear hlk hmm hde hsrt
              go_wp2_with fail
              go_loopw [15, 16] (fun h i wr => ∃ q : Nat, q ≤ E7.length ∧ i = .int .i64 q ∧ h = .bool ((E7.take q).any fun y => decide (y.s = x.name)) ∧ New wc wr) (fun _ i _ => E7.length - (intOf i).toNat)
              case atStart => exact ⟨0, by omega, rfl, rfl, New.refl _⟩
              case round =>
                obtain ⟨q, hq, rfl, rfl, hnq⟩ := hrel
                have hRq := HR8.out.new hnq
                clear g0 g1 gz hgl e0 e1 e2 e3 e4
                obtain ⟨hgl, g0, g1, gz⟩ := Blk2P hRq.b
                obtain ⟨e0, e1, e2, e3, e4⟩ := HCE.out _ hRq.n
                have hblq := Nat.lt_of_lt_of_le HBW.out hRq.n.size
                by_cases hql : q < E7.length
                · have hql' : (q : Int) < (E7.length : Int) := by omega
                  have hq0 : (0 : Int) ≤ (q : Int) := by omega
                  rcases hor9 with hor9 | ⟨b9, off9, rfl, hb9, hc9⟩
                  · rw [hor9] at hql; simp at hql
                  obtain ⟨y, hy⟩ : ∃ y, E7[q]? = some y := ⟨_, List.getElem?_eq_getElem hql⟩
                  obtain ⟨f0, f1⟩ := pn2 (w := wr) (fun k x h j u hu => (hnq.cells.1 _ _ hb9).trans (hc9 k x h j u hu)) hy
                  have hb9l := Nat.lt_of_lt_of_le hb9 hnq.size
                  have HAN := Lib.hid (show ((E7.take (q + 1)).any fun y => decide (y.s = x.name)) = (((E7.take q).any fun y => decide (y.s = x.name)) || decide (y.s = x.name)) by
                    rw [List.take_add_one, hy, List.any_append]; simp)
                  have HNQ := Lib.hid hnq
                  generalize ((E7.take q).any fun y => decide (y.s = x.name)) = hs at HAN ⊢
                  by_cases hyn : y.s = x.name
                  · have hbe : (y.s.toList == x.name.toList) = true := by rw [hyn]; simp
                    have hnn := HUQ.out y (List.mem_of_getElem? hy) hyn
                    subst hnn
                    rw [decide_eq_true hyn, Bool.or_true] at HAN
                    clear hc9 hy hRq hnq hyn
                    go_wp2_with fail
                    go_quiet (fail)
                    go_wp2_with fail
                    go_roundw
                    case rel => exact ⟨q + 1, by omega, by go_num, by rw [HAN.out], HNQ.out.drewN _⟩
                    case measure => simp [intOf]; omega
                  · have hbe := beq_ne hyn
                    rw [decide_eq_false hyn, Bool.or_false] at HAN
                    clear hc9 hy hRq hnq hyn
                    go_wp2_with fail
                    go_quiet (fail)
                    go_wp2_with fail
                    go_roundw
                    case rel => exact ⟨q + 1, by omega, by go_num, by rw [HAN.out], HNQ.out.drewN _⟩
                    case measure => simp [intOf]; omega
                · have hql' : ¬ (q : Int) < (E7.length : Int) := by omega
                  obtain rfl : q = E7.length := by omega
                  have han : ((E7.take E7.length).any fun y => decide (y.s = x.name)) = true := by
                    rw [List.take_length, List.any_eq_true]
                    exact ⟨_, HMM.out, by simp⟩
                  rw [han]
                  have HRQ := Lib.hid hRq
                  clear hnq hRq han
                  go_wp2_with fail
                  go_roundw
                  case rel => exact ⟨k + 1, by omega, by omega, by first | rfl | go_num, _, _, _, _, HRQ.out⟩
                  case measure => simp [intOf]; omega
    · have hcase : ¬ (k : Int) < (acts.length : Int) ∨ ((k : Int) < (acts.length : Int) ∧ ¬ (k : Int) < 60) := by omega
      have HRF := Lib.hid hR
      clear hend hR
      rcases hcase with hlt' | ⟨hlt', hlt8'⟩
      · go_upto_region 26 with fail
        refine wp_region_held_drew (S := fun w' => Held wr w') (by kernel_rfl) (Held.of (New.refl _).drew) (fun hHeld => ?_)
        refine wpAnyH_take (i := 0) (oi := { dst := some 139, op := Op.move (Operand.tmp 5), type := 56, pos := "law.go:65", after := #[], guard := none }) (v := ?_) rfl (by kernel_rfl) (by kernel_rfl) (by kernel_rfl) (fun _ _ _ h => h) (Or.inl ⟨by rfl, ?_⟩) (by assumption) ?_
        rotate_left
        · (intro wq hSw; (try dsimp only at hSw); go_simp; first | done | with_reducible rfl)
        try simp only [Act.put, List.setIfInBounds_toArray, List.set_cons_zero, List.set_cons_succ]
        refine wpAnyH_take (i := 3) (oi := { dst := some 142, op := Op.fieldAddr 70 (Operand.tmp 6) 0, type := 0, pos := "law.go:65", after := #[], guard := none }) (v := ?_) rfl (by kernel_rfl) (by kernel_rfl) (by kernel_rfl) (fun _ _ _ h => h) (Or.inl ⟨by rfl, ?_⟩) (by assumption) ?_
        rotate_left
        · (intro wq hSw; (try dsimp only at hSw); go_simp; first | done | with_reducible rfl)
        try simp only [Act.put, List.setIfInBounds_toArray, List.set_cons_zero, List.set_cons_succ]
        refine wpAnyH_take (i := 4) (oi := { dst := some 143, op := Op.load 63 (Operand.tmp 142), type := 63, pos := "law.go:65", after := #[{ on := 3, ground := Ground.data }], guard := none }) (v := ?_) rfl (by kernel_rfl) (by kernel_rfl) (by kernel_rfl) (fun _ _ _ h => h) (Or.inl ⟨by rfl, ?_⟩) (by assumption) ?_
        rotate_left
        · (intro wq hSw; (try dsimp only at hSw); go_simp; first | done | with_reducible rfl)
        try simp only [Act.put, List.setIfInBounds_toArray, List.set_cons_zero, List.set_cons_succ]
        refine wpAnyH_ready (rs := [1]) (by kernel_rfl) (by simp) ?_
        refine AllReadyH.cons (o := { dst := some 140, op := Op.call { callee := Callee.value (Operand.func 32), args := #[Operand.tmp 139], argTypes := #[56] }, type := 77, pos := "law.go:65", after := #[{ on := 0, ground := Ground.data }], guard := none }) rfl (fun K hK => ?_) AllReadyH.nil
        go_simp
        refine (bytesS _ (HRF.out.s.new (New.refl wr).drew)).mono ?_
        rintro e wa0 ⟨ub, rfl, ho0, hv0⟩
        have hn0 := New.trans ((New.refl wr).drew) hv0
        refine hK.out _ _ ?_ (fun hHeld => ?_)
        · exact Held.of hn0
        clear hK K
        try simp only [Act.put, List.setIfInBounds_toArray, List.set_cons_zero, List.set_cons_succ]
        refine wpAnyH_ready (rs := [2, 5]) (by kernel_rfl) (by simp) ?_
        refine AllReadyH.cons (o := { dst := some 141, op := Op.convert 77 9 (Operand.tmp 140), type := 9, pos := "law.go:65", after := #[{ on := 1, ground := Ground.data }], guard := none }) rfl (fun K hK => ?_) (AllReadyH.cons (o := { dst := some 144, op := Op.call { callee := Callee.value (Operand.func 33), args := #[Operand.tmp 143], argTypes := #[63] }, type := 9, pos := "law.go:65", after := #[{ on := 4, ground := Ground.data }, { on := 1, ground := Ground.chain }], guard := none }) rfl (fun K hK => ?_) AllReadyH.nil)
        · have hcv := run_str wa0 (Owns.slIn bEncOk ho0)
          go_simp
          refine hK.out _ _ ?_ (fun hHeld => ?_)
          · exact Held.of (hn0)
          clear hK K
          try simp only [Act.put, List.setIfInBounds_toArray, List.set_cons_zero, List.set_cons_succ]
          refine wpAnyH_ready (rs := [5]) (by kernel_rfl) (by simp) ?_
          refine AllReadyH.cons (o := { dst := some 144, op := Op.call { callee := Callee.value (Operand.func 33), args := #[Operand.tmp 143], argTypes := #[63] }, type := 9, pos := "law.go:65", after := #[{ on := 4, ground := Ground.data }, { on := 1, ground := Ground.chain }], guard := none }) rfl (fun K hK => ?_) AllReadyH.nil
          go_simp
          refine (rbytes_any _ (HRF.out.e.new hn0) HRF.out.s.e).mono ?_
          rintro e wa1 ⟨rfl, hv1⟩
          have hn1 := New.trans (hn0) hv1
          refine hK.out _ _ ?_ (fun hHeld => ?_)
          · exact Held.of hn1
          clear hK K
          try simp only [Act.put, List.setIfInBounds_toArray, List.set_cons_zero, List.set_cons_succ]
          refine wpAnyH_take (i := 6) (oi := { dst := some 145, op := Op.binOp BinOp.eql 9 (Operand.tmp 141) (Operand.tmp 144) 9, type := 4, pos := "law.go:65", after := #[{ on := 2, ground := Ground.data }, { on := 5, ground := Ground.data }], guard := none }) (v := ?_) rfl (by kernel_rfl) (by kernel_rfl) (by kernel_rfl) (fun _ _ _ h => h) (Or.inl ⟨by rfl, ?_⟩) (by assumption) ?_
          rotate_left
          · (intro wq hSw; (try dsimp only at hSw); go_simp; first | done | with_reducible rfl)
          try simp only [Act.put, List.setIfInBounds_toArray, List.set_cons_zero, List.set_cons_succ]
          refine wpAnyH_take (i := 7) (oi := { dst := some 4, op := Op.assign (Operand.tmp 145), type := 4, pos := "law.go:65", after := #[{ on := 6, ground := Ground.data }, { on := 5, ground := Ground.chain }, { on := 0, ground := Ground.phase }, { on := 1, ground := Ground.phase }, { on := 2, ground := Ground.phase }, { on := 3, ground := Ground.phase }, { on := 4, ground := Ground.phase }, { on := 5, ground := Ground.phase }, { on := 6, ground := Ground.phase }], guard := none }) (v := ?_) rfl (by kernel_rfl) (by kernel_rfl) (by kernel_rfl) (fun _ _ _ h => h) (Or.inl ⟨by rfl, ?_⟩) (by assumption) ?_
          rotate_left
          · (intro wq hSw; (try dsimp only at hSw); go_simp; first | done | with_reducible rfl)
          try simp only [Act.put, List.setIfInBounds_toArray, List.set_cons_zero, List.set_cons_succ]
          refine wpAnyH_done (by kernel_rfl) ?_ _
          clear hHeld
          go_wp2_with fail
          go_ret
          exact ⟨by simp, HRF.out.n.trans hn1⟩
        · go_simp
          refine (rbytes_any _ (HRF.out.e.new hn0) HRF.out.s.e).mono ?_
          rintro e wa1 ⟨rfl, hv1⟩
          have hn1 := New.trans (hn0) hv1
          refine hK.out _ _ ?_ (fun hHeld => ?_)
          · exact Held.of hn1
          clear hK K
          try simp only [Act.put, List.setIfInBounds_toArray, List.set_cons_zero, List.set_cons_succ]
          refine wpAnyH_ready (rs := [2]) (by kernel_rfl) (by simp) ?_
          refine AllReadyH.cons (o := { dst := some 141, op := Op.convert 77 9 (Operand.tmp 140), type := 9, pos := "law.go:65", after := #[{ on := 1, ground := Ground.data }], guard := none }) rfl (fun K hK => ?_) AllReadyH.nil
          have hcv := run_str wa1 (SlIn.new (Owns.slIn bEncOk ho0) hv1)
          go_simp
          refine hK.out _ _ ?_ (fun hHeld => ?_)
          · exact Held.of (hn1)
          clear hK K
          try simp only [Act.put, List.setIfInBounds_toArray, List.set_cons_zero, List.set_cons_succ]
          refine wpAnyH_take (i := 6) (oi := { dst := some 145, op := Op.binOp BinOp.eql 9 (Operand.tmp 141) (Operand.tmp 144) 9, type := 4, pos := "law.go:65", after := #[{ on := 2, ground := Ground.data }, { on := 5, ground := Ground.data }], guard := none }) (v := ?_) rfl (by kernel_rfl) (by kernel_rfl) (by kernel_rfl) (fun _ _ _ h => h) (Or.inl ⟨by rfl, ?_⟩) (by assumption) ?_
          rotate_left
          · (intro wq hSw; (try dsimp only at hSw); go_simp; first | done | with_reducible rfl)
          try simp only [Act.put, List.setIfInBounds_toArray, List.set_cons_zero, List.set_cons_succ]
          refine wpAnyH_take (i := 7) (oi := { dst := some 4, op := Op.assign (Operand.tmp 145), type := 4, pos := "law.go:65", after := #[{ on := 6, ground := Ground.data }, { on := 5, ground := Ground.chain }, { on := 0, ground := Ground.phase }, { on := 1, ground := Ground.phase }, { on := 2, ground := Ground.phase }, { on := 3, ground := Ground.phase }, { on := 4, ground := Ground.phase }, { on := 5, ground := Ground.phase }, { on := 6, ground := Ground.phase }], guard := none }) (v := ?_) rfl (by kernel_rfl) (by kernel_rfl) (by kernel_rfl) (fun _ _ _ h => h) (Or.inl ⟨by rfl, ?_⟩) (by assumption) ?_
          rotate_left
          · (intro wq hSw; (try dsimp only at hSw); go_simp; first | done | with_reducible rfl)
          try simp only [Act.put, List.setIfInBounds_toArray, List.set_cons_zero, List.set_cons_succ]
          refine wpAnyH_done (by kernel_rfl) ?_ _
          clear hHeld
          go_wp2_with fail
          go_ret
          exact ⟨by simp, HRF.out.n.trans hn1⟩
      · go_upto_region 26 with fail
        refine wp_region_held_drew (S := fun w' => Held wr w') (by kernel_rfl) (Held.of (New.refl _).drew) (fun hHeld => ?_)
        refine wpAnyH_take (i := 0) (oi := { dst := some 139, op := Op.move (Operand.tmp 5), type := 56, pos := "law.go:65", after := #[], guard := none }) (v := ?_) rfl (by kernel_rfl) (by kernel_rfl) (by kernel_rfl) (fun _ _ _ h => h) (Or.inl ⟨by rfl, ?_⟩) (by assumption) ?_
        rotate_left
        · (intro wq hSw; (try dsimp only at hSw); go_simp; first | done | with_reducible rfl)
        try simp only [Act.put, List.setIfInBounds_toArray, List.set_cons_zero, List.set_cons_succ]
        refine wpAnyH_take (i := 3) (oi := { dst := some 142, op := Op.fieldAddr 70 (Operand.tmp 6) 0, type := 0, pos := "law.go:65", after := #[], guard := none }) (v := ?_) rfl (by kernel_rfl) (by kernel_rfl) (by kernel_rfl) (fun _ _ _ h => h) (Or.inl ⟨by rfl, ?_⟩) (by assumption) ?_
        rotate_left
        · (intro wq hSw; (try dsimp only at hSw); go_simp; first | done | with_reducible rfl)
        try simp only [Act.put, List.setIfInBounds_toArray, List.set_cons_zero, List.set_cons_succ]
        refine wpAnyH_take (i := 4) (oi := { dst := some 143, op := Op.load 63 (Operand.tmp 142), type := 63, pos := "law.go:65", after := #[{ on := 3, ground := Ground.data }], guard := none }) (v := ?_) rfl (by kernel_rfl) (by kernel_rfl) (by kernel_rfl) (fun _ _ _ h => h) (Or.inl ⟨by rfl, ?_⟩) (by assumption) ?_
        rotate_left
        · (intro wq hSw; (try dsimp only at hSw); go_simp; first | done | with_reducible rfl)
        try simp only [Act.put, List.setIfInBounds_toArray, List.set_cons_zero, List.set_cons_succ]
        refine wpAnyH_ready (rs := [1]) (by kernel_rfl) (by simp) ?_
        refine AllReadyH.cons (o := { dst := some 140, op := Op.call { callee := Callee.value (Operand.func 32), args := #[Operand.tmp 139], argTypes := #[56] }, type := 77, pos := "law.go:65", after := #[{ on := 0, ground := Ground.data }], guard := none }) rfl (fun K hK => ?_) AllReadyH.nil
        go_simp
        refine (bytesS _ (HRF.out.s.new (New.refl wr).drew)).mono ?_
        rintro e wa0 ⟨ub, rfl, ho0, hv0⟩
        have hn0 := New.trans ((New.refl wr).drew) hv0
        refine hK.out _ _ ?_ (fun hHeld => ?_)
        · exact Held.of hn0
        clear hK K
        try simp only [Act.put, List.setIfInBounds_toArray, List.set_cons_zero, List.set_cons_succ]
        refine wpAnyH_ready (rs := [2, 5]) (by kernel_rfl) (by simp) ?_
        refine AllReadyH.cons (o := { dst := some 141, op := Op.convert 77 9 (Operand.tmp 140), type := 9, pos := "law.go:65", after := #[{ on := 1, ground := Ground.data }], guard := none }) rfl (fun K hK => ?_) (AllReadyH.cons (o := { dst := some 144, op := Op.call { callee := Callee.value (Operand.func 33), args := #[Operand.tmp 143], argTypes := #[63] }, type := 9, pos := "law.go:65", after := #[{ on := 4, ground := Ground.data }, { on := 1, ground := Ground.chain }], guard := none }) rfl (fun K hK => ?_) AllReadyH.nil)
        · have hcv := run_str wa0 (Owns.slIn bEncOk ho0)
          go_simp
          refine hK.out _ _ ?_ (fun hHeld => ?_)
          · exact Held.of (hn0)
          clear hK K
          try simp only [Act.put, List.setIfInBounds_toArray, List.set_cons_zero, List.set_cons_succ]
          refine wpAnyH_ready (rs := [5]) (by kernel_rfl) (by simp) ?_
          refine AllReadyH.cons (o := { dst := some 144, op := Op.call { callee := Callee.value (Operand.func 33), args := #[Operand.tmp 143], argTypes := #[63] }, type := 9, pos := "law.go:65", after := #[{ on := 4, ground := Ground.data }, { on := 1, ground := Ground.chain }], guard := none }) rfl (fun K hK => ?_) AllReadyH.nil
          go_simp
          refine (rbytes_any _ (HRF.out.e.new hn0) HRF.out.s.e).mono ?_
          rintro e wa1 ⟨rfl, hv1⟩
          have hn1 := New.trans (hn0) hv1
          refine hK.out _ _ ?_ (fun hHeld => ?_)
          · exact Held.of hn1
          clear hK K
          try simp only [Act.put, List.setIfInBounds_toArray, List.set_cons_zero, List.set_cons_succ]
          refine wpAnyH_take (i := 6) (oi := { dst := some 145, op := Op.binOp BinOp.eql 9 (Operand.tmp 141) (Operand.tmp 144) 9, type := 4, pos := "law.go:65", after := #[{ on := 2, ground := Ground.data }, { on := 5, ground := Ground.data }], guard := none }) (v := ?_) rfl (by kernel_rfl) (by kernel_rfl) (by kernel_rfl) (fun _ _ _ h => h) (Or.inl ⟨by rfl, ?_⟩) (by assumption) ?_
          rotate_left
          · (intro wq hSw; (try dsimp only at hSw); go_simp; first | done | with_reducible rfl)
          try simp only [Act.put, List.setIfInBounds_toArray, List.set_cons_zero, List.set_cons_succ]
          refine wpAnyH_take (i := 7) (oi := { dst := some 4, op := Op.assign (Operand.tmp 145), type := 4, pos := "law.go:65", after := #[{ on := 6, ground := Ground.data }, { on := 5, ground := Ground.chain }, { on := 0, ground := Ground.phase }, { on := 1, ground := Ground.phase }, { on := 2, ground := Ground.phase }, { on := 3, ground := Ground.phase }, { on := 4, ground := Ground.phase }, { on := 5, ground := Ground.phase }, { on := 6, ground := Ground.phase }], guard := none }) (v := ?_) rfl (by kernel_rfl) (by kernel_rfl) (by kernel_rfl) (fun _ _ _ h => h) (Or.inl ⟨by rfl, ?_⟩) (by assumption) ?_
          rotate_left
          · (intro wq hSw; (try dsimp only at hSw); go_simp; first | done | with_reducible rfl)
          try simp only [Act.put, List.setIfInBounds_toArray, List.set_cons_zero, List.set_cons_succ]
          refine wpAnyH_done (by kernel_rfl) ?_ _
          clear hHeld
          go_wp2_with fail
          go_ret
          exact ⟨by simp, HRF.out.n.trans hn1⟩
        · go_simp
          refine (rbytes_any _ (HRF.out.e.new hn0) HRF.out.s.e).mono ?_
          rintro e wa1 ⟨rfl, hv1⟩
          have hn1 := New.trans (hn0) hv1
          refine hK.out _ _ ?_ (fun hHeld => ?_)
          · exact Held.of hn1
          clear hK K
          try simp only [Act.put, List.setIfInBounds_toArray, List.set_cons_zero, List.set_cons_succ]
          refine wpAnyH_ready (rs := [2]) (by kernel_rfl) (by simp) ?_
          refine AllReadyH.cons (o := { dst := some 141, op := Op.convert 77 9 (Operand.tmp 140), type := 9, pos := "law.go:65", after := #[{ on := 1, ground := Ground.data }], guard := none }) rfl (fun K hK => ?_) AllReadyH.nil
          have hcv := run_str wa1 (SlIn.new (Owns.slIn bEncOk ho0) hv1)
          go_simp
          refine hK.out _ _ ?_ (fun hHeld => ?_)
          · exact Held.of (hn1)
          clear hK K
          try simp only [Act.put, List.setIfInBounds_toArray, List.set_cons_zero, List.set_cons_succ]
          refine wpAnyH_take (i := 6) (oi := { dst := some 145, op := Op.binOp BinOp.eql 9 (Operand.tmp 141) (Operand.tmp 144) 9, type := 4, pos := "law.go:65", after := #[{ on := 2, ground := Ground.data }, { on := 5, ground := Ground.data }], guard := none }) (v := ?_) rfl (by kernel_rfl) (by kernel_rfl) (by kernel_rfl) (fun _ _ _ h => h) (Or.inl ⟨by rfl, ?_⟩) (by assumption) ?_
          rotate_left
          · (intro wq hSw; (try dsimp only at hSw); go_simp; first | done | with_reducible rfl)
          try simp only [Act.put, List.setIfInBounds_toArray, List.set_cons_zero, List.set_cons_succ]
          refine wpAnyH_take (i := 7) (oi := { dst := some 4, op := Op.assign (Operand.tmp 145), type := 4, pos := "law.go:65", after := #[{ on := 6, ground := Ground.data }, { on := 5, ground := Ground.chain }, { on := 0, ground := Ground.phase }, { on := 1, ground := Ground.phase }, { on := 2, ground := Ground.phase }, { on := 3, ground := Ground.phase }, { on := 4, ground := Ground.phase }, { on := 5, ground := Ground.phase }, { on := 6, ground := Ground.phase }], guard := none }) (v := ?_) rfl (by kernel_rfl) (by kernel_rfl) (by kernel_rfl) (fun _ _ _ h => h) (Or.inl ⟨by rfl, ?_⟩) (by assumption) ?_
          rotate_left
          · (intro wq hSw; (try dsimp only at hSw); go_simp; first | done | with_reducible rfl)
          try simp only [Act.put, List.setIfInBounds_toArray, List.set_cons_zero, List.set_cons_succ]
          refine wpAnyH_done (by kernel_rfl) ?_ _
          clear hHeld
          go_wp2_with fail
          go_ret
          exact ⟨by simp, HRF.out.n.trans hn1⟩
end Go.Proofs.Ytcganajbfplmpaa
