/- Chapter 23 (config): what a command makes of a configuration: the program's step. Printed by genCfg.py. -/
import Derived.Test.YtinpbjknakncdaaDoorCfgI
namespace Go.Proofs.YtinpbjknakncdaaDoor
open Go.RowKit Go.Lap
set_option linter.unusedVariables false

/-- A configuration. -/
def OnePost (w : World) (c : Cfg) (e : Ending) (w' : World) : Prop := ∃ u, e = .returned (.agg #[.int .u64 (c.e : Int), u]) ∧ SlIn w' 1 iEnc u c.ms ∧ New w w'
theorem cmdP_words {e : Nat} {cmd a b c : List UInt8} (hw : wordsL cmd = [a, b, c]) : cmdP e cmd = (if a = joinL ∨ a = removeL then (match Lib.parseUintB 64 b, Lib.atoiAll c with
      | .ok u, .ok v => if u = e ∧ showL (decide (a = joinL)) u (max v 0).toNat = cmd then some (decide (a = joinL), v) else none
      | _, _ => none) else none) := by unfold cmdP; rw [hw]; rfl
theorem three_ways (a : ByteArray) : a = ⟨#[106, 111, 105, 110]⟩ ∨ a = ⟨#[114, 101, 109, 111, 118, 101]⟩ ∨ (a ≠ ⟨#[106, 111, 105, 110]⟩ ∧ a ≠ ⟨#[114, 101, 109, 111, 118, 101]⟩) := by
  by_cases h : a = ⟨#[106, 111, 105, 110]⟩
  · exact .inl h
  · by_cases h2 : a = ⟨#[114, 101, 109, 111, 118, 101]⟩
    · exact .inr (.inl h2)
    · exact .inr (.inr ⟨h, h2⟩)
theorem cmdP_not {e : Nat} {cmd : List UInt8} (hw : (wordsL cmd).length ≠ 3) : cmdP e cmd = none := by
  unfold cmdP
  split
  · rename_i h; rw [h] at hw; simp at hw
  · rfl
theorem step_of_none {c : Cfg} {cmd : List UInt8} (h : cmdP c.e cmd = none) : stepC c cmd = c := by unfold stepC; rw [h]
theorem step_of_some {c : Cfg} {cmd : List UInt8} {j : Bool} {v : Int} (h : cmdP c.e cmd = some (j, v)) : stepC c cmd = actC c j v := by unfold stepC; rw [h]
theorem toList_data2 (s : ByteArray) : s.toList = s.data.toList := Lib.toList_data s
theorem ba_ext {a b : ByteArray} (h : a.data.toList = b.data.toList) : a = b := by
  cases a; cases b
  congr 1
  exact Array.toList_inj.1 h
theorem slIn_cfgSet {w : World} {g t : Nat} {a : Int} {s v x y : Value} {l : List Int} (h : SlIn w 1 iEnc v l) (hB : Blk w g t #[.int .u64 a, s]) (hs : ∀ z, s ≠ .int .i64 z) : SlIn ((w.setCell ⟨g, 0, none⟩ x).setCell ⟨g, 1, none⟩ y) 1 iEnc v l := by
  obtain ⟨A, c, rfl, hlc, hh⟩ := h
  refine ⟨A, c, rfl, hlc, ?_⟩
  rcases hh with h | ⟨b, off, rfl, hb, hc⟩
  · exact .inl h
  · refine .inr ⟨b, off, rfl, by simpa using hb, fun k z hz j u hu => ?_⟩
    have h1 := hc k z hz j u hu
    have hne : g ≠ b := by
      rintro rfl
      rw [hB.cell] at h1
      have hu2 : u = .int .i64 z := by
        cases j with
        | zero => exact (Option.some.inj hu).symm
        | succ j => simp [iEnc] at hu
      subst hu2
      generalize off + k * 1 + j = m at h1
      match m, h1 with
      | 0, h1 => cases h1
      | 1, h1 => exact hs z (Option.some.inj h1)
      | m + 2, h1 => simp at h1
    rw [World.cell?_setCell_far _ _ _ _ hne, World.cell?_setCell_far _ _ _ _ hne]
    exact h1
theorem slIn_cfgSet1 {w : World} {g t : Nat} {a : Int} {s v y : Value} {l : List Int} (h : SlIn w 1 iEnc v l) (hB : Blk w g t #[.int .u64 a, s]) (hs : ∀ z, s ≠ .int .i64 z) : SlIn (w.setCell ⟨g, 1, none⟩ y) 1 iEnc v l := by
  obtain ⟨A, c, rfl, hlc, hh⟩ := h
  refine ⟨A, c, rfl, hlc, ?_⟩
  rcases hh with h | ⟨b, off, rfl, hb, hc⟩
  · exact .inl h
  · refine .inr ⟨b, off, rfl, by simpa using hb, fun k z hz j u hu => ?_⟩
    have h1 := hc k z hz j u hu
    have hne : g ≠ b := by
      rintro rfl
      rw [hB.cell] at h1
      have hu2 : u = .int .i64 z := by
        cases j with
        | zero => exact (Option.some.inj hu).symm
        | succ j => simp [iEnc] at hu
      subst hu2
      generalize off + k * 1 + j = m at h1
      match m, h1 with
      | 0, h1 => cases h1
      | 1, h1 => exact hs z (Option.some.inj h1)
      | m + 2, h1 => simp at h1
    rw [World.cell?_setCell_far _ _ _ _ hne]
    exact h1
theorem act_true (c : Cfg) (n : Int) : actC c true n = applyC c (joinC c n) := rfl
theorem act_false (c : Cfg) (n : Int) : actC c false n = applyC c (remC c n) := rfl
theorem rem_e (c : Cfg) (n : Int) : (remC c n).1.e ≤ c.e + 1 := by
  unfold remC; split
  · simp
  · split
    · simp
    · split <;> simp
theorem join_e (c : Cfg) (n : Int) : (joinC c n).1.e ≤ c.e + 1 := by
  unfold joinC; split
  · simp
  · split
    · simp
    · split <;> simp
theorem rem_len (c : Cfg) (n : Int) : (remC c n).1.ms.length ≤ c.ms.length := by
  unfold remC; split
  · simp
  · split
    · simp
    · split
      · simp
      · exact List.length_eraseIdx_le ..
theorem join_len (c : Cfg) (n : Int) : (joinC c n).1.ms.length ≤ c.ms.length + 1 := by
  unfold joinC; split
  · simp
  · split
    · simp
    · split <;> simp

set_option maxRecDepth 100000 in
set_option maxHeartbeats 16000000 in
theorem step_any (ep : Nat) (v : Value) (ms : List Int) (cmd : ByteArray) (w : World) (hep : ep < 18446744073709551616) (hl : ms.length ≤ 1000000) (hs : SlIn w 1 iEnc v ms) (hcm : cmd.size < 4294967281) (henv : Env w) :
    Calls Tryd.prog 36 #[.agg #[.int .u64 (ep : Int), v], .string cmd] w (OnePost w (stepC ⟨ep, ms⟩ cmd.data.toList)) := by
  obtain ⟨A, m, cap, rfl⟩ := hs.shape
  obtain ⟨A', c', hv, hlc, -⟩ := id hs
  cases hv
  have HS0 := Lib.hid hs
  have hN := ((New.refl w).alloc (.cells #[.int .u64 (ep : Int), .slice A ms.length cap] 25)).alloc (.cells #[.int .u64 0, .slice none 0 0] 25)
  have hB := (Blk.mk_new w 25 #[.int .u64 (ep : Int), .slice A ms.length cap]).alloc (.cells #[.int .u64 0, .slice none 0 0] 25)
  have hR := Blk.mk_new (w.alloc (.cells #[.int .u64 (ep : Int), .slice A ms.length cap] 25)) 25 #[.int .u64 0, .slice none 0 0]
  rw [World.size_alloc] at hR
  have HE0 := Lib.hid henv
  have hsplit := split_any cmd
  clear hs henv
  go_enter Tryd.func36, Tryd.ntmps36
  go_upto_region 1 with fail
  generalize (w.alloc _).alloc _ = w1 at *
  obtain ⟨p0, p1, p2, pz⟩ := Blk2F hB
  obtain ⟨q0, q1, q2, qz⟩ := Blk2F hR
  go_wp2_with fail
  refine (hsplit _ hcm).mono ?_
  rintro e1 w2 ⟨g, L, rfl, hsL, hwd, hn2⟩
  have hB2 := hB.new hn2
  have hR2 := hR.new hn2
  have hN2 := hN.trans hn2
  clear hB hR hN hn2
  clear p0 p1 p2 pz q0 q1 q2 qz
  obtain ⟨p0, p1, p2, pz⟩ := Blk2F hB2
  obtain ⟨q0, q1, q2, qz⟩ := Blk2F hR2
  have HWD := Lib.hid hwd
  have HSL := Lib.hid hsL
  obtain ⟨A3, c3, hv3, -, hh3⟩ := id hsL
  cases hv3
  clear hsL hwd hsplit
  by_cases h3 : L.length = 3
  rotate_left
  · have HF := Lib.hid (show stepC ⟨ep, ms⟩ cmd.data.toList = ⟨ep, ms⟩ from step_of_none (cmdP_not (by rw [← HWD.out, List.length_map]; exact h3)))
    have h3b : ((L.length : Int) != 3) = true := by rw [bne_iff_ne]; omega
    clear h3 hh3
    go_wp2_with fail
    exact bodyPost_ret (v := .agg #[.int .u64 (ep : Int), .slice A ms.length cap]) (by simp [results, Tryd.results36, go_sem, q1, q2]) rfl (by rw [HF.out]; exact (fun hx => ⟨_, rfl, HS0.out.new hx, hx⟩) ((hN2.setCell (p := ⟨w.heap.size + 1, 0, none⟩) (by simp) _).setCell (p := ⟨w.heap.size + 1, 1, none⟩) (by simp) _))
  obtain ⟨a, b, c, rfl⟩ : ∃ a b c, L = [a, b, c] := by
    match L, h3 with
    | [a, b, c], _ => exact ⟨a, b, c, rfl⟩
  rcases hh3 with h | ⟨gb, off, hgb, hbb, hc⟩
  · cases h
  cases hgb
  have l0 : w2.cell? ⟨g, 0, none⟩ = some (.string a) := by simpa [sEnc] using hc 0 a rfl 0 _ rfl
  have l1 : w2.cell? ⟨g, 1, none⟩ = some (.string b) := by simpa [sEnc] using hc 1 b rfl 0 _ rfl
  have l2 : w2.cell? ⟨g, 2, none⟩ = some (.string c) := by simpa [sEnc] using hc 2 c rfl 0 _ rfl
  have HW : Hid (wordsL cmd.data.toList = [a.data.toList, b.data.toList, c.data.toList]) := Lib.hid HWD.out.symm
  have hgw : g < w2.heap.size := hbb
  clear hc h3 HWD HSL hbb
  have HLEN : Hid (b.size < 4294967281 ∧ c.size < 4294967281) := Lib.hid (words_size HW.out hcm)
  rcases three_ways a with haj | har | ⟨haj, har⟩
  rotate_left
  rotate_left
  · have HF := Lib.hid (show stepC ⟨ep, ms⟩ cmd.data.toList = ⟨ep, ms⟩ from step_of_none (by rw [cmdP_words HW.out, if_neg (by rintro (h | h); exact haj (ba_ext h); exact har (ba_ext h))]))
    have x1 : (a.toList == [106, 111, 105, 110]) = false := by rw [beq_eq_false_iff_ne]; intro h; rw [toList_data2] at h; exact haj (ba_ext h)
    have x2 : (a.toList == [114, 101, 109, 111, 118, 101]) = false := by rw [beq_eq_false_iff_ne]; intro h; rw [toList_data2] at h; exact har (ba_ext h)
    have x3 : ¬ a.toList = [106, 111, 105, 110] := by simpa using x1
    have x4 : ¬ a.toList = [114, 101, 109, 111, 118, 101] := by simpa using x2
    clear haj har
    go_wp2_with fail
    exact bodyPost_ret (v := .agg #[.int .u64 (ep : Int), .slice A ms.length cap]) (by simp [results, Tryd.results36, go_sem, q1, q2]) rfl (by rw [HF.out]; exact (fun hx => ⟨_, rfl, HS0.out.new hx, hx⟩) ((hN2.setCell (p := ⟨w.heap.size + 1, 0, none⟩) (by simp) _).setCell (p := ⟨w.heap.size + 1, 1, none⟩) (by simp) _))
  · subst haj
    have HC : Hid (∀ u v, Lib.parseUintB 64 b.data.toList = .ok u → Lib.atoiAll c.data.toList = .ok v → cmdP ep cmd.data.toList = if u = ep ∧ showL true u (max v 0).toNat = cmd.data.toList then some (true, v) else none) := Lib.hid (by intro u v h1 h2; rw [cmdP_words HW.out, if_pos (.inl rfl), h1, h2]; rfl)
    have HBAD : Hid ((∀ u, Lib.parseUintB 64 b.data.toList ≠ .ok u) ∨ (∀ u, Lib.atoiAll c.data.toList ≠ .ok u) → stepC ⟨ep, ms⟩ cmd.data.toList = ⟨ep, ms⟩) := Lib.hid (by intro h; refine step_of_none ?_; rw [cmdP_words HW.out]; split; split; rename_i u v h1 h2; rcases h with h | h; exact absurd h1 (h u); exact absurd h2 (h v); rfl; rfl)
    go_wp2_with fail
    by_cases hpb : ∃ u, Lib.parseUintB 64 b.data.toList = .ok u
    rotate_left
    · have hpb2 : ∀ u, Lib.parseUintB 64 b.data.toList ≠ .ok u := fun u h => hpb ⟨u, h⟩
      have HF := Lib.hid (HBAD.out (.inl hpb2))
      refine (parse_bad hpb2 (by have := HLEN.out.1; omega) w2 (HE0.out.new hN2)).mono ?_
      rintro e1 w3 ⟨u3, N3, rfl, hn3⟩
      clear hpb hpb2
      have l2b := (hn3.cells.1 _ _ hgw).trans l2
      have l0b := (hn3.cells.1 _ _ hgw).trans l0
      clear l0 l1 l2
      have hB3 := hB2.new hn3
      have hR3 := hR2.new hn3
      have hN3 := hN2.trans hn3
      clear hB2 hR2 hN2 hn3
      clear p0 p1 p2 pz q0 q1 q2 qz
      obtain ⟨p0, p1, p2, pz⟩ := Blk2F hB3
      obtain ⟨q0, q1, q2, qz⟩ := Blk2F hR3
      go_wp2_with fail
      by_cases hpc : ∃ u, Lib.atoiAll c.data.toList = .ok u
      · obtain ⟨v3, hv3⟩ := hpc
        refine (atoi_ok hv3 (by have := HLEN.out.2; omega) w3).mono ?_
        rintro e1 w4 ⟨rfl, hn4⟩
        clear hv3
        have hB4 := hB3.new hn4
        have hR4 := hR3.new hn4
        have hN4 := hN3.trans hn4
        clear hB3 hR3 hN3 hn4
        clear p0 p1 p2 pz q0 q1 q2 qz
        obtain ⟨p0, p1, p2, pz⟩ := Blk2F hB4
        obtain ⟨q0, q1, q2, qz⟩ := Blk2F hR4
        go_wp2_with fail
        exact bodyPost_ret (v := .agg #[.int .u64 (ep : Int), .slice A ms.length cap]) (by simp [results, Tryd.results36, go_sem, q1, q2]) rfl (by rw [HF.out]; exact (fun hx => ⟨_, rfl, HS0.out.new hx, hx⟩) ((hN4.setCell (p := ⟨w.heap.size + 1, 0, none⟩) (by simp) _).setCell (p := ⟨w.heap.size + 1, 1, none⟩) (by simp) _))
      · refine (atoi_bad (fun u h => hpc ⟨u, h⟩) (by have := HLEN.out.2; omega) w3 (HE0.out.new hN3)).mono ?_
        rintro e1 w4 ⟨u4, N4, rfl, hn4⟩
        clear hpc
        have hB4 := hB3.new hn4
        have hR4 := hR3.new hn4
        have hN4 := hN3.trans hn4
        clear hB3 hR3 hN3 hn4
        clear p0 p1 p2 pz q0 q1 q2 qz
        obtain ⟨p0, p1, p2, pz⟩ := Blk2F hB4
        obtain ⟨q0, q1, q2, qz⟩ := Blk2F hR4
        go_wp2_with fail
        exact bodyPost_ret (v := .agg #[.int .u64 (ep : Int), .slice A ms.length cap]) (by simp [results, Tryd.results36, go_sem, q1, q2]) rfl (by rw [HF.out]; exact (fun hx => ⟨_, rfl, HS0.out.new hx, hx⟩) ((hN4.setCell (p := ⟨w.heap.size + 1, 0, none⟩) (by simp) _).setCell (p := ⟨w.heap.size + 1, 1, none⟩) (by simp) _))
    obtain ⟨u, hu⟩ := hpb
    have hu64 := parseB_lt hu
    refine (parse_ok hu (by have := HLEN.out.1; omega) w2).mono ?_
    rintro e1 w3 ⟨rfl, hn3⟩
    have HU := Lib.hid hu
    clear hu
    have l2b := (hn3.cells.1 _ _ hgw).trans l2
    have l0b := (hn3.cells.1 _ _ hgw).trans l0
    have hgw3 : g < w3.heap.size := Nat.lt_of_lt_of_le hgw hn3.size
    clear l0 l1 l2
    have hB3 := hB2.new hn3
    have hR3 := hR2.new hn3
    have hN3 := hN2.trans hn3
    clear hB2 hR2 hN2 hn3
    clear p0 p1 p2 pz q0 q1 q2 qz
    obtain ⟨p0, p1, p2, pz⟩ := Blk2F hB3
    obtain ⟨q0, q1, q2, qz⟩ := Blk2F hR3
    go_wp2_with fail
    by_cases hpc : ∃ u, Lib.atoiAll c.data.toList = .ok u
    rotate_left
    · have hpc2 : ∀ u, Lib.atoiAll c.data.toList ≠ .ok u := fun u h => hpc ⟨u, h⟩
      have HF := Lib.hid (HBAD.out (.inr hpc2))
      refine (atoi_bad hpc2 (by have := HLEN.out.2; omega) w3 (HE0.out.new hN3)).mono ?_
      rintro e1 w4 ⟨u4, N4, rfl, hn4⟩
      clear hpc hpc2
      have hB4 := hB3.new hn4
      have hR4 := hR3.new hn4
      have hN4 := hN3.trans hn4
      clear hB3 hR3 hN3 hn4
      clear p0 p1 p2 pz q0 q1 q2 qz
      obtain ⟨p0, p1, p2, pz⟩ := Blk2F hB4
      obtain ⟨q0, q1, q2, qz⟩ := Blk2F hR4
      go_wp2_with fail
      exact bodyPost_ret (v := .agg #[.int .u64 (ep : Int), .slice A ms.length cap]) (by simp [results, Tryd.results36, go_sem, q1, q2]) rfl (by rw [HF.out]; exact (fun hx => ⟨_, rfl, HS0.out.new hx, hx⟩) ((hN4.setCell (p := ⟨w.heap.size + 1, 0, none⟩) (by simp) _).setCell (p := ⟨w.heap.size + 1, 1, none⟩) (by simp) _))
    obtain ⟨n, hn⟩ := hpc
    have hnb := Lib.atoiAll_bounds hn
    refine (atoi_ok hn (by have := HLEN.out.2; omega) w3).mono ?_
    rintro e1 w4 ⟨rfl, hn4⟩
    have HC2 := Lib.hid (HC.out u n HU.out hn)
    clear hn
    have l0c := (hn4.cells.1 _ _ hgw3).trans l0b
    have hgw4 : g < w4.heap.size := Nat.lt_of_lt_of_le hgw3 hn4.size
    clear l0b l2b HC HU HBAD hgw hgw3
    have hB4 := hB3.new hn4
    have hR4 := hR3.new hn4
    have hN4 := hN3.trans hn4
    clear hB3 hR3 hN3 hn4
    clear p0 p1 p2 pz q0 q1 q2 qz
    obtain ⟨p0, p1, p2, pz⟩ := Blk2F hB4
    obtain ⟨q0, q1, q2, qz⟩ := Blk2F hR4
    by_cases hue : u = ep
    rotate_left
    · have HF := Lib.hid (show stepC ⟨ep, ms⟩ cmd.data.toList = ⟨ep, ms⟩ from step_of_none (by rw [HC2.out, if_neg (fun h => hue h.1)]))
      have hub : ((u : Int) != (ep : Int)) = true := by rw [bne_iff_ne]; omega
      clear hue
      go_wp2_with fail
      exact bodyPost_ret (v := .agg #[.int .u64 (ep : Int), .slice A ms.length cap]) (by simp [results, Tryd.results36, go_sem, q1, q2]) rfl (by rw [HF.out]; exact (fun hx => ⟨_, rfl, HS0.out.new hx, hx⟩) ((hN4.setCell (p := ⟨w.heap.size + 1, 0, none⟩) (by simp) _).setCell (p := ⟨w.heap.size + 1, 1, none⟩) (by simp) _))
    have hue2 := hue.symm
    clear hue
    subst hue2
    have hub : ((ep : Int) != (ep : Int)) = false := by simp
    have hsh := show_any true ep n w4 hu64 (by omega) (HE0.out.new hN4)
    obtain ⟨sh, hshe⟩ : ∃ sh, sh = str (showL true ep (max n 0).toNat) := ⟨_, rfl⟩
    rw [← hshe] at hsh
    by_cases hsc : sh = cmd
    rotate_left
    · have HF := Lib.hid (show stepC ⟨ep, ms⟩ cmd.data.toList = ⟨ep, ms⟩ from step_of_none (by rw [HC2.out, if_neg (fun h => hsc (by rw [hshe, h.2, str_data]))]))
      have hx1 : (sh.toList == cmd.toList) = false := by rw [beq_eq_false_iff_ne]; intro h; rw [toList_data2, toList_data2] at h; exact hsc (ba_ext h)
      have hx2 : ¬ sh.toList = cmd.toList := by simpa using hx1
      clear hshe hsc
      go_wp2_with fail
      refine hsh.mono ?_
      rintro e1 w5 ⟨rfl, hn5⟩
      have l0d := (hn5.cells.1 _ _ hgw4).trans l0c
      have hgw5 : g < w5.heap.size := Nat.lt_of_lt_of_le hgw4 hn5.size
      clear l0c hgw4
      have hB5 := hB4.new hn5
      have hR5 := hR4.new hn5
      have hN5 := hN4.trans hn5
      clear hB4 hR4 hN4 hn5
      clear p0 p1 p2 pz q0 q1 q2 qz
      obtain ⟨p0, p1, p2, pz⟩ := Blk2F hB5
      obtain ⟨q0, q1, q2, qz⟩ := Blk2F hR5
      go_wp2_with fail
      exact bodyPost_ret (v := .agg #[.int .u64 (ep : Int), .slice A ms.length cap]) (by simp [results, Tryd.results36, go_sem, q1, q2]) rfl (by rw [HF.out]; exact (fun hx => ⟨_, rfl, HS0.out.new hx, hx⟩) ((hN5.setCell (p := ⟨w.heap.size + 1, 0, none⟩) (by simp) _).setCell (p := ⟨w.heap.size + 1, 1, none⟩) (by simp) _))
    have HF := Lib.hid (show stepC ⟨ep, ms⟩ cmd.data.toList = actC ⟨ep, ms⟩ true n from step_of_some (by rw [HC2.out, if_pos ⟨rfl, by rw [← hsc, hshe]; simp [str]⟩]))
    subst hsc
    clear hshe HC2
    go_wp2_with fail
    refine hsh.mono ?_
    rintro e1 w5 ⟨rfl, hn5⟩
    have l0d := (hn5.cells.1 _ _ hgw4).trans l0c
    have hgw5 : g < w5.heap.size := Nat.lt_of_lt_of_le hgw4 hn5.size
    clear l0c hgw4
    have hB5 := hB4.new hn5
    have hR5 := hR4.new hn5
    have hN5 := hN4.trans hn5
    clear hB4 hR4 hN4 hn5
    clear p0 p1 p2 pz q0 q1 q2 qz
    obtain ⟨p0, p1, p2, pz⟩ := Blk2F hB5
    obtain ⟨q0, q1, q2, qz⟩ := Blk2F hR5
    go_wp2_with fail
    refine (remove_any ep _ ms n w5 hu64 (by omega) (HS0.out.new hN5)).mono ?_
    rintro e1 w6 ⟨u6, rfl, hs6, hn6⟩
    have l0e := (hn6.cells.1 _ _ hgw5).trans l0d
    have hgw6 : g < w6.heap.size := Nat.lt_of_lt_of_le hgw5 hn6.size
    clear l0d hgw5
    have hB6 := hB5.new hn6
    have hR6 := hR5.new hn6
    have hN6 := hN5.trans hn6
    clear hB5 hR5 hN5 hn6
    clear p0 p1 p2 pz q0 q1 q2 qz
    obtain ⟨p0, p1, p2, pz⟩ := Blk2F hB6
    obtain ⟨q0, q1, q2, qz⟩ := Blk2F hR6
    obtain ⟨A6, n6, c6, rfl⟩ := hs6.shape
    obtain ⟨r, hr⟩ : ∃ r, r = remC ⟨ep, ms⟩ n := ⟨_, rfl⟩
    rw [← hr] at hs6
    rw [← hr]
    obtain ⟨⟨re, rms⟩, rc⟩ := r
    dsimp only at hs6 ⊢
    have hX := Blk.mk_new w6 25 #[.int .u64 (re : Int), .slice A6 n6 c6]
    have hAx := (New.refl w6).alloc (.cells #[.int .u64 (re : Int), .slice A6 n6 c6] 25)
    have HS6 := Lib.hid (hs6.new hAx)
    have l0f := (hAx.cells.1 _ _ hgw6).trans l0e
    have hgw7 : g < (w6.alloc (.cells #[.int .u64 (re : Int), .slice A6 n6 c6] 25)).heap.size := Nat.lt_of_lt_of_le hgw6 hAx.size
    have hB7 := hB6.new hAx
    have hR7 := hR6.new hAx
    have hN7 := hN6.trans hAx
    have hxw : w.heap.size + 2 ≤ w6.heap.size := by have := hR6.lt; omega
    have HR := Lib.hid hr
    clear hB6 hR6 hN6 hAx l0e hgw6 hs6 hr
    clear p0 p1 p2 pz q0 q1 q2 qz
    go_upto_region 9 with fail
    generalize w6.heap.size = gx at *
    generalize w6.alloc _ = w7 at *
    obtain ⟨p0, p1, p2, pz⟩ := Blk2F hB7
    obtain ⟨q0, q1, q2, qz⟩ := Blk2F hR7
    obtain ⟨x0, x1, x2, xz⟩ := Blk2F hX
    clear HR
    go_wp2_with fail
    refine (join_any ep _ ms n w7 hu64 (by omega) (HS0.out.new hN7)).mono ?_
    rintro e1 w8 ⟨u8, rfl, hs8, hn8⟩
    obtain ⟨A8, n8, c8, rfl⟩ := hs8.shape
    obtain ⟨r, hr⟩ : ∃ r, r = joinC ⟨ep, ms⟩ n := ⟨_, rfl⟩
    rw [← hr] at hs8
    rw [← hr]
    obtain ⟨⟨je, jms⟩, jc⟩ := r
    dsimp only at hs8 ⊢
    have hX8 := hX.new hn8
    have hu9 : Upd (· = gx) w8 ((w8.setCell ⟨gx, 0, none⟩ (.int .u64 (je : Int))).setCell ⟨gx, 1, none⟩ (.slice A8 n8 c8)) := ((Upd.refl _ w8).setIn 0 _).setIn 1 _
    have HS9 : Hid (SlIn ((w8.setCell ⟨gx, 0, none⟩ (.int .u64 (je : Int))).setCell ⟨gx, 1, none⟩ (.slice A8 n8 c8)) 1 iEnc (.slice A8 n8 c8) jms) := Lib.hid (slIn_cfgSet hs8 hX8 (by simp))
    have hX9 : Blk ((w8.setCell ⟨gx, 0, none⟩ (.int .u64 (je : Int))).setCell ⟨gx, 1, none⟩ (.slice A8 n8 c8)) gx 25 #[.int .u64 (je : Int), .slice A8 n8 c8] := (hX8.set_ 0 _).set_ 1 _
    have hB9 := (hB7.new hn8).upd hu9 (by omega)
    have hR9 := (hR7.new hn8).upd hu9 (by omega)
    have hN9 := (hN7.trans hn8).upd hu9 (fun k hk => by omega)
    have HJ := Lib.hid hr
    obtain ⟨y0, y1, y2, yz⟩ := Blk2F hX8
    clear hB7 hR7 hN7 hX hr hs8 hn8 x0 x1 x2 xz
    clear p0 p1 p2 pz q0 q1 q2 qz
    go_upto_region 11 with fail
    clear y0 y1 y2 yz hX8 hu9
    generalize World.setCell _ ⟨gx, 1, none⟩ _ = w9 at *
    obtain ⟨p0, p1, p2, pz⟩ := Blk2F hB9
    obtain ⟨q0, q1, q2, qz⟩ := Blk2F hR9
    obtain ⟨x0, x1, x2, xz⟩ := Blk2F hX9
    by_cases hrc : jc = 0
    · subst hrc
      have hF2 : stepC ⟨ep, ms⟩ sh.data.toList = ⟨je, jms⟩ := by rw [HF.out, act_true, ← HJ.out]; rfl
      have HF2 := Lib.hid hF2
      clear hF2
      go_wp2_with fail
      exact bodyPost_ret (v := .agg #[.int .u64 (je : Int), .slice A8 n8 c8]) (by simp [results, Tryd.results36, go_sem, q1, q2]) rfl (by rw [HF2.out]; exact ⟨_, rfl, slIn_cfgSet HS9.out hR9 (by simp), (hN9.setCell (p := ⟨w.heap.size + 1, 0, none⟩) (by simp) _).setCell (p := ⟨w.heap.size + 1, 1, none⟩) (by simp) _⟩)
    · have hrb : (jc != 0) = true := by simpa using hrc
      have HF2 : Hid (stepC ⟨ep, ms⟩ sh.data.toList = ⟨ep, ms⟩) := Lib.hid (by rw [HF.out, act_true, ← HJ.out]; unfold applyC; rw [if_neg hrc])
      clear hrc
      go_wp2_with fail
      exact bodyPost_ret (v := .agg #[.int .u64 (ep : Int), .slice A ms.length cap]) (by simp [results, Tryd.results36, go_sem, q1, q2]) rfl (by rw [HF2.out]; exact (fun hx => ⟨_, rfl, HS0.out.new hx, hx⟩) ((hN9.setCell (p := ⟨w.heap.size + 1, 0, none⟩) (by simp) _).setCell (p := ⟨w.heap.size + 1, 1, none⟩) (by simp) _))
  · subst har
    have HC : Hid (∀ u v, Lib.parseUintB 64 b.data.toList = .ok u → Lib.atoiAll c.data.toList = .ok v → cmdP ep cmd.data.toList = if u = ep ∧ showL false u (max v 0).toNat = cmd.data.toList then some (false, v) else none) := Lib.hid (by intro u v h1 h2; rw [cmdP_words HW.out, if_pos (.inr rfl), h1, h2]; rfl)
    have HBAD : Hid ((∀ u, Lib.parseUintB 64 b.data.toList ≠ .ok u) ∨ (∀ u, Lib.atoiAll c.data.toList ≠ .ok u) → stepC ⟨ep, ms⟩ cmd.data.toList = ⟨ep, ms⟩) := Lib.hid (by intro h; refine step_of_none ?_; rw [cmdP_words HW.out]; split; split; rename_i u v h1 h2; rcases h with h | h; exact absurd h1 (h u); exact absurd h2 (h v); rfl; rfl)
    go_wp2_with fail
    by_cases hpb : ∃ u, Lib.parseUintB 64 b.data.toList = .ok u
    rotate_left
    · have hpb2 : ∀ u, Lib.parseUintB 64 b.data.toList ≠ .ok u := fun u h => hpb ⟨u, h⟩
      have HF := Lib.hid (HBAD.out (.inl hpb2))
      refine (parse_bad hpb2 (by have := HLEN.out.1; omega) w2 (HE0.out.new hN2)).mono ?_
      rintro e1 w3 ⟨u3, N3, rfl, hn3⟩
      clear hpb hpb2
      have l2b := (hn3.cells.1 _ _ hgw).trans l2
      have l0b := (hn3.cells.1 _ _ hgw).trans l0
      clear l0 l1 l2
      have hB3 := hB2.new hn3
      have hR3 := hR2.new hn3
      have hN3 := hN2.trans hn3
      clear hB2 hR2 hN2 hn3
      clear p0 p1 p2 pz q0 q1 q2 qz
      obtain ⟨p0, p1, p2, pz⟩ := Blk2F hB3
      obtain ⟨q0, q1, q2, qz⟩ := Blk2F hR3
      go_wp2_with fail
      by_cases hpc : ∃ u, Lib.atoiAll c.data.toList = .ok u
      · obtain ⟨v3, hv3⟩ := hpc
        refine (atoi_ok hv3 (by have := HLEN.out.2; omega) w3).mono ?_
        rintro e1 w4 ⟨rfl, hn4⟩
        clear hv3
        have hB4 := hB3.new hn4
        have hR4 := hR3.new hn4
        have hN4 := hN3.trans hn4
        clear hB3 hR3 hN3 hn4
        clear p0 p1 p2 pz q0 q1 q2 qz
        obtain ⟨p0, p1, p2, pz⟩ := Blk2F hB4
        obtain ⟨q0, q1, q2, qz⟩ := Blk2F hR4
        go_wp2_with fail
        exact bodyPost_ret (v := .agg #[.int .u64 (ep : Int), .slice A ms.length cap]) (by simp [results, Tryd.results36, go_sem, q1, q2]) rfl (by rw [HF.out]; exact (fun hx => ⟨_, rfl, HS0.out.new hx, hx⟩) ((hN4.setCell (p := ⟨w.heap.size + 1, 0, none⟩) (by simp) _).setCell (p := ⟨w.heap.size + 1, 1, none⟩) (by simp) _))
      · refine (atoi_bad (fun u h => hpc ⟨u, h⟩) (by have := HLEN.out.2; omega) w3 (HE0.out.new hN3)).mono ?_
        rintro e1 w4 ⟨u4, N4, rfl, hn4⟩
        clear hpc
        have hB4 := hB3.new hn4
        have hR4 := hR3.new hn4
        have hN4 := hN3.trans hn4
        clear hB3 hR3 hN3 hn4
        clear p0 p1 p2 pz q0 q1 q2 qz
        obtain ⟨p0, p1, p2, pz⟩ := Blk2F hB4
        obtain ⟨q0, q1, q2, qz⟩ := Blk2F hR4
        go_wp2_with fail
        exact bodyPost_ret (v := .agg #[.int .u64 (ep : Int), .slice A ms.length cap]) (by simp [results, Tryd.results36, go_sem, q1, q2]) rfl (by rw [HF.out]; exact (fun hx => ⟨_, rfl, HS0.out.new hx, hx⟩) ((hN4.setCell (p := ⟨w.heap.size + 1, 0, none⟩) (by simp) _).setCell (p := ⟨w.heap.size + 1, 1, none⟩) (by simp) _))
    obtain ⟨u, hu⟩ := hpb
    have hu64 := parseB_lt hu
    refine (parse_ok hu (by have := HLEN.out.1; omega) w2).mono ?_
    rintro e1 w3 ⟨rfl, hn3⟩
    have HU := Lib.hid hu
    clear hu
    have l2b := (hn3.cells.1 _ _ hgw).trans l2
    have l0b := (hn3.cells.1 _ _ hgw).trans l0
    have hgw3 : g < w3.heap.size := Nat.lt_of_lt_of_le hgw hn3.size
    clear l0 l1 l2
    have hB3 := hB2.new hn3
    have hR3 := hR2.new hn3
    have hN3 := hN2.trans hn3
    clear hB2 hR2 hN2 hn3
    clear p0 p1 p2 pz q0 q1 q2 qz
    obtain ⟨p0, p1, p2, pz⟩ := Blk2F hB3
    obtain ⟨q0, q1, q2, qz⟩ := Blk2F hR3
    go_wp2_with fail
    by_cases hpc : ∃ u, Lib.atoiAll c.data.toList = .ok u
    rotate_left
    · have hpc2 : ∀ u, Lib.atoiAll c.data.toList ≠ .ok u := fun u h => hpc ⟨u, h⟩
      have HF := Lib.hid (HBAD.out (.inr hpc2))
      refine (atoi_bad hpc2 (by have := HLEN.out.2; omega) w3 (HE0.out.new hN3)).mono ?_
      rintro e1 w4 ⟨u4, N4, rfl, hn4⟩
      clear hpc hpc2
      have hB4 := hB3.new hn4
      have hR4 := hR3.new hn4
      have hN4 := hN3.trans hn4
      clear hB3 hR3 hN3 hn4
      clear p0 p1 p2 pz q0 q1 q2 qz
      obtain ⟨p0, p1, p2, pz⟩ := Blk2F hB4
      obtain ⟨q0, q1, q2, qz⟩ := Blk2F hR4
      go_wp2_with fail
      exact bodyPost_ret (v := .agg #[.int .u64 (ep : Int), .slice A ms.length cap]) (by simp [results, Tryd.results36, go_sem, q1, q2]) rfl (by rw [HF.out]; exact (fun hx => ⟨_, rfl, HS0.out.new hx, hx⟩) ((hN4.setCell (p := ⟨w.heap.size + 1, 0, none⟩) (by simp) _).setCell (p := ⟨w.heap.size + 1, 1, none⟩) (by simp) _))
    obtain ⟨n, hn⟩ := hpc
    have hnb := Lib.atoiAll_bounds hn
    refine (atoi_ok hn (by have := HLEN.out.2; omega) w3).mono ?_
    rintro e1 w4 ⟨rfl, hn4⟩
    have HC2 := Lib.hid (HC.out u n HU.out hn)
    clear hn
    have l0c := (hn4.cells.1 _ _ hgw3).trans l0b
    have hgw4 : g < w4.heap.size := Nat.lt_of_lt_of_le hgw3 hn4.size
    clear l0b l2b HC HU HBAD hgw hgw3
    have hB4 := hB3.new hn4
    have hR4 := hR3.new hn4
    have hN4 := hN3.trans hn4
    clear hB3 hR3 hN3 hn4
    clear p0 p1 p2 pz q0 q1 q2 qz
    obtain ⟨p0, p1, p2, pz⟩ := Blk2F hB4
    obtain ⟨q0, q1, q2, qz⟩ := Blk2F hR4
    by_cases hue : u = ep
    rotate_left
    · have HF := Lib.hid (show stepC ⟨ep, ms⟩ cmd.data.toList = ⟨ep, ms⟩ from step_of_none (by rw [HC2.out, if_neg (fun h => hue h.1)]))
      have hub : ((u : Int) != (ep : Int)) = true := by rw [bne_iff_ne]; omega
      clear hue
      go_wp2_with fail
      exact bodyPost_ret (v := .agg #[.int .u64 (ep : Int), .slice A ms.length cap]) (by simp [results, Tryd.results36, go_sem, q1, q2]) rfl (by rw [HF.out]; exact (fun hx => ⟨_, rfl, HS0.out.new hx, hx⟩) ((hN4.setCell (p := ⟨w.heap.size + 1, 0, none⟩) (by simp) _).setCell (p := ⟨w.heap.size + 1, 1, none⟩) (by simp) _))
    have hue2 := hue.symm
    clear hue
    subst hue2
    have hub : ((ep : Int) != (ep : Int)) = false := by simp
    have hsh := show_any false ep n w4 hu64 (by omega) (HE0.out.new hN4)
    obtain ⟨sh, hshe⟩ : ∃ sh, sh = str (showL false ep (max n 0).toNat) := ⟨_, rfl⟩
    rw [← hshe] at hsh
    by_cases hsc : sh = cmd
    rotate_left
    · have HF := Lib.hid (show stepC ⟨ep, ms⟩ cmd.data.toList = ⟨ep, ms⟩ from step_of_none (by rw [HC2.out, if_neg (fun h => hsc (by rw [hshe, h.2, str_data]))]))
      have hx1 : (sh.toList == cmd.toList) = false := by rw [beq_eq_false_iff_ne]; intro h; rw [toList_data2, toList_data2] at h; exact hsc (ba_ext h)
      have hx2 : ¬ sh.toList = cmd.toList := by simpa using hx1
      clear hshe hsc
      go_wp2_with fail
      refine hsh.mono ?_
      rintro e1 w5 ⟨rfl, hn5⟩
      have l0d := (hn5.cells.1 _ _ hgw4).trans l0c
      have hgw5 : g < w5.heap.size := Nat.lt_of_lt_of_le hgw4 hn5.size
      clear l0c hgw4
      have hB5 := hB4.new hn5
      have hR5 := hR4.new hn5
      have hN5 := hN4.trans hn5
      clear hB4 hR4 hN4 hn5
      clear p0 p1 p2 pz q0 q1 q2 qz
      obtain ⟨p0, p1, p2, pz⟩ := Blk2F hB5
      obtain ⟨q0, q1, q2, qz⟩ := Blk2F hR5
      go_wp2_with fail
      exact bodyPost_ret (v := .agg #[.int .u64 (ep : Int), .slice A ms.length cap]) (by simp [results, Tryd.results36, go_sem, q1, q2]) rfl (by rw [HF.out]; exact (fun hx => ⟨_, rfl, HS0.out.new hx, hx⟩) ((hN5.setCell (p := ⟨w.heap.size + 1, 0, none⟩) (by simp) _).setCell (p := ⟨w.heap.size + 1, 1, none⟩) (by simp) _))
    have HF := Lib.hid (show stepC ⟨ep, ms⟩ cmd.data.toList = actC ⟨ep, ms⟩ false n from step_of_some (by rw [HC2.out, if_pos ⟨rfl, by rw [← hsc, hshe]; simp [str]⟩]))
    subst hsc
    clear hshe HC2
    go_wp2_with fail
    refine hsh.mono ?_
    rintro e1 w5 ⟨rfl, hn5⟩
    have l0d := (hn5.cells.1 _ _ hgw4).trans l0c
    have hgw5 : g < w5.heap.size := Nat.lt_of_lt_of_le hgw4 hn5.size
    clear l0c hgw4
    have hB5 := hB4.new hn5
    have hR5 := hR4.new hn5
    have hN5 := hN4.trans hn5
    clear hB4 hR4 hN4 hn5
    clear p0 p1 p2 pz q0 q1 q2 qz
    obtain ⟨p0, p1, p2, pz⟩ := Blk2F hB5
    obtain ⟨q0, q1, q2, qz⟩ := Blk2F hR5
    go_wp2_with fail
    refine (remove_any ep _ ms n w5 hu64 (by omega) (HS0.out.new hN5)).mono ?_
    rintro e1 w6 ⟨u6, rfl, hs6, hn6⟩
    have l0e := (hn6.cells.1 _ _ hgw5).trans l0d
    have hgw6 : g < w6.heap.size := Nat.lt_of_lt_of_le hgw5 hn6.size
    clear l0d hgw5
    have hB6 := hB5.new hn6
    have hR6 := hR5.new hn6
    have hN6 := hN5.trans hn6
    clear hB5 hR5 hN5 hn6
    clear p0 p1 p2 pz q0 q1 q2 qz
    obtain ⟨p0, p1, p2, pz⟩ := Blk2F hB6
    obtain ⟨q0, q1, q2, qz⟩ := Blk2F hR6
    obtain ⟨A6, n6, c6, rfl⟩ := hs6.shape
    obtain ⟨r, hr⟩ : ∃ r, r = remC ⟨ep, ms⟩ n := ⟨_, rfl⟩
    rw [← hr] at hs6
    rw [← hr]
    obtain ⟨⟨re, rms⟩, rc⟩ := r
    dsimp only at hs6 ⊢
    have hX := Blk.mk_new w6 25 #[.int .u64 (re : Int), .slice A6 n6 c6]
    have hAx := (New.refl w6).alloc (.cells #[.int .u64 (re : Int), .slice A6 n6 c6] 25)
    have HS6 := Lib.hid (hs6.new hAx)
    have l0f := (hAx.cells.1 _ _ hgw6).trans l0e
    have hgw7 : g < (w6.alloc (.cells #[.int .u64 (re : Int), .slice A6 n6 c6] 25)).heap.size := Nat.lt_of_lt_of_le hgw6 hAx.size
    have hB7 := hB6.new hAx
    have hR7 := hR6.new hAx
    have hN7 := hN6.trans hAx
    have hxw : w.heap.size + 2 ≤ w6.heap.size := by have := hR6.lt; omega
    have HR := Lib.hid hr
    clear hB6 hR6 hN6 hAx l0e hgw6 hs6 hr
    clear p0 p1 p2 pz q0 q1 q2 qz
    go_upto_region 9 with fail
    generalize w6.heap.size = gx at *
    generalize w6.alloc _ = w7 at *
    obtain ⟨p0, p1, p2, pz⟩ := Blk2F hB7
    obtain ⟨q0, q1, q2, qz⟩ := Blk2F hR7
    obtain ⟨x0, x1, x2, xz⟩ := Blk2F hX
    by_cases hrc : rc = 0
    · subst hrc
      have hF2 : stepC ⟨ep, ms⟩ sh.data.toList = ⟨re, rms⟩ := by rw [HF.out, act_false, ← HR.out]; rfl
      have HF2 := Lib.hid hF2
      clear hF2
      go_wp2_with fail
      exact bodyPost_ret (v := .agg #[.int .u64 (re : Int), .slice A6 n6 c6]) (by simp [results, Tryd.results36, go_sem, q1, q2]) rfl (by rw [HF2.out]; exact ⟨_, rfl, slIn_cfgSet HS6.out hR7 (by simp), (hN7.setCell (p := ⟨w.heap.size + 1, 0, none⟩) (by simp) _).setCell (p := ⟨w.heap.size + 1, 1, none⟩) (by simp) _⟩)
    · have hrb : (rc != 0) = true := by simpa using hrc
      have HF2 : Hid (stepC ⟨ep, ms⟩ sh.data.toList = ⟨ep, ms⟩) := Lib.hid (by rw [HF.out, act_false, ← HR.out]; unfold applyC; rw [if_neg hrc])
      clear hrc
      go_wp2_with fail
      exact bodyPost_ret (v := .agg #[.int .u64 (ep : Int), .slice A ms.length cap]) (by simp [results, Tryd.results36, go_sem, q1, q2]) rfl (by rw [HF2.out]; exact (fun hx => ⟨_, rfl, HS0.out.new hx, hx⟩) ((hN7.setCell (p := ⟨w.heap.size + 1, 0, none⟩) (by simp) _).setCell (p := ⟨w.heap.size + 1, 1, none⟩) (by simp) _))
end Go.Proofs.YtinpbjknakncdaaDoor
