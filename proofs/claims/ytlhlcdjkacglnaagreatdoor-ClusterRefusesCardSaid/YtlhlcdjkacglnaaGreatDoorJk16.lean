/- Chapter 24 (replica): New, Receive. Printed by genRpZ2.py. -/
import Derived.Test.YtlhlcdjkacglnaaGreatDoorJk1
import Derived.Test.YtlhlcdjkacglnaaGreatDoorJk15
import Derived.Laws.EntriesVeiled
namespace Go.Proofs.YtlhlcdjkacglnaaGreatDoor
open Go.RowKit Go.Lap C
set_option linter.unusedVariables false
set_option linter.unusedSimpArgs false
section
variable {w w' W wa : World} {S : Nat → Prop} {rp B D : Nat} {L : RpL} {x x' : Rpl} {b : BtV}
def NewPost (w : World) (id : Int) (c : Cfg) (e : Ending) (w' : World) : Prop :=
  if chkC c = true then ∃ rp L, e = .returned (.pointer (some ⟨rp, 0, none⟩)) ∧ RpAt w' rp 0 L (Rpl.new_ id c) ∧ (∀ k, RpF rp L k → w.heap.size ≤ k) ∧ New w w' else e = .returned (.pointer none) ∧ New w w'
set_option maxRecDepth 100000 in
set_option maxHeartbeats 4000000 in
theorem rnew (id : Int) (c : Cfg) {v : Value} (hs : SlIn w 1 iEnc v c.ms) (hl : c.ms.length ≤ 1000) (he : c.e < big) :
    Calls Tryz.prog 79 #[.int .i64 id, .agg #[.int .u64 (c.e : Int), v]] w (NewPost w id c) := by
  obtain ⟨A, m, cap, rfl⟩ := hs.shape
  have hN := (New.refl w).alloc (.cells #[.int .u64 (c.e : Int), .slice A m cap] 41)
  have hM := Blk.mk_new w 41 #[.int .u64 (c.e : Int), .slice A m cap]
  have HS := Lib.hid (hs.new hN)
  have HN := Lib.hid hN
  have HM := Lib.hid hM
  obtain ⟨q0, q1, q2, qz⟩ := Blk2F hM
  clear hN hM hs
  go_enter Tryz.func79, Tryz.ntmps79
  go_upto_region 1 with fail
  generalize w.alloc _ = W at *
  cases hck : chkC c with
  | false =>
    have hcall := ccheck (w := W) c hl HS.out
    rw [hck] at hcall
    have HPO : Hid (∀ w', New w w' → NewPost w id c (.returned (.pointer none)) w') := Lib.hid (fun w' hn => by unfold NewPost; rw [if_neg (by rw [hck]; decide)]; exact ⟨rfl, hn⟩)
    clear hck
    go_wp2_with fail
    refine hcall.mono ?_
    rintro e w5 ⟨rfl, hn5⟩
    go_wp2_with fail
    go_ret
    exact HPO.out _ (HN.out.trans hn5)
  | true =>
    have hcall := ccheck (w := W) c hl HS.out
    rw [hck] at hcall
    have HCK := Lib.hid hck
    clear hck
    go_wp2_with fail
    refine hcall.mono ?_
    rintro e w5 ⟨rfl, hn5⟩
    have HM5 := Lib.hid (HM.out.new hn5)
    have HS5 := Lib.hid (HS.out.new hn5)
    have HN5 := Lib.hid (HN.out.trans hn5)
    clear q0 q1 q2 qz hn5 hcall
    obtain ⟨q0, q1, q2, qz⟩ := Blk2F HM5.out
    go_wp2_with fail
    refine (fold0 c hl HS5.out).mono ?_
    rintro e w6 ⟨A6, n6, rfl, ht6, hn6⟩
    have HT6 := Lib.hid ht6
    have HN6 := Lib.hid (HN5.out.trans hn6)
    clear ht6 hn6 q0 q1 q2 qz
    go_wp2_with fail
    refine (jnew w6).mono ?_
    rintro e w7 ⟨J, rfl, hj, hjk, hn7⟩
    have HT7 := Lib.hid (HT6.out.new hn7)
    have HN7 := Lib.hid (HN6.out.trans hn7)
    have HJ7 := Lib.hid hj
    have HJK : Hid (∀ k, JdF J k → w.heap.size ≤ k ∧ k < w7.heap.size) := Lib.hid (fun k hk => ⟨Nat.le_trans HN6.out.size (hjk k hk), hj.lt k hk⟩)
    have hb8 := Blk.mk_new w7 134 #[.int .i64 id, .int .u64 (c.e : Int), .slice A6 c.ms.length n6, .pointer (some ⟨J.jb, 0, none⟩), .slice none 0 0, .int .u64 0, .slice none 0 0, .nilFunc, .nilFunc, .nilFunc, .nilFunc, .nilFunc, .nilFunc]
    have HB8 := Lib.hid hb8
    have e7 := hb8.cell 7
    have e8 := hb8.cell 8
    have e9 := hb8.cell 9
    have e10 := hb8.cell 10
    have e11 := hb8.cell 11
    have e12 := hb8.cell 12
    have ez := hb8.frozen
    have el := hb8.lt
    clear hj hjk hn7 hb8
    go_wp2_with fail
    clear e7 e8 e9 e10 e11 e12 ez el
    go_ret
    unfold NewPost
    rw [if_pos HCK.out]
    have hn8 := (New.refl w7).alloc (.cells (RpCells w7.heap.size ⟨.slice A6 c.ms.length n6, J, .slice none 0 0, .slice none 0 0⟩ (Rpl.new_ id c)) 134)
    refine ⟨w7.heap.size, ⟨.slice A6 c.ms.length n6, J, .slice none 0 0, .slice none 0 0⟩, rfl, ⟨Blk.mk_new w7 _ _, HT7.out.new hn8, hl, he, HJ7.out.new hn8, BtRow.nil _ _, NtRow.nil _ _, Nat.le_refl _, Nat.le_refl _, Nat.le_refl _⟩, ?_, HN7.out.trans hn8⟩
    rintro k (rfl | hk | hk | hk)
    · exact HN7.out.size
    · exact (HJK.out k hk).1
    · cases hk
    · cases hk
theorem receive_bad {x : Rpl} {n : Nt} (h : n.t = 0 ∨ n.ds ≠ x.id ∨ n.ep ≠ x.cf.e ∨ n.k < 0 ∨ 3 ≤ n.k) : x.receive n = x := by unfold Rpl.receive; rw [if_pos h]
theorem receive_good {x : Rpl} {n : Nt} (h : ¬ (n.t = 0 ∨ n.ds ≠ x.id ∨ n.ep ≠ x.cf.e ∨ n.k < 0 ∨ 3 ≤ n.k)) : x.receive n = if (x.side n.k).2 = true ∧ (x.side n.k).1 = n.fr then if n.k = 0 then x.forwarded n else if n.k = 1 then x.acked n else x.some_ n.fr n.t else x := by unfold Rpl.receive; rw [if_neg h]
theorem recv_no {x : Rpl} {n : Nt} {y : Int} {ok : Bool} (hg : ¬ (n.t = 0 ∨ n.ds ≠ x.id ∨ n.ep ≠ x.cf.e ∨ n.k < 0 ∨ 3 ≤ n.k)) (hs : x.side n.k = (y, ok)) (h : ¬ (ok = true ∧ y = n.fr)) : x.receive n = x := by
  rw [receive_good hg, hs]
  exact if_neg h
theorem recv_yes {x : Rpl} {n : Nt} {y : Int} (hg : ¬ (n.t = 0 ∨ n.ds ≠ x.id ∨ n.ep ≠ x.cf.e ∨ n.k < 0 ∨ 3 ≤ n.k)) (hs : x.side n.k = (y, true)) (h : y = n.fr) : x.receive n = if n.k = 0 then x.forwarded n else if n.k = 1 then x.acked n else x.some_ n.fr n.t := by
  rw [receive_good hg, hs]
  exact if_pos ⟨rfl, h⟩
set_option maxRecDepth 100000 in
set_option maxHeartbeats 16000000 in
theorem rreceive (h : RpAt w rp B L x) (n : NtV) (hv : BtAt w n.v) (ht : n.t < big) (hB : B ≤ 9000000) :
    Calls Tryz.prog 141 #[.pointer (some ⟨rp, 0, none⟩), n.val] w (fun e w' => e = .returned (.tuple #[]) ∧ RpPost w rp (B + 20) L (x.receive n.nt) w') := by
  have hN := (New.refl w).alloc (.cells n.cells 177)
  have hR := h.new hN
  have HR := Lib.hid hR
  have HN := Lib.hid hN
  have HX := Lib.hid (Blk.mk_new w 177 n.cells)
  have HV := Lib.hid (hv.new hN)
  obtain ⟨a0, a1, a2, a3, a4, a5, a6, a7, a8, a9, az⟩ := nt_facts HX.out
  obtain ⟨g0, c0, c1, c2, c3, c4, c5, c6, cz⟩ := hR.facts
  have c7 := hR.blk.cell 7
  have c8 := hR.blk.cell 8
  have c9 := hR.blk.cell 9
  have c10 := hR.blk.cell 10
  have c11 := hR.blk.cell 11
  have c12 := hR.blk.cell 12
  have HBAD := Lib.hid (receive_bad (x := x) (n := n.nt))
  clear h hv hN hR
  obtain ⟨nk, nfr, nds, nep, nt, nv⟩ := n
  obtain ⟨nvb, nvA, nvc⟩ := nv
  dsimp only [NtV.nt] at HBAD
  unfold NtV.val BtV.sl
  dsimp only [NtV.cells, BtV.sl, RpCells] at *
  go_enter Tryz.func141, Tryz.ntmps141
  go_upto_region 1 with fail
  generalize w.alloc _ = W at *
  by_cases hb1 : nt = 0
  case pos =>
    have d1 : ((nt : Int) == 0) = true := beq_iff_eq.2 (by omega)
    have HWHY := Lib.hid (show nt = 0 ∨ nds ≠ x.id ∨ nep ≠ x.cf.e ∨ nk < 0 ∨ 3 ≤ nk from .inl hb1)
    clear hb1
    refine wp_region_held_drew (S := fun w' => w' = W.drew) (by kernel_rfl) (rfl) (fun hHeld => ?_)
    refine tkN (i := 0) rfl ?_
    try simp only [Act.put, sA, sZ, sS]
    refine tkN (i := 1) rfl ?_
    try simp only [Act.put, sA, sZ, sS]
    refine tkN (i := 2) rfl ?_
    try simp only [Act.put, sA, sZ, sS]
    refine tkN (i := 3) rfl ?_
    try simp only [Act.put, sA, sZ, sS]
    refine tkU (i := 4) rfl ?_
    try simp only [Act.put, sA, sZ, sS]
    refine tkU (i := 5) rfl ?_
    try simp only [Act.put, sA, sZ, sS]
    refine tkU (i := 6) rfl ?_
    try simp only [Act.put, sA, sZ, sS]
    refine tkU (i := 7) rfl ?_
    try simp only [Act.put, sA, sZ, sS]
    refine tkU (i := 8) rfl ?_
    try simp only [Act.put, sA, sZ, sS]
    refine tkU (i := 9) rfl ?_
    try simp only [Act.put, sA, sZ, sS]
    refine tkU (i := 10) rfl ?_
    try simp only [Act.put, sA, sZ, sS]
    refine tkN (i := 11) rfl ?_
    try simp only [Act.put, sA, sZ, sS]
    refine tkN (i := 12) rfl ?_
    try simp only [Act.put, sA, sZ, sS]
    refine tkU (i := 13) rfl ?_
    try simp only [Act.put, sA, sZ, sS]
    refine tkU (i := 14) rfl ?_
    try simp only [Act.put, sA, sZ, sS]
    refine tkU (i := 15) rfl ?_
    try simp only [Act.put, sA, sZ, sS]
    refine tkU (i := 16) rfl ?_
    try simp only [Act.put, sA, sZ, sS]
    refine tkU (i := 17) rfl ?_
    try simp only [Act.put, sA, sZ, sS]
    refine tkU (i := 18) rfl ?_
    try simp only [Act.put, sA, sZ, sS]
    refine tkU (i := 19) rfl ?_
    try simp only [Act.put, sA, sZ, sS]
    refine tkU (i := 20) rfl ?_
    try simp only [Act.put, sA, sZ, sS]
    refine tkN (i := 21) rfl ?_
    try simp only [Act.put, sA, sZ, sS]
    refine tkN (i := 22) rfl ?_
    try simp only [Act.put, sA, sZ, sS]
    refine tkU (i := 23) rfl ?_
    try simp only [Act.put, sA, sZ, sS]
    refine tkU (i := 24) rfl ?_
    try simp only [Act.put, sA, sZ, sS]
    refine tkU (i := 25) rfl ?_
    try simp only [Act.put, sA, sZ, sS]
    refine tkN (i := 26) rfl ?_
    try simp only [Act.put, sA, sZ, sS]
    refine tkN (i := 27) rfl ?_
    try simp only [Act.put, sA, sZ, sS]
    refine tkU (i := 28) rfl ?_
    try simp only [Act.put, sA, sZ, sS]
    refine tkU (i := 29) rfl ?_
    try simp only [Act.put, sA, sZ, sS]
    refine tkU (i := 30) rfl ?_
    try simp only [Act.put, sA, sZ, sS]
    refine tkN (i := 31) rfl ?_
    try simp only [Act.put, sA, sZ, sS]
    refine wpAnyH_done (by kernel_rfl) ?_ _
    clear hHeld
    go_wp2_with fail
    refine bodyPost_ret (results_none rfl _ _ _) rfl ?_
    exact ⟨rfl, by rw [show x.receive (NtV.nt ⟨nk, nfr, nds, nep, nt, ⟨nvb, nvA, nvc⟩⟩) = x from HBAD.out HWHY.out]; exact (RpPost.pre HN.out.drew (RpPost.refl (HR.out.new (New.refl W).drew))).mono (by omega)⟩
  case neg =>
    have d1 : ((nt : Int) == 0) = false := beq_eq_false_iff_ne.2 (by omega)
    by_cases hb2 : nds ≠ x.id
    case pos =>
      have d2 : (nds != x.id) = true := by simpa using hb2
      have HWHY := Lib.hid (show nt = 0 ∨ nds ≠ x.id ∨ nep ≠ x.cf.e ∨ nk < 0 ∨ 3 ≤ nk from .inr (.inl hb2))
      clear hb1 hb2
      refine wp_region_held_drew (S := fun w' => w' = W.drew) (by kernel_rfl) (rfl) (fun hHeld => ?_)
      refine tkN (i := 0) rfl ?_
      try simp only [Act.put, sA, sZ, sS]
      refine tkN (i := 1) rfl ?_
      try simp only [Act.put, sA, sZ, sS]
      refine tkN (i := 2) rfl ?_
      try simp only [Act.put, sA, sZ, sS]
      refine tkN (i := 3) rfl ?_
      try simp only [Act.put, sA, sZ, sS]
      refine tkN (i := 4) rfl ?_
      try simp only [Act.put, sA, sZ, sS]
      refine tkN (i := 5) rfl ?_
      try simp only [Act.put, sA, sZ, sS]
      refine tkN (i := 6) rfl ?_
      try simp only [Act.put, sA, sZ, sS]
      refine tkN (i := 7) rfl ?_
      try simp only [Act.put, sA, sZ, sS]
      refine tkN (i := 8) rfl ?_
      try simp only [Act.put, sA, sZ, sS]
      refine tkN (i := 9) rfl ?_
      try simp only [Act.put, sA, sZ, sS]
      refine tkN (i := 10) rfl ?_
      try simp only [Act.put, sA, sZ, sS]
      refine tkN (i := 11) rfl ?_
      try simp only [Act.put, sA, sZ, sS]
      refine tkN (i := 12) rfl ?_
      try simp only [Act.put, sA, sZ, sS]
      refine tkU (i := 13) rfl ?_
      try simp only [Act.put, sA, sZ, sS]
      refine tkU (i := 14) rfl ?_
      try simp only [Act.put, sA, sZ, sS]
      refine tkU (i := 15) rfl ?_
      try simp only [Act.put, sA, sZ, sS]
      refine tkU (i := 16) rfl ?_
      try simp only [Act.put, sA, sZ, sS]
      refine tkU (i := 17) rfl ?_
      try simp only [Act.put, sA, sZ, sS]
      refine tkU (i := 18) rfl ?_
      try simp only [Act.put, sA, sZ, sS]
      refine tkU (i := 19) rfl ?_
      try simp only [Act.put, sA, sZ, sS]
      refine tkU (i := 20) rfl ?_
      try simp only [Act.put, sA, sZ, sS]
      refine tkN (i := 21) rfl ?_
      try simp only [Act.put, sA, sZ, sS]
      refine tkN (i := 22) rfl ?_
      try simp only [Act.put, sA, sZ, sS]
      refine tkU (i := 23) rfl ?_
      try simp only [Act.put, sA, sZ, sS]
      refine tkU (i := 24) rfl ?_
      try simp only [Act.put, sA, sZ, sS]
      refine tkU (i := 25) rfl ?_
      try simp only [Act.put, sA, sZ, sS]
      refine tkN (i := 26) rfl ?_
      try simp only [Act.put, sA, sZ, sS]
      refine tkN (i := 27) rfl ?_
      try simp only [Act.put, sA, sZ, sS]
      refine tkU (i := 28) rfl ?_
      try simp only [Act.put, sA, sZ, sS]
      refine tkU (i := 29) rfl ?_
      try simp only [Act.put, sA, sZ, sS]
      refine tkU (i := 30) rfl ?_
      try simp only [Act.put, sA, sZ, sS]
      refine tkN (i := 31) rfl ?_
      try simp only [Act.put, sA, sZ, sS]
      refine wpAnyH_done (by kernel_rfl) ?_ _
      clear hHeld
      go_wp2_with fail
      refine bodyPost_ret (results_none rfl _ _ _) rfl ?_
      exact ⟨rfl, by rw [show x.receive (NtV.nt ⟨nk, nfr, nds, nep, nt, ⟨nvb, nvA, nvc⟩⟩) = x from HBAD.out HWHY.out]; exact (RpPost.pre HN.out.drew (RpPost.refl (HR.out.new (New.refl W).drew))).mono (by omega)⟩
    case neg =>
      have d2 : (nds != x.id) = false := by simpa using hb2
      by_cases hb3 : nep ≠ x.cf.e
      case pos =>
        have d3 : ((nep : Int) != (x.cf.e : Int)) = true := by simp; omega
        have HWHY := Lib.hid (show nt = 0 ∨ nds ≠ x.id ∨ nep ≠ x.cf.e ∨ nk < 0 ∨ 3 ≤ nk from .inr (.inr (.inl hb3)))
        clear hb1 hb2 hb3
        refine wp_region_held_drew (S := fun w' => w' = W.drew) (by kernel_rfl) (rfl) (fun hHeld => ?_)
        refine tkN (i := 0) rfl ?_
        try simp only [Act.put, sA, sZ, sS]
        refine tkN (i := 1) rfl ?_
        try simp only [Act.put, sA, sZ, sS]
        refine tkN (i := 2) rfl ?_
        try simp only [Act.put, sA, sZ, sS]
        refine tkN (i := 3) rfl ?_
        try simp only [Act.put, sA, sZ, sS]
        refine tkN (i := 4) rfl ?_
        try simp only [Act.put, sA, sZ, sS]
        refine tkN (i := 5) rfl ?_
        try simp only [Act.put, sA, sZ, sS]
        refine tkN (i := 6) rfl ?_
        try simp only [Act.put, sA, sZ, sS]
        refine tkN (i := 7) rfl ?_
        try simp only [Act.put, sA, sZ, sS]
        refine tkN (i := 8) rfl ?_
        try simp only [Act.put, sA, sZ, sS]
        refine tkN (i := 9) rfl ?_
        try simp only [Act.put, sA, sZ, sS]
        refine tkN (i := 10) rfl ?_
        try simp only [Act.put, sA, sZ, sS]
        refine tkN (i := 11) rfl ?_
        try simp only [Act.put, sA, sZ, sS]
        refine tkN (i := 12) rfl ?_
        try simp only [Act.put, sA, sZ, sS]
        refine tkN (i := 13) rfl ?_
        try simp only [Act.put, sA, sZ, sS]
        refine tkN (i := 14) rfl ?_
        try simp only [Act.put, sA, sZ, sS]
        refine tkN (i := 15) rfl ?_
        try simp only [Act.put, sA, sZ, sS]
        refine tkN (i := 16) rfl ?_
        try simp only [Act.put, sA, sZ, sS]
        refine tkN (i := 17) rfl ?_
        try simp only [Act.put, sA, sZ, sS]
        refine tkN (i := 18) rfl ?_
        try simp only [Act.put, sA, sZ, sS]
        refine tkN (i := 19) rfl ?_
        try simp only [Act.put, sA, sZ, sS]
        refine tkN (i := 20) rfl ?_
        try simp only [Act.put, sA, sZ, sS]
        refine tkN (i := 21) rfl ?_
        try simp only [Act.put, sA, sZ, sS]
        refine tkN (i := 22) rfl ?_
        try simp only [Act.put, sA, sZ, sS]
        refine tkU (i := 23) rfl ?_
        try simp only [Act.put, sA, sZ, sS]
        refine tkU (i := 24) rfl ?_
        try simp only [Act.put, sA, sZ, sS]
        refine tkU (i := 25) rfl ?_
        try simp only [Act.put, sA, sZ, sS]
        refine tkN (i := 26) rfl ?_
        try simp only [Act.put, sA, sZ, sS]
        refine tkN (i := 27) rfl ?_
        try simp only [Act.put, sA, sZ, sS]
        refine tkU (i := 28) rfl ?_
        try simp only [Act.put, sA, sZ, sS]
        refine tkU (i := 29) rfl ?_
        try simp only [Act.put, sA, sZ, sS]
        refine tkU (i := 30) rfl ?_
        try simp only [Act.put, sA, sZ, sS]
        refine tkN (i := 31) rfl ?_
        try simp only [Act.put, sA, sZ, sS]
        refine wpAnyH_done (by kernel_rfl) ?_ _
        clear hHeld
        go_wp2_with fail
        refine bodyPost_ret (results_none rfl _ _ _) rfl ?_
        exact ⟨rfl, by rw [show x.receive (NtV.nt ⟨nk, nfr, nds, nep, nt, ⟨nvb, nvA, nvc⟩⟩) = x from HBAD.out HWHY.out]; exact (RpPost.pre HN.out.drew (RpPost.refl (HR.out.new (New.refl W).drew))).mono (by omega)⟩
      case neg =>
        have d3 : ((nep : Int) != (x.cf.e : Int)) = false := by simp; omega
        by_cases hb4 : nk < 0
        case pos =>
          have d4 : decide (nk < 0) = true := decide_eq_true hb4
          have HWHY := Lib.hid (show nt = 0 ∨ nds ≠ x.id ∨ nep ≠ x.cf.e ∨ nk < 0 ∨ 3 ≤ nk from .inr (.inr (.inr (.inl hb4))))
          clear hb1 hb2 hb3 hb4
          refine wp_region_held_drew (S := fun w' => w' = W.drew) (by kernel_rfl) (rfl) (fun hHeld => ?_)
          refine tkN (i := 0) rfl ?_
          try simp only [Act.put, sA, sZ, sS]
          refine tkN (i := 1) rfl ?_
          try simp only [Act.put, sA, sZ, sS]
          refine tkN (i := 2) rfl ?_
          try simp only [Act.put, sA, sZ, sS]
          refine tkN (i := 3) rfl ?_
          try simp only [Act.put, sA, sZ, sS]
          refine tkN (i := 4) rfl ?_
          try simp only [Act.put, sA, sZ, sS]
          refine tkN (i := 5) rfl ?_
          try simp only [Act.put, sA, sZ, sS]
          refine tkN (i := 6) rfl ?_
          try simp only [Act.put, sA, sZ, sS]
          refine tkN (i := 7) rfl ?_
          try simp only [Act.put, sA, sZ, sS]
          refine tkN (i := 8) rfl ?_
          try simp only [Act.put, sA, sZ, sS]
          refine tkN (i := 9) rfl ?_
          try simp only [Act.put, sA, sZ, sS]
          refine tkN (i := 10) rfl ?_
          try simp only [Act.put, sA, sZ, sS]
          refine tkN (i := 11) rfl ?_
          try simp only [Act.put, sA, sZ, sS]
          refine tkN (i := 12) rfl ?_
          try simp only [Act.put, sA, sZ, sS]
          refine tkN (i := 13) rfl ?_
          try simp only [Act.put, sA, sZ, sS]
          refine tkN (i := 14) rfl ?_
          try simp only [Act.put, sA, sZ, sS]
          refine tkN (i := 15) rfl ?_
          try simp only [Act.put, sA, sZ, sS]
          refine tkN (i := 16) rfl ?_
          try simp only [Act.put, sA, sZ, sS]
          refine tkN (i := 17) rfl ?_
          try simp only [Act.put, sA, sZ, sS]
          refine tkN (i := 18) rfl ?_
          try simp only [Act.put, sA, sZ, sS]
          refine tkN (i := 19) rfl ?_
          try simp only [Act.put, sA, sZ, sS]
          refine tkN (i := 20) rfl ?_
          try simp only [Act.put, sA, sZ, sS]
          refine tkN (i := 21) rfl ?_
          try simp only [Act.put, sA, sZ, sS]
          refine tkN (i := 22) rfl ?_
          try simp only [Act.put, sA, sZ, sS]
          refine tkN (i := 23) rfl ?_
          try simp only [Act.put, sA, sZ, sS]
          refine tkN (i := 24) rfl ?_
          try simp only [Act.put, sA, sZ, sS]
          refine tkN (i := 25) rfl ?_
          try simp only [Act.put, sA, sZ, sS]
          refine tkN (i := 26) rfl ?_
          try simp only [Act.put, sA, sZ, sS]
          refine tkN (i := 27) rfl ?_
          try simp only [Act.put, sA, sZ, sS]
          refine tkU (i := 28) rfl ?_
          try simp only [Act.put, sA, sZ, sS]
          refine tkU (i := 29) rfl ?_
          try simp only [Act.put, sA, sZ, sS]
          refine tkU (i := 30) rfl ?_
          try simp only [Act.put, sA, sZ, sS]
          refine tkN (i := 31) rfl ?_
          try simp only [Act.put, sA, sZ, sS]
          refine wpAnyH_done (by kernel_rfl) ?_ _
          clear hHeld
          go_wp2_with fail
          refine bodyPost_ret (results_none rfl _ _ _) rfl ?_
          exact ⟨rfl, by rw [show x.receive (NtV.nt ⟨nk, nfr, nds, nep, nt, ⟨nvb, nvA, nvc⟩⟩) = x from HBAD.out HWHY.out]; exact (RpPost.pre HN.out.drew (RpPost.refl (HR.out.new (New.refl W).drew))).mono (by omega)⟩
        case neg =>
          have d4 : decide (nk < 0) = false := decide_eq_false hb4
          by_cases hb5 : 3 ≤ nk
          case pos =>
            have d5 : decide (3 ≤ nk) = true := decide_eq_true hb5
            have HWHY := Lib.hid (show nt = 0 ∨ nds ≠ x.id ∨ nep ≠ x.cf.e ∨ nk < 0 ∨ 3 ≤ nk from .inr (.inr (.inr (.inr hb5))))
            clear hb1 hb2 hb3 hb4 hb5
            refine wp_region_held_drew (S := fun w' => w' = W.drew) (by kernel_rfl) (rfl) (fun hHeld => ?_)
            refine tkN (i := 0) rfl ?_
            try simp only [Act.put, sA, sZ, sS]
            refine tkN (i := 1) rfl ?_
            try simp only [Act.put, sA, sZ, sS]
            refine tkN (i := 2) rfl ?_
            try simp only [Act.put, sA, sZ, sS]
            refine tkN (i := 3) rfl ?_
            try simp only [Act.put, sA, sZ, sS]
            refine tkN (i := 4) rfl ?_
            try simp only [Act.put, sA, sZ, sS]
            refine tkN (i := 5) rfl ?_
            try simp only [Act.put, sA, sZ, sS]
            refine tkN (i := 6) rfl ?_
            try simp only [Act.put, sA, sZ, sS]
            refine tkN (i := 7) rfl ?_
            try simp only [Act.put, sA, sZ, sS]
            refine tkN (i := 8) rfl ?_
            try simp only [Act.put, sA, sZ, sS]
            refine tkN (i := 9) rfl ?_
            try simp only [Act.put, sA, sZ, sS]
            refine tkN (i := 10) rfl ?_
            try simp only [Act.put, sA, sZ, sS]
            refine tkN (i := 11) rfl ?_
            try simp only [Act.put, sA, sZ, sS]
            refine tkN (i := 12) rfl ?_
            try simp only [Act.put, sA, sZ, sS]
            refine tkN (i := 13) rfl ?_
            try simp only [Act.put, sA, sZ, sS]
            refine tkN (i := 14) rfl ?_
            try simp only [Act.put, sA, sZ, sS]
            refine tkN (i := 15) rfl ?_
            try simp only [Act.put, sA, sZ, sS]
            refine tkN (i := 16) rfl ?_
            try simp only [Act.put, sA, sZ, sS]
            refine tkN (i := 17) rfl ?_
            try simp only [Act.put, sA, sZ, sS]
            refine tkN (i := 18) rfl ?_
            try simp only [Act.put, sA, sZ, sS]
            refine tkN (i := 19) rfl ?_
            try simp only [Act.put, sA, sZ, sS]
            refine tkN (i := 20) rfl ?_
            try simp only [Act.put, sA, sZ, sS]
            refine tkN (i := 21) rfl ?_
            try simp only [Act.put, sA, sZ, sS]
            refine tkN (i := 22) rfl ?_
            try simp only [Act.put, sA, sZ, sS]
            refine tkN (i := 23) rfl ?_
            try simp only [Act.put, sA, sZ, sS]
            refine tkN (i := 24) rfl ?_
            try simp only [Act.put, sA, sZ, sS]
            refine tkN (i := 25) rfl ?_
            try simp only [Act.put, sA, sZ, sS]
            refine tkN (i := 26) rfl ?_
            try simp only [Act.put, sA, sZ, sS]
            refine tkN (i := 27) rfl ?_
            try simp only [Act.put, sA, sZ, sS]
            refine tkN (i := 28) rfl ?_
            try simp only [Act.put, sA, sZ, sS]
            refine tkN (i := 29) rfl ?_
            try simp only [Act.put, sA, sZ, sS]
            refine tkN (i := 30) rfl ?_
            try simp only [Act.put, sA, sZ, sS]
            refine tkN (i := 31) rfl ?_
            try simp only [Act.put, sA, sZ, sS]
            refine wpAnyH_done (by kernel_rfl) ?_ _
            clear hHeld
            go_wp2_with fail
            refine bodyPost_ret (results_none rfl _ _ _) rfl ?_
            exact ⟨rfl, by rw [show x.receive (NtV.nt ⟨nk, nfr, nds, nep, nt, ⟨nvb, nvA, nvc⟩⟩) = x from HBAD.out HWHY.out]; exact (RpPost.pre HN.out.drew (RpPost.refl (HR.out.new (New.refl W).drew))).mono (by omega)⟩
          case neg =>
            have d5 : decide (3 ≤ nk) = false := decide_eq_false hb5
            have HG := Lib.hid (show ¬ (nt = 0 ∨ nds ≠ x.id ∨ nep ≠ x.cf.e ∨ nk < 0 ∨ 3 ≤ nk) from by rintro (h | h | h | h | h); exact hb1 h; exact hb2 h; exact hb3 h; exact hb4 h; exact hb5 h)
            obtain hk | hk | hk : nk = 0 ∨ nk = 1 ∨ nk = 2 := by omega
            · subst hk
              clear hb1 hb2 hb3 hb4 hb5 HBAD
              obtain ⟨⟨y, ok⟩, hbf⟩ : ∃ r, befC x.cf x.id = r := ⟨_, rfl⟩
              have HBF := Lib.hid hbf
              have HSD : Hid (x.side 0 = (y, ok)) := Lib.hid (by unfold Rpl.side; exact (if_pos rfl).trans hbf)
              clear hbf
              refine wp_region_held_drew (S := fun w' => w' = W.drew) (by kernel_rfl) (rfl) (fun hHeld => ?_)
              refine tkN (i := 0) rfl ?_
              try simp only [Act.put, sA, sZ, sS]
              refine tkN (i := 1) rfl ?_
              try simp only [Act.put, sA, sZ, sS]
              refine tkN (i := 2) rfl ?_
              try simp only [Act.put, sA, sZ, sS]
              refine tkN (i := 3) rfl ?_
              try simp only [Act.put, sA, sZ, sS]
              refine tkN (i := 4) rfl ?_
              try simp only [Act.put, sA, sZ, sS]
              refine tkN (i := 5) rfl ?_
              try simp only [Act.put, sA, sZ, sS]
              refine tkN (i := 6) rfl ?_
              try simp only [Act.put, sA, sZ, sS]
              refine tkN (i := 7) rfl ?_
              try simp only [Act.put, sA, sZ, sS]
              refine tkN (i := 8) rfl ?_
              try simp only [Act.put, sA, sZ, sS]
              refine tkN (i := 9) rfl ?_
              try simp only [Act.put, sA, sZ, sS]
              refine tkN (i := 10) rfl ?_
              try simp only [Act.put, sA, sZ, sS]
              refine tkN (i := 11) rfl ?_
              try simp only [Act.put, sA, sZ, sS]
              refine tkN (i := 12) rfl ?_
              try simp only [Act.put, sA, sZ, sS]
              refine tkN (i := 13) rfl ?_
              try simp only [Act.put, sA, sZ, sS]
              refine tkN (i := 14) rfl ?_
              try simp only [Act.put, sA, sZ, sS]
              refine tkN (i := 15) rfl ?_
              try simp only [Act.put, sA, sZ, sS]
              refine tkN (i := 16) rfl ?_
              try simp only [Act.put, sA, sZ, sS]
              refine tkN (i := 17) rfl ?_
              try simp only [Act.put, sA, sZ, sS]
              refine tkN (i := 18) rfl ?_
              try simp only [Act.put, sA, sZ, sS]
              refine tkN (i := 19) rfl ?_
              try simp only [Act.put, sA, sZ, sS]
              refine tkN (i := 20) rfl ?_
              try simp only [Act.put, sA, sZ, sS]
              refine tkN (i := 21) rfl ?_
              try simp only [Act.put, sA, sZ, sS]
              refine tkN (i := 22) rfl ?_
              try simp only [Act.put, sA, sZ, sS]
              refine tkN (i := 23) rfl ?_
              try simp only [Act.put, sA, sZ, sS]
              refine tkN (i := 24) rfl ?_
              try simp only [Act.put, sA, sZ, sS]
              refine tkN (i := 25) rfl ?_
              try simp only [Act.put, sA, sZ, sS]
              refine tkN (i := 26) rfl ?_
              try simp only [Act.put, sA, sZ, sS]
              refine tkN (i := 27) rfl ?_
              try simp only [Act.put, sA, sZ, sS]
              refine tkN (i := 28) rfl ?_
              try simp only [Act.put, sA, sZ, sS]
              refine tkN (i := 29) rfl ?_
              try simp only [Act.put, sA, sZ, sS]
              refine tkN (i := 30) rfl ?_
              try simp only [Act.put, sA, sZ, sS]
              refine tkN (i := 31) rfl ?_
              try simp only [Act.put, sA, sZ, sS]
              refine wpAnyH_done (by kernel_rfl) ?_ _
              clear hHeld
              go_upto_region 2 with fail
              refine wp_region_held_drew (S := fun w' => (∀ o, w'.cell? ⟨w.heap.size, o, none⟩ = W.cell? ⟨w.heap.size, o, none⟩) ∧ (∀ o, w'.cell? ⟨rp, o, none⟩ = W.cell? ⟨rp, o, none⟩)) (by kernel_rfl) (⟨fun _ => rfl, fun _ => rfl⟩) (fun hHeld => ?_)
              refine tkN (i := 0) rfl ?_
              try simp only [Act.put, sA, sZ, sS]
              refine tkN (i := 1) rfl ?_
              try simp only [Act.put, sA, sZ, sS]
              refine tkN (i := 2) rfl ?_
              try simp only [Act.put, sA, sZ, sS]
              refine tkN (i := 3) rfl ?_
              try simp only [Act.put, sA, sZ, sS]
              refine tkN (i := 4) rfl ?_
              try simp only [Act.put, sA, sZ, sS]
              refine tkN (i := 5) rfl ?_
              try simp only [Act.put, sA, sZ, sS]
              refine tkN (i := 6) rfl ?_
              try simp only [Act.put, sA, sZ, sS]
              refine stN (i := 7) rfl (fun K hK => ?_)
              go_simp
              refine hK.out _ _ ?_ (fun hHeld => ?_)
              · exact ⟨fun o => keepR (S := fun _ => False) (Upd.new (((New.refl W).drew.drew).alloc _)) HX.out.lt (fun h => h) o, fun o => keepR (S := fun _ => False) (Upd.new (((New.refl W).drew.drew).alloc _)) HR.out.blk.lt (fun h => h) o⟩
              clear hK K
              try simp only [Act.put, sA, sZ, sS]
              refine stN (i := 8) rfl (fun K hK => ?_)
              go_simp
              refine hK.out _ _ ?_ (fun hHeld => ?_)
              · exact ⟨fun o => keepR (S := fun _ => False) (Upd.new (((New.refl W).drew.drew).alloc _)) HX.out.lt (fun h => h) o, fun o => keepR (S := fun _ => False) (Upd.new (((New.refl W).drew.drew).alloc _)) HR.out.blk.lt (fun h => h) o⟩
              clear hK K
              try simp only [Act.put, sA, sZ, sS]
              refine wpAnyH_done (by kernel_rfl) ?_ _
              clear hHeld
              obtain ⟨W2, hW2⟩ : ∃ W2, W2 = (W.alloc (.cells #[.func (.func 133) #[.pointer (some ⟨rp, 0, none⟩)] #[], .func (.func 134) #[] #[]] 131)).drew.drew := ⟨_, rfl⟩
              have hn2 : New W W2 := by rw [hW2]; exact ((New.refl W).alloc _).drew.drew
              have hh2 : Blk W2 W.heap.size 131 #[.func (.func 133) #[.pointer (some ⟨rp, 0, none⟩)] #[], .func (.func 134) #[] #[]] := by rw [hW2]; exact (Blk.mk_new W _ _).drew.drew
              have HR2 := Lib.hid (HR.out.new hn2)
              have HX2 := Lib.hid (HX.out.new hn2)
              have HV2 := Lib.hid (HV.out.new hn2)
              have HN2 := Lib.hid (HN.out.trans hn2)
              have HH2 := Lib.hid hh2
              clear a0 a1 a2 a3 a4 a5 a6 a7 a8 a9 az g0 c0 c1 c2 c3 c4 c5 c6 cz c7 c8 c9 c10 c11 c12
              obtain ⟨h0, h1, h2, hz⟩ := Blk2W hh2
              obtain ⟨a0, a1, a2, a3, a4, a5, a6, a7, a8, a9, az⟩ := nt_facts (n := ⟨0, nfr, nds, nep, nt, ⟨nvb, nvA, nvc⟩⟩) HX2.out
              dsimp only [BtV.sl] at a1 a2 a3 a4 a5 a6 a7 a8 a9
              obtain ⟨g0, c0, c1, c2, c3, c4, c5, c6, cz⟩ := HR2.out.facts
              clear hn2 hh2
              skip
              rw [← hW2]
              clear hW2
              go_upto_region 3 with fail
              refine wp_region_held_drew (S := fun w' => Held W2 w') (by kernel_rfl) (Held.of (New.refl _).drew) (fun hHeld => ?_)
              refine tkN (i := 0) rfl ?_
              try simp only [Act.put, sA, sZ, sS]
              refine tkN (i := 1) rfl ?_
              try simp only [Act.put, sA, sZ, sS]
              refine tkN (i := 2) rfl ?_
              try simp only [Act.put, sA, sZ, sS]
              refine tkN (i := 3) rfl ?_
              try simp only [Act.put, sA, sZ, sS]
              refine tkN (i := 4) rfl ?_
              try simp only [Act.put, sA, sZ, sS]
              refine tkN (i := 5) rfl ?_
              try simp only [Act.put, sA, sZ, sS]
              refine tkN (i := 6) rfl ?_
              try simp only [Act.put, sA, sZ, sS]
              refine tkN (i := 7) rfl ?_
              try simp only [Act.put, sA, sZ, sS]
              refine tkN (i := 8) rfl ?_
              try simp only [Act.put, sA, sZ, sS]
              refine tkN (i := 9) rfl ?_
              try simp only [Act.put, sA, sZ, sS]
              refine stN (i := 10) rfl (fun K hK => ?_)
              go_simp
              have hcall := rbefore (HR2.out.new (New.refl W2).drew)
              rw [HBF.out] at hcall
              refine hcall.mono ?_
              rintro e w5 ⟨rfl, hn5⟩
              have hn5W : New W2 w5 := (New.refl W2).drew.trans hn5
              refine hK.out _ _ ?_ (fun hHeld => ?_)
              · exact Held.of hn5W
              clear hK K
              try simp only [Act.put, sA, sZ, sS]
              refine tkN (i := 11) rfl ?_
              try simp only [Act.put, sA, sZ, sS]
              refine tkN (i := 12) rfl ?_
              try simp only [Act.put, sA, sZ, sS]
              refine tkN (i := 13) rfl ?_
              try simp only [Act.put, sA, sZ, sS]
              refine tkN (i := 14) rfl ?_
              try simp only [Act.put, sA, sZ, sS]
              refine tkN (i := 15) rfl ?_
              try simp only [Act.put, sA, sZ, sS]
              refine wpAnyH_done (by kernel_rfl) ?_ _
              clear hHeld
              have HR5 := Lib.hid (HR2.out.new hn5W)
              have HX5 := Lib.hid (HX2.out.new hn5W)
              have HH5 := Lib.hid (HH2.out.new hn5W)
              have HV5 := Lib.hid (HV2.out.new hn5W)
              have HN5 := Lib.hid (HN2.out.trans hn5W)
              clear hn5 hn5W h0 h1 h2 hz a0 a1 a2 a3 a4 a5 a6 a7 a8 a9 az g0 c0 c1 c2 c3 c4 c5 c6 cz
              obtain ⟨a0, a1, a2, a3, a4, a5, a6, a7, a8, a9, az⟩ := nt_facts (n := ⟨0, nfr, nds, nep, nt, ⟨nvb, nvA, nvc⟩⟩) HX5.out
              obtain ⟨h0, h1, h2, hz⟩ := Blk2W HH5.out
              dsimp only [BtV.sl] at a1 a2 a3 a4 a5 a6 a7 a8 a9
              cases ok with
              | false =>
                have HF : Hid (x.receive (NtV.nt ⟨0, nfr, nds, nep, nt, ⟨nvb, nvA, nvc⟩⟩) = x) := Lib.hid (recv_no (n := NtV.nt ⟨0, nfr, nds, nep, nt, ⟨nvb, nvA, nvc⟩⟩) HG.out HSD.out (fun h => by cases h.1))
                go_wp2_with fail
                go_end0
                exact ⟨rfl, by rw [HF.out]; exact (RpPost.pre HN5.out (RpPost.refl HR5.out)).mono (by omega)⟩
              | true =>
                by_cases hy : y = nfr
                · have HF : Hid (x.receive (NtV.nt ⟨0, nfr, nds, nep, nt, ⟨nvb, nvA, nvc⟩⟩) = x.forwarded (NtV.nt ⟨0, nfr, nds, nep, nt, ⟨nvb, nvA, nvc⟩⟩)) := Lib.hid (recv_yes (n := NtV.nt ⟨0, nfr, nds, nep, nt, ⟨nvb, nvA, nvc⟩⟩) HG.out HSD.out hy)
                  have d9 : (y == nfr) = true := beq_iff_eq.2 hy
                  clear hy
                  go_wp2_with fail
                  refine (rforwarded HR5.out ⟨0, nfr, nds, nep, nt, ⟨nvb, nvA, nvc⟩⟩ HV5.out hB).mono ?_
                  rintro e w6 ⟨rfl, hp⟩
                  go_wp2_with fail
                  go_end0
                  exact ⟨rfl, by rw [HF.out]; exact (RpPost.pre HN5.out hp).mono (by omega)⟩
                · have HF : Hid (x.receive (NtV.nt ⟨0, nfr, nds, nep, nt, ⟨nvb, nvA, nvc⟩⟩) = x) := Lib.hid (recv_no (n := NtV.nt ⟨0, nfr, nds, nep, nt, ⟨nvb, nvA, nvc⟩⟩) HG.out HSD.out (fun h => hy h.2))
                  have d9 : (y == nfr) = false := beq_eq_false_iff_ne.2 hy
                  clear hy
                  go_wp2_with fail
                  go_end0
                  exact ⟨rfl, by rw [HF.out]; exact (RpPost.pre HN5.out (RpPost.refl HR5.out)).mono (by omega)⟩
            · subst hk
              clear hb1 hb2 hb3 hb4 hb5 HBAD
              obtain ⟨⟨y, ok⟩, hbf⟩ : ∃ r, nextC x.cf x.id = r := ⟨_, rfl⟩
              have HBF := Lib.hid hbf
              have HSD : Hid (x.side 1 = (y, ok)) := Lib.hid (by unfold Rpl.side; exact (if_neg (by decide)).trans hbf)
              clear hbf
              refine wp_region_held_drew (S := fun w' => w' = W.drew) (by kernel_rfl) (rfl) (fun hHeld => ?_)
              refine tkN (i := 0) rfl ?_
              try simp only [Act.put, sA, sZ, sS]
              refine tkN (i := 1) rfl ?_
              try simp only [Act.put, sA, sZ, sS]
              refine tkN (i := 2) rfl ?_
              try simp only [Act.put, sA, sZ, sS]
              refine tkN (i := 3) rfl ?_
              try simp only [Act.put, sA, sZ, sS]
              refine tkN (i := 4) rfl ?_
              try simp only [Act.put, sA, sZ, sS]
              refine tkN (i := 5) rfl ?_
              try simp only [Act.put, sA, sZ, sS]
              refine tkN (i := 6) rfl ?_
              try simp only [Act.put, sA, sZ, sS]
              refine tkN (i := 7) rfl ?_
              try simp only [Act.put, sA, sZ, sS]
              refine tkN (i := 8) rfl ?_
              try simp only [Act.put, sA, sZ, sS]
              refine tkN (i := 9) rfl ?_
              try simp only [Act.put, sA, sZ, sS]
              refine tkN (i := 10) rfl ?_
              try simp only [Act.put, sA, sZ, sS]
              refine tkN (i := 11) rfl ?_
              try simp only [Act.put, sA, sZ, sS]
              refine tkN (i := 12) rfl ?_
              try simp only [Act.put, sA, sZ, sS]
              refine tkN (i := 13) rfl ?_
              try simp only [Act.put, sA, sZ, sS]
              refine tkN (i := 14) rfl ?_
              try simp only [Act.put, sA, sZ, sS]
              refine tkN (i := 15) rfl ?_
              try simp only [Act.put, sA, sZ, sS]
              refine tkN (i := 16) rfl ?_
              try simp only [Act.put, sA, sZ, sS]
              refine tkN (i := 17) rfl ?_
              try simp only [Act.put, sA, sZ, sS]
              refine tkN (i := 18) rfl ?_
              try simp only [Act.put, sA, sZ, sS]
              refine tkN (i := 19) rfl ?_
              try simp only [Act.put, sA, sZ, sS]
              refine tkN (i := 20) rfl ?_
              try simp only [Act.put, sA, sZ, sS]
              refine tkN (i := 21) rfl ?_
              try simp only [Act.put, sA, sZ, sS]
              refine tkN (i := 22) rfl ?_
              try simp only [Act.put, sA, sZ, sS]
              refine tkN (i := 23) rfl ?_
              try simp only [Act.put, sA, sZ, sS]
              refine tkN (i := 24) rfl ?_
              try simp only [Act.put, sA, sZ, sS]
              refine tkN (i := 25) rfl ?_
              try simp only [Act.put, sA, sZ, sS]
              refine tkN (i := 26) rfl ?_
              try simp only [Act.put, sA, sZ, sS]
              refine tkN (i := 27) rfl ?_
              try simp only [Act.put, sA, sZ, sS]
              refine tkN (i := 28) rfl ?_
              try simp only [Act.put, sA, sZ, sS]
              refine tkN (i := 29) rfl ?_
              try simp only [Act.put, sA, sZ, sS]
              refine tkN (i := 30) rfl ?_
              try simp only [Act.put, sA, sZ, sS]
              refine tkN (i := 31) rfl ?_
              try simp only [Act.put, sA, sZ, sS]
              refine wpAnyH_done (by kernel_rfl) ?_ _
              clear hHeld
              go_upto_region 2 with fail
              refine wp_region_held_drew (S := fun w' => (∀ o, w'.cell? ⟨w.heap.size, o, none⟩ = W.cell? ⟨w.heap.size, o, none⟩) ∧ (∀ o, w'.cell? ⟨rp, o, none⟩ = W.cell? ⟨rp, o, none⟩)) (by kernel_rfl) (⟨fun _ => rfl, fun _ => rfl⟩) (fun hHeld => ?_)
              refine tkN (i := 0) rfl ?_
              try simp only [Act.put, sA, sZ, sS]
              refine tkN (i := 1) rfl ?_
              try simp only [Act.put, sA, sZ, sS]
              refine tkN (i := 2) rfl ?_
              try simp only [Act.put, sA, sZ, sS]
              refine tkN (i := 3) rfl ?_
              try simp only [Act.put, sA, sZ, sS]
              refine tkN (i := 4) rfl ?_
              try simp only [Act.put, sA, sZ, sS]
              refine tkN (i := 5) rfl ?_
              try simp only [Act.put, sA, sZ, sS]
              refine tkN (i := 6) rfl ?_
              try simp only [Act.put, sA, sZ, sS]
              refine stN (i := 7) rfl (fun K hK => ?_)
              go_simp
              refine hK.out _ _ ?_ (fun hHeld => ?_)
              · exact ⟨fun o => keepR (S := fun _ => False) (Upd.new (((New.refl W).drew.drew).alloc _)) HX.out.lt (fun h => h) o, fun o => keepR (S := fun _ => False) (Upd.new (((New.refl W).drew.drew).alloc _)) HR.out.blk.lt (fun h => h) o⟩
              clear hK K
              try simp only [Act.put, sA, sZ, sS]
              refine stN (i := 8) rfl (fun K hK => ?_)
              go_simp
              refine hK.out _ _ ?_ (fun hHeld => ?_)
              · exact ⟨fun o => keepR (S := fun _ => False) (Upd.new (((New.refl W).drew.drew).alloc _)) HX.out.lt (fun h => h) o, fun o => keepR (S := fun _ => False) (Upd.new (((New.refl W).drew.drew).alloc _)) HR.out.blk.lt (fun h => h) o⟩
              clear hK K
              try simp only [Act.put, sA, sZ, sS]
              refine wpAnyH_done (by kernel_rfl) ?_ _
              clear hHeld
              obtain ⟨W2, hW2⟩ : ∃ W2, W2 = (W.alloc (.cells #[.func (.func 135) #[.pointer (some ⟨rp, 0, none⟩)] #[], .func (.func 93) #[] #[]] 131)).drew.drew := ⟨_, rfl⟩
              have hn2 : New W W2 := by rw [hW2]; exact ((New.refl W).alloc _).drew.drew
              have hh2 : Blk W2 W.heap.size 131 #[.func (.func 135) #[.pointer (some ⟨rp, 0, none⟩)] #[], .func (.func 93) #[] #[]] := by rw [hW2]; exact (Blk.mk_new W _ _).drew.drew
              have HR2 := Lib.hid (HR.out.new hn2)
              have HX2 := Lib.hid (HX.out.new hn2)
              have HV2 := Lib.hid (HV.out.new hn2)
              have HN2 := Lib.hid (HN.out.trans hn2)
              have HH2 := Lib.hid hh2
              clear a0 a1 a2 a3 a4 a5 a6 a7 a8 a9 az g0 c0 c1 c2 c3 c4 c5 c6 cz c7 c8 c9 c10 c11 c12
              obtain ⟨h0, h1, h2, hz⟩ := Blk2W hh2
              obtain ⟨a0, a1, a2, a3, a4, a5, a6, a7, a8, a9, az⟩ := nt_facts (n := ⟨1, nfr, nds, nep, nt, ⟨nvb, nvA, nvc⟩⟩) HX2.out
              dsimp only [BtV.sl] at a1 a2 a3 a4 a5 a6 a7 a8 a9
              obtain ⟨g0, c0, c1, c2, c3, c4, c5, c6, cz⟩ := HR2.out.facts
              clear hn2 hh2
              skip
              rw [← hW2]
              clear hW2
              go_upto_region 3 with fail
              refine wp_region_held_drew (S := fun w' => Held W2 w') (by kernel_rfl) (Held.of (New.refl _).drew) (fun hHeld => ?_)
              refine tkN (i := 0) rfl ?_
              try simp only [Act.put, sA, sZ, sS]
              refine tkN (i := 1) rfl ?_
              try simp only [Act.put, sA, sZ, sS]
              refine tkN (i := 2) rfl ?_
              try simp only [Act.put, sA, sZ, sS]
              refine tkN (i := 3) rfl ?_
              try simp only [Act.put, sA, sZ, sS]
              refine tkN (i := 4) rfl ?_
              try simp only [Act.put, sA, sZ, sS]
              refine tkN (i := 5) rfl ?_
              try simp only [Act.put, sA, sZ, sS]
              refine tkN (i := 6) rfl ?_
              try simp only [Act.put, sA, sZ, sS]
              refine tkN (i := 7) rfl ?_
              try simp only [Act.put, sA, sZ, sS]
              refine tkN (i := 8) rfl ?_
              try simp only [Act.put, sA, sZ, sS]
              refine tkN (i := 9) rfl ?_
              try simp only [Act.put, sA, sZ, sS]
              refine stN (i := 10) rfl (fun K hK => ?_)
              go_simp
              have hcall := rnext (HR2.out.new (New.refl W2).drew)
              rw [HBF.out] at hcall
              refine hcall.mono ?_
              rintro e w5 ⟨rfl, hn5⟩
              have hn5W : New W2 w5 := (New.refl W2).drew.trans hn5
              refine hK.out _ _ ?_ (fun hHeld => ?_)
              · exact Held.of hn5W
              clear hK K
              try simp only [Act.put, sA, sZ, sS]
              refine tkN (i := 11) rfl ?_
              try simp only [Act.put, sA, sZ, sS]
              refine tkN (i := 12) rfl ?_
              try simp only [Act.put, sA, sZ, sS]
              refine tkN (i := 13) rfl ?_
              try simp only [Act.put, sA, sZ, sS]
              refine tkN (i := 14) rfl ?_
              try simp only [Act.put, sA, sZ, sS]
              refine tkN (i := 15) rfl ?_
              try simp only [Act.put, sA, sZ, sS]
              refine wpAnyH_done (by kernel_rfl) ?_ _
              clear hHeld
              have HR5 := Lib.hid (HR2.out.new hn5W)
              have HX5 := Lib.hid (HX2.out.new hn5W)
              have HH5 := Lib.hid (HH2.out.new hn5W)
              have HV5 := Lib.hid (HV2.out.new hn5W)
              have HN5 := Lib.hid (HN2.out.trans hn5W)
              clear hn5 hn5W h0 h1 h2 hz a0 a1 a2 a3 a4 a5 a6 a7 a8 a9 az g0 c0 c1 c2 c3 c4 c5 c6 cz
              obtain ⟨a0, a1, a2, a3, a4, a5, a6, a7, a8, a9, az⟩ := nt_facts (n := ⟨1, nfr, nds, nep, nt, ⟨nvb, nvA, nvc⟩⟩) HX5.out
              obtain ⟨h0, h1, h2, hz⟩ := Blk2W HH5.out
              dsimp only [BtV.sl] at a1 a2 a3 a4 a5 a6 a7 a8 a9
              cases ok with
              | false =>
                have HF : Hid (x.receive (NtV.nt ⟨1, nfr, nds, nep, nt, ⟨nvb, nvA, nvc⟩⟩) = x) := Lib.hid (recv_no (n := NtV.nt ⟨1, nfr, nds, nep, nt, ⟨nvb, nvA, nvc⟩⟩) HG.out HSD.out (fun h => by cases h.1))
                go_wp2_with fail
                go_end0
                exact ⟨rfl, by rw [HF.out]; exact (RpPost.pre HN5.out (RpPost.refl HR5.out)).mono (by omega)⟩
              | true =>
                by_cases hy : y = nfr
                · have HF : Hid (x.receive (NtV.nt ⟨1, nfr, nds, nep, nt, ⟨nvb, nvA, nvc⟩⟩) = x.acked (NtV.nt ⟨1, nfr, nds, nep, nt, ⟨nvb, nvA, nvc⟩⟩)) := Lib.hid (recv_yes (n := NtV.nt ⟨1, nfr, nds, nep, nt, ⟨nvb, nvA, nvc⟩⟩) HG.out HSD.out hy)
                  have d9 : (y == nfr) = true := beq_iff_eq.2 hy
                  clear hy
                  go_wp2_with fail
                  refine (racked HR5.out ⟨1, nfr, nds, nep, nt, ⟨nvb, nvA, nvc⟩⟩ hB).mono ?_
                  rintro e w6 ⟨rfl, hp⟩
                  go_wp2_with fail
                  go_end0
                  exact ⟨rfl, by rw [HF.out]; exact (RpPost.pre HN5.out hp).mono (by omega)⟩
                · have HF : Hid (x.receive (NtV.nt ⟨1, nfr, nds, nep, nt, ⟨nvb, nvA, nvc⟩⟩) = x) := Lib.hid (recv_no (n := NtV.nt ⟨1, nfr, nds, nep, nt, ⟨nvb, nvA, nvc⟩⟩) HG.out HSD.out (fun h => hy h.2))
                  have d9 : (y == nfr) = false := beq_eq_false_iff_ne.2 hy
                  clear hy
                  go_wp2_with fail
                  go_end0
                  exact ⟨rfl, by rw [HF.out]; exact (RpPost.pre HN5.out (RpPost.refl HR5.out)).mono (by omega)⟩
            · subst hk
              clear hb1 hb2 hb3 hb4 hb5 HBAD
              obtain ⟨⟨y, ok⟩, hbf⟩ : ∃ r, nextC x.cf x.id = r := ⟨_, rfl⟩
              have HBF := Lib.hid hbf
              have HSD : Hid (x.side 2 = (y, ok)) := Lib.hid (by unfold Rpl.side; exact (if_neg (by decide)).trans hbf)
              clear hbf
              refine wp_region_held_drew (S := fun w' => w' = W.drew) (by kernel_rfl) (rfl) (fun hHeld => ?_)
              refine tkN (i := 0) rfl ?_
              try simp only [Act.put, sA, sZ, sS]
              refine tkN (i := 1) rfl ?_
              try simp only [Act.put, sA, sZ, sS]
              refine tkN (i := 2) rfl ?_
              try simp only [Act.put, sA, sZ, sS]
              refine tkN (i := 3) rfl ?_
              try simp only [Act.put, sA, sZ, sS]
              refine tkN (i := 4) rfl ?_
              try simp only [Act.put, sA, sZ, sS]
              refine tkN (i := 5) rfl ?_
              try simp only [Act.put, sA, sZ, sS]
              refine tkN (i := 6) rfl ?_
              try simp only [Act.put, sA, sZ, sS]
              refine tkN (i := 7) rfl ?_
              try simp only [Act.put, sA, sZ, sS]
              refine tkN (i := 8) rfl ?_
              try simp only [Act.put, sA, sZ, sS]
              refine tkN (i := 9) rfl ?_
              try simp only [Act.put, sA, sZ, sS]
              refine tkN (i := 10) rfl ?_
              try simp only [Act.put, sA, sZ, sS]
              refine tkN (i := 11) rfl ?_
              try simp only [Act.put, sA, sZ, sS]
              refine tkN (i := 12) rfl ?_
              try simp only [Act.put, sA, sZ, sS]
              refine tkN (i := 13) rfl ?_
              try simp only [Act.put, sA, sZ, sS]
              refine tkN (i := 14) rfl ?_
              try simp only [Act.put, sA, sZ, sS]
              refine tkN (i := 15) rfl ?_
              try simp only [Act.put, sA, sZ, sS]
              refine tkN (i := 16) rfl ?_
              try simp only [Act.put, sA, sZ, sS]
              refine tkN (i := 17) rfl ?_
              try simp only [Act.put, sA, sZ, sS]
              refine tkN (i := 18) rfl ?_
              try simp only [Act.put, sA, sZ, sS]
              refine tkN (i := 19) rfl ?_
              try simp only [Act.put, sA, sZ, sS]
              refine tkN (i := 20) rfl ?_
              try simp only [Act.put, sA, sZ, sS]
              refine tkN (i := 21) rfl ?_
              try simp only [Act.put, sA, sZ, sS]
              refine tkN (i := 22) rfl ?_
              try simp only [Act.put, sA, sZ, sS]
              refine tkN (i := 23) rfl ?_
              try simp only [Act.put, sA, sZ, sS]
              refine tkN (i := 24) rfl ?_
              try simp only [Act.put, sA, sZ, sS]
              refine tkN (i := 25) rfl ?_
              try simp only [Act.put, sA, sZ, sS]
              refine tkN (i := 26) rfl ?_
              try simp only [Act.put, sA, sZ, sS]
              refine tkN (i := 27) rfl ?_
              try simp only [Act.put, sA, sZ, sS]
              refine tkN (i := 28) rfl ?_
              try simp only [Act.put, sA, sZ, sS]
              refine tkN (i := 29) rfl ?_
              try simp only [Act.put, sA, sZ, sS]
              refine tkN (i := 30) rfl ?_
              try simp only [Act.put, sA, sZ, sS]
              refine tkN (i := 31) rfl ?_
              try simp only [Act.put, sA, sZ, sS]
              refine wpAnyH_done (by kernel_rfl) ?_ _
              clear hHeld
              go_upto_region 2 with fail
              refine wp_region_held_drew (S := fun w' => (∀ o, w'.cell? ⟨w.heap.size, o, none⟩ = W.cell? ⟨w.heap.size, o, none⟩) ∧ (∀ o, w'.cell? ⟨rp, o, none⟩ = W.cell? ⟨rp, o, none⟩)) (by kernel_rfl) (⟨fun _ => rfl, fun _ => rfl⟩) (fun hHeld => ?_)
              refine tkN (i := 0) rfl ?_
              try simp only [Act.put, sA, sZ, sS]
              refine tkN (i := 1) rfl ?_
              try simp only [Act.put, sA, sZ, sS]
              refine tkN (i := 2) rfl ?_
              try simp only [Act.put, sA, sZ, sS]
              refine tkN (i := 3) rfl ?_
              try simp only [Act.put, sA, sZ, sS]
              refine tkN (i := 4) rfl ?_
              try simp only [Act.put, sA, sZ, sS]
              refine tkN (i := 5) rfl ?_
              try simp only [Act.put, sA, sZ, sS]
              refine tkN (i := 6) rfl ?_
              try simp only [Act.put, sA, sZ, sS]
              refine stN (i := 7) rfl (fun K hK => ?_)
              go_simp
              refine hK.out _ _ ?_ (fun hHeld => ?_)
              · exact ⟨fun o => keepR (S := fun _ => False) (Upd.new (((New.refl W).drew.drew).alloc _)) HX.out.lt (fun h => h) o, fun o => keepR (S := fun _ => False) (Upd.new (((New.refl W).drew.drew).alloc _)) HR.out.blk.lt (fun h => h) o⟩
              clear hK K
              try simp only [Act.put, sA, sZ, sS]
              refine stN (i := 8) rfl (fun K hK => ?_)
              go_simp
              refine hK.out _ _ ?_ (fun hHeld => ?_)
              · exact ⟨fun o => keepR (S := fun _ => False) (Upd.new (((New.refl W).drew.drew).alloc _)) HX.out.lt (fun h => h) o, fun o => keepR (S := fun _ => False) (Upd.new (((New.refl W).drew.drew).alloc _)) HR.out.blk.lt (fun h => h) o⟩
              clear hK K
              try simp only [Act.put, sA, sZ, sS]
              refine wpAnyH_done (by kernel_rfl) ?_ _
              clear hHeld
              obtain ⟨W2, hW2⟩ : ∃ W2, W2 = (W.alloc (.cells #[.func (.func 136) #[.pointer (some ⟨rp, 0, none⟩)] #[], .func (.func 93) #[] #[]] 131)).drew.drew := ⟨_, rfl⟩
              have hn2 : New W W2 := by rw [hW2]; exact ((New.refl W).alloc _).drew.drew
              have hh2 : Blk W2 W.heap.size 131 #[.func (.func 136) #[.pointer (some ⟨rp, 0, none⟩)] #[], .func (.func 93) #[] #[]] := by rw [hW2]; exact (Blk.mk_new W _ _).drew.drew
              have HR2 := Lib.hid (HR.out.new hn2)
              have HX2 := Lib.hid (HX.out.new hn2)
              have HV2 := Lib.hid (HV.out.new hn2)
              have HN2 := Lib.hid (HN.out.trans hn2)
              have HH2 := Lib.hid hh2
              clear a0 a1 a2 a3 a4 a5 a6 a7 a8 a9 az g0 c0 c1 c2 c3 c4 c5 c6 cz c7 c8 c9 c10 c11 c12
              obtain ⟨h0, h1, h2, hz⟩ := Blk2W hh2
              obtain ⟨a0, a1, a2, a3, a4, a5, a6, a7, a8, a9, az⟩ := nt_facts (n := ⟨2, nfr, nds, nep, nt, ⟨nvb, nvA, nvc⟩⟩) HX2.out
              dsimp only [BtV.sl] at a1 a2 a3 a4 a5 a6 a7 a8 a9
              obtain ⟨g0, c0, c1, c2, c3, c4, c5, c6, cz⟩ := HR2.out.facts
              clear hn2 hh2
              skip
              rw [← hW2]
              clear hW2
              go_upto_region 3 with fail
              refine wp_region_held_drew (S := fun w' => Held W2 w') (by kernel_rfl) (Held.of (New.refl _).drew) (fun hHeld => ?_)
              refine tkN (i := 0) rfl ?_
              try simp only [Act.put, sA, sZ, sS]
              refine tkN (i := 1) rfl ?_
              try simp only [Act.put, sA, sZ, sS]
              refine tkN (i := 2) rfl ?_
              try simp only [Act.put, sA, sZ, sS]
              refine tkN (i := 3) rfl ?_
              try simp only [Act.put, sA, sZ, sS]
              refine tkN (i := 4) rfl ?_
              try simp only [Act.put, sA, sZ, sS]
              refine tkN (i := 5) rfl ?_
              try simp only [Act.put, sA, sZ, sS]
              refine tkN (i := 6) rfl ?_
              try simp only [Act.put, sA, sZ, sS]
              refine tkN (i := 7) rfl ?_
              try simp only [Act.put, sA, sZ, sS]
              refine tkN (i := 8) rfl ?_
              try simp only [Act.put, sA, sZ, sS]
              refine tkN (i := 9) rfl ?_
              try simp only [Act.put, sA, sZ, sS]
              refine stN (i := 10) rfl (fun K hK => ?_)
              go_simp
              have hcall := rnext (HR2.out.new (New.refl W2).drew)
              rw [HBF.out] at hcall
              refine hcall.mono ?_
              rintro e w5 ⟨rfl, hn5⟩
              have hn5W : New W2 w5 := (New.refl W2).drew.trans hn5
              refine hK.out _ _ ?_ (fun hHeld => ?_)
              · exact Held.of hn5W
              clear hK K
              try simp only [Act.put, sA, sZ, sS]
              refine tkN (i := 11) rfl ?_
              try simp only [Act.put, sA, sZ, sS]
              refine tkN (i := 12) rfl ?_
              try simp only [Act.put, sA, sZ, sS]
              refine tkN (i := 13) rfl ?_
              try simp only [Act.put, sA, sZ, sS]
              refine tkN (i := 14) rfl ?_
              try simp only [Act.put, sA, sZ, sS]
              refine tkN (i := 15) rfl ?_
              try simp only [Act.put, sA, sZ, sS]
              refine wpAnyH_done (by kernel_rfl) ?_ _
              clear hHeld
              have HR5 := Lib.hid (HR2.out.new hn5W)
              have HX5 := Lib.hid (HX2.out.new hn5W)
              have HH5 := Lib.hid (HH2.out.new hn5W)
              have HV5 := Lib.hid (HV2.out.new hn5W)
              have HN5 := Lib.hid (HN2.out.trans hn5W)
              clear hn5 hn5W h0 h1 h2 hz a0 a1 a2 a3 a4 a5 a6 a7 a8 a9 az g0 c0 c1 c2 c3 c4 c5 c6 cz
              obtain ⟨a0, a1, a2, a3, a4, a5, a6, a7, a8, a9, az⟩ := nt_facts (n := ⟨2, nfr, nds, nep, nt, ⟨nvb, nvA, nvc⟩⟩) HX5.out
              obtain ⟨h0, h1, h2, hz⟩ := Blk2W HH5.out
              dsimp only [BtV.sl] at a1 a2 a3 a4 a5 a6 a7 a8 a9
              cases ok with
              | false =>
                have HF : Hid (x.receive (NtV.nt ⟨2, nfr, nds, nep, nt, ⟨nvb, nvA, nvc⟩⟩) = x) := Lib.hid (recv_no (n := NtV.nt ⟨2, nfr, nds, nep, nt, ⟨nvb, nvA, nvc⟩⟩) HG.out HSD.out (fun h => by cases h.1))
                go_wp2_with fail
                go_end0
                exact ⟨rfl, by rw [HF.out]; exact (RpPost.pre HN5.out (RpPost.refl HR5.out)).mono (by omega)⟩
              | true =>
                by_cases hy : y = nfr
                · have HF : Hid (x.receive (NtV.nt ⟨2, nfr, nds, nep, nt, ⟨nvb, nvA, nvc⟩⟩) = x.some_ nfr nt) := Lib.hid (recv_yes (n := NtV.nt ⟨2, nfr, nds, nep, nt, ⟨nvb, nvA, nvc⟩⟩) HG.out HSD.out hy)
                  have d9 : (y == nfr) = true := beq_iff_eq.2 hy
                  clear hy
                  go_wp2_with fail
                  refine (rwanted HR5.out ⟨2, nfr, nds, nep, nt, ⟨nvb, nvA, nvc⟩⟩ ht hB).mono ?_
                  rintro e w6 ⟨rfl, hp⟩
                  go_wp2_with fail
                  go_end0
                  exact ⟨rfl, by rw [HF.out]; exact (RpPost.pre HN5.out hp).mono (by omega)⟩
                · have HF : Hid (x.receive (NtV.nt ⟨2, nfr, nds, nep, nt, ⟨nvb, nvA, nvc⟩⟩) = x) := Lib.hid (recv_no (n := NtV.nt ⟨2, nfr, nds, nep, nt, ⟨nvb, nvA, nvc⟩⟩) HG.out HSD.out (fun h => hy h.2))
                  have d9 : (y == nfr) = false := beq_eq_false_iff_ne.2 hy
                  clear hy
                  go_wp2_with fail
                  go_end0
                  exact ⟨rfl, by rw [HF.out]; exact (RpPost.pre HN5.out (RpPost.refl HR5.out)).mono (by omega)⟩
end
end Go.Proofs.YtlhlcdjkacglnaaGreatDoor
