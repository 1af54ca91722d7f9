/- Chapter 24 (replica): some, wanted, acked. Printed by genRpU.py. -/
import Derived.Test.YtlhlcdjkacglnaaGreatDoorJk1
import Derived.Test.YtlhlcdjkacglnaaGreatDoorJk10
import Derived.Test.YtlhlcdjkacglnaaGreatDoorJk6
import Derived.Deep.RegionHeld3
namespace Go.Proofs.YtlhlcdjkacglnaaGreatDoor
open Go.RowKit Go.Lap C
set_option linter.unusedVariables false
set_option linter.unusedSimpArgs false
section
variable {w w' W wa : World} {S : Nat → Prop} {rp B D : Nat} {L : RpL} {x x' : Rpl} {b : BtV}
def somF (x : Rpl) (ds : Int) (t : Nat) (y : Rpl) (i : Nat) : Rpl := if 1 ≤ t ∧ t + i ≤ x.la then y.send ds 0 (t + i) ((x.l[t + i - 1]?).getD Btc.none) else y
def somK (x : Rpl) (ds : Int) (t k : Nat) : Rpl := (List.range k).foldl (somF x ds t) x
theorem somK_five (x : Rpl) (ds : Int) (t : Nat) : somK x ds t 5 = x.some_ ds t := rfl
theorem somK_next (x : Rpl) (ds : Int) (t k : Nat) : somK x ds t (k + 1) = somF x ds t (somK x ds t k) k := by unfold somK; rw [List.range_succ, List.foldl_append]; rfl
theorem somK_stop {x : Rpl} {ds : Int} {t k : Nat} (h : ¬ (1 ≤ t ∧ t + k ≤ x.la)) : ∀ m, somK x ds t (k + m) = somK x ds t k
  | 0 => rfl
  | m + 1 => by
    rw [← Nat.add_assoc, somK_next, somK_stop h m]
    unfold somF
    rw [if_neg (by omega)]
theorem somK_end {x : Rpl} {ds : Int} {t k : Nat} (hk : k ≤ 5) (h : ¬ (1 ≤ t ∧ t + k ≤ x.la)) : x.some_ ds t = somK x ds t k := by
  rw [← somK_five, ← somK_stop h (5 - k)]
  congr 1; omega
theorem somK_keep (x : Rpl) (ds : Int) (t : Nat) : ∀ k, (somK x ds t k).l = x.l
  | 0 => rfl
  | k + 1 => by
    rw [somK_next]
    unfold somF
    split
    · exact somK_keep x ds t k
    · exact somK_keep x ds t k
/-- A batch of a list. -/
theorem BtRow.at_ {v : Value} {l : List Btc} {b : Btc} {m : Nat} (h : BtRow w 0 v l) (hb : l[m]? = some b) : ∃ g off cap A c, v = .slice (some ⟨g, off, none⟩) l.length cap ∧ l.length ≤ cap ∧ BtAt w ⟨b, A, c⟩ ∧
    w.cell? ⟨g, off + m * 4, none⟩ = some (.int .u64 (b.c : Int)) ∧ w.cell? ⟨g, off + m * 4 + 1, none⟩ = some (.int .u64 (b.r : Int)) ∧ w.cell? ⟨g, off + m * 4 + 2, none⟩ = some (.int .u64 (b.s : Int)) ∧ w.cell? ⟨g, off + m * 4 + 3, none⟩ = some (.slice A b.l.length c) ∧ g < w.heap.size := by
  obtain ⟨ps, rfl, h2, h3⟩ := h
  rw [List.getElem?_map] at hb
  obtain ⟨p, hp, rfl⟩ := Option.map_eq_some_iff.1 hb
  obtain ⟨g, off, cap, rfl, _, hr⟩ := h2.at_ (by intro e; rw [e] at hp; simp at hp)
  refine ⟨g, off, cap, p.A, p.c, by rw [List.length_map], by rw [List.length_map]; exact hr.len.1, h3 p (List.mem_of_getElem? hp), ?_, ?_, ?_, ?_, hr.lt⟩
  · exact hr.cell BtV.encOk hp (j := 0) rfl
  · exact hr.cell BtV.encOk hp (j := 1) rfl
  · exact hr.cell BtV.encOk hp (j := 2) rfl
  · exact hr.cell BtV.encOk hp (j := 3) rfl
set_option maxRecDepth 100000 in
set_option maxHeartbeats 8000000 in
theorem rsome (h : RpAt w rp B L x) (ds : Int) {t : Nat} (ht : t < big) (hB : B ≤ 9000000) :
    Calls Tryz.prog 94 #[.pointer (some ⟨rp, 0, none⟩), .int .i64 ds, .int .u64 (t : Int)] w (fun e w' => e = .returned (.tuple #[]) ∧ RpPost w rp (B + 5) L (x.some_ ds t) w') := by
  have hla : x.la ≤ B := h.ll
  by_cases h1 : 1 ≤ t
  case neg =>
    obtain rfl : t = 0 := by omega
    have HF : Hid (x.some_ ds 0 = x) := Lib.hid (by rw [somK_end (k := 0) (by omega) (by omega)]; rfl)
    have HR := Lib.hid h
    clear h h1 ht
    go_enter Tryz.func94, Tryz.ntmps94
    go_wp2_with fail
    go_loopw [6] (fun i wr => i = .int .u64 0 ∧ wr = w) (fun _ _ => 0)
    case atStart => exact ⟨rfl, rfl⟩
    case round =>
      obtain ⟨rfl, rfl⟩ := hrel
      go_wp2_with fail
      go_end0
      exact ⟨rfl, by rw [HF.out]; exact (RpPost.refl HR.out).mono (by omega)⟩
  case pos =>
    obtain ⟨t, rfl⟩ : ∃ r, t = r + 1 := ⟨t - 1, by omega⟩
    by_cases h2 : t + 1 ≤ x.la
    case neg =>
      have HF : Hid (x.some_ ds (t + 1) = x) := Lib.hid (by rw [somK_end (k := 0) (by omega) (by omega)]; rfl)
      have HR := Lib.hid h
      have hd0 : (1 : Int) ≤ (t : Int) + 1 := by omega
      have hd : ¬ (t : Int) + 1 ≤ (x.la : Int) := by omega
      clear h h1 ht h2
      go_enter Tryz.func94, Tryz.ntmps94
      go_wp2_with fail
      go_loopw [6] (fun i wr => i = .int .u64 0 ∧ wr = w) (fun _ _ => 0)
      case atStart => exact ⟨rfl, rfl⟩
      case round =>
        obtain ⟨rfl, rfl⟩ := hrel
        go_wp2_with (go_at_call 106; refine (rlast HR.out (by omega)).mono ?_; rintro e w6 ⟨rfl, rfl⟩)
        go_end0
        exact ⟨rfl, by rw [HF.out]; exact (RpPost.refl HR.out).mono (by omega)⟩
    case pos =>
      have HR := Lib.hid h
      have HLA : Hid (x.la = x.l.length) := Lib.hid rfl
      clear h h1 ht
      rw [show ((t + 1 : Nat) : Int) = (t : Int) + 1 by omega]
      go_enter Tryz.func94, Tryz.ntmps94
      go_wp2_with fail
      go_loopw [6] (fun i wr => ∃ k : Nat, k ≤ 5 ∧ i = .int .u64 (k : Int) ∧ RpPost w rp (B + k) L (somK x ds (t + 1) k) wr) (fun i _ => 5 - (intOf i).toNat)
      case atStart => exact ⟨0, by omega, rfl, RpPost.refl HR.out⟩
      case round =>
        obtain ⟨k, hk, rfl, L1, hR1, hk1, hu1⟩ := hrel
        have HR1 := Lib.hid hR1
        have HK1 := Lib.hid hk1
        have HU1 := Lib.hid hu1
        clear hk1 hu1
        have hla1 : (somK x ds (t + 1) k).la = x.la := by unfold Rpl.la; rw [somK_keep]
        have HLA1 := Lib.hid hla1
        by_cases hk5 : k < 5
        case neg =>
          obtain rfl : k = 5 := by omega
          clear hR1 hla1
          go_wp2_with fail
          go_end0
          exact ⟨rfl, L1, HR1.out, HK1.out, HU1.out⟩
        case pos =>
          have hd0 : (1 : Int) ≤ (t : Int) + 1 := by omega
          have hd1 : (t : Int) + 1 ≤ (x.la : Int) := by omega
          have hd5 : (k : Int) < 5 := by omega
          have hwa : IntKind.u64.wrap ((t : Int) + 1 + (k : Int)) = (t : Int) + 1 + (k : Int) := IntWalk.u64_in _ (by omega)
          by_cases hc : t + 1 + k ≤ x.la
          case neg =>
            have hd2 : ¬ (t : Int) + 1 + (k : Int) ≤ (x.la : Int) := by omega
            have HF : Hid (x.some_ ds (t + 1) = somK x ds (t + 1) k) := Lib.hid (somK_end hk (by omega))
            clear hR1 hla1 hc
            go_wp2_with (go_at_call 106; refine (rlast HR1.out (by omega)).mono ?_; rintro e w6 ⟨rfl, rfl⟩; rw [HLA1.out])
            go_end0
            exact ⟨rfl, L1, by rw [HF.out]; exact HR1.out.mono (by omega), HK1.out, HU1.out⟩
          case pos =>
            have hd2 : (t : Int) + 1 + (k : Int) ≤ (x.la : Int) := by omega
            have hlt : t + k < x.l.length := by have := HLA.out; omega
            obtain ⟨b, hb⟩ : ∃ b, x.l[t + k]? = some b := ⟨_, List.getElem?_eq_getElem hlt⟩
            have hl1 := hR1.l
            rw [somK_keep] at hl1
            obtain ⟨g, off, cap, A, cp, hv, hcap, hba, e0, e1, e2, e3, hg⟩ := hl1.at_ hb
            obtain ⟨g0, c0, c1, c2, c3, c4, c5, c6, cz⟩ := hR1.facts
            rw [hv] at c4
            have HF : Hid (somK x ds (t + 1) (k + 1) = (somK x ds (t + 1) k).send ds 0 (t + 1 + k) b) := Lib.hid (by
              rw [somK_next]
              unfold somF
              rw [if_pos ⟨by omega, hc⟩, show t + 1 + k - 1 = t + k by omega, hb]
              rfl)
            have HBA := Lib.hid hba
            have hdl : (t : Int) + (k : Int) < (x.l.length : Int) := by omega
            have hd00 : (0 : Int) ≤ (t : Int) + (k : Int) := by omega
            clear hR1 hla1 hc hba hb hl1 hv
            obtain ⟨bc, br, bs, bl⟩ := b
            dsimp only at e0 e1 e2 e3 HBA
            go_wp2_with (go_at_call 106; refine (rlast HR1.out (by omega)).mono ?_; rintro e w6 ⟨rfl, rfl⟩; rw [HLA1.out])
            have hs := rsend HR1.out ds 0 (t := t + 1 + k) (by unfold big; omega) HBA.out (by omega)
            have hcast : ((t + 1 + k : Nat) : Int) = (t : Int) + 1 + (k : Int) := by omega
            rw [hcast] at hs
            refine hs.mono ?_
            rintro e w7 ⟨rfl, hp⟩
            have hfin : RpPost w rp (B + (k + 1)) L (somK x ds (t + 1) (k + 1)) w7 := by
              rw [HF.out]
              exact (RpPost.trans HR1.out HK1.out HU1.out hp)
            have HFIN := Lib.hid hfin
            clear hs hcast hp hfin
            go_wp2_with fail
            go_roundw
            case rel => exact ⟨k + 1, by omega, by go_num, HFIN.out⟩
            case measure => simp [intOf]; omega
/-- The cells of a note. -/
structure NtFacts (w : World) (a : Nat) (n : NtV) : Prop where
  lt : a < w.heap.size
  c0 : w.cell? ⟨a, 0, none⟩ = some (.int .i64 n.k)
  c1 : w.cell? ⟨a, 1, none⟩ = some (.int .i64 n.fr)
  c2 : w.cell? ⟨a, 2, none⟩ = some (.int .i64 n.ds)
  c3 : w.cell? ⟨a, 3, none⟩ = some (.int .u64 (n.ep : Int))
  c4 : w.cell? ⟨a, 4, none⟩ = some (.int .u64 (n.t : Int))
  c5 : w.cell? ⟨a, 5, none⟩ = some (.int .u64 (n.v.b.c : Int))
  c6 : w.cell? ⟨a, 6, none⟩ = some (.int .u64 (n.v.b.r : Int))
  c7 : w.cell? ⟨a, 7, none⟩ = some (.int .u64 (n.v.b.s : Int))
  c8 : w.cell? ⟨a, 8, none⟩ = some n.v.sl
  fz : ∀ i, w.frozen? ⟨a, i, none⟩ = false
def NtV.cells (n : NtV) : Array Value := #[.int .i64 n.k, .int .i64 n.fr, .int .i64 n.ds, .int .u64 (n.ep : Int), .int .u64 (n.t : Int), .int .u64 (n.v.b.c : Int), .int .u64 (n.v.b.r : Int), .int .u64 (n.v.b.s : Int), n.v.sl]
theorem nt_facts {a : Nat} {n : NtV} (h : Blk w a 177 n.cells) : NtFacts w a n := ⟨h.lt, h.cell 0, h.cell 1, h.cell 2, h.cell 3, h.cell 4, h.cell 5, h.cell 6, h.cell 7, h.cell 8, h.frozen⟩
set_option maxHeartbeats 2000000 in
theorem rwanted (h : RpAt w rp B L x) (n : NtV) (ht : n.t < big) (hB : B ≤ 9000000) :
    Calls Tryz.prog 136 #[.pointer (some ⟨rp, 0, none⟩), n.val] w (fun e w' => e = .returned (.tuple #[]) ∧ RpPost w rp (B + 5) L (x.some_ n.fr n.t) w') := by
  have hN := (New.refl w).alloc (.cells n.cells 177)
  have HR := Lib.hid (h.new hN)
  have HN := Lib.hid hN
  obtain ⟨a0, a1, a2, a3, a4, a5, a6, a7, a8, a9, az⟩ := nt_facts (Blk.mk_new w 177 n.cells)
  clear h hN
  unfold NtV.cells at *
  unfold NtV.val BtV.sl
  unfold BtV.sl at *
  go_enter Tryz.func136, Tryz.ntmps136
  go_wp2_with fail
  refine (rsome HR.out n.fr ht hB).mono ?_
  rintro e w5 ⟨rfl, hp⟩
  go_wp2_with fail
  go_end0
  exact ⟨rfl, RpPost.pre HN.out hp⟩
set_option maxRecDepth 100000 in
set_option maxHeartbeats 4000000 in
theorem racked (h : RpAt w rp B L x) (n : NtV) (hB : B ≤ 9000000) :
    Calls Tryz.prog 135 #[.pointer (some ⟨rp, 0, none⟩), n.val] w (fun e w' => e = .returned (.tuple #[]) ∧ RpPost w rp (B + 5) L (x.acked n.nt) w') := by
  have hN := (New.refl w).alloc (.cells n.cells 177)
  have hR := h.new hN
  have HR := Lib.hid hR
  have HN := Lib.hid hN
  obtain ⟨a0, a1, a2, a3, a4, a5, a6, a7, a8, a9, az⟩ := nt_facts (Blk.mk_new w 177 n.cells)
  obtain ⟨g0, c0, c1, c2, c3, c4, c5, c6, cz⟩ := hR.facts
  have hll : x.la ≤ B := h.ll
  have HA : Hid (x.acked n.nt = if x.cl < min n.t x.la then x.cleaned (min n.t x.la) else x) := Lib.hid rfl
  clear h hN hR
  unfold NtV.cells at *
  unfold NtV.val BtV.sl
  unfold BtV.sl at *
  go_enter Tryz.func135, Tryz.ntmps135
  go_upto_region 1 with fail
  generalize w.alloc _ = W at *
  obtain ⟨m, hm⟩ : ∃ m, m = min n.t x.la := ⟨_, rfl⟩
  have hmin : min (n.t : Int) (x.la : Int) = (m : Int) := by omega
  rw [← hm] at HA
  by_cases hc : x.cl < m
  case pos =>
    have HF : Hid (x.acked n.nt = x.cleaned m) := Lib.hid (by rw [HA.out, if_pos hc])
    have hd : decide (x.cl < m) = true := decide_eq_true hc
    have hmB : m ≤ B := by omega
    clear hm hc
    refine wp_region_held_drew (S := fun w' => w' = W.drew) (by kernel_rfl) (rfl) (fun hHeld => ?_)
    refine tkN (i := 0) rfl ?_
    try simp only [Act.put, sA, sZ, sS]
    refine tkN (i := 1) rfl ?_
    try simp only [Act.put, sA, sZ, sS]
    refine tkN (i := 2) rfl ?_
    try simp only [Act.put, sA, sZ, sS]
    refine stN (i := 3) rfl (fun K hK => ?_)
    go_simp
    refine (rlast (HR.out.new (New.refl W).drew) (by omega)).mono ?_
    rintro e w6 ⟨rfl, rfl⟩
    refine hK.out _ _ ?_ (fun hHeld => ?_)
    · exact rfl
    clear hK K
    try simp only [Act.put, sA, sZ, sS]
    refine tkN (i := 4) rfl ?_
    try simp only [Act.put, sA, sZ, sS]
    refine tkN (i := 5) rfl ?_
    try simp only [Act.put, sA, sZ, sS]
    refine wpAnyH_done (by kernel_rfl) ?_ _
    clear hHeld
    go_wp2_with fail
    refine (rcleaned (HR.out.new (New.refl W).drew) hmB (by omega)).mono ?_
    rintro e w5 ⟨rfl, hp⟩
    go_wp2_with fail
    go_end0
    exact ⟨rfl, by rw [HF.out]; exact (RpPost.pre HN.out.drew hp).mono (by omega)⟩
  case neg =>
    have HF : Hid (x.acked n.nt = x) := Lib.hid (by rw [HA.out, if_neg hc])
    have hd : decide (x.cl < m) = false := decide_eq_false hc
    clear hm hc
    refine wp_region_held_drew (S := fun w' => w' = W.drew) (by kernel_rfl) (rfl) (fun hHeld => ?_)
    refine tkN (i := 0) rfl ?_
    try simp only [Act.put, sA, sZ, sS]
    refine tkN (i := 1) rfl ?_
    try simp only [Act.put, sA, sZ, sS]
    refine tkN (i := 2) rfl ?_
    try simp only [Act.put, sA, sZ, sS]
    refine stN (i := 3) rfl (fun K hK => ?_)
    go_simp
    refine (rlast (HR.out.new (New.refl W).drew) (by omega)).mono ?_
    rintro e w6 ⟨rfl, rfl⟩
    refine hK.out _ _ ?_ (fun hHeld => ?_)
    · exact rfl
    clear hK K
    try simp only [Act.put, sA, sZ, sS]
    refine tkN (i := 4) rfl ?_
    try simp only [Act.put, sA, sZ, sS]
    refine tkN (i := 5) rfl ?_
    try simp only [Act.put, sA, sZ, sS]
    refine wpAnyH_done (by kernel_rfl) ?_ _
    clear hHeld
    go_wp2_with fail
    go_end0
    exact ⟨rfl, by rw [HF.out]; exact (RpPost.pre HN.out.drew (RpPost.refl (HR.out.new (New.refl W).drew))).mono (by omega)⟩
end
end Go.Proofs.YtlhlcdjkacglnaaGreatDoor
/- Chapter 19 (judge): Last, New, written, commit, Say, Load. Printed by genRpJ.py. -/
namespace Go.Proofs.YtlhlcdjkacglnaaGreatDoor
open Go.RowKit Go.Lap C
set_option linter.unusedVariables false
theorem chk1_key {x : Wri} (h : chk1 x = 0) : x.key.size ≤ 64 := by
  unfold chk1 at h
  split at h
  · cases h
  · omega
theorem chkFrom_key : ∀ {p : Option ByteArray} {l : List Wri}, chkFrom p l = 0 → ∀ x ∈ l, chk1 x = 0
  | _, [], _, x, hx => by cases hx
  | p, y :: l, h, x, hx => by
    unfold chkFrom at h
    split at h
    · rename_i hy; exact absurd h hy
    · rename_i hy
      split at h
      · cases h
      · rcases List.mem_cons.1 hx with rfl | hx
        · exact Decidable.byContradiction hy
        · exact chkFrom_key h x hx
theorem chk_key {l : List Wri} (h : chk l = 0) : l.length ≤ 8 ∧ ∀ x ∈ l, x.key.size ≤ maxLen := by
  unfold chk at h
  split at h
  · cases h
  · split at h
    · cases h
    · exact ⟨by omega, fun x hx => Nat.le_trans (chk1_key (chkFrom_key h x hx)) (by decide)⟩
theorem Blk3J {w : World} {g t : Nat} {a b c : Value} (h : Blk w g t #[a, b, c]) : g < w.heap.size ∧ w.cell? ⟨g, 0, none⟩ = some a ∧ w.cell? ⟨g, 1, none⟩ = some b ∧ w.cell? ⟨g, 2, none⟩ = some c ∧ (∀ i, w.frozen? ⟨g, i, none⟩ = false) := ⟨h.lt, h.cell 0, h.cell 1, h.cell 2, h.frozen⟩
theorem zeroUJ (w : World) : (zeroValue 22).run Tryz.prog w = .ok (.int .u64 0) w := by kernel_rfl
theorem mpGetR {P : Program} {kt t e b m : Nat} {κ : Type} [DecidableEq κ] {val : κ → Value} {lit : κ → Lit} {ok : κ → Prop} {w : World} {f : κ → Option Value} (B : KeyB P kt val lit ok) (h : MpAt P kt lit ok w b m f) (ht : P.underlying t = some (.map kt e)) {z : Value} (hz : (zeroValue e).run P w = .ok z w) (k : κ) (hk : ok k) :
    (Instr.lookup t (.map (some b)) (val k) false).run P w = .ok ((f k).getD z) w := by
  obtain ⟨D, h1, h2, h3, h4⟩ := id h
  obtain ⟨v, ps, hrun, hv⟩ := h1.lookup B.keyed ht hz (zd := .held z) (zp := []) rfl (B.read k hk)
  rw [h.value (h4 k hk) hv] at hrun
  exact hrun
theorem mpGetOkR {P : Program} {kt t e b m : Nat} {κ : Type} [DecidableEq κ] {val : κ → Value} {lit : κ → Lit} {ok : κ → Prop} {w : World} {f : κ → Option Value} (B : KeyB P kt val lit ok) (h : MpAt P kt lit ok w b m f) (ht : P.underlying t = some (.map kt e)) {z : Value} (hz : (zeroValue e).run P w = .ok z w) (k : κ) (hk : ok k) :
    (Instr.lookup t (.map (some b)) (val k) true).run P w = .ok (.tuple #[(f k).getD z, .bool (f k).isSome]) w := by
  obtain ⟨D, h1, h2, h3, h4⟩ := id h
  obtain ⟨v, ps, hrun, hv⟩ := h1.look_ok B.keyed ht hz (zd := .held z) (zp := []) rfl (B.read k hk)
  rw [h.value (h4 k hk) hv, (h4 k hk).1] at hrun
  exact hrun
theorem growR {w w' : World} {b : Nat} (hg : w.grownBy w' (some b)) : Upd (· = b) w w' := ⟨hg.os, hg.tape, hg.output, hg.size, fun k hk hn => hg.block k hk (fun e => hn (by injection e))⟩
theorem mpPutR {P : Program} {kt t e b m : Nat} {κ : Type} [DecidableEq κ] {val : κ → Value} {lit : κ → Lit} {ok : κ → Prop} {w : World} {f : κ → Option Value} (B : KeyB P kt val lit ok) (h : MpAt P kt lit ok w b m f) (ht : P.underlying t = some (.map kt e)) (hmx : m < maxLen) (k : κ) (hk : ok k) (v : Value) :
    ∃ w', (Instr.mapUpdate t (.map (some b)) (val k) v).run P w = .ok () w' ∧ MpAt P kt lit ok w' b (if (f k).isSome then m else m + 1) (fun j => if j = k then some v else f j) ∧ Upd (· = b) w w' := by
  obtain ⟨D, h1, h2, h3, h4⟩ := id h
  obtain ⟨w', hrun, h1', hg'⟩ := h1.update B.keyed ht hmx (B.read k hk) (val := v) (d := .held v) (ps := []) rfl
  exact ⟨w', hrun, h.put_of B hk v h2 h3 h4 h1', growR hg'⟩
section
variable {w w' : World} {S : Nat → Prop} {B : Nat} {L : JdL} {j : Jd} {x : BtV}
theorem whV_get (f : ByteArray → Option Nat) (k : ByteArray) : (whV f k).getD (.int .u64 0) = .int .u64 (((f k).getD 0 : Nat) : Int) := by unfold whV; cases f k <;> rfl
set_option maxHeartbeats 1000000 in
theorem jlast (h : JdAt w B L j) : Calls Tryz.prog 186 #[.pointer (some ⟨L.jb, 0, none⟩)] w fun e w' => e = .returned (.int .u64 (j.la : Int)) ∧ w' = w := by
  obtain ⟨g0, c0, c1, c2, cz⟩ := Blk3J h.blk
  clear h
  go_enter Tryz.func186, Tryz.ntmps186
  go_wp2_with fail
  go_ret
  exact ⟨rfl, rfl⟩
/-- From the k-th write on. -/
def WrRel (j : Jd) (s : Nat) (l : List Wri) (k : Nat) : Prop := (l.any fun x => decide (s < j.when_ x.key)) = ((l.drop k).any fun x => decide (s < j.when_ x.key))
theorem any_at {j : Jd} {s : Nat} {l : List Wri} {k : Nat} {y : Wri} (h : l[k]? = some y) : ((l.drop k).any fun x => decide (s < j.when_ x.key)) = (decide (s < j.when_ y.key) || ((l.drop (k + 1)).any fun x => decide (s < j.when_ x.key))) := by
  obtain ⟨hk, hx⟩ := List.getElem?_eq_some_iff.1 h
  rw [List.drop_eq_getElem_cons hk, hx]
  rfl
set_option maxRecDepth 100000 in
set_option maxHeartbeats 4000000 in
theorem jwritten (h : JdAt w B L j) (hb : BtAt w x) (hkey : ∀ y ∈ x.b.l, y.key.size ≤ maxLen) :
    Calls Tryz.prog 213 #[.pointer (some ⟨L.jb, 0, none⟩), x.val] w fun e w' => e = .returned (.bool (j.written x.b)) ∧ New w w' := by
  obtain ⟨⟨c, r, s, l⟩, A, cap⟩ := x
  obtain ⟨hsl, hok⟩ := hb
  obtain ⟨hoc, hor, hos, hol⟩ := hok
  obtain ⟨m, hm, hmp⟩ := h.wh
  obtain ⟨A', cap', hv, hlc, hh⟩ := hsl
  dsimp only [BtV.val, BtV.sl, batV] at hv hkey hlc hh hoc hor hos hol ⊢
  cases hv
  have hBk := Blk.mk_new w 82 #[.int .u64 (c : Int), .int .u64 (r : Int), .int .u64 (s : Int), .slice A l.length cap]
  have hN0 := (New.refl w).alloc (.cells #[.int .u64 (c : Int), .int .u64 (r : Int), .int .u64 (s : Int), .slice A l.length cap] 82)
  have HB := Lib.hid hBk
  have HN := Lib.hid hN0
  have HJ := Lib.hid h.blk
  have HM := Lib.hid hmp
  have HKEY := Lib.hid hkey
  have hW : j.written ⟨c, r, s, l⟩ = (l.any fun x => decide (s < j.when_ x.key)) := rfl
  rw [hW]
  clear hW hkey h hmp hm
  obtain ⟨p0, p1, p2, p3, p4, pz⟩ := Blk4F hBk
  clear hBk
  go_enter Tryz.func213, Tryz.ntmps213
  go_wp2_with fail
  go_loopw [6, 10] (fun _ i wr => ∃ k : Nat, k ≤ l.length ∧ i = .int .i64 k ∧ WrRel j s l k ∧ New (w.alloc (.cells #[.int .u64 (c : Int), .int .u64 (r : Int), .int .u64 (s : Int), .slice A l.length cap] 82)) wr) (fun _ i _ => l.length - (intOf i).toNat)
  case atStart => exact ⟨0, by omega, rfl, rfl, New.refl _⟩
  case round =>
    obtain ⟨k, hk, rfl, hfr, hn⟩ := hrel
    have HFR := Lib.hid hfr
    clear hfr
    have hCo := HN.out.trans hn
    by_cases hlt : k < l.length
    · obtain ⟨q0, q1, q2, q3, q4, qz⟩ := Blk4F (HB.out.new hn)
      have hlt2 : (k : Int) < (l.length : Int) := by omega
      have hk0 : (0 : Int) ≤ (k : Int) := by omega
      rcases hh with rfl | ⟨b, off, cs, rfl, hbb, hc⟩
      · simp at hlt
      obtain ⟨y, hy⟩ : ∃ y, l[k]? = some y := ⟨_, List.getElem?_eq_getElem hlt⟩
      have hyk := HKEY.out y (List.mem_of_getElem? hy)
      have hbbr := hbb.new hCo
      obtain ⟨e0, e1, e2⟩ := SlIn.three (fun k x h j u hu => (hbbr.cell _).trans (hc k x h j u hu)) hy
      have HFX := Lib.hid (HFR.out.trans (any_at hy))
      have hnx := hCo.alloc (.cells #[.string y.key, .string y.val, .bool y.gone] 34)
      have HNX := Lib.hid (hn.alloc (.cells #[.string y.key, .string y.val, .bool y.gone] 34))
      have HNW := Lib.hid hnx
      obtain ⟨f0, f1, f2, f3, fz⟩ := Blk3J (HJ.out.new hnx)
      obtain ⟨d0, d1, d2, d3, dz⟩ := Blk3J (Blk.mk_new wr 34 #[.string y.key, .string y.val, .bool y.gone])
      have hlk : (Instr.lookup 275 (.map (some L.wm)) (.string y.key) false).run Tryz.prog (wr.alloc (.cells #[.string y.key, .string y.val, .bool y.gone] 34)).drew = .ok (.int .u64 ((j.when_ y.key : Nat) : Int)) (wr.alloc (.cells #[.string y.key, .string y.val, .bool y.gone] 34)).drew := by
        have := mpGetR keyS.toKeyB (HM.out.new hnx.drew) Tryz.underlying275 (zeroUJ _) y.key hyk
        rw [whV_get] at this
        exact this
      clear hy hc hbb hbbr hyk hnx
      by_cases hw : s < j.when_ y.key
      · have hw3 : decide (s < j.when_ y.key) = true := decide_eq_true hw
        have HF2 := Lib.hid (show (l.any fun x => decide (s < j.when_ x.key)) = true by rw [HFX.out, decide_eq_true hw]; rfl)
        clear hw
        go_upto_region 4 with fail
        refine wp_region_held_drew (S := fun w' => w' = (wr.alloc (.cells #[.string y.key, .string y.val, .bool y.gone] 34)).drew) (by kernel_rfl) (rfl) (fun hHeld => ?_)
        refine tkN (i := 0) rfl ?_
        try simp only [Act.put, sA, sZ, sS]
        refine tkN (i := 1) rfl ?_
        try simp only [Act.put, sA, sZ, sS]
        refine tkN (i := 2) rfl ?_
        try simp only [Act.put, sA, sZ, sS]
        refine tkN (i := 3) rfl ?_
        try simp only [Act.put, sA, sZ, sS]
        refine tkN (i := 4) rfl ?_
        try simp only [Act.put, sA, sZ, sS]
        refine tkN (i := 5) rfl ?_
        try simp only [Act.put, sA, sZ, sS]
        refine tkN (i := 6) rfl ?_
        try simp only [Act.put, sA, sZ, sS]
        refine tkN (i := 7) rfl ?_
        try simp only [Act.put, sA, sZ, sS]
        refine tkN (i := 8) rfl ?_
        try simp only [Act.put, sA, sZ, sS]
        refine tkN (i := 9) rfl ?_
        try simp only [Act.put, sA, sZ, sS]
        refine wpAnyH_done (by kernel_rfl) ?_ _
        clear hHeld hlk
        go_wp2_with fail
        go_ret
        exact ⟨ret_bool (a := true) HF2.out.symm, HNW.out.drew⟩
      · have hw3 : decide (s < j.when_ y.key) = false := decide_eq_false hw
        have HF2 := Lib.hid (show WrRel j s l (k + 1) by unfold WrRel; rw [HFX.out, decide_eq_false hw]; rfl)
        clear hw
        go_upto_region 4 with fail
        refine wp_region_held_drew (S := fun w' => w' = (wr.alloc (.cells #[.string y.key, .string y.val, .bool y.gone] 34)).drew) (by kernel_rfl) (rfl) (fun hHeld => ?_)
        refine tkN (i := 0) rfl ?_
        try simp only [Act.put, sA, sZ, sS]
        refine tkN (i := 1) rfl ?_
        try simp only [Act.put, sA, sZ, sS]
        refine tkN (i := 2) rfl ?_
        try simp only [Act.put, sA, sZ, sS]
        refine tkN (i := 3) rfl ?_
        try simp only [Act.put, sA, sZ, sS]
        refine tkN (i := 4) rfl ?_
        try simp only [Act.put, sA, sZ, sS]
        refine tkN (i := 5) rfl ?_
        try simp only [Act.put, sA, sZ, sS]
        refine tkN (i := 6) rfl ?_
        try simp only [Act.put, sA, sZ, sS]
        refine tkN (i := 7) rfl ?_
        try simp only [Act.put, sA, sZ, sS]
        refine tkN (i := 8) rfl ?_
        try simp only [Act.put, sA, sZ, sS]
        refine tkN (i := 9) rfl ?_
        try simp only [Act.put, sA, sZ, sS]
        refine wpAnyH_done (by kernel_rfl) ?_ _
        clear hHeld hlk
        go_wp2_with fail
        go_roundw
        case rel => exact ⟨k + 1, by omega, by go_num, HF2.out, HNX.out.drew⟩
        case measure => simp [intOf]; omega
    · have hlt2 : ¬ (k : Int) < (l.length : Int) := by omega
      have HF2 := Lib.hid (show (l.any fun x => decide (s < j.when_ x.key)) = false by rw [HFR.out, List.drop_eq_nil_of_le (by omega)]; rfl)
      go_wp2_with fail
      go_ret
      exact ⟨ret_bool (a := false) HF2.out.symm, hCo⟩
theorem JdAt.setWh (h : JdAt w B L j) {k : ByteArray} (hk : okS k) (t : Nat) : ∃ m, m ≤ B ∧ MpAt Tryz.prog 9 litS okS w L.wm m (whV j.wh) ∧
    ∀ w6, MpAt Tryz.prog 9 litS okS w6 L.wm (if (whV j.wh k).isSome then m else m + 1) (fun i => if i = k then some (.int .u64 (t : Int)) else whV j.wh i) → Upd (· = L.wm) w w6 → JdAt w6 (B + 1) L { j with wh := setD j.wh k (some t) } := by
  obtain ⟨m, h1, h2⟩ := h.wh
  refine ⟨m, h1, h2, fun w6 h6 hu => ?_⟩
  obtain ⟨n, h3, h4⟩ := h.sn
  refine ⟨h.blk.upd hu (fun e => Blk.ne_map h.blk h2 e), ⟨_, ?_, h6.congr fun i hi => ?_⟩, ⟨n, by omega, h4.upd hu (fun e => h.ne e.symm)⟩, h.ne, by have := h.la; show j.la ≤ _; omega⟩
  · split <;> omega
  · show _ = whV (setD j.wh k (some t)) i
    unfold whV setD
    split <;> rfl
theorem JdAt.setSn (h : JdAt w B L j) {c : Nat} (hc : okU c) (q : Nat) (v : Vd) : ∃ m, m ≤ B ∧ MpAt Tryz.prog 22 litU okU w L.sm m (snV j.sn) ∧
    ∀ w6, MpAt Tryz.prog 22 litU okU w6 L.sm (if (snV j.sn c).isSome then m else m + 1) (fun i => if i = c then some (.agg #[.int .u64 (q : Int), .int .u64 (v.t : Int), .int .i64 v.e]) else snV j.sn i) → Upd (· = L.sm) w w6 → JdAt w6 (B + 1) L { j with sn := setD j.sn c (some (q, v)) } := by
  obtain ⟨n, h3, h4⟩ := h.sn
  refine ⟨n, h3, h4, fun w6 h6 hu => ?_⟩
  obtain ⟨m, h1, h2⟩ := h.wh
  refine ⟨h.blk.upd hu (fun e => Blk.ne_map h.blk h4 e), ⟨m, by omega, h2.upd hu (fun e => h.ne e)⟩, ⟨_, ?_, h6.congr fun i hi => ?_⟩, h.ne, by have := h.la; show j.la ≤ _; omega⟩
  · split <;> omega
  · show _ = snV (setD j.sn c (some (q, v))) i
    unfold snV setD
    split <;> rfl
def whT (j : Jd) (l : List Wri) (k : Nat) : Jd := { j with la := j.la + 1, wh := (l.take k).foldl (fun f x => setD f x.key (some (j.la + 1))) j.wh }
theorem whT_next {j : Jd} {l : List Wri} {k : Nat} {y : Wri} (h : l[k]? = some y) : { whT j l k with wh := setD (whT j l k).wh y.key (some (j.la + 1)) } = whT j l (k + 1) := by
  unfold whT
  rw [take_snoc h, List.foldl_append]
  rfl
theorem JdAt.setLa (h : JdAt w B L j) {t : Nat} (ht : t ≤ B + 1) : JdAt (w.setCell ⟨L.jb, 0, none⟩ (.int .u64 (t : Int))) (B + 1) L { j with la := t } := by
  have hu : Upd (· = L.jb) w (w.setCell ⟨L.jb, 0, none⟩ (.int .u64 (t : Int))) := (Upd.refl _ w).setIn 0 _
  obtain ⟨m, h1, h2⟩ := h.wh
  obtain ⟨n, h3, h4⟩ := h.sn
  exact ⟨h.blk.set_ 0 _, ⟨m, by omega, h2.upd hu (fun e => Blk.ne_map h.blk h2 e.symm)⟩, ⟨n, by omega, h4.upd hu (fun e => Blk.ne_map h.blk h4 e.symm)⟩, h.ne, ht⟩
set_option maxRecDepth 100000 in
set_option maxHeartbeats 4000000 in
theorem jcommit (h : JdAt w B L j) (hb : BtAt w x) (hkey : x.b.l.length ≤ 8 ∧ ∀ y ∈ x.b.l, y.key.size ≤ maxLen) (hB : B ≤ 1000000000) :
    Calls Tryz.prog 209 #[.pointer (some ⟨L.jb, 0, none⟩), x.val] w fun e w' => e = .returned (.int .u64 ((j.la + 1 : Nat) : Int)) ∧ JdAt w' (B + 9) L (j.commit x.b) ∧ Upd (JdF L) w w' := by
  obtain ⟨⟨c, r, s, l⟩, A, cap⟩ := x
  obtain ⟨hsl, hok⟩ := hb
  obtain ⟨A', cap', hv, hlc, hh⟩ := hsl
  obtain ⟨hl8, hkey⟩ := hkey
  dsimp only [BtV.val, BtV.sl, batV] at hv hkey hlc hh hl8 ⊢
  cases hv
  clear hok
  have hBk := Blk.mk_new w 82 #[.int .u64 (c : Int), .int .u64 (r : Int), .int .u64 (s : Int), .slice A l.length cap]
  have hN0 := (New.refl w).alloc (.cells #[.int .u64 (c : Int), .int .u64 (r : Int), .int .u64 (s : Int), .slice A l.length cap] 82)
  have HN := Lib.hid hN0
  have HLT := Lib.hid h.lt
  have HOFF1 : Hid (∀ b cs, Blk w b 34 cs → ¬ b = L.jb) := Lib.hid (Off.blk h.blk (by decide))
  have HOFF2 : Hid (∀ b cs, Blk w b 34 cs → ¬ JdF L b) := Lib.hid (h.off (by decide))
  have HKEY := Lib.hid hkey
  have HLA := Lib.hid h.la
  have h1 := h.new hN0
  have HJ := Lib.hid h1
  obtain ⟨p0, p1, p2, p3, p4, pz⟩ := Blk4F hBk
  obtain ⟨f0, f1, f2, f3, fz⟩ := Blk3J h1.blk
  have hjne : ¬ L.jb = w.heap.size := by have := h.blk.lt; omega
  have hwr : IntKind.u64.wrap ((j.la : Int) + 1) = (j.la : Int) + 1 := IntWalk.u64_in _ (by have := h.la; omega)
  have HBk := Lib.hid hBk
  clear hkey h h1 hBk hN0
  have HWS : Hid ((w.alloc (.cells #[.int .u64 (c : Int), .int .u64 (r : Int), .int .u64 (s : Int), .slice A l.length cap] 82)).heap.size = w.heap.size + 1) := Lib.hid (by simp)
  go_enter Tryz.func209, Tryz.ntmps209
  go_upto_region 1 with fail
  generalize w.alloc (.cells #[.int .u64 (c : Int), .int .u64 (r : Int), .int .u64 (s : Int), .slice A l.length cap] 82) = W at *
  have hcast : ((j.la + 1 : Nat) : Int) = (j.la : Int) + 1 := by omega
  have hS1 := HJ.out.setLa (t := j.la + 1) (by have := HLA.out; omega)
  rw [hcast] at hS1
  have hUW : Upd (· = L.jb) W (W.setCell ⟨L.jb, 0, none⟩ (.int .u64 ((j.la : Int) + 1))) := (Upd.refl _ W).setIn 0 _
  have hbx1 := HBk.out.upd hUW (fun e => hjne e.symm)
  have HS1 := Lib.hid hS1
  have HUW := Lib.hid hUW
  have HBX1 := Lib.hid hbx1
  obtain ⟨P0, P1, P2, P3, P4, PZ⟩ := Blk4F hbx1
  clear hS1 hUW hbx1
  go_upto_region 2 with fail
  clear f0 f1 f2 f3 fz p0 p1 p2 p3 p4 pz hwr
  generalize W.setCell ⟨L.jb, 0, none⟩ (.int .u64 ((j.la : Int) + 1)) = W2 at *
  have HCST := Lib.hid hcast
  clear hcast
  have HWZ : Hid (W.heap.size ≤ W2.heap.size) := Lib.hid HUW.out.size
  go_wp2_with fail
  go_loopw [6, 17] (fun _ i wr => ∃ k : Nat, k ≤ l.length ∧ i = .int .i64 k ∧ JdAt wr (B + 1 + k) L (whT j l k) ∧ Upd (JdF L) W2 wr) (fun _ i _ => l.length - (intOf i).toNat)
  case atStart => exact ⟨0, by omega, rfl, HS1.out, Upd.refl _ _⟩
  case round =>
    obtain ⟨k, hk, rfl, hj, hu⟩ := hrel
    have hbx := HBX1.out.upd hu (fun hk => by have := HLT.out _ hk; omega)
    have hWr : w.heap.size < wr.heap.size := hbx.lt
    have HUR := Lib.hid hu
    by_cases hlt : k < l.length
    · obtain ⟨q0, q1, q2, q3, q4, qz⟩ := Blk4F hbx
      have hlt2 : (k : Int) < (l.length : Int) := by omega
      have hk0 : (0 : Int) ≤ (k : Int) := by omega
      rcases hh with rfl | ⟨b, off, cs, rfl, hbb, hc⟩
      · simp at hlt
      obtain ⟨y, hy⟩ : ∃ y, l[k]? = some y := ⟨_, List.getElem?_eq_getElem hlt⟩
      have hyk := HKEY.out y (List.mem_of_getElem? hy)
      have hbbr : Blk wr b 34 cs := (((hbb.new HN.out).upd HUW.out (HOFF1.out b cs hbb))).upd hu (HOFF2.out b cs hbb)
      obtain ⟨e0, e1, e2⟩ := SlIn.three (fun k x h j u hu => (hbbr.cell _).trans (hc k x h j u hu)) hy
      have hnx := (New.refl wr).alloc (.cells #[.string y.key, .string y.val, .bool y.gone] 34)
      have HNX := Lib.hid hnx
      have hj2 := hj.new hnx
      have HJ2 := Lib.hid hj2
      have HJL := Lib.hid hj.lt
      have hbbl : b < wr.heap.size := hbbr.lt
      obtain ⟨f0, f1, f2, f3, fz⟩ := Blk3J hj2.blk
      obtain ⟨d0, d1, d2, d3, dz⟩ := Blk3J (Blk.mk_new wr 34 #[.string y.key, .string y.val, .bool y.gone])
      have HY := Lib.hid hy
      have HKY := Lib.hid hyk
      clear hy hc hbb hbbr hyk hnx hj hj2 hbx hu
      go_upto_region 5 with fail
      generalize hWX : wr.alloc (.cells #[.string y.key, .string y.val, .bool y.gone] 34) = wx at *
      obtain ⟨m, hm, hmp, hnext⟩ := (HJ2.out.new (New.refl wx).drew).setWh HKY.out (j.la + 1)
      obtain ⟨w6, hrun, hm6, hu6⟩ := mpPutR keyS.toKeyB hmp Tryz.underlying275 (by unfold maxLen; omega) y.key HKY.out (.int .u64 ((j.la + 1 : Nat) : Int))
      have HN6 := Lib.hid (hnext w6 hm6 hu6)
      have HU6 := Lib.hid hu6
      have hcast := HCST.out
      rw [hcast] at hrun
      have hla1 : (whT j l k).la = j.la + 1 := rfl
      rw [hla1, hcast] at f1
      have hwl := hmp.lt
      have k1 := keepR hu6 (show L.jb < wx.drew.heap.size from f0) (fun e => Blk.ne_map (HJ2.out.new (New.refl wx).drew).blk hmp e)
      have k2 := keepR hu6 (show wr.heap.size < wx.drew.heap.size from d0) (fun e => by have := HJL.out _ (.inr (.inl rfl)); omega)
      clear hm hmp hnext hm6 hu6 hla1 hwl
      refine wp_region_held_drew (S := fun w' => (∀ o, w'.cell? ⟨L.jb, o, none⟩ = wx.cell? ⟨L.jb, o, none⟩) ∧ (∀ o, w'.cell? ⟨wr.heap.size, o, none⟩ = wx.cell? ⟨wr.heap.size, o, none⟩)) (by kernel_rfl) (⟨fun _ => rfl, fun _ => rfl⟩) (fun hHeld => ?_)
      refine tkN (i := 0) rfl ?_
      try simp only [Act.put, sA, sZ, sS]
      refine tkN (i := 1) rfl ?_
      try simp only [Act.put, sA, sZ, sS]
      refine tkN (i := 2) rfl ?_
      try simp only [Act.put, sA, sZ, sS]
      refine tkN (i := 3) rfl ?_
      try simp only [Act.put, sA, sZ, sS]
      refine tkN (i := 4) rfl ?_
      try simp only [Act.put, sA, sZ, sS]
      refine tkN (i := 5) rfl ?_
      try simp only [Act.put, sA, sZ, sS]
      refine tkN (i := 6) rfl ?_
      try simp only [Act.put, sA, sZ, sS]
      refine tkN (i := 7) rfl ?_
      try simp only [Act.put, sA, sZ, sS]
      refine tkN (i := 8) rfl ?_
      try simp only [Act.put, sA, sZ, sS]
      refine tkN (i := 9) rfl ?_
      try simp only [Act.put, sA, sZ, sS]
      refine stN (i := 10) rfl (fun K hK => ?_)
      go_simp
      refine hK.out _ _ ?_ (fun hHeld => ?_)
      · exact ⟨k1, k2⟩
      clear hK K
      try simp only [Act.put, sA, sZ, sS]
      refine wpAnyH_done (by kernel_rfl) ?_ _
      clear hHeld hrun k1 k2
      go_wp2_with fail
      go_roundw
      case rel =>
        refine ⟨k + 1, by omega, by go_num, ?_, HUR.out.trans (Upd.trans (Upd.new (S := JdF L) HNX.out.drew) HU6.out (fun i _ hi => .inr (.inl hi))) (fun _ _ hi => hi)⟩
        have := HN6.out
        rw [whT_next HY.out] at this
        exact this
      case measure => simp [intOf]; omega
    · have hlt2 : ¬ (k : Int) < (l.length : Int) := by omega
      obtain rfl : k = l.length := by omega
      obtain ⟨f0, f1, f2, f3, fz⟩ := Blk3J hj.blk
      have hfin : JdAt wr (B + 9) L (j.commit ⟨c, r, s, l⟩) := by
        have e : whT j l l.length = j.commit ⟨c, r, s, l⟩ := by unfold whT Jd.commit; rw [List.take_length]
        rw [← e]
        exact hj.mono (by omega)
      have HF := Lib.hid hfin
      clear hfin hj hbx hu
      go_wp2_with fail
      go_ret
      exact ⟨rfl, HF.out, (Upd.new (S := JdF L) HN.out).trans ((HUW.out.mono (fun _ _ h => .inl h)).trans HUR.out (fun _ _ h => h)) (fun _ _ h => h)⟩
end
end Go.Proofs.YtlhlcdjkacglnaaGreatDoor
