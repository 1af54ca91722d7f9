/- Chapter 24 (replica): Scan. -/
import Derived.Test.YtecniafnihpjmaaGreatDoorRdA
import Derived.Test.YtecniafnihpjmaaGreatDoorRdC
namespace Go.Proofs.YtecniafnihpjmaaGreatDoor
open Go.RowKit Go.Lap C
set_option linter.unusedVariables false
set_option linter.unusedSimpArgs false
def ScanPost (w : World) (P : List (Nat × Wri)) (r : Rng) (e : Ending) (w' : World) : Prop := ∃ u, e = .returned (.tuple #[u, .int .i64 0]) ∧ SlIn w' 2 celC u (docScan P r) ∧ New w w'
section
variable {w w' W : World} {rp B a : Nat} {L : RpL} {x : Rpl}
set_option maxHeartbeats 4000000 in
theorem rscan_no (h : RpAt w rp B L x) (r : Rng) (ha : x.cl < a) :
    Calls Tryz.prog 32 #[.pointer (some ⟨rp, 0, none⟩), .agg (rngC r), .int .u64 (a : Int)] w fun e w' => e = .returned (.tuple #[.slice none 0 0, .int .i64 242]) ∧ New w w' := by
  have hN := ((New.refl w).alloc (.cells (rngC r) 77)).alloc (.cells #[.int .u64 (a : Int)] 22)
  obtain ⟨g0, c0, c1, c2, c3, c4, c5, c6, cz⟩ := (h.new hN).facts
  have HN := Lib.hid hN
  have ha2 : (x.cl : Int) < (a : Int) := by omega
  have hb := Blk.mk_new (w.alloc (.cells (rngC r) 77)) 22 #[.int .u64 (a : Int)]
  obtain ⟨a0, a1, az⟩ := Blk1C hb
  rw [World.size_alloc] at a0 a1 az
  clear h ha hN hb
  unfold rngC at *
  go_enter Tryz.func32, Tryz.ntmps32
  go_upto_region 1 with fail
  generalize (w.alloc (.cells #[.string r.fr, .string r.te, .bool r.op, .bool r.bk, .int .i64 r.lim] 77)).alloc (.cells #[.int .u64 (a : Int)] 22) = W at *
  refine wp_region_held_drew (S := fun w' => w' = W.drew) (by kernel_rfl) rfl (fun hHeld => ?_)
  refine tkN (i := 0) rfl ?_
  try simp only [Act.put, sA, sZ, sS]
  refine tkN (i := 1) rfl ?_
  try simp only [Act.put, sA, sZ, sS]
  refine tkN (i := 2) rfl ?_
  try simp only [Act.put, sA, sZ, sS]
  refine tkN (i := 3) rfl ?_
  try simp only [Act.put, sA, sZ, sS]
  refine tkN (i := 4) rfl ?_
  try simp only [Act.put, sA, sZ, sS]
  refine tkN (i := 5) rfl ?_
  try simp only [Act.put, sA, sZ, sS]
  refine wpAnyH_done (by kernel_rfl) ?_ _
  clear hHeld
  go_wp2_with fail
  go_ret2
  exact ⟨rfl, HN.out.drew⟩
theorem slIn_upd {S : Nat → Prop} {w w' : World} {v : Value} {l : List Cel} (h : SlIn w 2 celC v l) (hu : Upd S w w') (hS : ∀ k, v.ownBlock = some k → ¬ S k) : SlIn w' 2 celC v l := by
  obtain ⟨A, c, rfl, hc, hh⟩ := h
  refine ⟨A, c, rfl, hc, ?_⟩
  rcases hh with h0 | ⟨b, off, rfl, hb, hx⟩
  · exact .inl h0
  · exact .inr ⟨b, off, rfl, Nat.lt_of_lt_of_le hb hu.size, fun k x hk j u hj => (keepR hu hb (hS b rfl) _).trans (hx k x hk j u hj)⟩
theorem slIn_take {w : World} {A : Option Addr} {n c : Nat} {l : List Cel} (h : SlIn w 2 celC (.slice A n c) l) {k : Nat} (hk : k ≤ l.length) : SlIn w 2 celC (.slice A k c) (l.take k) := by
  obtain ⟨A', c', hv, hc, hh⟩ := h
  cases hv
  refine ⟨A, c, by rw [List.length_take, Nat.min_eq_left hk], by rw [List.length_take]; omega, ?_⟩
  rcases hh with h0 | ⟨b, off, rfl, hb, hx⟩
  · exact .inl (by rw [h0, List.take_nil])
  · refine .inr ⟨b, off, rfl, hb, fun i x hi j u hj => hx i x ?_ j u hj⟩
    rw [List.getElem?_take] at hi
    split at hi
    · exact hi
    · cases hi
def valF (P : List (Nat × Wri)) (V : ByteArray → Value) (k : ByteArray) : Option Value := if vsOf P k = [] then none else some (V k)
theorem valF_some {P : List (Nat × Wri)} {V : ByteArray → Value} {k : ByteArray} {v : Value} (h : valF P V k = some v) : vsOf P k ≠ [] ∧ v = V k := by
  unfold valF at h
  split at h
  · cases h
  · rename_i h0; cases h; exact ⟨h0, rfl⟩
set_option maxRecDepth 100000 in
set_option maxHeartbeats 8000000 in
theorem rscan (h : RpAt w rp B L x) (r : Rng) (ha : a ≤ x.cl) (hcl : x.cl ≤ x.l.length) (hB : B ≤ 1000) (hok : ∀ b ∈ x.l, b.l.length ≤ 1000 ∧ ∀ y ∈ b.l, okS y.key) (hr : ∀ k, Rise (vsOf (wsUp x.l a) k)) :
    Calls Tryz.prog 32 #[.pointer (some ⟨rp, 0, none⟩), .agg (rngC r), .int .u64 (a : Int)] w (ScanPost w (wsUp x.l a) r) := by
  have hll := h.ll
  have HP3 : Hid ((∀ p ∈ wsUp x.l a, p.1 ≤ a) ∧ (wsUp x.l a).length ≤ 1000000 ∧ ∀ p ∈ wsUp x.l a, okS p.2.key) := Lib.hid ⟨wsUp_at _ _, by
      have h1 := wsUp_len (fun b hb => (hok b hb).1) a
      have h2 : a * 1000 ≤ 1000 * 1000 := Nat.mul_le_mul_right _ (by omega)
      omega, fun p hp => by
      unfold wsUp at hp
      obtain ⟨j, hj, h2⟩ := List.mem_flatMap.1 hp
      obtain ⟨y, hy, rfl⟩ := List.mem_map.1 h2
      cases hb : x.l[j]? with
      | none => rw [hb] at hy; simp [Btc.none] at hy
      | some b => rw [hb] at hy; exact (hok b (List.mem_of_getElem? hb)).2 y hy⟩
  obtain ⟨P, hP⟩ : ∃ P, P = wsUp x.l a := ⟨_, rfl⟩
  have HPE := Lib.hid hP
  rw [← hP] at HP3 hr ⊢
  clear hP
  have hN := ((New.refl w).alloc (.cells (rngC r) 77)).alloc (.cells #[.int .u64 (a : Int)] 22)
  have HRP := Lib.hid (h.new hN)
  have HN := Lib.hid hN
  have HGX := Lib.hid ((Blk.mk_new w 77 (rngC r)).alloc (.cells #[.int .u64 (a : Int)] 22))
  have hga := Blk.mk_new (w.alloc (.cells (rngC r) 77)) 22 #[.int .u64 (a : Int)]
  rw [World.size_alloc] at hga
  have HGA := Lib.hid hga
  have HSZ := Lib.hid (show ((w.alloc (.cells (rngC r) 77)).alloc (.cells #[.int .u64 (a : Int)] 22)).heap.size = w.heap.size + 1 + 1 by rw [World.size_alloc, World.size_alloc])
  have HOK := Lib.hid hok
  have HR := Lib.hid hr
  have ha2 : ¬ (x.cl : Int) < (a : Int) := by omega
  have HAL := Lib.hid (show a ≤ x.l.length by omega)
  clear h ha hN hga hok hr
  unfold rngC at HRP HN HGX HGA HSZ ⊢
  go_enter Tryz.func32, Tryz.ntmps32
  go_upto_region 1 with fail
  generalize (w.alloc (.cells #[.string r.fr, .string r.te, .bool r.op, .bool r.bk, .int .i64 r.lim] 77)).alloc (.cells #[.int .u64 (a : Int)] 22) = W at *
  obtain ⟨g0, c0, c1, c2, c3, c4, c5, c6, cz⟩ := HRP.out.facts
  obtain ⟨a0, a1, az⟩ := Blk1C HGA.out
  refine wp_region_held_drew (S := fun w' => w' = W.drew) (by kernel_rfl) rfl (fun hHeld => ?_)
  refine tkN (i := 0) rfl ?_
  try simp only [Act.put, sA, sZ, sS]
  refine tkN (i := 1) rfl ?_
  try simp only [Act.put, sA, sZ, sS]
  refine tkN (i := 2) rfl ?_
  try simp only [Act.put, sA, sZ, sS]
  refine tkN (i := 3) rfl ?_
  try simp only [Act.put, sA, sZ, sS]
  refine tkN (i := 4) rfl ?_
  try simp only [Act.put, sA, sZ, sS]
  refine tkN (i := 5) rfl ?_
  try simp only [Act.put, sA, sZ, sS]
  refine wpAnyH_done (by kernel_rfl) ?_ _
  clear hHeld
  clear g0 c0 c1 c2 c3 c4 c5 c6 cz a0 a1 az
  have hNW := ((New.refl W).alloc (.cells #[.slice none 0 0] 83)).drew
  have HRP2 := Lib.hid (HRP.out.new hNW)
  have HGX2 := Lib.hid (HGX.out.new hNW)
  have HGA2 := Lib.hid (HGA.out.new hNW)
  have HGL2 := Lib.hid ((Blk.mk_new W 83 #[.slice none 0 0]).drew)
  have HN2 := Lib.hid (HN.out.trans hNW)
  have HGN := Lib.hid (show w.heap.size ≤ W.heap.size from HN.out.size)
  clear hNW
  clear HRP HGX HGA
  go_upto_region 5 with fail
  generalize (W.alloc (.cells #[.slice none 0 0] 83)).drew = X at *
  have HGG := Lib.hid (show w.heap.size ≤ W.heap.size from HGN.out)
  have HGG2 := HSZ
  generalize W.heap.size = gl at HGL2 HGG HGG2 ⊢
  obtain ⟨a0, a1, az⟩ := Blk1C HGA2.out
  go_wp2_with fail
  refine (versions_any HRP2.out a HAL.out hB HOK.out).mono ?_
  rintro e w5 ⟨mb, rfl, hvs, hn5⟩
  rw [← HPE.out] at hvs
  obtain ⟨m, V, hm, hmp, hrow, hnil, hdis⟩ := hvs
  have HMP : Hid (MpAt Tryz.prog 9 litS okS w5 mb m (valF P V)) := Lib.hid hmp
  have HM : Hid (m ≤ 1000000) := Lib.hid (Nat.le_trans hm HP3.out.2.1)
  have HROW := Lib.hid hrow
  have HN5 := Lib.hid hn5
  clear hm hmp hrow hnil hdis hn5 a0 a1 az
  go_wp2_with (at_range; refine wpList_mp_range keyS.toKeyB rfl _ _ 120 rfl Tryz.underlying121 rfl HMP.out ?_; intro w0 hrg0 hN0 hs0)
  go_frame
  have HGX0 := Lib.hid ((HGX2.out.new HN5.out).new hN0)
  have HGA0 := Lib.hid ((HGA2.out.new HN5.out).new hN0)
  have HGL0 := Lib.hid ((HGL2.out.new HN5.out).new hN0)
  have HROW0 : Hid (∀ k, Row w0 X.heap.size 131 3 Ver.enc (V k) (vsOf P k) ∧ ∀ b, (V k).ownBlock = some b → b < w5.heap.size) := Lib.hid (fun k => ⟨(HROW.out k).new hN0, fun b hb => ((HROW.out k).lt b hb).2⟩)
  have HLT0 : Hid (w.heap.size + 1 < w5.heap.size ∧ gl < w5.heap.size ∧ mb < w5.heap.size) := Lib.hid ⟨(HGA2.out.new HN5.out).lt, (HGL2.out.new HN5.out).lt, HMP.out.lt⟩
  have HN0 := Lib.hid ((HN2.out.trans HN5.out).trans hN0)
  generalize hr5 : w5.heap.size = r5 at hrg0 hs0 HROW0 HLT0 ⊢
  have HS0 := Lib.hid hs0
  clear hr5 hs0 hN0 HRP2 HOK HMP HROW HN5
  go_loopw [10, 11] (fun _ _ wr => ∃ (cnt : Nat) (left : ByteArray → Bool) (L : List Cel) (lv : Value), MpRg Tryz.prog 9 litS okS wr mb r5 m (valF P V) left cnt ∧ Blk wr gl 83 #[lv] ∧ Owns wr (r5 + 1) 124 2 celC lv L ∧ MidC P r left L ∧ L.length + cnt ≤ m ∧ Upd (fun k => k = gl ∨ k = r5) w0 wr) (fun _ _ wr => wr.rangeLeft mb r5)
  case atStart =>
    refine ⟨_, _, [], .slice none 0 0, hrg0, HGL0.out, Owns.nil _ _ _ _ _, ⟨List.nodup_nil, by simp, fun c hc => ?_⟩, by simp, Upd.refl _ _⟩
    constructor
    · intro h; cases h
    · rintro ⟨h1, h2, h3⟩
      unfold valF at h2
      dsimp only at h2
      rw [if_neg h1] at h2
      cases h2
  case round =>
    obtain ⟨cnt, left, L, lv, hrg, hgl, ho, hmid, hlc, hu⟩ := hrel
    obtain ⟨lA, ln, lc, rfl⟩ := ownsShape celOk ho
    have HLE := Lib.hid hrg.left_eq
    have HMID := Lib.hid hmid
    have HU := Lib.hid hu
    have HLC0 := Lib.hid hlc
    have HO := Lib.hid ho
    have HGLr := Lib.hid hgl
    have HGXr := Lib.hid (HGX0.out.upd hu (fun e => by have := HLT0.out; have := HGG2.out; omega))
    have HGAr := Lib.hid (HGA0.out.upd hu (fun e => by have := HLT0.out; have := HGG2.out; omega))
    have HNr := Lib.hid (HN0.out.upd hu (fun k e => by have := HLT0.out; have := HGG.out; omega))
    clear hmid hu hlc hgl ho
    obtain ⟨l0, l1, lz⟩ := Blk1C HGLr.out
    go_wp2_with (at_next; refine wpList_mp_next keyS rfl _ rfl rfl hrg ?_ ?_)
    · intro h0 hl
      have HDONE := Lib.hid (HMID.out.done hl HP3.out.2.2)
      have hso := sort_cel wr HO.out (by have := HLC0.out; have := HM.out; omega) HMID.out.1
      have hneq := owns_ne_blk HO.out HGLr.out (by decide)
      have HNE := Lib.hid (show ∀ n c : Nat, (Value.slice lA n c).ownBlock ≠ some gl from fun n c => by cases lA <;> exact hneq)
      clear hneq
      clear h0 hl
      rcases (show r.bk = false ∨ r.bk = true by cases r.bk <;> simp) with hbk | hbk
      · go_upto_region 10 with (go_at_call 66; refine hso.mono ?_; rintro e w2 ⟨rfl, l2, hs2, hp2, hst2, hu2, hor2⟩)
        have HDOC := Lib.hid (code_is_doc hst2 (fun c => hp2.mem_iff.trans (HDONE.out c)))
        rw [hbk, if_neg (by decide)] at HDOC
        have HSF := Lib.hid hs2
        have HNF := Lib.hid (HNr.out.upd hu2 (fun k hk => by have := (HO.out.lt k hk).1; have := HLT0.out; have := HGG.out; omega))
        obtain ⟨sA, sc, hsv, hsl, -⟩ := id hs2
        obtain ⟨x0, x1, x2, x3, x4, x5, xz⟩ := Blk5C (HGXr.out.upd hu2 (fun hk => owns_ne_blk HO.out HGXr.out (by decide) hk))
        obtain ⟨l0, l1, lz⟩ := Blk1C (HGLr.out.upd hu2 (fun hk => HNE.out _ _ hk))
        rw [hbk] at x4
        clear hs2 hp2 hst2 hu2 hor2 hso
        cases hsv
        by_cases hneg : r.lim < 0
        · have HLC := Lib.hid (show docScan P r = l2 by rw [← HDOC.out]; unfold limC; rw [if_neg (by omega)])
          have i2 : ¬ (0 : Int) ≤ r.lim := by omega
          clear hneg
          go_wp2_with fail
          go_ret2
          exact ⟨_, rfl, by rw [HLC.out]; exact HSF.out, HNF.out⟩
        · obtain ⟨q, hq⟩ : ∃ q : Nat, r.lim = (q : Int) := ⟨r.lim.toNat, by omega⟩
          have HQX := Lib.hid hq
          rw [hq] at x5
          have i2 : (0 : Int) ≤ (q : Int) := by omega
          by_cases hlm : q < l2.length
          · have HLC := Lib.hid (show docScan P r = (l2).take q by rw [← HDOC.out]; unfold limC; rw [HQX.out, if_pos ⟨by omega, by omega⟩]; rfl)
            have i4 : (q : Int) < (l2.length : Int) := by simpa using hlm
            have i3 : (q : Int) ≤ (lc : Int) := by omega
            have hst := slIn_upd (slIn_take HSF.out (k := q) (by omega)) ((Upd.refl (· = gl) w2).setIn 0 (.slice lA q lc)) (fun k hk e => HNE.out _ _ (by rw [← e]; exact hk))
            have HST := Lib.hid hst
            clear hneg hq hst
            go_wp2_with fail
            go_ret2
            exact ⟨_, rfl, by rw [HLC.out]; exact HST.out, HNF.out.upd ((Upd.refl (· = gl) w2).setIn 0 _) (fun k e => by rw [e]; exact HGG.out)⟩
          · have HLC := Lib.hid (show docScan P r = l2 by rw [← HDOC.out]; unfold limC; rw [HQX.out, if_neg (by omega)])
            have i4 : ¬ (q : Int) < (l2.length : Int) := by simpa using hlm
            clear hneg hq
            go_wp2_with fail
            go_ret2
            exact ⟨_, rfl, by rw [HLC.out]; exact HSF.out, HNF.out⟩
      · go_upto_region 10 with (go_at_call 66; refine hso.mono ?_; rintro e w2 ⟨rfl, l2, hs2, hp2, hst2, hu2, hor2⟩)
        have HDOC := Lib.hid (code_is_doc hst2 (fun c => hp2.mem_iff.trans (HDONE.out c)))
        rw [hbk, if_pos rfl] at HDOC
        have hrv := rev_row w2 hs2 hor2 (by have := hp2.length_eq; have := HLC0.out; have := HM.out; omega)
        have HN2' := Lib.hid (HNr.out.upd hu2 (fun k hk => by have := (HO.out.lt k hk).1; have := HLT0.out; have := HGG.out; omega))
        have HX2 := Lib.hid (HGXr.out.upd hu2 (fun hk => owns_ne_blk HO.out HGXr.out (by decide) hk))
        have HL2 := Lib.hid (HGLr.out.upd hu2 (fun hk => HNE.out _ _ hk))
        have HNX := Lib.hid (show ∀ n c : Nat, (Value.slice lA n c).ownBlock ≠ some w.heap.size from fun n c => by have := owns_ne_blk HO.out HGXr.out (by decide); cases lA <;> exact this)
        have HOL := Lib.hid HO.out.lt
        obtain ⟨sA, sc, hsv, hsl, -⟩ := id hs2
        obtain ⟨x0, x1, x2, x3, x4, x5, xz⟩ := Blk5C HX2.out
        obtain ⟨l0, l1, lz⟩ := Blk1C HL2.out
        rw [hbk] at x4
        clear hs2 hp2 hst2 hu2 hor2 hso
        cases hsv
        go_upto_region 12 with (go_at_call 69; refine hrv.mono ?_; rintro e w3 ⟨rfl, hs3, hu3⟩)
        have HSF := Lib.hid hs3
        have HNF := Lib.hid (HN2'.out.upd hu3 (fun k hk => by have := (HOL.out k hk).1; have := HLT0.out; have := HGG.out; omega))
        clear x0 x1 x2 x3 x4 x5 xz l0 l1 lz
        obtain ⟨x0, x1, x2, x3, x4, x5, xz⟩ := Blk5C (HX2.out.upd hu3 (fun hk => HNX.out _ _ hk))
        obtain ⟨l0, l1, lz⟩ := Blk1C (HL2.out.upd hu3 (fun hk => HNE.out _ _ hk))
        clear hs3 hu3 hrv
        by_cases hneg : r.lim < 0
        · have HLC := Lib.hid (show docScan P r = l2.reverse by rw [← HDOC.out]; unfold limC; rw [if_neg (by omega)])
          have i2 : ¬ (0 : Int) ≤ r.lim := by omega
          clear hneg
          go_wp2_with fail
          go_ret2
          exact ⟨_, rfl, by rw [HLC.out]; exact HSF.out, HNF.out⟩
        · obtain ⟨q, hq⟩ : ∃ q : Nat, r.lim = (q : Int) := ⟨r.lim.toNat, by omega⟩
          have HQX := Lib.hid hq
          rw [hq] at x5
          have i2 : (0 : Int) ≤ (q : Int) := by omega
          by_cases hlm : q < l2.reverse.length
          · have HLC := Lib.hid (show docScan P r = (l2.reverse).take q by rw [← HDOC.out]; unfold limC; rw [HQX.out, if_pos ⟨by omega, by omega⟩]; rfl)
            have i4 : (q : Int) < (l2.length : Int) := by simpa using hlm
            have i3 : (q : Int) ≤ (lc : Int) := by omega
            have hst := slIn_upd (slIn_take HSF.out (k := q) (by omega)) ((Upd.refl (· = gl) w3).setIn 0 (.slice lA q lc)) (fun k hk e => HNE.out _ _ (by rw [← e]; exact hk))
            have HST := Lib.hid hst
            clear hneg hq hst
            go_wp2_with fail
            go_ret2
            exact ⟨_, rfl, by rw [HLC.out]; exact HST.out, HNF.out.upd ((Upd.refl (· = gl) w3).setIn 0 _) (fun k e => by rw [e]; exact HGG.out)⟩
          · have HLC := Lib.hid (show docScan P r = l2.reverse by rw [← HDOC.out]; unfold limC; rw [HQX.out, if_neg (by omega)])
            have i4 : ¬ (q : Int) < (l2.length : Int) := by simpa using hlm
            clear hneg hq
            go_wp2_with fail
            go_ret2
            exact ⟨_, rfl, by rw [HLC.out]; exact HSF.out, HNF.out⟩
    · intro k v w1 cnt1 hk hlk hfk hrg1 hlt hu1 hsz1 hen
      obtain ⟨hvk, rfl⟩ := valF_some hfk
      have hrow := HROW0.out k
      have hV1 := ((hrow.1.upd HU.out (fun b hb e => by
        rcases e with e | e
        · exact hrow.1.ne_blk HGL0.out (by decide) (by rw [hb, e])
        · have := hrow.2 b hb; omega)).upd hu1 (fun b hb e => by have := hrow.2 b hb; omega)).slIn Ver.encOk
      have hGX1 := HGXr.out.upd hu1 (fun e => by have := HLT0.out; omega)
      have hGA1 := HGAr.out.upd hu1 (fun e => by have := HLT0.out; omega)
      have hGL1 := HGLr.out.upd hu1 (fun e => by have := HLT0.out; omega)
      have hO1 := ownsUpdC HO.out hu1 (fun b hb e => by have := (HO.out.lt b hb).1; omega)
      have hmbgl := Blk.ne_map HGLr.out hrg.at
      have hbs : r5 + 1 ≤ w1.heap.size := by rw [hsz1]; have h1 := HU.out.size; have h2 := HS0.out; omega
      have hcall := take_any (base := r5 + 1) (gx := w.heap.size) (ga := w.heap.size + 1) (gl := gl) (a := a) (P := P) (x := r) (L := L) k hGA1 hGX1 hGL1 hO1 hV1 (HR.out k) HP3.out.1 HP3.out.2.1 (by have := HLC0.out; have := HM.out; omega) hbs
      have HMB := Lib.hid hmbgl
      have HRG1 := Lib.hid hrg1
      have HU1 := Lib.hid hu1
      have HST := Lib.hid (HMID.out.step hk hlk hvk)
      have HLT1 := Lib.hid hlt
      have HO1 := Lib.hid hO1
      obtain ⟨l0, l1, lz⟩ := Blk1C hGL1
      clear hrow hV1 hGX1 hGA1 hGL1 hO1 hmbgl hbs hrg1 hu1 hk hlk hvk hfk hlt hsz1 hrg
      go_wp2_with (go_at_call 65; refine hcall.mono ?_; rintro e w9 ⟨rfl, lv', hgl9, ho9, hu9⟩)
      have hrg9 := HRG1.out.upd hu9 (fun e => by
        rcases e with e | e
        · exact HMB.out e.symm
        · have := (HO1.out.lt _ e).1; have := HLT0.out; omega) (fun e => by
        rcases e with e | e
        · have := HLT0.out; omega
        · have := (HO1.out.lt _ e).1; omega)
      have hu09 := (HU.out.trans HU1.out (fun i _ e => .inr e)).trans hu9 (fun i hi e => by
        rcases e with e | e
        · exact .inl e
        · have := (HO1.out.lt _ e).1; have := HS0.out; omega)
      go_roundw
      case rel =>
        exact ⟨cnt1, _, _, lv', hrg9, hgl9, ho9, HST.out, by have := addC_len P r L k; have := HLC0.out; have := HLT1.out; omega, hu09⟩
      case measure =>
        rw [hrg9.left_eq, HLE.out]
        exact HLT1.out
end
end Go.Proofs.YtecniafnihpjmaaGreatDoor
