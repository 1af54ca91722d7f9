/- Chapter 5 (batch): Put. Printed by genBat5.py. -/
import Derived.Test.YtlhlcdjkacglnaaGreatDoorJk2
import Derived.Test.YtlhlcdjkacglnaaGreatDoorJk9
import Derived.Test.YtlhlcdjkacglnaaGreatDoorJk10
import Derived.Test.YtlhlcdjkacglnaaGreatDoorJk16
import Derived.Test.YtlhlcdjkacglnaaGreatDoorJk19
namespace Go.Proofs.YtlhlcdjkacglnaaGreatDoor
open Go.RowKit Go.Lap
set_option linter.unusedVariables false

/-- A write's bytes, and a batch's. -/
def encW (x : Wri) : List UInt8 := varB x.key.size ++ x.key.data.toList ++ varB (flagN x.gone) ++ if x.gone then [] else varB x.val.size ++ x.val.data.toList
def encH (c r s n : Nat) : List UInt8 := varB c ++ varB r ++ varB s ++ varB n
def encB (c r s : Nat) (l : List Wri) : List UInt8 := encH c r s l.length ++ l.flatMap encW

theorem chk1_ok {x : Wri} (h : chk1 x = 0) : x.key.size ≠ 0 ∧ x.key.size ≤ 64 ∧ x.val.size ≤ 256 ∧ (x.gone = true → x.val.size = 0) := by
  unfold chk1 at h
  split at h
  · cases h
  · split at h
    · cases h
    · rename_i h1 h2
      simp only [not_or, not_and, Decidable.not_not] at h1 h2
      exact ⟨h1.1, by omega, by omega, h2.2⟩
theorem chkFrom_ok : ∀ {p : Option ByteArray} {l : List Wri}, chkFrom p l = 0 → ∀ x ∈ l, chk1 x = 0
  | _, [], _, x, hx => by simp at hx
  | p, y :: l, h, x, hx => by
    have e : chkFrom p (y :: l) = if chk1 y ≠ 0 then chk1 y else if prevBad p y.key = true then 54 else chkFrom (some y.key) l := rfl
    rw [e] at h
    by_cases h1 : chk1 y = 0
    · rw [if_neg (by simpa using h1)] at h
      by_cases h2 : prevBad p y.key = true
      · rw [if_pos h2] at h
        cases h
      · rw [if_neg h2] at h
        rcases List.mem_cons.1 hx with rfl | hx
        · exact h1
        · exact chkFrom_ok h x hx
    · rw [if_pos h1] at h
      exact absurd h h1
theorem chk_ok {l : List Wri} (h : chk l = 0) : l.length ≠ 0 ∧ l.length ≤ 8 ∧ ∀ x ∈ l, chk1 x = 0 := by
  unfold chk at h
  split at h
  · cases h
  · split at h
    · cases h
    · exact ⟨by assumption, by omega, chkFrom_ok h⟩
theorem encW_len {x : Wri} (h : chk1 x = 0) : (encW x).length ≤ 400 := by
  obtain ⟨h1, h2, h3, h4⟩ := chk1_ok h
  have l1 := varB_len10 (n := x.key.size) (by omega)
  have l2 := varB_len10 (n := x.val.size) (by omega)
  have l3 := varB_len10 (flagN_lt x.gone)
  have e1 : x.key.data.toList.length = x.key.size := by rw [Array.length_toList]; rfl
  have e2 : x.val.data.toList.length = x.val.size := by rw [Array.length_toList]; rfl
  unfold encW
  split <;> simp only [List.length_append, List.length_nil] <;> omega
theorem encs_snoc {l : List Wri} {k : Nat} {x : Wri} (h : l[k]? = some x) : (l.take (k + 1)).flatMap encW = (l.take k).flatMap encW ++ encW x := by rw [take_snoc h, List.flatMap_append]; simp

theorem textOne (bs : List UInt8) (s : ByteArray) (h : s.size ≤ 65536) : textB (bs, 0) [s] = (bs ++ varB s.size ++ s.data.toList, 0) := by
  simp only [textB, List.foldl_cons, List.foldl_nil, textS, if_true, if_neg (show ¬ 65536 < s.size by omega)]
theorem numFlag (bs : List UInt8) (b : Bool) : numB 0 bs [flagN b] = bs ++ varB (flagN b) := by simp [numB]

/-- What Put answers. -/
def PutBPost (w : World) (c r s : Nat) (l : List Wri) (e : Ending) (w' : World) : Prop := New w w' ∧
  ((chk l = 0 ∧ ∃ u, e = .returned (.tuple #[u, .int .i64 0]) ∧ Owns w' w.heap.size 5 1 bEnc u (encB c r s l)) ∨ (chk l ≠ 0 ∧ e = .returned (.tuple #[.slice none 0 0, .int .i64 (chk l)])))

/-- A writer in work: so many writes are put. -/
def PutRel (w2 : World) (c r s : Nat) (l : List Wri) (k : Nat) (wr : World) : Prop := New w2 wr ∧ ∃ v, WrAt wr w2.heap.size w2.heap.size v (encH c r s l.length ++ (l.take k).flatMap encW) 0 ∧ (encH c r s l.length ++ (l.take k).flatMap encW).length ≤ 40 + 400 * k

set_option maxRecDepth 100000 in
set_option maxHeartbeats 8000000 in
theorem putB_any (c r s : Nat) (v : Value) (l : List Wri) (w : World) (hl : l.length ≤ 1000000000) (hc : c < 18446744073709551616) (hr : r < 18446744073709551616) (hst : s < 18446744073709551616) (hs : SlIn w 3 Wri.enc v l) :
    Calls Tryz.prog 42 #[.agg #[.int .u64 (c : Int), .int .u64 (r : Int), .int .u64 (s : Int), v]] w (PutBPost w c r s l) := by
  have HS := Lib.hid hs
  obtain ⟨A, cap, rfl, hlc, hh⟩ := hs
  have HB0 := Lib.hid (Blk.mk_new w 82 #[.int .u64 (c : Int), .int .u64 (r : Int), .int .u64 (s : Int), .slice A l.length cap])
  have HN0 := Lib.hid ((New.refl w).alloc (.cells #[.int .u64 (c : Int), .int .u64 (r : Int), .int .u64 (s : Int), .slice A l.length cap] 82))
  have hl1 := varB_len10 hc
  have hl2 := varB_len10 hr
  have hl3 := varB_len10 hst
  have hl4 := varB_len10 (n := l.length) (by omega)
  go_enter Tryz.func42, Tryz.ntmps42
  go_wp2_with fail
  refine (check_any c r s _ l _ hl (HS.out.new HN0.out)).mono ?_
  rintro e w1 ⟨rfl, hn1⟩
  by_cases hch : chk l = 0
  rotate_left
  · have HF := Lib.hid hch
    have hne : ((chk l : Int) != 0) = true := by simpa using hch
    clear hch
    go_wp2_with fail
    go_ret2
    exact ⟨HN0.out.trans hn1, .inr ⟨HF.out, rfl⟩⟩
  have HCH := Lib.hid hch
  rw [hch]
  clear hch
  obtain ⟨hne, hl8, hall⟩ := chk_ok HCH.out
  have hn1w := HN0.out.trans hn1
  obtain ⟨p0, p1, p2, p3, p4, pz⟩ := Blk4F (HB0.out.new hn1)
  rcases hh with rfl | ⟨b, off, rfl, hbb, hcel⟩
  · simp at hne
  go_wp2_with fail
  refine (write_any w1).mono ?_
  rintro e w2 ⟨rfl, hw2, hn2⟩
  have hB2 := (HB0.out.new hn1).new hn2
  have hw2p : w.heap.size < w1.heap.size := p0
  have hns : ∀ n ∈ [c, r, s, l.length], n < 18446744073709551616 := by simp; omega
  have HNS := Lib.hid hns
  have hlw : IntKind.u64.wrap (l.length : Int) = (l.length : Int) := by rw [IntKind.wrap_u64]; omega
  clear p0 p1 p2 p3 p4 pz hns
  obtain ⟨p0, p1, p2, p3, p4, pz⟩ := Blk4F hB2
  go_wp2_with fail
  refine (num_any w1.heap.size w1.heap.size (.slice none 0 0) [] 0 _ [c, r, s, l.length] _ (hw2.new ((New.refl w2).alloc _)) (SlIn.lit (l := [c, r, s, l.length]) (Blk.mk_new w2 22 #[.int .u64 (c : Int), .int .u64 (r : Int), .int .u64 (s : Int), .int .u64 (l.length : Int)]) nEncOk rfl (by simp)) (fun i hi => hw2.fresh (by simp [Value.ownBlock] at hi; omega)) (by simp) HNS.out (by simp)).mono ?_
  rintro e w3 ⟨v3, rfl, hw3, hu3, hf3⟩
  have hB3 : numB 0 [] [c, r, s, l.length] = encH c r s l.length ++ (l.take 0).flatMap encW := by simp [numB, encH]
  rw [hB3] at hw3
  have hN3 : New w1 w3 := WrAt.step (hn2.alloc _) (hw2.new ((New.refl w2).alloc _)) hu3
  have hR3 : PutRel w1 c r s l 0 w3 := ⟨hN3, v3, hw3, by simp [encH]; omega⟩
  have HR3 := Lib.hid hR3
  have HC1 := Lib.hid hn1w
  have HBX := Lib.hid (HB0.out.new hn1)
  obtain ⟨q0, q1, q2, q3, q4, qz⟩ := Blk4F (HBX.out.new hN3)
  clear hR3 hB3 hw3 hu3 hf3 hw2 hn2 hN3 p0 p1 p2 p3 p4 pz hB2 hn1 hn1w HNS hlw
  go_wp2_with fail
  go_loopw [6, 7, 30] (fun _ _ i wr => ∃ k : Nat, k ≤ l.length ∧ i = .int .i64 k ∧ PutRel w1 c r s l k wr) (fun _ _ i _ => l.length - (intOf i).toNat)
  case atStart => exact ⟨0, by omega, rfl, HR3.out⟩
  case round =>
    clear q0 q1 q2 q3 q4 qz HR3
    obtain ⟨k, hk, rfl, hn, v4, hw4, hle⟩ := hrel
    by_cases hlt : k < l.length
    · have hlt2 : (k : Int) < (l.length : Int) := by omega
      have hk0 : (0 : Int) ≤ (k : Int) := by omega
      obtain ⟨x, hx⟩ : ∃ x, l[k]? = some x := ⟨_, List.getElem?_eq_getElem hlt⟩
      have hck := hall x (List.mem_of_getElem? hx)
      obtain ⟨s1, s2, s3, s4⟩ := chk1_ok hck
      have hwl := encW_len hck
      have hCo := HC1.out.trans hn
      obtain ⟨e0, e1, e2⟩ := SlIn.three (fun k x h j u hu => (hCo.cells.1 _ _ hbb).trans (hcel k x h j u hu)) hx
      obtain ⟨p0, p1, p2, p3, p4, pz⟩ := Blk4F (HBX.out.new hn)
      have hsn := encs_snoc hx
      have hsn := encs_snoc hx
      have HSN := Lib.hid hsn
      have hev : encW x = varB x.key.size ++ x.key.data.toList ++ varB (flagN x.gone) ++ if x.gone then [] else varB x.val.size ++ x.val.data.toList := rfl
      have HEV := Lib.hid hev
      have HWL := Lib.hid hwl
      have S4 := Lib.hid s4
      clear hsn hev hx hcel hck hwl s4
      obtain ⟨key, val, gone⟩ := x
      simp only at e0 e1 e2 s1 s2 s3
      generalize hbs : encH c r s l.length ++ (l.take k).flatMap encW = bs at hw4 hle
      have HB := Lib.hid hbs
      clear hbs
      have hXa := Blk.mk_new wr 34 #[.string key, .string val, .bool gone]
      have hna := (New.refl wr).alloc (.cells #[.string key, .string val, .bool gone] 34)
      have hwa := hw4.new hna
      have hN4 := hn.trans hna
      have kk : key.data.toList.length = key.size := by rw [Array.length_toList]; rfl
      have vv : val.data.toList.length = val.size := by rw [Array.length_toList]; rfl
      have KK := Lib.hid kk
      have VV := Lib.hid vv
      clear kk vv
      have fX : ¬ WrS w1.heap.size v4 wr.heap.size := hw4.fresh (Nat.le_refl _)
      go_wp2_with fail
      refine (text_any w1.heap.size w1.heap.size v4 bs 0 _ [key] _ (hwa.new ((New.refl _).alloc _)) (SlIn.one (x := key) (by have h := Blk.mk_new (wr.alloc (.cells #[.string key, .string val, .bool gone] 34)) 9 #[.string key]; rw [World.size_alloc] at h; exact h) sEncOk rfl) (fun i hi => hw4.fresh (by simp [Value.ownBlock] at hi; omega)) (by simp only [List.length_singleton]; omega) (by simp [maxLen]; omega)).mono ?_
      rintro e w5 ⟨v5, rfl, hw5, hu5, hf5⟩
      rw [textOne bs key (by omega)] at hw5
      have hX5 := (hXa.alloc (.cells #[.string key] 9)).upd hu5 fX
      have hN5 : New w1 w5 := WrAt.step (hN4.alloc _) (hwa.new ((New.refl _).alloc _)) hu5
      have fX5 : ¬ WrS w1.heap.size v5 wr.heap.size := fun h => fX (WrS.back hf5 _ (by rw [World.size_alloc, World.size_alloc]; omega) h)
      have l5 : (bs ++ varB key.size ++ key.data.toList).length ≤ 40 + 400 * k + 74 := by have := varB_len10 (n := key.size) (by omega); simp only [List.length_append, KK.out]; omega
      obtain ⟨x0, x1, x2, x3, xz⟩ := Blk3F hX5
      clear hwa hu5 hf5 hw4 hXa hna hN4 e0 e1 e2 p0 p1 p2 p3 p4 pz
      go_wp2_with fail
      refine (flag_any w1.heap.size w1.heap.size v5 (bs ++ varB key.size ++ key.data.toList) 0 gone w5 hw5 (by omega)).mono ?_
      rintro e w6 ⟨v6, rfl, hw6, hu6, hf6⟩
      rw [numFlag] at hw6
      have hX6 := hX5.upd hu6 fX5
      have hN6 := WrAt.step hN5 hw5 hu6
      have fX6 : ¬ WrS w1.heap.size v6 wr.heap.size := fun h => fX5 (WrS.back hf6 _ x0 h)
      have l6 : (bs ++ varB key.size ++ key.data.toList ++ varB (flagN gone)).length ≤ 40 + 400 * k + 84 := by have := varB_len10 (flagN_lt gone); rw [List.length_append]; omega
      clear x0 x1 x2 x3 xz hw5 hu6 hf6 hX5 hN5
      obtain ⟨x0, x1, x2, x3, xz⟩ := Blk3F hX6
      cases gone with
      | true =>
        have HF2 : Hid (encH c r s l.length ++ (l.take (k + 1)).flatMap encW = bs ++ varB key.size ++ key.data.toList ++ varB (flagN true)) := Lib.hid (by rw [HSN.out, ← List.append_assoc, HB.out, HEV.out]; simp)
        go_wp2_with fail
        go_roundw
        case rel => exact ⟨k + 1, by omega, by go_num, hN6, v6, by rw [HF2.out]; exact hw6, by rw [HF2.out]; omega⟩
        case measure => simp [intOf]; omega
      | false =>
        have HF2 : Hid (encH c r s l.length ++ (l.take (k + 1)).flatMap encW = bs ++ varB key.size ++ key.data.toList ++ varB (flagN false) ++ varB val.size ++ val.data.toList) := Lib.hid (by rw [HSN.out, ← List.append_assoc, HB.out, HEV.out]; simp)
        generalize bs ++ varB key.size ++ key.data.toList ++ varB (flagN false) = bs6 at *
        go_wp2_with fail
        refine (text_any w1.heap.size w1.heap.size v6 bs6 0 _ [val] _ (hw6.new ((New.refl _).alloc _)) (SlIn.one (x := val) (Blk.mk_new w6 _ _) sEncOk rfl) (fun i hi => hw6.fresh (by simp [Value.ownBlock] at hi; omega)) (by simp only [List.length_singleton]; omega) (by simp [maxLen]; omega)).mono ?_
        rintro e w7 ⟨v7, rfl, hw7, hu7, hf7⟩
        rw [textOne bs6 val (by omega)] at hw7
        have hN7 : New w1 w7 := WrAt.step (hN6.alloc _) (hw6.new ((New.refl _).alloc _)) hu7
        have l7 : (bs6 ++ varB val.size ++ val.data.toList).length ≤ 40 + 400 * k + 350 := by have := varB_len10 (n := val.size) (by omega); simp only [List.length_append, VV.out]; omega
        clear hw6 hu7 hf7 x0 x1 x2 x3 xz
        go_wp2_with fail
        go_roundw
        case rel => exact ⟨k + 1, by omega, by go_num, hN7, v7, by rw [HF2.out]; exact hw7, by rw [HF2.out]; omega⟩
        case measure => simp [intOf]; omega
    · have hlt2 : ¬ (k : Int) < (l.length : Int) := by omega
      have hkl : l.take k = l := List.take_of_length_le (by omega)
      rw [hkl] at hw4 hle
      clear hkl
      have HE := Lib.hid (show encH c r s l.length ++ l.flatMap encW = encB c r s l from rfl)
      generalize encH c r s l.length ++ l.flatMap encW = bs at *
      go_wp2_with fail
      refine (wbytes_any w1.heap.size w1.heap.size v4 bs 0 wr hw4 (by omega)).mono ?_
      rintro e w5 ⟨u, rfl, ho, hn5⟩
      rw [if_pos rfl] at ho
      have hN5 := HC1.out.trans hn
      go_wp2_with fail
      go_ret2
      exact ⟨hN5.trans hn5, .inl ⟨HCH.out, u, rfl, by rw [← HE.out]; exact ho.lower hN5.size⟩⟩
end Go.Proofs.YtlhlcdjkacglnaaGreatDoor
/- Chapter 26 (cluster) in memory: its parts, each with the blocks that are its own. -/
namespace Go.Proofs.YtlhlcdjkacglnaaGreatDoor
open Go.RowKit Go.Lap C
set_option linter.unusedVariables false
set_option linter.unusedSimpArgs false
/-- Block k is no row of writes, and no row of numbers. -/
def Cln (w : World) (k : Nat) : Prop := ∀ cs, ¬ Blk w k 34 cs ∧ ¬ Blk w k 3 cs
section
variable {w w' : World} {S F : Nat → Prop}
theorem Cln.blk {t g : Nat} {cs : Array Value} (h : Blk w g t cs) (h1 : 34 ≠ t) (h2 : 3 ≠ t) : Cln w g := fun cs' => ⟨fun hb => Blk.ne_ hb h h1 rfl, fun hb => Blk.ne_ hb h h2 rfl⟩
theorem Cln.map {P : Program} {kt : TypeId} {κ : Type} {lit : κ → Lit} {ok : κ → Prop} {b m : Nat} {f : κ → Option Value} (h : MpAt P kt lit ok w b m f) : Cln w b := fun cs' => ⟨fun hb => Blk.ne_map hb h rfl, fun hb => Blk.ne_map hb h rfl⟩
theorem Cln.row {β : Type} {e2 s2 b2 : Nat} {enc2 : β → List Value} {v2 : Value} {l2 : List β} (h : Row w b2 e2 s2 enc2 v2 l2) (h1 : e2 ≠ 34) (h2 : e2 ≠ 3) {k : Nat} (hk : v2.ownBlock = some k) : Cln w k := fun cs' => ⟨fun hb => h.ne_blk hb h1 hk, fun hb => h.ne_blk hb h2 hk⟩
theorem Cln.offW (h : ∀ k, F k → Cln w k) : Off w 34 F := fun b cs hb hk => (h b hk cs).1 hb
theorem Cln.offI (h : ∀ k, F k → Cln w k) : Off w 3 F := fun b cs hb hk => (h b hk cs).2 hb
theorem prs_cln {am lm : Nat} {L : D.PrL} {p : D.Prs} (h : D.PrsAt w F am lm L p) : D.PrsAt w (fun k => F k ∧ Cln w k) am lm L p :=
  ⟨h.blk, h.row, h.fm, h.bm, h.n1, h.n2, h.n3, ⟨⟨h.f1.1, Cln.blk h.blk (by decide) (by decide)⟩, ⟨h.f1.2.1, Cln.map h.fm⟩, ⟨h.f1.2.2, Cln.map h.bm⟩⟩, fun k hk => ⟨h.f2 k hk, Cln.row h.row (by decide) (by decide) hk⟩⟩
theorem nw_cln {am lm : Nat} {pw : Value} {nw : Option D.Prs} (h : D.NwAt w F am lm pw nw) : D.NwAt w (fun k => F k ∧ Cln w k) am lm pw nw := by
  cases nw with
  | none => exact h
  | some p => obtain ⟨L, h1, h2⟩ := h; exact ⟨L, h1, prs_cln h2⟩
theorem acs_cln {am B : Nat} {ab : Nat → Nat} {ac : Nat → Option D.Acr} (h : D.AcsAt w F am B ab ac) : D.AcsAt w (fun k => F k ∧ Cln w k) am B ab ac :=
  ⟨h.mp, fun s a hs => ⟨(h.at_ s a hs).1, (h.at_ s a hs).2, Cln.blk (t := 296) (h.at_ s a hs).1 (by decide) (by decide)⟩, h.inj⟩
theorem nd_cln {nb B : Nat} {id : Int} {L : D.NdL} {x : D.Nod} (h : D.NdAt w F nb id B L x) : D.NdAt w (fun k => F k ∧ Cln w k) nb id B L x := by
  obtain ⟨ma, _, hma⟩ := h.ac.mp
  obtain ⟨ml, _, hml⟩ := h.lg
  exact ⟨h.blk, acs_cln h.ac, h.lg, h.pe, nw_cln h.nw, h.n1, ⟨⟨h.f1.1, Cln.blk h.blk (by decide) (by decide)⟩, ⟨h.f1.2.1, Cln.map hma⟩, ⟨h.f1.2.2, Cln.map hml⟩⟩, fun k hk => ⟨h.f2 k hk, Cln.row h.pe (by decide) (by decide) hk⟩⟩
theorem bag_cln {bb : Nat} {v : Value} {l : List D.Pk} (h : D.BgAt w bb v l) : ∀ k, D.BgF bb v k → Cln w k := by
  rintro k (rfl | hk)
  · exact Cln.blk h.blk (by decide) (by decide)
  · exact Cln.row h.row (by decide) (by decide) hk
/-- The group's blocks, without rows of writes or numbers. -/
theorem gp_cln {gp n B : Nat} {L : D.GpL} {g : D.Gm} (h : D.GpAt w gp n B L g) : D.GpAt w gp n B { L with Fn := fun i k => L.Fn i k ∧ Cln w k } g ∧ ∀ k, D.GpF gp n { L with Fn := fun i k => L.Fn i k ∧ Cln w k } k → D.GpF gp n L k ∧ Cln w k := by
  refine ⟨⟨h.blk, h.nds, h.bag, fun i hi => nd_cln (h.nd i hi), fun i hi k hk => h.lt i hi k hk.1, fun i j hi hj hij k hk hk2 => h.dj i j hi hj hij k hk.1 hk2.1, fun i hi k hk hk2 => h.out i hi k hk.1 hk2⟩, ?_⟩
  rintro k (hk | ⟨i, hi, hk⟩)
  · refine ⟨.inl hk, ?_⟩
    rcases hk with rfl | hk | hk
    · exact Cln.blk h.blk (by decide) (by decide)
    · exact Cln.row h.nds (by decide) (by decide) hk
    · exact bag_cln h.bag k hk
  · exact ⟨.inr ⟨i, hi, hk.1⟩, hk.2⟩
/-- The masters' group: its blocks are just those of F, or fewer. -/
def GrAt (w : World) (B gp : Nat) (F : Nat → Prop) (g : D.Gm) : Prop := (∃ L, D.GpAt w gp 3 B L g ∧ ∀ k, D.GpF gp 3 L k → F k) ∧ D.GmOk 3 B g ∧ ∀ k, F k → k < w.heap.size ∧ Cln w k
theorem GrAt.upd {B gp : Nat} {g : D.Gm} (h : GrAt w B gp F g) (hu : Upd S w w') (hS : ∀ k, F k → ¬ S k) : GrAt w' B gp F g := by
  obtain ⟨⟨L, h1, h2⟩, h3, h4⟩ := h
  refine ⟨⟨L, h1.upd hu (fun k hk => hS k (h2 k hk)), h2⟩, h3, fun k hk => ⟨Nat.lt_of_lt_of_le (h4 k hk).1 hu.size, fun cs => ?_⟩⟩
  have hb := hu.block k (h4 k hk).1 (hS k hk)
  exact ⟨fun hc => ((h4 k hk).2 cs).1 (hb.symm.trans hc), fun hc => ((h4 k hk).2 cs).2 (hb.symm.trans hc)⟩
theorem GrAt.mono {B C gp : Nat} {g : D.Gm} (h : GrAt w B gp F g) (hB : B ≤ C) : GrAt w C gp F g := by
  obtain ⟨⟨L, h1, h2⟩, h3, h4⟩ := h
  exact ⟨⟨L, h1.mono hB, h2⟩, h3.mono hB, h4⟩
/-- As the texts of decree have it. -/
theorem GrAt.st {B gp : Nat} {g : D.Gm} (h : GrAt w B gp F g) : D.GSt (fun k => F k ∨ w.heap.size ≤ k) w 3 B gp g := by
  obtain ⟨⟨L, h1, h2⟩, h3, h4⟩ := h
  exact ⟨L, h1, fun k hk => .inl (h2 k hk), fun k hk => .inr hk, h3⟩
/-- .. and back, behind an act. -/
theorem GrAt.of {B gp : Nat} {g : D.Gm} {G : Nat → Prop} (h : D.GSt G w 3 B gp g) : ∃ F, GrAt w B gp F g ∧ ∀ k, F k → G k := by
  obtain ⟨L, h1, h2, h3, h4⟩ := h
  obtain ⟨h5, h6⟩ := gp_cln h1
  exact ⟨_, ⟨⟨_, h5, fun k hk => hk⟩, h4, fun k hk => ⟨h1.f_lt k (h6 k hk).1, (h6 k hk).2⟩⟩, fun k hk => h2 k (h6 k hk).1⟩
end
/-- A batch's bytes in a packet. -/
def bB (b : Btc) : List UInt8 := if chk b.l = 0 then encB b.c b.r b.s b.l else []
def txtB (l : List UInt8) : List UInt8 := varB l.length ++ l
def CMsg.enc : CMsg → List UInt8
  | .req b => varB 0 ++ txtB (bB b)
  | .note k ep t b => varB 1 ++ (varB k.toNat ++ varB ep ++ varB t) ++ txtB (bB b)
  | .ans rq vd => varB 2 ++ (varB rq ++ varB vd.t ++ varB vd.e.toNat)
def CPk.pk (p : CPk) : D.Pk := ⟨p.fr, p.ds, str p.m.enc⟩
structure VdOk (v : Vd) : Prop where
  t : v.t < big
  e : 0 ≤ v.e ∧ v.e ≤ 1000
/-- An address of a client. -/
def isCl (m : Nat) (i : Int) : Prop := 100 ≤ i ∧ i < 100 + m
/-- An int. -/
def inI (i : Int) : Prop := -9223372036854775808 ≤ i ∧ i ≤ 9223372036854775807
def CPk.Ok (m : Nat) (p : CPk) : Prop := inI p.fr ∧ inI p.ds ∧ match p.m with
  | .req b => b.Ok ∧ wireB b = b ∧ isCl m p.fr
  | .note k ep t b => 0 ≤ k ∧ k ≤ 2 ∧ ep < big ∧ t < big ∧ b.Ok ∧ wireB b = b
  | .ans rq v => rq < big ∧ VdOk v ∧ isCl m p.ds
structure Wt.Ok (m : Nat) (y : Wt) : Prop where
  d : isCl m y.dst
  r : y.rq < big
  v : VdOk y.vd
  u : y.un < big
def Wt.enc (y : Wt) : List Value := [.int .i64 y.dst, .int .u64 (y.rq : Int), .int .u64 (y.vd.t : Int), .int .i64 y.vd.e, .int .u64 (y.un : Int)]
theorem Wt.encOk : Enc Wt.enc 5 := fun x => ⟨rfl, by simp [Wt.enc, Value.oneCell']⟩
theorem wtTy : SlTy Tryz.prog 178 180 (.agg #[.int .i64 0, .int .u64 0, .int .u64 0, .int .i64 0, .int .u64 0]) 5 40 := ⟨Tryz.underlying178, by kernel_rfl, rfl, by decide⟩
/-- The waiting map's entries. -/
def wtV (wv : Nat → Value) (wt : Int → List Wt) (i : Int) : Option Value := if (wt i).isEmpty = true then none else some (wv i.toNat)
def WtF (n wm : Nat) (wv : Nat → Value) (k : Nat) : Prop := k = wm ∨ ∃ i, i < n ∧ (wv i).ownBlock = some k
structure WtAt (w : World) (n B wm : Nat) (wv : Nat → Value) (wt : Int → List Wt) : Prop where
  mp : ∃ m, m ≤ B ∧ D.MpI w wm m (wtV wv wt)
  row : ∀ i, i < n → Row w 0 180 5 Wt.enc (wv i) (wt (i : Int)) ∧ (wt (i : Int)).length ≤ B
  out : ∀ i, ¬ (0 ≤ i ∧ i < (n : Int)) → wt i = []
  dj : ∀ i j, i < n → j < n → i ≠ j → ∀ k, (wv i).ownBlock = some k → (wv j).ownBlock ≠ some k
section
variable {w w' : World} {S F : Nat → Prop} {n B C wm : Nat} {wv : Nat → Value} {wt : Int → List Wt}
theorem WtAt.upd (h : WtAt w n B wm wv wt) (hu : Upd S w w') (hS : ∀ k, WtF n wm wv k → ¬ S k) : WtAt w' n B wm wv wt := by
  obtain ⟨m, h1, h2⟩ := h.mp
  exact ⟨⟨m, h1, h2.upd hu (hS _ (.inl rfl))⟩, fun i hi => ⟨(h.row i hi).1.upd hu (fun k hk => hS k (.inr ⟨i, hi, hk⟩)), (h.row i hi).2⟩, h.out, h.dj⟩
theorem WtAt.mono (h : WtAt w n B wm wv wt) (hB : B ≤ C) : WtAt w n C wm wv wt := ⟨(let ⟨m, h1, h2⟩ := h.mp; ⟨m, Nat.le_trans h1 hB, h2⟩), fun i hi => ⟨(h.row i hi).1, Nat.le_trans (h.row i hi).2 hB⟩, h.out, h.dj⟩
theorem WtAt.cln (h : WtAt w n B wm wv wt) : ∀ k, WtF n wm wv k → k < w.heap.size ∧ Cln w k := by
  obtain ⟨m, h1, h2⟩ := h.mp
  rintro k (rfl | ⟨i, hi, hk⟩)
  · exact ⟨h2.lt, Cln.map h2⟩
  · exact ⟨((h.row i hi).1.lt k hk).2, Cln.row (h.row i hi).1 (by decide) (by decide) hk⟩
end
def goneV (f : Int → Bool) (i : Int) : Option Value := if f i = true then some (.bool true) else none
def doesV (up : Nat) (i : Int) : Option Value :=
  if i = 0 then some (.agg #[.func (.func 81) #[.pointer (some ⟨up, 0, none⟩)] #[]])
  else if i = 1 then some (.agg #[.func (.func 82) #[.pointer (some ⟨up, 0, none⟩)] #[]])
  else if i = 2 then some (.agg #[.func (.func 83) #[.pointer (some ⟨up, 0, none⟩)] #[]]) else none
def pE (g : Nat) : List Value := [.pointer (some ⟨g, 0, none⟩)]
theorem pEok : Enc pE 1 := fun x => ⟨rfl, by simp [pE, Value.oneCell']⟩
theorem prTy : SlTy Tryz.prog 94 37 (.pointer none) 1 8 := ⟨Tryz.underlying94, by kernel_rfl, rfl, by decide⟩
theorem pcTy : SlTy Tryz.prog 96 79 (.pointer none) 1 8 := ⟨Tryz.underlying96, by kernel_rfl, rfl, by decide⟩
/-- Where a cluster lies: how many replicas and clients there are, and the places. -/
structure CuL where
  n : Nat
  m : Nat
  rv : Value
  rp : Nat → Nat
  rl : Nat → RpL
  gm : Nat
  cv : Value
  cp : Nat → Nat
  cl : Nat → CliL
  gp : Nat
  gF : Nat → Prop
  fv : Value
  bb : Nat
  lv : Value
  wm : Nat
  wv : Nat → Value
  dm : Nat
/-- A cluster's parts. -/
inductive Pt where
  | top | rv | rp (i : Nat) | gm | cv | cl (i : Nat) | gp | bg | wt | dm
/-- The blocks that are a part's. -/
def CuF (up : Nat) (L : CuL) : Pt → Nat → Prop
  | .top, k => k = up
  | .rv, k => L.rv.ownBlock = some k
  | .rp i, k => i < L.n ∧ RpF (L.rp i) (L.rl i) k
  | .gm, k => k = L.gm
  | .cv, k => L.cv.ownBlock = some k
  | .cl i, k => i < L.m ∧ CliF (L.cp i) (L.cl i) k
  | .gp, k => L.gF k
  | .bg, k => D.BgF L.bb L.lv k
  | .wt, k => WtF L.n L.wm L.wv k
  | .dm, k => k = L.dm
def CuCells (L : CuL) : Array Value := #[L.rv, .map (some L.gm), L.cv, .pointer (some ⟨L.gp, 0, none⟩), .int .u64 1, L.fv, .pointer (some ⟨L.bb, 0, none⟩), .map (some L.wm), .map (some L.dm)]
/-- What a client's numbers are. -/
structure CliOk (B i : Nat) (x : Cli) : Prop where
  id : x.id = i
  nx : 1 ≤ x.nx ∧ x.nx ≤ B + 1
  lr : x.la.1 < big
  lv : VdOk x.la.2
  saw : x.saw < big
  now : ∀ b t, x.now = some (b, t) → b.Ok ∧ b.c = i ∧ b.r < x.nx ∧ t ≤ B ∧ chk b.l = 0
/-- What a judge told is no later than its last timestamp. -/
def JdV (j : Jd) : Prop := ∀ c q v, j.sn c = some (q, v) → v.t ≤ j.la ∧ 0 ≤ v.e ∧ v.e ≤ 1000
/-- What holds of all numbers between two acts. -/
structure CluOk (m B : Nat) (x : Clu) : Prop where
  rp : ∀ (i : Nat) (r : Rpl), x.rs[i]? = some r → r.id = (i : Int) ∧ r.out = [] ∧ chkC r.cf = true ∧ JdV r.j
  cl : ∀ (i : Nat) (c : Cli), x.cs[i]? = some c → CliOk B i c
  bg : ∀ p ∈ x.bg, p.Ok m
  wt : ∀ i, ∀ y ∈ x.wt i, y.Ok m
/-- A part in memory. -/
def CuP (w : World) (up B : Nat) (L : CuL) (x : Clu) : Pt → Prop
  | .top => Blk w up 101 (CuCells L) ∧ TSl w 3 1 iEnc L.fv (firstC L.n).ms
  | .rv => Row w 0 37 1 pE L.rv ((List.range L.n).map L.rp)
  | .rp i => ∀ r, x.rs[i]? = some r → RpAt w (L.rp i) B (L.rl i) r
  | .gm => ∃ k, k ≤ B ∧ D.MpI w L.gm k (goneV x.gone)
  | .cv => Row w 0 79 1 pE L.cv ((List.range L.m).map L.cp)
  | .cl i => ∀ c, x.cs[i]? = some c → CliAt w (L.cp i) (L.cl i) c
  | .gp => GrAt w B L.gp L.gF x.g
  | .bg => D.BgAt w L.bb L.lv (x.bg.map CPk.pk)
  | .wt => WtAt w L.n B L.wm L.wv x.wt
  | .dm => D.MpI w L.dm 3 (doesV up)
structure CuAt (w : World) (up B : Nat) (L : CuL) (x : Clu) : Prop where
  rl : x.rs.length = L.n
  cl : x.cs.length = L.m
  nm : 1 ≤ L.n ∧ L.n ≤ 5 ∧ 1 ≤ L.m ∧ L.m ≤ 4
  gn : ∀ i, x.gone i = true → 0 ≤ i ∧ i < L.n
  pt : ∀ p, CuP w up B L x p
  dj : ∀ p q, p ≠ q → ∀ k, CuF up L p k → ¬ CuF up L q k
section
variable {w w' : World} {S F : Nat → Prop} {up B C : Nat} {L : CuL} {x : Clu}
theorem CuAt.rs_at (h : CuAt w up B L x) {i : Nat} (hi : i < L.n) : ∃ r, x.rs[i]? = some r := ⟨_, List.getElem?_eq_getElem (by rw [h.rl]; exact hi)⟩
theorem CuAt.cs_at (h : CuAt w up B L x) {i : Nat} (hi : i < L.m) : ∃ c, x.cs[i]? = some c := ⟨_, List.getElem?_eq_getElem (by rw [h.cl]; exact hi)⟩
/-- A part's blocks are there, and none is a row of writes or numbers. -/
theorem CuAt.cln (h : CuAt w up B L x) : ∀ p k, CuF up L p k → k < w.heap.size ∧ Cln w k := by
  intro p k hk
  have hp := h.pt p
  cases p with
  | top => cases hk; exact ⟨hp.1.lt, Cln.blk hp.1 (by decide) (by decide)⟩
  | rv => exact ⟨(Row.lt hp k hk).2, Cln.row hp (by decide) (by decide) hk⟩
  | rp i =>
    obtain ⟨r, hr⟩ := h.rs_at hk.1
    have h1 := hp r hr
    exact ⟨h1.lt k hk.2, fun cs => ⟨fun hb => h1.offW k cs hb hk.2, fun hb => h1.offI k cs hb hk.2⟩⟩
  | gm => obtain ⟨m, _, hm⟩ := hp; cases hk; exact ⟨hm.lt, Cln.map hm⟩
  | cv => exact ⟨(Row.lt hp k hk).2, Cln.row hp (by decide) (by decide) hk⟩
  | cl i =>
    obtain ⟨c, hc⟩ := h.cs_at hk.1
    have h1 := hp c hc
    exact ⟨h1.lt k hk.2, fun cs => ⟨fun hb => h1.off (by decide) (by decide) k cs hb hk.2, fun hb => h1.off (by decide) (by decide) k cs hb hk.2⟩⟩
  | gp => exact hp.2.2 k hk
  | bg => exact ⟨D.BgAt.lt hp k hk, bag_cln hp k hk⟩
  | wt => exact WtAt.cln hp k hk
  | dm => cases hk; exact ⟨MpAt.lt hp, Cln.map hp⟩
theorem CuP.upd {p : Pt} (h : CuP w up B L x p) (hu : Upd S w w') (hn : x.rs.length = L.n) (hm : x.cs.length = L.m) (hS : ∀ k, CuF up L p k → ¬ S k) (hW : Off w 34 S) (hI : Off w 3 S) : CuP w' up B L x p := by
  cases p with
  | top => exact ⟨h.1.upd hu (hS _ rfl), h.2.upd hu hI⟩
  | rv => exact Row.upd h hu hS
  | rp i => exact fun r hr => (h r hr).upd hu (fun k hk => hS k ⟨by have := (List.getElem?_eq_some_iff.1 hr).1; omega, hk⟩) hW hI
  | gm => obtain ⟨m, h1, h2⟩ := h; exact ⟨m, h1, h2.upd hu (hS _ rfl)⟩
  | cv => exact Row.upd h hu hS
  | cl i => exact fun r hr => (h r hr).upd hu (fun k hk => hS k ⟨by have := (List.getElem?_eq_some_iff.1 hr).1; omega, hk⟩) hW
  | gp => exact GrAt.upd h hu hS
  | bg => exact D.BgAt.upd h hu hS
  | wt => exact WtAt.upd h hu hS
  | dm => exact MpAt.upd h hu (hS _ rfl)
theorem CliOk.mono {i : Nat} {c : Cli} (h : CliOk B i c) (hB : B ≤ C) : CliOk C i c := ⟨h.id, ⟨h.nx.1, by have := h.nx.2; omega⟩, h.lr, h.lv, h.saw, fun b t hb => by obtain ⟨h1, h2, h3, h4, h5⟩ := h.now b t hb; exact ⟨h1, h2, h3, by omega, h5⟩⟩
theorem CuP.mono {p : Pt} (h : CuP w up B L x p) (hB : B ≤ C) : CuP w up C L x p := by
  cases p with
  | rp i => exact fun r hr => (h r hr).mono hB
  | gm => obtain ⟨m, h1, h2⟩ := h; exact ⟨m, Nat.le_trans h1 hB, h2⟩
  | gp => exact GrAt.mono h hB
  | wt => exact WtAt.mono h hB
  | _ => exact h
/-- Nothing of the cluster is in S. -/
theorem CuAt.upd (h : CuAt w up B L x) (hu : Upd S w w') (hS : ∀ p k, CuF up L p k → ¬ S k) (hW : Off w 34 S) (hI : Off w 3 S) : CuAt w' up B L x :=
  ⟨h.rl, h.cl, h.nm, h.gn, fun p => (h.pt p).upd hu h.rl h.cl (hS p) hW hI, h.dj⟩
theorem CuAt.new (h : CuAt w up B L x) (hn : New w w') : CuAt w' up B L x := h.upd (S := fun _ => False) (Upd.new hn) (fun _ _ _ x => x) (Off.no _ _) (Off.no _ _)
theorem CuAt.mono (h : CuAt w up B L x) (hB : B ≤ C) : CuAt w up C L x := { h with pt := fun p => (h.pt p).mono hB }
/-- One part turns: all others are as they were. -/
theorem CuAt.turnF (h : CuAt w up B L x) (p : Pt) {L' : CuL} {x' : Clu} (hB : B ≤ C) (hn : L'.n = L.n ∧ L'.m = L.m) (hl : x'.rs.length = x.rs.length ∧ x'.cs.length = x.cs.length) (hgn : ∀ i, x'.gone i = true → 0 ≤ i ∧ i < L.n)
    (hu : Upd (CuF up L p) w w') (hp : CuP w' up C L' x' p) (hq : ∀ q, q ≠ p → CuF up L' q = CuF up L q ∧ (CuP w' up C L x q → CuP w' up C L' x' q)) (hg : ∀ k, CuF up L' p k → CuF up L p k ∨ ∀ q, ¬ CuF up L q k) : CuAt w' up C L' x' := by
  have hW := Cln.offW (F := CuF up L p) (fun k hk => (h.cln p k hk).2)
  have hI := Cln.offI (F := CuF up L p) (fun k hk => (h.cln p k hk).2)
  have hfar : ∀ q, q ≠ p → ∀ k, CuF up L q k → ¬ CuF up L' p k := fun q hne k hk hk2 => by
    rcases hg k hk2 with h3 | h3
    · exact h.dj q p hne k hk h3
    · exact h3 q hk
  refine ⟨hl.1.trans (h.rl.trans hn.1.symm), hl.2.trans (h.cl.trans hn.2.symm), by rw [hn.1, hn.2]; exact h.nm, by rw [hn.1]; exact hgn, fun q => ?_, fun q r hqr k hk hk2 => ?_⟩
  · by_cases hne : q = p
    · subst hne; exact hp
    · exact (hq q hne).2 (((h.pt q).upd hu h.rl h.cl (h.dj q p hne) hW hI).mono hB)
  · by_cases h1 : q = p <;> by_cases h2 : r = p
    · exact hqr (h1.trans h2.symm)
    · subst h1
      rw [(hq r h2).1] at hk2
      exact hfar r h2 k hk2 hk
    · subst h2
      rw [(hq q h1).1] at hk
      exact hfar q h1 k hk hk2
    · rw [(hq q h1).1] at hk
      rw [(hq r h2).1] at hk2
      exact h.dj q r hqr k hk hk2
theorem CuAt.turn (h : CuAt w up B L x) (p : Pt) {L' : CuL} {x' : Clu} (hB : B ≤ C) (hn : L'.n = L.n ∧ L'.m = L.m) (hl : x'.rs.length = x.rs.length ∧ x'.cs.length = x.cs.length) (hgn : ∀ i, x'.gone i = true → 0 ≤ i ∧ i < L.n)
    (hu : Upd (CuF up L p) w w') (hp : CuP w' up C L' x' p) (hq : ∀ q, q ≠ p → CuF up L' q = CuF up L q ∧ (CuP w' up C L x q → CuP w' up C L' x' q)) (hg : ∀ k, CuF up L' p k → CuF up L p k ∨ w.heap.size ≤ k) : CuAt w' up C L' x' :=
  h.turnF p hB hn hl hgn hu hp hq (fun k hk => (hg k hk).imp id (fun h1 q h2 => by have := (h.cln q k h2).1; omega))
end
section
variable {w w' : World} {S F : Nat → Prop} {up B C n m : Nat} {L : CuL} {x x' : Clu}
/-- What stays where it lies. -/
def Sm (L L' : CuL) : Prop := L'.n = L.n ∧ L'.m = L.m ∧ L'.rp = L.rp ∧ L'.cp = L.cp ∧ L'.gp = L.gp ∧ L'.dm = L.dm
theorem Sm.refl (L : CuL) : Sm L L := ⟨rfl, rfl, rfl, rfl, rfl, rfl⟩
theorem Sm.trans {L L1 L2 : CuL} (h : Sm L L1) (k : Sm L1 L2) : Sm L L2 := ⟨k.1.trans h.1, k.2.1.trans h.2.1, k.2.2.1.trans h.2.2.1, k.2.2.2.1.trans h.2.2.2.1, k.2.2.2.2.1.trans h.2.2.2.2.1, k.2.2.2.2.2.trans h.2.2.2.2.2⟩
/-- What an act leaves of a cluster. -/
def Turned (w : World) (up C : Nat) (L : CuL) (x' : Clu) (w' : World) : Prop := ∃ L', Sm L L' ∧ CuAt w' up C L' x' ∧ (∀ p k, CuF up L' p k → (∃ q, CuF up L q k) ∨ w.heap.size ≤ k) ∧ Upd (fun k => ∃ p, CuF up L p k) w w'
theorem Turned.refl (h : CuAt w up B L x) : Turned w up B L x w := ⟨L, Sm.refl L, h, fun p k hk => .inl ⟨p, hk⟩, Upd.refl _ _⟩
theorem Turned.new (h : CuAt w up B L x) (hn : New w w') : Turned w up B L x w' := ⟨L, Sm.refl L, h.new hn, fun p k hk => .inl ⟨p, hk⟩, Upd.new hn⟩
theorem Turned.pre {W : World} (hn : New w W) (h : Turned W up C L x' w') : Turned w up C L x' w' := by
  obtain ⟨L', h1, h3, h4, h5⟩ := h
  exact ⟨L', h1, h3, fun p k hk => (h4 p k hk).imp id (fun h => Nat.le_trans hn.size h), (Upd.new (S := fun k => ∃ p, CuF up L p k) hn).trans h5 (fun _ _ h => h)⟩
theorem Turned.post {W : World} (h : Turned w up C L x' W) (hn : New W w') : Turned w up C L x' w' := by
  obtain ⟨L', h1, h3, h4, h5⟩ := h
  exact ⟨L', h1, h3.new hn, h4, h5.transNew hn⟩
theorem Turned.trans {W : World} {L1 : CuL} (h1 : Sm L L1) (hk : ∀ p k, CuF up L1 p k → (∃ q, CuF up L q k) ∨ w.heap.size ≤ k) (hu : Upd (fun k => ∃ p, CuF up L p k) w W) (h : Turned W up C L1 x' w') : Turned w up C L x' w' := by
  obtain ⟨L', h2, h4, h5, h6⟩ := h
  refine ⟨L', h1.trans h2, h4, fun p k hp => ?_, hu.trans h6 (fun k hlt ⟨p, hp⟩ => ?_)⟩
  · rcases h5 p k hp with ⟨q, hq⟩ | h7
    · exact hk q k hq
    · exact .inr (Nat.le_trans hu.size h7)
  · rcases hk p k hp with h7 | h7
    · exact h7
    · omega
theorem Turned.mono (h : Turned w up B L x w') (hB : B ≤ C) : Turned w up C L x w' := by
  obtain ⟨L', h1, h3, h4, h5⟩ := h
  exact ⟨L', h1, h3.mono hB, h4, h5⟩
/-- One part turns. -/
theorem CuAt.one (h : CuAt w up B L x) (p : Pt) {L' : CuL} (hB : B ≤ C) (hn : Sm L L') (hl : x'.rs.length = x.rs.length ∧ x'.cs.length = x.cs.length) (hgn : ∀ i, x'.gone i = true → 0 ≤ i ∧ i < L.n)
    (hu : Upd (CuF up L p) w w') (hp : CuP w' up C L' x' p) (hq : ∀ q, q ≠ p → CuF up L' q = CuF up L q ∧ (CuP w' up C L x q → CuP w' up C L' x' q)) (hg : ∀ k, CuF up L' p k → CuF up L p k ∨ w.heap.size ≤ k) : Turned w up C L x' w' := by
  refine ⟨L', hn, h.turn p hB ⟨hn.1, hn.2.1⟩ hl hgn hu hp hq hg, fun q k hk => ?_, hu.mono fun k _ hk => ⟨p, hk⟩⟩
  by_cases hne : q = p
  · subst hne; exact (hg k hk).imp (fun h => ⟨q, h⟩) id
  · rw [(hq q hne).1] at hk; exact .inl ⟨q, hk⟩
theorem setR_at (x : Clu) {i j : Nat} (r : Rpl) (h : j ≠ i) : (x.setR (i : Int) r).rs[j]? = x.rs[j]? := by
  show (x.rs.set (i : Int).toNat r)[j]? = _
  rw [Int.toNat_natCast, List.getElem?_set_ne (by omega)]
theorem setC_at (x : Clu) {i j : Nat} (r : Cli) (h : j ≠ i) : (x.setC (i : Int) r).cs[j]? = x.cs[j]? := by
  show (x.cs.set (i : Int).toNat r)[j]? = _
  rw [Int.toNat_natCast, List.getElem?_set_ne (by omega)]
/-- A replica turns. -/
theorem CuAt.turnRx (h : CuAt w up B L x) {i : Nat} {r r' : Rpl} (hr : x.rs[i]? = some r) (hB : B ≤ C) {l' : RpL} (h1 : RpAt w' (L.rp i) C l' r') (h2 : ∀ k, RpF (L.rp i) l' k → RpF (L.rp i) (L.rl i) k ∨ w.heap.size ≤ k) (h3 : Upd (RpF (L.rp i) (L.rl i)) w w') : CuAt w' up C { L with rl := setD L.rl i l' } (x.setR (i : Int) r') := by
  have hi : i < L.n := by have := (List.getElem?_eq_some_iff.1 hr).1; have := h.rl; omega
  refine h.turn (.rp i) (L' := { L with rl := setD L.rl i l' }) hB ⟨rfl, rfl⟩ ⟨by simp [Clu.setR], rfl⟩ h.gn (h3.mono fun k _ hk => ⟨hi, hk⟩) ?_ ?_ ?_
  · intro r2 hr2
    have : r2 = r' := by
      have h4 : (x.rs.set (i : Int).toNat r')[i]? = some r2 := hr2
      rw [Int.toNat_natCast, List.getElem?_set_self (by rw [h.rl]; exact hi)] at h4
      exact (Option.some.inj h4).symm
    subst this
    dsimp only
    rw [setD_same]
    exact h1
  · intro q hq
    cases q with
    | rp j =>
      have hji : j ≠ i := fun e => hq (by rw [e])
      refine ⟨?_, fun hp r2 hr2 => ?_⟩
      · funext k
        dsimp only [CuF]
        rw [setD_ne _ _ hji]
      · rw [setR_at x r' hji] at hr2
        dsimp only
        rw [setD_ne _ _ hji]
        exact hp r2 hr2
    | _ => exact ⟨rfl, fun h => h⟩
  · rintro k ⟨_, hk⟩
    dsimp only at hk
    rw [setD_same] at hk
    exact (h2 k hk).imp (fun h => ⟨hi, h⟩) id
theorem CuAt.turnR (h : CuAt w up B L x) {i : Nat} {r r' : Rpl} (hr : x.rs[i]? = some r) (hB : B ≤ C) (hp : RpPost w (L.rp i) C (L.rl i) r' w') : Turned w up C L (x.setR (i : Int) r') w' := by
  have hi : i < L.n := by have := (List.getElem?_eq_some_iff.1 hr).1; have := h.rl; omega
  obtain ⟨l', h1, h2, h3⟩ := hp
  refine ⟨{ L with rl := setD L.rl i l' }, ⟨rfl, rfl, rfl, rfl, rfl, rfl⟩, h.turnRx hr hB h1 h2 h3, fun p k hk => ?_, h3.mono fun k _ hk => ⟨.rp i, hi, hk⟩⟩
  cases p with
  | rp j =>
    obtain ⟨hj, hk⟩ := hk
    dsimp only at hj hk
    by_cases hji : j = i
    · subst hji
      rw [setD_same] at hk
      exact (h2 k hk).imp (fun h => ⟨.rp j, hj, h⟩) id
    · rw [setD_ne _ _ hji] at hk
      exact .inl ⟨.rp j, hj, hk⟩
  | top => exact .inl ⟨.top, hk⟩
  | rv => exact .inl ⟨.rv, hk⟩
  | bg => exact .inl ⟨.bg, hk⟩
  | gm => exact .inl ⟨.gm, hk⟩
  | cv => exact .inl ⟨.cv, hk⟩
  | cl i => exact .inl ⟨.cl i, hk⟩
  | gp => exact .inl ⟨.gp, hk⟩
  | wt => exact .inl ⟨.wt, hk⟩
  | dm => exact .inl ⟨.dm, hk⟩
/-- The notes of a replica are taken: they lie in no part. -/
theorem CuAt.taken (h : CuAt w up B L x) {i : Nat} {r : Rpl} (hr : x.rs[i]? = some r) {e : Ending} (hp : OutPost w (L.rp i) B (L.rl i) r e w') : ∃ L1, e = .returned (L.rl i).ov ∧ CuAt w' up B L1 (x.setR (i : Int) { r with out := [] }) ∧ Sm L L1 ∧ (∀ p k, CuF up L1 p k → (∃ q, CuF up L q k) ∨ w.heap.size ≤ k) ∧ Upd (fun k => ∃ p, CuF up L p k) w w' ∧
    NtRow w' 0 (L.rl i).ov r.out ∧ (∀ k, (L.rl i).ov.ownBlock = some k → ∀ p, ¬ CuF up L1 p k) ∧ L1.rp = L.rp ∧ L1.bb = L.bb ∧ L1.lv = L.lv := by
  obtain ⟨rfl, h1, h2, h3⟩ := hp
  have hi : i < L.n := by have := (List.getElem?_eq_some_iff.1 hr).1; have := h.rl; omega
  have hR := h.pt (.rp i) r hr
  have hsub : ∀ k, RpF (L.rp i) { L.rl i with ov := .slice none 0 0 } k → RpF (L.rp i) (L.rl i) k := by
    rintro k (hk | hk | hk | hk)
    · exact .inl hk
    · exact .inr (.inl hk)
    · exact .inr (.inr (.inl hk))
    · cases hk
  have h4 : Upd (RpF (L.rp i) (L.rl i)) w w' := h2.mono (fun k _ e => .inl e)
  have hT := h.turnR hr (Nat.le_refl _) ⟨_, h1, fun k hk => .inl (hsub k hk), h4⟩
  refine ⟨_, rfl, h.turnRx hr (Nat.le_refl _) h1 (fun k hk => .inl (hsub k hk)) h4, ⟨rfl, rfl, rfl, rfl, rfl, rfl⟩, fun p k hk => ?_, h4.mono fun k _ hk => ⟨.rp i, hi, hk⟩, h3, fun k hk p hk2 => ?_, rfl, rfl, rfl⟩
  · cases p with
    | rp j =>
      obtain ⟨hj, hk⟩ := hk
      dsimp only at hj hk
      by_cases hji : j = i
      · subst hji
        rw [setD_same] at hk
        exact .inl ⟨.rp j, hj, hsub k hk⟩
      · rw [setD_ne _ _ hji] at hk
        exact .inl ⟨.rp j, hj, hk⟩
    | top => exact .inl ⟨.top, hk⟩
    | rv => exact .inl ⟨.rv, hk⟩
    | bg => exact .inl ⟨.bg, hk⟩
    | gm => exact .inl ⟨.gm, hk⟩
    | cv => exact .inl ⟨.cv, hk⟩
    | cl i => exact .inl ⟨.cl i, hk⟩
    | gp => exact .inl ⟨.gp, hk⟩
    | wt => exact .inl ⟨.wt, hk⟩
    | dm => exact .inl ⟨.dm, hk⟩
  · have hmine : CuF up L (.rp i) k := ⟨hi, .inr (.inr (.inr hk))⟩
    have hfar : ∀ q, q ≠ Pt.rp i → ¬ CuF up L q k := fun q hq hk3 => h.dj q (.rp i) hq k hk3 hmine
    cases p with
    | rp j =>
      by_cases hji : j = i
      · subst hji
        obtain ⟨_, hk2⟩ := hk2
        dsimp only at hk2
        rw [setD_same] at hk2
        obtain ⟨qs, _, hqs, _⟩ := hR.out
        obtain ⟨us, _, hus, _⟩ := hR.l
        obtain ⟨m1, _, hm1⟩ := hR.j.wh
        obtain ⟨m2, _, hm2⟩ := hR.j.sn
        rcases hk2 with rfl | (rfl | rfl | rfl) | hk2 | hk2
        · exact hqs.ne_blk hR.blk (by decide) hk
        · exact hqs.ne_blk hR.j.blk (by decide) hk
        · exact Row.ne_map hqs hm1 hk
        · exact Row.ne_map hqs hm2 hk
        · exact Row.ne_row hqs hus (by decide) hk hk2
        · cases hk2
      · obtain ⟨hj, hk2⟩ := hk2
        dsimp only at hk2
        rw [setD_ne _ _ hji] at hk2
        exact hfar (.rp j) (fun e => by injection e with e; exact hji e) ⟨hj, hk2⟩
    | top => exact hfar .top (fun e => by cases e) hk2
    | rv => exact hfar .rv (fun e => by cases e) hk2
    | bg => exact hfar .bg (fun e => by cases e) hk2
    | gm => exact hfar .gm (fun e => by cases e) hk2
    | cv => exact hfar .cv (fun e => by cases e) hk2
    | cl i => exact hfar (.cl i) (fun e => by cases e) hk2
    | gp => exact hfar .gp (fun e => by cases e) hk2
    | wt => exact hfar .wt (fun e => by cases e) hk2
    | dm => exact hfar .dm (fun e => by cases e) hk2
/-- A client turns. -/
theorem CuAt.turnC (h : CuAt w up B L x) {i : Nat} {c c' : Cli} (hr : x.cs[i]? = some c) {l' : CliL} (h1 : CliAt w' (L.cp i) l' c') (h3 : Upd (CliF (L.cp i) (L.cl i)) w w') (h2 : ∀ k, CliF (L.cp i) l' k → CliF (L.cp i) (L.cl i) k ∨ w.heap.size ≤ k) : Turned w up B L (x.setC (i : Int) c') w' := by
  have hi : i < L.m := by have := (List.getElem?_eq_some_iff.1 hr).1; have := h.cl; omega
  refine h.one (.cl i) (L' := { L with cl := setD L.cl i l' }) (Nat.le_refl _) ⟨rfl, rfl, rfl, rfl, rfl, rfl⟩ ⟨rfl, by simp [Clu.setC]⟩ h.gn (h3.mono fun k _ hk => ⟨hi, hk⟩) ?_ ?_ ?_
  · intro r2 hr2
    have : r2 = c' := by
      have h4 : (x.cs.set (i : Int).toNat c')[i]? = some r2 := hr2
      rw [Int.toNat_natCast, List.getElem?_set_self (by rw [h.cl]; exact hi)] at h4
      exact (Option.some.inj h4).symm
    subst this
    dsimp only
    rw [setD_same]
    exact h1
  · intro q hq
    cases q with
    | cl j =>
      have hji : j ≠ i := fun e => hq (by rw [e])
      refine ⟨?_, fun hp r2 hr2 => ?_⟩
      · funext k
        dsimp only [CuF]
        rw [setD_ne _ _ hji]
      · rw [setC_at x c' hji] at hr2
        dsimp only
        rw [setD_ne _ _ hji]
        exact hp r2 hr2
    | _ => exact ⟨rfl, fun h => h⟩
  · rintro k ⟨_, hk⟩
    dsimp only at hk
    rw [setD_same] at hk
    exact (h2 k hk).imp (fun h => ⟨hi, h⟩) id
/-- The bag turns. -/
theorem CuAt.turnBx (h : CuAt w up B L x) {v' : Value} {l : List CPk} (h1 : D.BgAt w' L.bb v' (l.map CPk.pk)) (h2 : Upd (D.BgF L.bb L.lv) w w') (h3 : ∀ k, v'.ownBlock = some k → L.lv.ownBlock = some k ∨ w.heap.size ≤ k) : CuAt w' up B { L with lv := v' } { x with bg := l } := by
  refine h.turn .bg (L' := { L with lv := v' }) (Nat.le_refl _) ⟨rfl, rfl⟩ ⟨rfl, rfl⟩ h.gn h2 h1 ?_ ?_
  · intro q hq
    cases q with
    | bg => exact absurd rfl hq
    | _ => exact ⟨rfl, fun h => h⟩
  · rintro k (hk | hk)
    · exact .inl (.inl hk)
    · exact (h3 k hk).imp (fun h => .inr h) id
/-- Packets have been sent: nothing but the bag is another. -/
def Sent (w : World) (up B : Nat) (L : CuL) (x' : Clu) (w' : World) : Prop := ∃ v', CuAt w' up B { L with lv := v' } x' ∧ Upd (D.BgF L.bb L.lv) w w' ∧ ∀ k, v'.ownBlock = some k → L.lv.ownBlock = some k ∨ w.heap.size ≤ k
theorem Sent.refl (h : CuAt w up B L x) : Sent w up B L x w := ⟨L.lv, h, Upd.refl _ _, fun k hk => .inl hk⟩
theorem Sent.trans {W : World} {v : Value} (hu : Upd (D.BgF L.bb L.lv) w W) (hv : ∀ k, v.ownBlock = some k → L.lv.ownBlock = some k ∨ w.heap.size ≤ k) (h : Sent W up B { L with lv := v } x' w') : Sent w up B L x' w' := by
  obtain ⟨v', h1, h2, h3⟩ := h
  refine ⟨v', h1, hu.trans h2 (fun k hlt hk => ?_), fun k hk => ?_⟩
  · rcases hk with hk | hk
    · exact .inl hk
    · rcases hv k hk with h4 | h4
      · exact .inr h4
      · omega
  · rcases h3 k hk with h4 | h4
    · exact hv k h4
    · exact .inr (Nat.le_trans hu.size h4)
theorem Sent.pre {W : World} (hn : New w W) (h : Sent W up B L x' w') : Sent w up B L x' w' := Sent.trans (L := L) (v := L.lv) (Upd.new hn) (fun k hk => .inl hk) h
theorem Sent.turned (h : Sent w up B L x' w') : Turned w up B L x' w' := by
  obtain ⟨v', h1, h2, h3⟩ := h
  refine ⟨{ L with lv := v' }, ⟨rfl, rfl, rfl, rfl, rfl, rfl⟩, h1, fun p k hk => ?_, h2.mono fun k _ hk => ⟨.bg, hk⟩⟩
  cases p with
  | bg =>
    rcases hk with hk | hk
    · exact .inl ⟨.bg, .inl hk⟩
    · exact (h3 k hk).imp (fun h => ⟨.bg, .inr h⟩) id
  | top => exact .inl ⟨.top, hk⟩
  | rv => exact .inl ⟨.rv, hk⟩
  | rp i => exact .inl ⟨.rp i, hk⟩
  | gm => exact .inl ⟨.gm, hk⟩
  | cv => exact .inl ⟨.cv, hk⟩
  | cl i => exact .inl ⟨.cl i, hk⟩
  | gp => exact .inl ⟨.gp, hk⟩
  | wt => exact .inl ⟨.wt, hk⟩
  | dm => exact .inl ⟨.dm, hk⟩
theorem CuAt.turnB (h : CuAt w up B L x) {v' : Value} {l : List CPk} (h1 : D.BgAt w' L.bb v' (l.map CPk.pk)) (h2 : Upd (D.BgF L.bb L.lv) w w') (h3 : ∀ k, v'.ownBlock = some k → L.lv.ownBlock = some k ∨ w.heap.size ≤ k) : Turned w up B L { x with bg := l } w' := Sent.turned ⟨v', h.turnBx h1 h2 h3, h2, h3⟩
/-- The masters turn. -/
theorem CuAt.turnG (h : CuAt w up B L x) {g' : D.Gm} (hB : B ≤ C) (h1 : D.GSt (fun k => L.gF k ∨ w.heap.size ≤ k) w' 3 C L.gp g') (h2 : Upd (fun k => L.gF k ∨ w.heap.size ≤ k) w w') : Turned w up C L { x with g := g' } w' := by
  obtain ⟨F', h3, h4⟩ := GrAt.of h1
  refine h.one .gp (L' := { L with gF := F' }) hB ⟨rfl, rfl, rfl, rfl, rfl, rfl⟩ ⟨rfl, rfl⟩ h.gn (h2.mono fun k hk hf => ?_) h3 ?_ (fun k hk => h4 k hk)
  · rcases hf with hf | hf
    · exact hf
    · omega
  · intro q hq
    cases q with
    | gp => exact absurd rfl hq
    | _ => exact ⟨rfl, fun h => h⟩
/-- One list of what waits turns. -/
theorem WtAt.set_ {n B C wm : Nat} {wv : Nat → Value} {wt : Int → List Wt} (h : WtAt w n B wm wv wt) (hB : B ≤ C) {i : Nat} (hi : i < n) {v : Value} {l : List Wt} {m : Nat} (hm : m ≤ C) (h1 : D.MpI w' wm m (fun j => if j = (i : Int) then (if l.isEmpty = true then none else some v) else wtV wv wt j))
    (hr : Row w' 0 180 5 Wt.enc v l) (hl : l.length ≤ C) (hu : Upd (fun k => k = wm ∨ (wv i).ownBlock = some k) w w') (hv : ∀ k, v.ownBlock = some k → (wv i).ownBlock = some k ∨ ¬ WtF n wm wv k) :
    WtAt w' n C wm (setD wv i v) (setD wt (i : Int) l) ∧ Upd (WtF n wm wv) w w' ∧ ∀ k, WtF n wm (setD wv i v) k → WtF n wm wv k ∨ v.ownBlock = some k := by
  obtain ⟨m0, _, hm0⟩ := h.mp
  have hij : ∀ j : Nat, j ≠ i → ((j : Nat) : Int) ≠ (i : Int) := fun j hj e => hj (by omega)
  have hkk : ∀ j, j < n → j ≠ i → ∀ k, v.ownBlock = some k → (wv j).ownBlock ≠ some k := fun j hj hji k hk => by
    rcases hv k hk with h2 | h2
    · exact h.dj i j hi hj (fun e => hji e.symm) k h2
    · exact fun h3 => h2 (.inr ⟨j, hj, h3⟩)
  refine ⟨⟨⟨m, hm, h1.congr fun k hk => ?_⟩, fun j hj => ?_, fun j hj => ?_, fun a b ha hb hab k hk => ?_⟩, hu.mono fun k _ hk => ?_, ?_⟩
  · unfold wtV
    by_cases hki : k = (i : Int)
    · subst hki
      rw [if_pos rfl, setD_same, Int.toNat_natCast, setD_same]
    · rw [if_neg hki, setD_ne _ _ hki]
      by_cases hkr : 0 ≤ k ∧ k < (n : Int)
      · rw [setD_ne wv _ (show k.toNat ≠ i by omega)]
      · rw [h.out k hkr]
        rfl
  · by_cases hji : j = i
    · subst hji; rw [setD_same, setD_same]; exact ⟨hr, hl⟩
    · rw [setD_ne _ _ hji, setD_ne _ _ (hij j hji)]
      refine ⟨(h.row j hj).1.upd hu ?_, Nat.le_trans (h.row j hj).2 hB⟩
      rintro k hk (rfl | hk2)
      · exact Row.ne_map (h.row j hj).1 hm0 hk
      · exact h.dj j i hj hi hji k hk hk2
  · have hji : j ≠ (i : Int) := by omega
    rw [setD_ne _ _ hji]; exact h.out j hj
  · by_cases h2 : a = i <;> by_cases h3 : b = i
    · exact absurd (h2.trans h3.symm) hab
    · subst h2
      rw [setD_same] at hk
      rw [setD_ne _ _ h3]
      exact hkk b hb h3 k hk
    · subst h3
      rw [setD_ne _ _ h2] at hk
      rw [setD_same]
      intro h4
      exact hkk a ha h2 k h4 hk
    · rw [setD_ne _ _ h2] at hk
      rw [setD_ne _ _ h3]
      exact h.dj a b ha hb hab k hk
  · rcases hk with hk | hk
    · exact .inl hk
    · exact .inr ⟨i, hi, hk⟩
  · rintro k (rfl | ⟨j, hj, hk⟩)
    · exact .inl (.inl rfl)
    · by_cases hji : j = i
      · subst hji
        rw [setD_same] at hk
        exact .inr hk
      · rw [setD_ne _ _ hji] at hk
        exact .inl (.inr ⟨j, hj, hk⟩)
/-- What waits at one. -/
theorem WtAt.look {n B wm : Nat} {wv : Nat → Value} {wt : Int → List Wt} (h : WtAt w n B wm wv wt) {i : Nat} (hi : i < n) : ∃ v, (wtV wv wt (i : Int)).getD (.slice none 0 0) = v ∧ Row w 0 180 5 Wt.enc v (wt (i : Int)) ∧ ∀ k, v.ownBlock = some k → (wv i).ownBlock = some k := by
  unfold wtV
  cases he : (wt (i : Int)).isEmpty with
  | true =>
    refine ⟨.slice none 0 0, rfl, ?_, fun k hk => by cases hk⟩
    rw [List.isEmpty_iff.1 he]
    exact Row.nil _ _ _ _ _
  | false => exact ⟨wv i, by rw [if_neg Bool.false_ne_true, Int.toNat_natCast]; rfl, (h.row i hi).1, fun k hk => hk⟩
/-- What waits turns. -/
theorem CuAt.turnW (h : CuAt w up B L x) {wv' : Nat → Value} {wt' : Int → List Wt} (hB : B ≤ C) (h1 : WtAt w' L.n C L.wm wv' wt') (h2 : Upd (WtF L.n L.wm L.wv) w w') (h3 : ∀ k, WtF L.n L.wm wv' k → WtF L.n L.wm L.wv k ∨ w.heap.size ≤ k) : Turned w up C L { x with wt := wt' } w' := by
  refine h.one .wt (L' := { L with wv := wv' }) hB ⟨rfl, rfl, rfl, rfl, rfl, rfl⟩ ⟨rfl, rfl⟩ h.gn h2 h1 ?_ h3
  intro q hq
  cases q with
  | wt => exact absurd rfl hq
  | _ => exact ⟨rfl, fun h => h⟩
theorem CuAt.turnWx (h : CuAt w up B L x) {wv' : Nat → Value} {wt' : Int → List Wt} (hB : B ≤ C) (h1 : WtAt w' L.n C L.wm wv' wt') (h2 : Upd (WtF L.n L.wm L.wv) w w') (h3 : ∀ k, WtF L.n L.wm wv' k → WtF L.n L.wm L.wv k ∨ ∀ q, ¬ CuF up L q k) : CuAt w' up C { L with wv := wv' } { x with wt := wt' } := by
  refine h.turnF .wt (L' := { L with wv := wv' }) hB ⟨rfl, rfl⟩ ⟨rfl, rfl⟩ h.gn h2 h1 ?_ h3
  intro q hq
  cases q with
  | wt => exact absurd rfl hq
  | _ => exact ⟨rfl, fun h => h⟩
/-- Somebody is gone. -/
theorem CuAt.turnK (h : CuAt w up B L x) {i m : Nat} (hi : i < L.n) (hB : B ≤ C) (hm : m ≤ C) (h1 : D.MpI w' L.gm m (goneV (setD x.gone (i : Int) true))) (h2 : Upd (· = L.gm) w w') : Turned w up C L { x with gone := setD x.gone (i : Int) true } w' := by
  refine h.one .gm (L' := L) hB ⟨rfl, rfl, rfl, rfl, rfl, rfl⟩ ⟨rfl, rfl⟩ (fun j hj => ?_) h2 ⟨m, hm, h1⟩ ?_ (fun k hk => .inl hk)
  · by_cases hji : j = (i : Int)
    · omega
    · dsimp only at hj
      rw [setD_ne _ _ hji] at hj
      exact h.gn j hj
  · intro q hq
    cases q with
    | gm => exact absurd rfl hq
    | _ => exact ⟨rfl, fun h => h⟩
/-- The cells of a cluster. -/
structure TopF (w : World) (up : Nat) (L : CuL) : Prop where
  lt : up < w.heap.size
  c0 : w.cell? ⟨up, 0, none⟩ = some L.rv
  c1 : w.cell? ⟨up, 1, none⟩ = some (.map (some L.gm))
  c2 : w.cell? ⟨up, 2, none⟩ = some L.cv
  c3 : w.cell? ⟨up, 3, none⟩ = some (.pointer (some ⟨L.gp, 0, none⟩))
  c4 : w.cell? ⟨up, 4, none⟩ = some (.int .u64 1)
  c5 : w.cell? ⟨up, 5, none⟩ = some L.fv
  c6 : w.cell? ⟨up, 6, none⟩ = some (.pointer (some ⟨L.bb, 0, none⟩))
  c7 : w.cell? ⟨up, 7, none⟩ = some (.map (some L.wm))
  c8 : w.cell? ⟨up, 8, none⟩ = some (.map (some L.dm))
  fz : ∀ i, w.frozen? ⟨up, i, none⟩ = false
theorem CuAt.top (h : CuAt w up B L x) : TopF w up L := by
  have hb := (h.pt .top).1
  exact ⟨hb.lt, hb.cell 0, hb.cell 1, hb.cell 2, hb.cell 3, hb.cell 4, hb.cell 5, hb.cell 6, hb.cell 7, hb.cell 8, hb.frozen⟩
end
end Go.Proofs.YtlhlcdjkacglnaaGreatDoor
