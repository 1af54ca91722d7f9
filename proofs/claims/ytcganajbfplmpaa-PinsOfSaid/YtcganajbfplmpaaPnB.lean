/- Chapter 18 (pins): Bytes. -/
import Derived.Test.YtcganajbfplmpaaPn9
import Derived.Test.YtcganajbfplmpaaCodeQ
namespace Go.Proofs.Ytcganajbfplmpaa
open Go.RowKit Go.Lap
set_option linter.unusedVariables false

/-- A name's bytes, and those of all names. -/
def encN (x : Pnm) : List UInt8 := varB x.s.size ++ x.s.data.toList ++ varB x.n
def encE (E : List Pnm) : List UInt8 := varB E.length ++ E.flatMap encN
theorem okU_lt {n : Nat} (h : okU n) : n < 18446744073709551616 := by
  unfold okU at h
  simp [Lit.wf, IntKind.min, IntKind.max, IntKind.signed, IntKind.bits] at h
  omega
theorem okU_of {n : Nat} (h : n < 18446744073709551616) : okU n := by
  unfold okU
  simp [Lit.wf, IntKind.min, IntKind.max, IntKind.signed, IntKind.bits]
  omega
theorem encN_len {x : Pnm} (h : x.s.size ≤ 32) (hn : okU x.n) : (encN x).length ≤ 60 := by
  have l1 := varB_len10 (n := x.s.size) (by omega)
  have l2 := varB_len10 (okU_lt hn)
  have e1 : x.s.data.toList.length = x.s.size := by rw [Array.length_toList]; rfl
  unfold encN
  simp only [List.length_append]
  omega
theorem encP_snoc {l : List Pnm} {k : Nat} {x : Pnm} (h : l[k]? = some x) : (l.take (k + 1)).flatMap encN = (l.take k).flatMap encN ++ encN x := by
  rw [List.take_add_one, h]
  simp
theorem textOneP (bs : List UInt8) (s : ByteArray) (h : s.size ≤ 65536) : textB (bs, 0) [s] = (bs ++ varB s.size ++ s.data.toList, 0) := by
  simp only [textB, List.foldl_cons, List.foldl_nil, textS, if_true, if_neg (show ¬ 65536 < s.size by omega)]
theorem numOneP (bs : List UInt8) (n : Nat) : numB 0 bs [n] = bs ++ varB n := by simp [numB]
def PBytesPost (w : World) (E : List Pnm) (e : Ending) (w' : World) : Prop := ∃ u, e = .returned u ∧ Owns w' w.heap.size 5 1 bEnc u (encE E) ∧ New w w'
/-- A writer in work: so many names are put. -/
def PutRelP (w2 : World) (vl : Value) (l : List Pnm) (k : Nat) (wr : World) : Prop := New w2 wr ∧ SlIn wr 2 pnC vl l ∧ (∀ i, vl.ownBlock = some i → i < wr.heap.size) ∧ ∃ v, (∀ i, vl.ownBlock = some i → ¬ WrS w2.heap.size v i) ∧ WrAt wr w2.heap.size w2.heap.size v (varB l.length ++ (l.take k).flatMap encN) 0 ∧ (varB l.length ++ (l.take k).flatMap encN).length ≤ 10 + 60 * k
section
variable {w w' : World} {S : Nat → Prop} {p nm lm : Nat} {E : List Pnm} {K : List Lse}
set_option maxRecDepth 100000 in
set_option maxHeartbeats 8000000 in
theorem bytesS (w : World) (h : PSt w p nm lm E K) : Calls Try.prog 32 #[.pointer (some ⟨p, 0, none⟩)] w (PBytesPost w E) := by
  have HP := Lib.hid h
  have hl4 := varB_len10 (n := E.length) (by have := h.e.len; omega)
  go_enter Try.func32, Try.ntmps32
  go_wp2_with fail
  refine (write_any w).mono ?_
  rintro e w2 ⟨rfl, hw2, hn2⟩
  have hP2 := HP.out.new hn2
  obtain ⟨d0, d1, d2, dz⟩ := Blk2P hP2.at_.blk
  have hlen := mpLen hP2.at_.na Try.underlying99 3
  have hlw : IntKind.u64.wrap (E.length : Int) = (E.length : Int) := by rw [IntKind.wrap_u64]; have := h.e.len; omega
  go_wp2_with fail
  refine (num_any w.heap.size w.heap.size (.slice none 0 0) [] 0 _ [E.length] _ (hw2.new ((New.refl w2).alloc _)) (SlIn.lit (l := [E.length]) (Blk.mk_new w2 55 #[.int .u64 (E.length : Int)]) nEncOk rfl (by simp)) (fun i hi => hw2.fresh (by simp [Value.ownBlock] at hi; omega)) (by simp) (by have := h.e.len; simp; omega) (by simp)).mono ?_
  rintro e w3 ⟨v3, rfl, hw3, hu3, hf3⟩
  have hB3 : numB 0 [] [E.length] = varB E.length ++ (E.take 0).flatMap encN := by simp [numB]
  rw [hB3] at hw3
  have hN3 : New w w3 := WrAt.step (hn2.alloc _) (hw2.new ((New.refl w2).alloc _)) hu3
  have HR3 := Lib.hid hw3
  have hP3 := HP.out.new hN3
  have HN3 := Lib.hid hN3
  clear hB3 hw3 hu3 hf3 hw2 hn2 hN3 hP2 d0 d1 d2 dz hlen hlw h
  go_wp2_with fail
  refine (listS w3 hP3).mono ?_
  rintro e w4 ⟨v, rfl, hs4, hv4, hn4⟩
  obtain ⟨A, cap, hv, hlc, hh⟩ := _root_.id hs4
  have hlv : ∀ i, v.ownBlock = some i → i < w4.heap.size := fun i hi => (hv4 i hi).2
  have HR4 := Lib.hid (show PutRelP w v E 0 w4 from ⟨HN3.out.trans hn4, hs4, hlv, v3, fun i hi => HR3.out.fresh (hv4 i hi).1, HR3.out.new hn4, by simp; omega⟩)
  subst hv
  have hN4 := HN3.out.trans hn4
  have HN4 := Lib.hid hN4
  have hge := HP.out.e
  have HGE := Lib.hid hge
  have hlen16 := hge.len
  have HV := Lib.hid hv4
  clear hN4 hP3 hs4 hge hn4 hv4 HR3 hlv hh
  go_wp2_with fail
  go_loopw [5, 21] (fun _ i wr => ∃ k : Nat, k ≤ E.length ∧ i = .int .i64 k ∧ PutRelP w (.slice A E.length cap) E k wr) (fun _ i _ => E.length - (intOf i).toNat)
  case atStart => exact ⟨0, by omega, rfl, HR4.out⟩
  case round =>
    clear HR4
    obtain ⟨k, hk, rfl, hnw, hsr, hlr, v4, hdj, hw4, hle⟩ := hrel
    by_cases hlt : k < E.length
    · have hlt2 : (k : Int) < (E.length : Int) := by omega
      have hk0 : (0 : Int) ≤ (k : Int) := by omega
      obtain ⟨x, hx⟩ : ∃ x, E[k]? = some x := ⟨_, List.getElem?_eq_getElem hlt⟩
      obtain ⟨A', cap', hv', hlc', hh⟩ := _root_.id hsr
      rcases hh with hor | ⟨b, off, hA', hb, hc⟩
      · rw [hor] at hlt; simp at hlt
      subst hA'
      cases hv'
      have hgx := HGE.out.nm x (List.mem_of_getElem? hx)
      have e0 : wr.cell? ⟨b, off + k * 2, none⟩ = some (.string x.s) := by have := hc _ x hx 0 _ rfl; simpa using this
      have e1 : wr.cell? ⟨b, off + k * 2 + 1, none⟩ = some (.int .u64 (x.n : Int)) := by have := hc _ x hx 1 _ rfl; simpa using this
      have HSN := Lib.hid (encP_snoc hx)
      have HEL := Lib.hid (encN_len hgx.2.1 hgx.2.2)
      have hev : encN x = varB x.s.size ++ x.s.data.toList ++ varB x.n := rfl
      have HEV := Lib.hid hev
      have HX := Lib.hid hx
      have HGX := Lib.hid hgx
      have HC := Lib.hid hc
      have HSR := Lib.hid hsr
      have HLR := Lib.hid hlr
      have HDJ := Lib.hid hdj
      have HNW := Lib.hid hnw
      have HW4 := Lib.hid hw4
      have HLE := Lib.hid hle
      have hBz := Blk.mk_new wr 66 #[.string ⟨#[]⟩, .int .u64 0]
      obtain ⟨z0, z1, z2, zz⟩ := Blk2P hBz
      have hB := Blk.mk_new wr 66 #[.string x.s, .int .u64 (x.n : Int)]
      obtain ⟨q0, q1, q2, qz⟩ := Blk2P hB
      have HB := Lib.hid hB
      have hNa := (New.refl wr).alloc (.cells #[.string x.s, .int .u64 (x.n : Int)] 66)
      have HNA := Lib.hid hNa
      clear hgx hc hx hev hB hBz hNa hsr hlr hdj hnw hw4 hle
      go_wp2_with fail
      have hBs := Blk.mk_new (wr.alloc (.cells #[.string x.s, .int .u64 (x.n : Int)] 66)) 9 #[.string x.s]
      rw [World.size_alloc] at hBs
      have hN5 := HNA.out.alloc (.cells #[.string x.s] 9)
      have hw5 := HW4.out.new hN5
      refine (text_any w.heap.size w.heap.size v4 _ 0 _ [x.s] _ hw5 (SlIn.lit (l := [x.s]) hBs sEncOk rfl (by simp)) (fun i hi => HW4.out.fresh (by simp [Value.ownBlock] at hi; omega)) (by simp; have := HLE.out; simp at this; omega) (by have := HGX.out; simp; unfold maxLen; omega)).mono ?_
      rintro e w6 ⟨v6, rfl, hw6, hu6, hf6⟩
      rw [textOneP _ _ (by have := HGX.out; omega)] at hw6
      dsimp only at hw6
      have hNW6 : New w w6 := WrAt.step (HNW.out.trans hN5) hw5 hu6
      have hB6 := (HB.out.new ((New.refl _).alloc (.cells #[.string x.s] 9))).upd hu6 (fun hk => by
        rcases hk with hk | hk
        · have := HW4.out.2.1.lt; omega
        · have := (HW4.out.2.2.lt _ hk).2; omega)
      obtain ⟨r0, r1, r2, rz⟩ := Blk2P hB6
      have HN5 := Lib.hid hN5
      have HU6 := Lib.hid hu6
      have HF6 := Lib.hid hf6
      have HW5 := Lib.hid hw5
      have HW6 := Lib.hid hw6
      have HNW6 := Lib.hid hNW6
      clear hBs hN5 hw5 hu6 hf6 hw6 hB6 hNW6
      go_wp2_with fail
      have hBn := Blk.mk_new w6 55 #[.int .u64 (x.n : Int)]
      have hN7 := (New.refl w6).alloc (.cells #[.int .u64 (x.n : Int)] 55)
      have hw7 := HW6.out.new hN7
      have hlb : (varB E.length ++ (E.take k).flatMap encN ++ varB x.s.size ++ x.s.data.toList).length ≤ 100000000 := by
        have h1 := HLE.out
        have h2 := HEL.out
        rw [HEV.out] at h2
        simp only [List.length_append] at h1 h2 ⊢
        omega
      refine (num_any w.heap.size w.heap.size v6 _ 0 _ [x.n] _ hw7 (SlIn.lit (l := [x.n]) hBn nEncOk rfl (by simp)) (fun i hi => HW6.out.fresh (by simp [Value.ownBlock] at hi; omega)) (by simpa [List.append_assoc] using hlb) (by have := okU_lt HGX.out.2.2; simpa using this) (by simp)).mono ?_
      rintro e w8 ⟨v8, rfl, hw8, hu8, hf8⟩
      rw [numOneP] at hw8
      have hNW8 : New w w8 := WrAt.step (HNW6.out.trans hN7) hw7 hu8
      have hfin : varB E.length ++ (E.take k).flatMap encN ++ varB x.s.size ++ x.s.data.toList ++ varB x.n = varB E.length ++ (E.take (k + 1)).flatMap encN := by
        rw [HSN.out, HEV.out]
        simp only [List.append_assoc]
      rw [hfin] at hw8
      have hdj6 : ∀ i, (Value.slice (some ⟨b, off, none⟩) E.length cap).ownBlock = some i → ¬ WrS w.heap.size v6 i := fun i hi hw => by
        have h1 := HDJ.out i hi
        have h2 := HLR.out i hi
        rcases hw with hw | hw
        · exact h1 (.inl hw)
        · rcases HF6.out i hw with h3 | h3
          · exact h1 (.inr h3)
          · have := HN5.out.size; omega
      have hdj8 : ∀ i, (Value.slice (some ⟨b, off, none⟩) E.length cap).ownBlock = some i → ¬ WrS w.heap.size v8 i := fun i hi hw => by
        have h1 := hdj6 i hi
        have h2 := HLR.out i hi
        rcases hw with hw | hw
        · exact h1 (.inl hw)
        · rcases hf8 i hw with h3 | h3
          · exact h1 (.inr h3)
          · have := HN5.out.size; have := HU6.out.size; have := hN7.size; omega
      have hs8 := ((((HSR.out.new HN5.out).upd HU6.out HDJ.out).new hN7).upd hu8 hdj6)
      have hl8 : ∀ i, (Value.slice (some ⟨b, off, none⟩) E.length cap).ownBlock = some i → i < w8.heap.size := fun i hi => by
        have := HLR.out i hi
        have := HN5.out.size; have := HU6.out.size; have := hN7.size; have := hu8.size; omega
      have HREL := Lib.hid (show PutRelP w (.slice (some ⟨b, off, none⟩) E.length cap) E (k + 1) w8 from ⟨hNW8, hs8, hl8, v8, hdj8, hw8, by
        rw [HSN.out]
        have h1 := HLE.out
        have h2 := HEL.out
        simp only [List.length_append] at h1 h2 ⊢
        omega⟩)
      clear hw8 hu8 hf8 hfin hlb hw7 hN7 hBn hdj6 hdj8 hs8 hl8
      go_wp2_with fail
      go_roundw
      case rel => exact ⟨k + 1, by omega, rfl, HREL.out⟩
      case measure => simp only [intOf]; omega
    · obtain rfl : k = E.length := by omega
      rw [List.take_length] at hw4 hle
      go_wp2_with fail
      refine (wbytes_any w.heap.size w.heap.size v4 _ 0 wr hw4 (by omega)).mono ?_
      rintro e w9 ⟨u, rfl, ho9, hn9⟩
      rw [if_pos rfl] at ho9
      go_wp2_with fail
      go_ret
      exact ⟨u, rfl, ho9.lower hnw.size, hnw.trans hn9⟩
end
end Go.Proofs.Ytcganajbfplmpaa
