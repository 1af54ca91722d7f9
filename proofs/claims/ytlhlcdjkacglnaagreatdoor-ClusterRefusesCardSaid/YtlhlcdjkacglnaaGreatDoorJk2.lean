/- Contracts of code.Writer (chapter 3): what is put, and what goes wrong first. -/
import Derived.Test.YtlhlcdjkacglnaaGreatDoorJk1
namespace Go.Lap
open Go.RowKit
section
variable {α : Type} {enc : α → List Value} {size : Nat} {l : List α} {w w' : World} {v v' v'' : Value} {base : Nat} {e : TypeId} {S : Nat → Prop}
theorem SlIn.upd (h : SlIn w size enc v l) (hu : Upd S w w') (hS : ∀ k, v.ownBlock = some k → ¬ S k) : SlIn w' size enc v l := by
  obtain ⟨A, c, rfl, hc, h⟩ := h
  refine ⟨A, c, rfl, hc, ?_⟩
  rcases h with h | ⟨b, off, rfl, hb, h⟩
  · exact .inl h
  · have hne : ¬ S b := hS b rfl
    exact .inr ⟨b, off, rfl, Nat.lt_of_lt_of_le hb hu.size, fun k x hx j u hu' => (World.cell?_of_block (hu.block b hb hne)).trans (h k x hx j u hu')⟩
theorem SlIn.shape (h : SlIn w size enc v l) : ∃ A n c, v = .slice A n c := by obtain ⟨A, c, hv, _⟩ := h; exact ⟨A, _, c, hv⟩
theorem Owns.upd (h : Owns w base e size enc v l) (hu : Upd S w w') (hS : ∀ k, v.ownBlock = some k → ¬ S k) : Owns w' base e size enc v l := by
  refine ⟨h.1, ?_⟩
  rcases h.2 with h2 | ⟨g, cap, cur, rfl, hg, hh, r⟩
  · exact .inl h2
  · exact .inr ⟨g, cap, cur, rfl, hg, Blk.upd hh hu (hS g rfl), r⟩
theorem Owns.setFar (h : Owns w base e size enc v l) {p : Addr} (hp : v.ownBlock ≠ some p.block) (u : Value) : Owns (w.setCell p u) base e size enc v l := by
  refine ⟨h.1, ?_⟩
  rcases h.2 with h2 | ⟨g, cap, cur, rfl, hg, hh, r⟩
  · exact .inl h2
  · exact .inr ⟨g, cap, cur, rfl, hg, Blk.far hh (fun e => hp (by rw [← e]; rfl)) u, r⟩
theorem Owns.ne_blk {g : Nat} {t : TypeId} {cs : Array Value} (h : Owns w base e size enc v l) (hg : Blk w g t cs) (hne : e ≠ t) : v.ownBlock ≠ some g := by
  rcases h.2 with ⟨rfl, _⟩ | ⟨g', cap, cur, rfl, _, hh, _⟩
  · simp [Value.ownBlock]
  · intro he
    have : g' = g := by simpa [Value.ownBlock] using he
    subst this
    exact Blk.ne_ (t := e) hh hg hne rfl
/-- v' lies where v lay, or in new memory. -/
def Fr (w : World) (v v' : Value) : Prop := ∀ k, v'.ownBlock = some k → v.ownBlock = some k ∨ w.heap.size ≤ k
theorem Fr.refl (w : World) (v : Value) : Fr w v v := fun _ h => .inl h
theorem Fr.new (hb : Owns w' w.heap.size e size enc v' l) : Fr w v v' := fun k hk => .inr (hb.blockGe k hk)
theorem Fr.trans {w1 : World} (h : Fr w v v') (k : Fr w1 v' v'') (hs : w.heap.size ≤ w1.heap.size) : Fr w v v'' := fun i hi => by
  rcases k i hi with h1 | h1
  · exact h i h1
  · exact .inr (by omega)
end
end Go.Lap

namespace Go.Proofs.YtlhlcdjkacglnaaGreatDoor
open Go.RowKit Go.Lap
set_option linter.unusedVariables false

/-- A writer in memory: its bytes are its own. -/
def WrAt (w : World) (base g : Nat) (v : Value) (bs : List UInt8) (err : Int) : Prop :=
  base ≤ g ∧ Blk w g 172 #[v, .int .i64 err] ∧ Owns w base 5 1 bEnc v bs

/-- What a writer's call may change. -/
def WrS (g : Nat) (v : Value) : Nat → Prop := fun k => k = g ∨ v.ownBlock = some k

theorem WrAt.facts {w : World} {base g : Nat} {v : Value} {bs : List UInt8} {err : Int} (h : WrAt w base g v bs err) :
    g < w.heap.size ∧ w.cell? ⟨g, 0, none⟩ = some v ∧ w.cell? ⟨g, 1, none⟩ = some (.int .i64 err) ∧ (∀ i, w.frozen? ⟨g, i, none⟩ = false) := ⟨h.2.1.lt, h.2.1.cell 0, h.2.1.cell 1, h.2.1.frozen⟩
theorem WrAt.new {w w' : World} {base g : Nat} {v : Value} {bs : List UInt8} {err : Int} (h : WrAt w base g v bs err) (hn : New w w') : WrAt w' base g v bs err :=
  ⟨h.1, h.2.1.new hn, h.2.2.new hn⟩

theorem WrAt.fresh {w : World} {base g : Nat} {v : Value} {bs : List UInt8} {err : Int} (h : WrAt w base g v bs err) {k : Nat} (hk : w.heap.size ≤ k) : ¬ WrS g v k := by
  rintro (rfl | h1)
  · have := h.2.1.lt; omega
  · have := (h.2.2.lt k h1).2; omega
theorem WrS.back {w : World} {g : Nat} {v v' : Value} (hf : Fr w v v') : ∀ i, i < w.heap.size → WrS g v' i → WrS g v i := fun i hi h => by
  rcases h with h | h
  · exact .inl h
  · rcases hf i h with h1 | h1
    · exact .inr h1
    · omega
theorem WrAt.below {w : World} {base g : Nat} {v : Value} {bs : List UInt8} {err : Int} (h : WrAt w base g v bs err) {k : Nat} (hk : k < base) : ¬ WrS g v k := by
  rintro (rfl | h1)
  · have := h.1; omega
  · have := (h.2.2.lt k h1).1; omega
theorem WrAt.step {w a b : World} {g : Nat} {v : Value} {bs : List UInt8} {err : Int} (hn : New w a) (hw : WrAt a w.heap.size g v bs err) (hu : Upd (WrS g v) a b) : New w b :=
  hn.upd hu (fun i hi => by
    rcases Nat.lt_or_ge i w.heap.size with hlt | hge
    · exact absurd hi (hw.below hlt)
    · exact hge)
theorem blk_new_set (w : World) (a : Addr) (u : Value) (t : TypeId) (cs : Array Value) : Blk ((w.setCell a u).alloc (.cells cs t)) w.heap.size t cs := by
  have := Blk.mk_new (w.setCell a u) t cs
  rwa [World.size_setCell] at this

def nEnc (n : Nat) : List Value := [.int .u64 (n : Int)]
theorem nEncOk : Enc nEnc 1 := fun _ => ⟨rfl, by simp [nEnc, Value.oneCell']⟩

def numB (err : Int) (bs : List UInt8) (ns : List Nat) : List UInt8 := if err = 0 then bs ++ ns.flatMap varB else bs
theorem numB_snoc {err : Int} {bs : List UInt8} {ns : List Nat} {k n : Nat} (he : err = 0) (h : ns[k]? = some n) : numB err bs (ns.take (k + 1)) = numB err bs (ns.take k) ++ varB n := by
  obtain ⟨hk, rfl⟩ := List.getElem?_eq_some_iff.1 h
  simp only [numB, he, if_true]
  rw [List.take_succ_eq_append_getElem hk, List.flatMap_append]
  simp
theorem numB_bad {err : Int} {bs : List UInt8} {ns ns' : List Nat} (he : err ≠ 0) : numB err bs ns = numB err bs ns' := by simp [numB, he]
theorem numB_len {err : Int} {bs : List UInt8} (ns : List Nat) (h : ∀ n ∈ ns, n < 18446744073709551616) : (numB err bs ns).length ≤ bs.length + 10 * ns.length := by
  unfold numB
  split
  · rw [List.length_append]
    have : (ns.flatMap varB).length ≤ 10 * ns.length := by
      induction ns with
      | nil => simp
      | cons n ns ih =>
        have h1 := varB_len10 (h n (List.mem_cons_self ..))
        have h2 := ih (fun m hm => h m (List.mem_cons_of_mem _ hm))
        simp only [List.flatMap_cons, List.length_append, List.length_cons]
        omega
    omega
  · omega

set_option maxHeartbeats 400000 in
theorem write_any (w : World) : Calls Tryz.prog 88 #[] w fun e w' => e = .returned (.pointer (some ⟨w.heap.size, 0, none⟩)) ∧ WrAt w' w.heap.size w.heap.size (.slice none 0 0) [] 0 ∧ New w w' := by
  go_enter Tryz.func88, Tryz.ntmps88
  go_wp2_with fail
  go_ret
  exact ⟨rfl, ⟨Nat.le_refl _, Blk.mk_new _ _ _, Owns.nil _ _ _ _ _⟩, (New.refl _).alloc _⟩

/-- What a put leaves. -/
def PutPost (w : World) (base g : Nat) (v : Value) (bs : List UInt8) (err : Int) (e : Ending) (w' : World) : Prop :=
  ∃ v', e = .returned (.tuple #[]) ∧ WrAt w' base g v' bs err ∧ Upd (WrS g v) w w' ∧ Fr w v v'

set_option maxRecDepth 100000 in
set_option maxHeartbeats 1000000 in
theorem num_any (base g : Nat) (v : Value) (bs : List UInt8) (err : Int) (vs : Value) (ns : List Nat) (w : World) (h : WrAt w base g v bs err) (hs : SlIn w 1 nEnc vs ns) (hd : ∀ k, vs.ownBlock = some k → ¬ WrS g v k)
    (hb : bs.length ≤ 100000000) (hns : ∀ n ∈ ns, n < 18446744073709551616) (hnl : ns.length ≤ 10000000) :
    Calls Tryz.prog 89 #[.pointer (some ⟨g, 0, none⟩), vs] w (PutPost w base g v (numB err bs ns) err) := by
  have hs' := hs
  obtain ⟨A, c, rfl, hlc, hh⟩ := hs
  have hg0 := h.2.1.lt
  go_enter Tryz.func89, Tryz.ntmps89
  go_wp2_with fail
  go_loopw [5, 8] (fun _ i wr => ∃ (k : Nat) (v' : Value), k ≤ ns.length ∧ i = .int .i64 k ∧ WrAt wr base g v' (numB err bs (ns.take k)) err ∧ Upd (WrS g v) w wr ∧ Fr w v v') (fun _ i _ => ns.length - (intOf i).toNat)
  case atStart => exact ⟨0, v, by omega, rfl, by have : numB err bs (ns.take 0) = bs := by unfold numB; split <;> simp
                                                 rw [this]; exact h, Upd.refl _ _, Fr.refl _ _⟩
  case round =>
    obtain ⟨k, v', hk, rfl, hw, hu, hf⟩ := hrel
    obtain ⟨hg, c0, c1, hz⟩ := hw.facts
    by_cases hlt : k < ns.length
    · have hlt' : (k : Int) < (ns.length : Int) := by omega
      have hk0 : (0 : Int) ≤ (k : Int) := by omega
      obtain ⟨n, hn⟩ : ∃ n, ns[k]? = some n := ⟨_, List.getElem?_eq_getElem hlt⟩
      have hnr := hns n (List.mem_of_getElem? hn)
      rcases hh with rfl | ⟨b, off, rfl, hbl, hc⟩
      · simp at hlt
      have hsr := hs'.upd hu hd
      have e0 : wr.cell? ⟨b, off + k, none⟩ = some (.int .u64 (n : Int)) := (World.cell?_of_block (hu.block b hbl (hd b rfl))).trans (by simpa [nEnc] using hc k n hn 0 _ rfl)
      have HN := Lib.hid hn
      have HNR := Lib.hid hnr
      clear hn hnr hc hsr
      by_cases he : err = 0
      · subst he
        have hbl' := numB_len (err := 0) (bs := bs) (ns.take k) (fun m hm => hns m (List.mem_of_mem_take hm))
        have htl : (ns.take k).length ≤ ns.length := by simp; omega
        obtain ⟨A', n', c', hv'⟩ := (Owns.slIn bEncOk hw.2.2).shape
        subst hv'
        go_wp2_with fail
        refine (putVar_any _ _ n _ (by omega) HNR.out (Owns.slIn bEncOk hw.2.2)).mono ?_
        rintro e w1 ⟨u, rfl, ho, hn1⟩
        obtain ⟨A1, n1', c1', hu1⟩ := (Owns.slIn bEncOk ho).shape
        subst hu1
        have hw1 := hw.new hn1
        obtain ⟨hg1, d0, d1, hz1⟩ := hw1.facts
        go_wp2_with fail
        go_roundw
        case rel =>
          refine ⟨k + 1, _, by omega, by go_num, ⟨h.1, hw1.2.1.set_ 0 _, ?_⟩, (hu.transNew hn1).setCell (fun _ => .inl rfl) _, Fr.trans hf (Fr.new ho) hu.size⟩
          rw [numB_snoc rfl HN.out]
          exact (ho.lower (by have := h.1; omega)).setFar (ho.ne_blk hw1.2.1 (by decide)) _
        case measure => simp [intOf]; omega
      · have hne : ((err : Int) == 0) = false := by simpa using he
        go_wp2_with fail
        go_roundw
        case rel => exact ⟨k + 1, v', by omega, by go_num, by rw [numB_bad (ns' := ns.take k) he]; exact hw, hu, hf⟩
        case measure => simp [intOf]; omega
    · have hlt' : ¬ (k : Int) < (ns.length : Int) := by omega
      have hke : ns.take k = ns := List.take_of_length_le (by omega)
      rw [hke] at hw
      go_wp2_with fail
      go_end0
      exact ⟨v', rfl, hw, hu, hf⟩
def sEnc (s : ByteArray) : List Value := [.string s]
theorem sEncOk : Enc sEnc 1 := fun _ => ⟨rfl, by simp [sEnc, Value.oneCell']⟩

/-- What one text makes of the bytes and of what went wrong. -/
def textS (st : List UInt8 × Int) (s : ByteArray) : List UInt8 × Int := if st.2 = 0 then if 65536 < s.size then (st.1, 32) else (st.1 ++ varB s.size ++ s.data.toList, 0) else st
def textB (st : List UInt8 × Int) (ss : List ByteArray) : List UInt8 × Int := ss.foldl textS st
theorem textB_snoc {st : List UInt8 × Int} {ss : List ByteArray} {k : Nat} {x : ByteArray} (h : ss[k]? = some x) : textB st (ss.take (k + 1)) = textS (textB st (ss.take k)) x := by
  obtain ⟨hk, rfl⟩ := List.getElem?_eq_some_iff.1 h
  unfold textB
  rw [List.take_succ_eq_append_getElem hk, List.foldl_append]
  rfl
theorem textS_len (st : List UInt8 × Int) (s : ByteArray) : (textS st s).1.length ≤ st.1.length + 65546 := by
  unfold textS
  split
  · split
    · simp
    · rename_i h
      have := varB_len10 (n := s.size) (by omega)
      simp only [List.length_append, strLen]
      omega
  · omega
theorem textB_len : ∀ (ss : List ByteArray) (st : List UInt8 × Int), (textB st ss).1.length ≤ st.1.length + 65546 * ss.length
  | [], st => by simp [textB]
  | s :: ss, st => by
    have h1 := textS_len st s
    have h2 := textB_len ss (textS st s)
    simp only [textB, List.foldl_cons, List.length_cons] at *
    omega

set_option maxRecDepth 100000 in
set_option maxHeartbeats 4000000 in
theorem text_any (base g : Nat) (v : Value) (bs : List UInt8) (err : Int) (vs : Value) (ss : List ByteArray) (w : World) (h : WrAt w base g v bs err) (hs : SlIn w 1 sEnc vs ss) (hd : ∀ k, vs.ownBlock = some k → ¬ WrS g v k)
    (hb : bs.length + 65546 * ss.length ≤ 90000000) (hns : ∀ s ∈ ss, s.size ≤ maxLen) :
    Calls Tryz.prog 45 #[.pointer (some ⟨g, 0, none⟩), vs] w (PutPost w base g v (textB (bs, err) ss).1 (textB (bs, err) ss).2) := by
  have hs' := hs
  obtain ⟨A, c, rfl, hlc, hh⟩ := hs
  have hg0 := h.2.1.lt
  go_enter Tryz.func45, Tryz.ntmps45
  go_wp2_with fail
  go_loopw [5, 8] (fun _ i wr => ∃ (k : Nat) (v' : Value), k ≤ ss.length ∧ i = .int .i64 k ∧ WrAt wr base g v' (textB (bs, err) (ss.take k)).1 (textB (bs, err) (ss.take k)).2 ∧ Upd (WrS g v) w wr ∧ Fr w v v') (fun _ i _ => ss.length - (intOf i).toNat)
  case atStart => exact ⟨0, v, by omega, rfl, h, Upd.refl _ _, Fr.refl _ _⟩
  case round =>
    obtain ⟨k, v', hk, rfl, hw, hu, hf⟩ := hrel
    by_cases hlt : k < ss.length
    · have hlt' : (k : Int) < (ss.length : Int) := by omega
      have hk0 : (0 : Int) ≤ (k : Int) := by omega
      obtain ⟨x, hx⟩ : ∃ n, ss[k]? = some n := ⟨_, List.getElem?_eq_getElem hlt⟩
      have hxr := hns x (List.mem_of_getElem? hx)
      unfold maxLen at hxr
      rcases hh with rfl | ⟨b, off, rfl, hbl, hc⟩
      · simp at hlt
      have e0 : wr.cell? ⟨b, off + k, none⟩ = some (.string x) := (World.cell?_of_block (hu.block b hbl (hd b rfl))).trans (by simpa [sEnc] using hc k x hx 0 _ rfl)
      have hsn := textB_snoc (st := (bs, err)) hx
      have htl := textB_len (ss.take k) (bs, err)
      have htk : (ss.take k).length = k := by simp; omega
      rw [htk] at htl
      generalize textB (bs, err) (ss.take k) = st at *
      obtain ⟨bk, ek⟩ := st
      simp only at hw htl
      obtain ⟨hg, c0, c1, hz⟩ := hw.facts
      have HSN := Lib.hid hsn
      clear hx hc hsn htk
      obtain ⟨A', n', c', hv'⟩ := (Owns.slIn bEncOk hw.2.2).shape
      subst hv'
      have hbase : base ≤ wr.heap.size := by have := hw.1; omega
      have hbn : b ≠ g := fun e => hd b rfl (.inl e)
      by_cases he : ek = 0
      · subst he
        by_cases hbig : 65536 < x.size
        · have hbig' : (65536 : Int) < (x.size : Int) := by omega
          have hS : textS (bk, 0) x = (bk, 32) := by simp [textS, hbig]
          have HS := Lib.hid hS
          clear hS
          have hw1 : WrAt (wr.setCell ⟨g, 1, none⟩ (.int .i64 32)) base g (.slice A' n' c') bk 32 := ⟨hw.1, hw.2.1.set_ 1 _, hw.2.2.setFar (hw.2.2.ne_blk hw.2.1 (by decide)) _⟩
          go_wp2_with fail
          refine (num_any base g (.slice A' n' c') bk 32 _ [x.size] _ (hw1.new ((New.refl _).alloc _)) (SlIn.one (blk_new_set _ _ _ _ _) nEncOk rfl) (fun i hi => hw.fresh (by simp [Value.ownBlock] at hi; omega)) (by omega) (by simp; omega) (by simp)).mono ?_
          rintro e w2 ⟨v2, rfl, hw2, hu2, hf2⟩
          rw [show numB 32 bk [x.size] = bk from rfl] at hw2
          obtain ⟨hg2, d0, d1, hz2⟩ := hw2.facts
          go_wp2_with fail
          go_roundw
          case rel =>
            refine ⟨k + 1, v2, by omega, by go_num, by rw [HSN.out, HS.out]; exact hw2, ?_, Fr.trans hf hf2 (by have := hu.size; simp; omega)⟩
            exact ((hu.setCell (fun _ => .inl rfl) _).alloc _).trans hu2 (WrS.back hf)
          case measure => simp [intOf]; omega
        · have hbig' : ¬ (65536 : Int) < (x.size : Int) := by omega
          have hS : textS (bk, 0) x = (bk ++ varB x.size ++ x.data.toList, 0) := by simp [textS, hbig]
          have HS := Lib.hid hS
          have hv10 := varB_len10 (n := x.size) (by omega)
          have hm : (bk ++ varB x.size).length + x.size ≤ 1000000000000 := by simp only [List.length_append]; omega
          have HM := Lib.hid hm
          clear hS hm
          go_wp2_with fail
          refine (num_any base g (.slice A' n' c') bk 0 _ [x.size] _ (hw.new ((New.refl _).alloc _)) (SlIn.one (Blk.mk_new _ _ _) nEncOk rfl) (fun i hi => hw.fresh (by simp [Value.ownBlock] at hi; omega)) (by omega) (by simp; omega) (by simp)).mono ?_
          rintro e w2 ⟨v2, rfl, hw2, hu2, hf2⟩
          rw [show numB 0 bk [x.size] = bk ++ varB x.size from by simp [numB]] at hw2
          obtain ⟨hg2, d0, d1, hz2⟩ := hw2.facts
          obtain ⟨A2, n2, c2, hv2⟩ := (Owns.slIn bEncOk hw2.2.2).shape
          subst hv2
          have hbase2 : base ≤ w2.heap.size := by have := hw2.1; omega
          go_wp2_with (at_builtin; refine wpList_app_str rfl (.tmp 40) (.tmp 41) rfl rfl rfl hw2.2.2 HM.out hbase2 ?_; intro v3 w3 ho3 hg3 hf3; obtain ⟨A3, n3, c3, hv3⟩ := (Owns.slIn bEncOk ho3).shape; subst hv3; have hbk3 := hw2.2.1.grown hg3 (fun e => hw2.2.2.ne_blk hw2.2.1 (by decide) e.symm); have k0 := hbk3.cell 0; have kz := hbk3.frozen; simp at k0; have kg := hbk3.lt)
          go_roundw
          case rel =>
            refine ⟨k + 1, .slice A3 n3 c3, by omega, by go_num, ?_, ?_, ?_⟩
            · rw [HSN.out, HS.out]
              exact ⟨hw2.1, hbk3.set_ 0 _, ho3.setFar (ho3.ne_blk hbk3 (by decide)) _⟩
            · have hu2' : Upd (WrS g v) w w2 := (hu.alloc _).trans hu2 (WrS.back hf)
              refine (hu2'.grown hg3 (fun i hi he => ?_)).setCell (fun _ => .inl rfl) _
              exact WrS.back (g := g) (Fr.trans hf hf2 (by have := hu.size; simp; omega)) i hi (.inr he)
            · refine Fr.trans (Fr.trans hf hf2 (by have := hu.size; simp; omega)) (w1 := w2) (fun i hi => ?_) (by have := hu.size; have := hu2.size; simp at this; omega)
              rcases hf3 with h3 | h3
              · exact .inl (h3 ▸ hi)
              · rw [h3] at hi; injection hi with hi; exact .inr (by omega)
          case measure => simp [intOf]; omega
      · have hne : ((ek : Int) == 0) = false := by simpa using he
        have hS : textS (bk, ek) x = (bk, ek) := by simp [textS, he]
        have HS := Lib.hid hS
        clear hS
        by_cases hbig : 65536 < x.size
        · have hbig' : (65536 : Int) < (x.size : Int) := by omega
          go_wp2_with fail
          refine (num_any base g (.slice A' n' c') bk ek _ [x.size] _ (hw.new ((New.refl _).alloc _)) (SlIn.one (Blk.mk_new _ _ _) nEncOk rfl) (fun i hi => hw.fresh (by simp [Value.ownBlock] at hi; omega)) (by omega) (by simp; omega) (by simp)).mono ?_
          rintro e w2 ⟨v2, rfl, hw2, hu2, hf2⟩
          rw [show numB ek bk [x.size] = bk from by simp [numB, he]] at hw2
          obtain ⟨hg2, d0, d1, hz2⟩ := hw2.facts
          go_wp2_with fail
          go_roundw
          case rel => exact ⟨k + 1, v2, by omega, by go_num, by rw [HSN.out, HS.out]; exact hw2, (hu.alloc _).trans hu2 (WrS.back hf), Fr.trans hf hf2 (by have := hu.size; simp; omega)⟩
          case measure => simp [intOf]; omega
        · have hbig' : ¬ (65536 : Int) < (x.size : Int) := by omega
          go_wp2_with fail
          refine (num_any base g (.slice A' n' c') bk ek _ [x.size] _ (hw.new ((New.refl _).alloc _)) (SlIn.one (Blk.mk_new _ _ _) nEncOk rfl) (fun i hi => hw.fresh (by simp [Value.ownBlock] at hi; omega)) (by omega) (by simp; omega) (by simp)).mono ?_
          rintro e w2 ⟨v2, rfl, hw2, hu2, hf2⟩
          rw [show numB ek bk [x.size] = bk from by simp [numB, he]] at hw2
          obtain ⟨hg2, d0, d1, hz2⟩ := hw2.facts
          go_wp2_with fail
          go_roundw
          case rel => exact ⟨k + 1, v2, by omega, by go_num, by rw [HSN.out, HS.out]; exact hw2, (hu.alloc _).trans hu2 (WrS.back hf), Fr.trans hf hf2 (by have := hu.size; simp; omega)⟩
          case measure => simp [intOf]; omega
    · have hlt' : ¬ (k : Int) < (ss.length : Int) := by omega
      have hke : ss.take k = ss := List.take_of_length_le (by omega)
      rw [hke] at hw
      obtain ⟨hg, c0, c1, hz⟩ := hw.facts
      go_wp2_with fail
      go_end0
      exact ⟨v', rfl, hw, hu, hf⟩
def flagN (b : Bool) : Nat := if b then 1 else 0
theorem flagN_lt (b : Bool) : flagN b < 18446744073709551616 := by cases b <;> decide

set_option maxRecDepth 100000 in
set_option maxHeartbeats 1000000 in
theorem flag_any (base g : Nat) (v : Value) (bs : List UInt8) (err : Int) (yes : Bool) (w : World) (h : WrAt w base g v bs err) (hb : bs.length ≤ 90000000) :
    Calls Tryz.prog 90 #[.pointer (some ⟨g, 0, none⟩), .bool yes] w (PutPost w base g v (numB err bs [flagN yes]) err) := by
  cases yes with
  | false =>
    go_enter Tryz.func90, Tryz.ntmps90
    go_wp2_with fail
    refine (num_any base g v bs err _ [0] _ (h.new ((New.refl _).alloc _)) (SlIn.one (x := 0) (Blk.mk_new w 22 #[.int .u64 0]) nEncOk rfl) (fun i hi => h.fresh (by simp [Value.ownBlock] at hi; omega)) (by omega) (by simp) (by simp)).mono ?_
    rintro e w2 ⟨v2, rfl, hw2, hu2, hf2⟩
    go_wp2_with fail
    go_end0
    exact ⟨v2, rfl, hw2, ((Upd.refl _ _).alloc _).trans hu2 (fun _ _ h => h), fun i hi => by rcases hf2 i hi with h1 | h1; exact .inl h1; exact .inr (by simp at h1; omega)⟩
  | true =>
    go_enter Tryz.func90, Tryz.ntmps90
    go_wp2_with fail
    refine (num_any base g v bs err _ [1] _ (h.new ((New.refl _).alloc _)) (SlIn.one (x := 1) (Blk.mk_new w 22 #[.int .u64 1]) nEncOk rfl) (fun i hi => h.fresh (by simp [Value.ownBlock] at hi; omega)) (by omega) (by simp) (by simp)).mono ?_
    rintro e w2 ⟨v2, rfl, hw2, hu2, hf2⟩
    go_wp2_with fail
    go_end0
    exact ⟨v2, rfl, hw2, ((Upd.refl _ _).alloc _).trans hu2 (fun _ _ h => h), fun i hi => by rcases hf2 i hi with h1 | h1; exact .inl h1; exact .inr (by simp at h1; omega)⟩

/-- What Bytes answers. -/
def BytesPost (w : World) (bs : List UInt8) (err : Int) (e : Ending) (w' : World) : Prop :=
  ∃ u, e = .returned (.tuple #[u, .int .i64 err]) ∧ (if err = 0 then Owns w' w.heap.size 5 1 bEnc u bs else u = .slice none 0 0) ∧ New w w'

set_option maxRecDepth 100000 in
set_option maxHeartbeats 1000000 in
theorem wbytes_any (base g : Nat) (v : Value) (bs : List UInt8) (err : Int) (w : World) (h : WrAt w base g v bs err) (hb : bs.length ≤ 1000000000) :
    Calls Tryz.prog 91 #[.pointer (some ⟨g, 0, none⟩)] w (BytesPost w bs err) := by
  obtain ⟨hg, c0, c1, hz⟩ := h.facts
  by_cases he : err = 0
  · subst he
    have hm1 : ([] : List UInt8).length + bs.length ≤ maxLen := by simp [maxLen]; omega
    have hm2 : (([] : List UInt8).length + bs.length) * 1 ≤ 140737488355328 := by simp; omega
    have HM1 := Lib.hid hm1
    have HM2 := Lib.hid hm2
    clear hm1 hm2
    obtain ⟨A', n', c', hv'⟩ := (Owns.slIn bEncOk h.2.2).shape
    subst hv'
    have hsl := Owns.slIn bEncOk h.2.2
    go_enter Tryz.func91, Tryz.ntmps91
    go_wp2_with (at_builtin; have ho0 : Owns _ w.heap.size 5 1 bEnc _ ([] : List UInt8) := World.ownsRow_made (base := w.heap.size) (e := 5) (size := 1) w #[] 0 (Nat.le_refl _) (by simp) (by simp); refine wpList_app bTy bEncOk rfl (.tmp 13) (.tmp 17) rfl rfl rfl ho0 (hsl.alloc _) HM1.out HM2.out (by simp) ?_; intro v1 w1 ho1 hg1 _)
    go_ret2
    exact ⟨v1, rfl, ho1, ((New.refl w).alloc _).grown hg1 (fun k hk => ho0.blockGe k hk)⟩
  · have hne : ((err : Int) != 0) = true := by simpa using he
    go_enter Tryz.func91, Tryz.ntmps91
    go_wp2_with fail
    go_quiet (fail)
    go_wp2_with fail
    go_ret2
    exact ⟨.slice none 0 0, rfl, by rw [if_neg he], (New.refl _).drewN _⟩
end Go.Proofs.YtlhlcdjkacglnaaGreatDoor
/- Chapter 5 (batch): Find, Meets, and the document's. Printed by genBat3.py. -/
namespace Go.Proofs.YtlhlcdjkacglnaaGreatDoor
open Go.RowKit Go.Lap
set_option linter.unusedVariables false

/-- Is a write one of a key? -/
def keyEq (x : Wri) (key : ByteArray) : Bool := decide (x.key.toList = key.toList)
/-- The place of the first write of a key, from a place on; below 0: there is none. -/
def idxFrom (key : ByteArray) : Nat → List Wri → Int
  | _, [] => -1
  | i, x :: l => if keyEq x key = true then (i : Int) else idxFrom key (i + 1) l
end Go.Proofs.YtlhlcdjkacglnaaGreatDoor
