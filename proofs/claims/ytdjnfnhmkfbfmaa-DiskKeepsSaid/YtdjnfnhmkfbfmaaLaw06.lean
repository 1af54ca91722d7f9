/- Chapter 6 (disk), the laws' own functions: few, do. -/
import Derived.Test.YtdjnfnhmkfbfmaaDk7
import Derived.Test.YtdjnfnhmkfbfmaaCv
namespace Go.Proofs.Ytdjnfnhmkfbfmaa
open Go.RowKit Go.Lap
set_option linter.unusedVariables false

/-- An act as it lies in memory. -/
structure Ac where
  kind : Int
  at_ : Int
  b : ByteArray
  u : Value
def acE (x : Ac) : List Value := [.int .i64 x.kind, .int .i64 x.at_, .string x.b, x.u]
def SvOk (w : World) (u : Value) (n : Nat) : Prop := ∃ l : List (Int × Int), SlIn w 2 svE u l ∧ l.length ≤ n ∧ ∀ x ∈ l, okI x.1 ∧ okI x.2
theorem SvOk.new {w w' : World} {u : Value} {n : Nat} (h : SvOk w u n) (hn : New w w') : SvOk w' u n := let ⟨l, h1, h2⟩ := h; ⟨l, h1.new hn, h2⟩
/-- One that may be done. -/
def Ac.fine (x : Ac) (w : World) : Prop := okI x.at_ ∧ x.b.size ≤ 600 ∧ SvOk w x.u 60
def FewPost (w : World) (a : Ac) (e : Ending) (w' : World) : Prop := ∃ a' : Ac, e = .returned (.agg #[.int .i64 a'.kind, .int .i64 a'.at_, .string a'.b, a'.u]) ∧ a'.kind = a.kind ∧ a'.at_ = a.at_ ∧ a'.fine w' ∧ New w w'
theorem Blk4A {w : World} {g t : Nat} {a b c d : Value} (h : Blk w g t #[a, b, c, d]) : g < w.heap.size ∧ w.cell? ⟨g, 0, none⟩ = some a ∧ w.cell? ⟨g, 1, none⟩ = some b ∧ w.cell? ⟨g, 2, none⟩ = some c ∧ w.cell? ⟨g, 3, none⟩ = some d ∧ (∀ i, w.frozen? ⟨g, i, none⟩ = false) := ⟨h.lt, h.cell 0, h.cell 1, h.cell 2, h.cell 3, h.frozen⟩

set_option maxRecDepth 100000 in
set_option maxHeartbeats 4000000 in
theorem few_any (a : Ac) (w : World) (hat : okI a.at_) (hb : a.b.size ≤ maxLen) (hu : SvOk w a.u maxLen) : Calls Try.prog 31 #[.agg #[.int .i64 a.kind, .int .i64 a.at_, .string a.b, a.u]] w (FewPost w a) := by
  obtain ⟨k, t, b, u⟩ := a
  obtain ⟨l, hs, hl, hw⟩ := hu
  obtain ⟨A, c, hv, hc, hor⟩ := id hs
  simp only at hv hat hb
  subst hv
  unfold maxLen at hl hb
  have hlen : b.toList.length = b.size := by rw [ByteArray.toList_eq]; exact Array.length_toList
  have hB1 := Blk.mk_new w 59 #[.int .i64 k, .int .i64 t, .string b, .slice A l.length c]
  have hB1' := hB1.alloc (.cells #[.int .i64 0, .int .i64 0, .string ⟨#[]⟩, .slice none 0 0] 59)
  have hB2 := Blk.mk_new (w.alloc (.cells #[.int .i64 k, .int .i64 t, .string b, .slice A l.length c] 59)) 59 #[.int .i64 0, .int .i64 0, .string ⟨#[]⟩, .slice none 0 0]
  rw [World.size_alloc] at hB2
  have hN := ((New.refl w).alloc (.cells #[.int .i64 k, .int .i64 t, .string b, .slice A l.length c] 59)).alloc (.cells #[.int .i64 0, .int .i64 0, .string ⟨#[]⟩, .slice none 0 0] 59)
  obtain ⟨p0, p1, p2, p3, p4, pz⟩ := Blk4A hB1'
  obtain ⟨q0, q1, q2, q3, q4, qz⟩ := Blk4A hB2
  by_cases h1 : 600 < b.size
  · have h1' : (600 : Int) < (b.size : Int) := by omega
    have HSZ := Lib.hid (show (b.extract 0 600).size ≤ 600 by rw [ByteArray.size_extract]; omega)
    by_cases h2 : 60 < l.length
    · have h2' : (60 : Int) < (l.length : Int) := by omega
      have hC := Blk.mk_new (w.alloc (.cells #[.int .i64 k, .int .i64 t, .string (b.extract 0 600), (.slice A 60 c)] 59)) 59 #[.int .i64 k, .int .i64 t, .string (b.extract 0 600), (.slice A 60 c)]
      rw [World.size_alloc] at hC
      obtain ⟨r0, r1, r2, r3, r4, rz⟩ := Blk4A hC
      have hNC := ((New.refl w).alloc (.cells #[.int .i64 k, .int .i64 t, .string (b.extract 0 600), (.slice A 60 c)] 59)).alloc (.cells #[.int .i64 k, .int .i64 t, .string (b.extract 0 600), (.slice A 60 c)] 59)
      go_enter Try.func31, Try.ntmps31
      go_wp2_with fail
      refine bodyPost_ret (v := .agg #[.int .i64 k, .int .i64 t, .string (b.extract 0 600), (.slice A 60 c)]) (by simp [results, Try.results31, go_sem, r1, r2, r3, r4]) rfl ?_
      exact ⟨⟨k, t, (b.extract 0 600), (.slice A 60 c)⟩, rfl, rfl, rfl, ⟨hat, HSZ.out, ⟨l.take 60, (hs.new hNC).take (by omega) (by omega), by rw [List.length_take]; omega, fun x hx => hw x (List.mem_of_mem_take hx)⟩⟩, hNC⟩
    · have h2' : ¬ (60 : Int) < (l.length : Int) := by omega
      have hC := Blk.mk_new (w.alloc (.cells #[.int .i64 k, .int .i64 t, .string (b.extract 0 600), (.slice A l.length c)] 59)) 59 #[.int .i64 k, .int .i64 t, .string (b.extract 0 600), (.slice A l.length c)]
      rw [World.size_alloc] at hC
      obtain ⟨r0, r1, r2, r3, r4, rz⟩ := Blk4A hC
      have hNC := ((New.refl w).alloc (.cells #[.int .i64 k, .int .i64 t, .string (b.extract 0 600), (.slice A l.length c)] 59)).alloc (.cells #[.int .i64 k, .int .i64 t, .string (b.extract 0 600), (.slice A l.length c)] 59)
      go_enter Try.func31, Try.ntmps31
      go_wp2_with fail
      refine bodyPost_ret (v := .agg #[.int .i64 k, .int .i64 t, .string (b.extract 0 600), (.slice A l.length c)]) (by simp [results, Try.results31, go_sem, r1, r2, r3, r4]) rfl ?_
      exact ⟨⟨k, t, (b.extract 0 600), (.slice A l.length c)⟩, rfl, rfl, rfl, ⟨hat, HSZ.out, ⟨l, hs.new hNC, by omega, hw⟩⟩, hNC⟩
  · have h1' : ¬ (600 : Int) < (b.size : Int) := by omega
    by_cases h2 : 60 < l.length
    · have h2' : (60 : Int) < (l.length : Int) := by omega
      have hC := Blk.mk_new (w.alloc (.cells #[.int .i64 k, .int .i64 t, .string b, (.slice A 60 c)] 59)) 59 #[.int .i64 k, .int .i64 t, .string b, (.slice A 60 c)]
      rw [World.size_alloc] at hC
      obtain ⟨r0, r1, r2, r3, r4, rz⟩ := Blk4A hC
      have hNC := ((New.refl w).alloc (.cells #[.int .i64 k, .int .i64 t, .string b, (.slice A 60 c)] 59)).alloc (.cells #[.int .i64 k, .int .i64 t, .string b, (.slice A 60 c)] 59)
      go_enter Try.func31, Try.ntmps31
      go_wp2_with fail
      refine bodyPost_ret (v := .agg #[.int .i64 k, .int .i64 t, .string b, (.slice A 60 c)]) (by simp [results, Try.results31, go_sem, r1, r2, r3, r4]) rfl ?_
      exact ⟨⟨k, t, b, (.slice A 60 c)⟩, rfl, rfl, rfl, ⟨hat, (by show b.size ≤ 600; omega), ⟨l.take 60, (hs.new hNC).take (by omega) (by omega), by rw [List.length_take]; omega, fun x hx => hw x (List.mem_of_mem_take hx)⟩⟩, hNC⟩
    · have h2' : ¬ (60 : Int) < (l.length : Int) := by omega
      have hC := Blk.mk_new (w.alloc (.cells #[.int .i64 k, .int .i64 t, .string b, (.slice A l.length c)] 59)) 59 #[.int .i64 k, .int .i64 t, .string b, (.slice A l.length c)]
      rw [World.size_alloc] at hC
      obtain ⟨r0, r1, r2, r3, r4, rz⟩ := Blk4A hC
      have hNC := ((New.refl w).alloc (.cells #[.int .i64 k, .int .i64 t, .string b, (.slice A l.length c)] 59)).alloc (.cells #[.int .i64 k, .int .i64 t, .string b, (.slice A l.length c)] 59)
      go_enter Try.func31, Try.ntmps31
      go_wp2_with fail
      refine bodyPost_ret (v := .agg #[.int .i64 k, .int .i64 t, .string b, (.slice A l.length c)]) (by simp [results, Try.results31, go_sem, r1, r2, r3, r4]) rfl ?_
      exact ⟨⟨k, t, b, (.slice A l.length c)⟩, rfl, rfl, rfl, ⟨hat, (by show b.size ≤ 600; omega), ⟨l, hs.new hNC, by omega, hw⟩⟩, hNC⟩

/-- What an act may make of a disk. -/
inductive Acts (kind at_ : Int) (D : Dk) : Int → Dk → Prop where
  | write (bs : List UInt8) : kind = 0 → Acts kind at_ D (writeR D at_ bs.length) (writeD D at_ bs)
  | free : kind = 1 → Acts kind at_ D (freeR D at_) (freeD D at_)
  | sync : kind = 2 → Acts kind at_ D 0 (syncD D)
  | crash (l : List (Int × Int)) : kind = 3 → Acts kind at_ D 0 (crashD D l)
  | limit : kind = 4 → Acts kind at_ D 0 { D with limit := at_ }
  | none : kind ≠ 0 → kind ≠ 1 → Acts kind at_ D 0 D
theorem DkPost.trans0 {w w1 w2 : World} {d vm gm : Nat} {u : Value} {D' : Dk} (hn : New w w1) (h : DkPost w1 d vm gm u D' w2) : DkPost w d vm gm u D' w2 := by
  obtain ⟨vm', gm', u', h1, h2, h3⟩ := h
  exact ⟨vm', gm', u', h1, fun k hk => (h2 k hk).imp id (fun h => Nat.le_trans hn.size h), (Upd.new hn).trans h3 (fun _ _ h => h)⟩
def DoPost (w : World) (d vm gm : Nat) (u : Value) (D : Dk) (a : Ac) (e : Ending) (w' : World) : Prop := ∃ r D', e = .returned (.int .i64 r) ∧ DkPost w d vm gm u D' w' ∧ Acts a.kind a.at_ D r D'
set_option maxRecDepth 100000 in
set_option maxHeartbeats 4000000 in
theorem do6_any (a : Ac) {d vm gm : Nat} {u : Value} {D : Dk} (w : World) (h : DkAt w d vm gm u D) (ha : a.fine w) (hL : D.L.length ≤ 100000) : Calls Try.prog 30 #[.pointer (some ⟨d, 0, none⟩), .agg #[.int .i64 a.kind, .int .i64 a.at_, .string a.b, a.u]] w (DoPost w d vm gm u D a) := by
  obtain ⟨k, t, b, v⟩ := a
  obtain ⟨hat, hb, l, hs, hl, hw⟩ := ha
  obtain ⟨A, c, hv, hc, hor⟩ := id hs
  simp only at hv hat hb
  subst hv
  have hB1 := Blk.mk_new w 59 #[.int .i64 k, .int .i64 t, .string b, .slice A l.length c]
  have hN := (New.refl w).alloc (.cells #[.int .i64 k, .int .i64 t, .string b, .slice A l.length c] 59)
  obtain ⟨p0, p1, p2, p3, p4, pz⟩ := Blk4A hB1
  have h1 := h.new hN
  have HN := Lib.hid hN
  have HS := Lib.hid hs
  have HOR := Lib.hid hor
  clear hN hor hs
  by_cases k0 : k = 0
  · subst k0
    obtain ⟨vb, wb, hrun, hslb, hnb⟩ := run_bytesP b (w.alloc (.cells #[.int .i64 0, .int .i64 t, .string b, .slice A l.length c] 59))
    have hlen : b.data.toList.length = b.size := Array.length_toList
    go_enter Try.func30, Try.ntmps30
    go_wp2_with fail
    refine (dwrite _ (h1.new hnb) t hat hslb (by omega) hL).mono ?_
    rintro e w2 ⟨rfl, hp⟩
    go_wp2_with fail
    go_ret
    exact ⟨_, _, rfl, hp.trans0 (HN.out.trans hnb), .write _ rfl⟩
  by_cases k1 : k = 1
  · subst k1
    go_enter Try.func30, Try.ntmps30
    go_wp2_with fail
    refine (dfree _ h1 t hat hL).mono ?_
    rintro e w2 ⟨rfl, hp⟩
    go_wp2_with fail
    go_ret
    exact ⟨_, _, rfl, hp.trans0 HN.out, .free rfl⟩
  by_cases k2 : k = 2
  · subst k2
    go_enter Try.func30, Try.ntmps30
    go_wp2_with fail
    refine (dsync _ h1).mono ?_
    rintro e w2 ⟨rfl, hp⟩
    go_wp2_with fail
    go_ret
    exact ⟨_, _, rfl, hp.trans0 HN.out, .sync rfl⟩
  by_cases k3 : k = 3
  · subst k3
    have ho0 : Owns ((w.alloc (.cells #[.int .i64 3, .int .i64 t, .string b, .slice A l.length c] 59)).alloc (.cells #[] 71)) w.heap.size 71 2 svE (.slice (some ⟨(w.alloc (.cells #[.int .i64 3, .int .i64 t, .string b, .slice A l.length c] 59)).heap.size, 0, none⟩) 0 0) ([] : List (Int × Int)) := World.ownsRow_made _ #[] 0 (by simp) (by unfold maxLen; omega) rfl
    rw [World.size_alloc] at ho0
    have hs2 := HS.out.new (HN.out.alloc (.cells #[] 71))
    have hz2 := (HN.out.alloc (.cells #[] 71)).size
    have HM1 := Lib.hid (show ([] : List (Int × Int)).length + l.length ≤ maxLen by unfold maxLen; simp; omega)
    have HM2 := Lib.hid (show (([] : List (Int × Int)).length + l.length) * 16 ≤ 140737488355328 by simp; omega)
    go_enter Try.func30, Try.ntmps30
    go_wp2_with (at_builtin; refine wpList_app svTy svEOk rfl _ _ rfl rfl rfl ho0 hs2 HM1.out HM2.out hz2 ?_; intro v2 w2 ho2 hg2 hb2; have HN2 : New w w2 := (HN.out.alloc _).grown hg2 (fun k hk => ho0.blockGe k hk); rw [List.nil_append] at ho2; obtain ⟨A2, cp2, hv2, -, -⟩ := Owns.slIn svEOk ho2; subst hv2)
    refine (dcrash _ (h.new HN2) (Owns.slIn svEOk ho2) (by omega) hw hL).mono ?_
    rintro e w3 ⟨rfl, hp⟩
    go_wp2_with fail
    go_ret
    exact ⟨_, _, rfl, hp.trans0 HN2, .crash _ rfl⟩
  by_cases k4 : k = 4
  · subst k4
    go_enter Try.func30, Try.ntmps30
    go_wp2_with fail
    refine (dlimit _ h1 t hat).mono ?_
    rintro e w2 ⟨rfl, hp⟩
    go_wp2_with fail
    go_ret
    exact ⟨_, _, rfl, hp.trans0 HN.out, .limit rfl⟩
  go_enter Try.func30, Try.ntmps30
  go_wp2_with fail
  go_ret
  exact ⟨_, _, rfl, h.same HN.out, .none k0 k1⟩
end Go.Proofs.Ytdjnfnhmkfbfmaa
