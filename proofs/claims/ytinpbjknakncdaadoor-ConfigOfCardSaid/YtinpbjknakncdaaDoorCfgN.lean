/- Chapter 23 (config): a configuration's bytes: the program's and the document's. Printed by genCfg.py. -/
import Derived.Test.YtinpbjknakncdaaDoorCfgE
import Derived.Test.YtinpbjknakncdaaDoorRef03
namespace Go.Proofs.YtinpbjknakncdaaDoor
open Go.RowKit Go.Lap
set_option linter.unusedVariables false

def encM (l : List Int) : List UInt8 := l.flatMap fun n => varB n.toNat
def encC (c : Cfg) : List UInt8 := varB c.e ++ varB c.ms.length ++ encM c.ms
theorem encM_snoc {l : List Int} {k : Nat} {x : Int} (h : l[k]? = some x) : encM (l.take (k + 1)) = encM (l.take k) ++ varB x.toNat := by rw [take_snocI h]; simp [encM]
theorem encM_len : ∀ l : List Int, (∀ n ∈ l, memB n = true) → (encM l).length ≤ l.length
  | [], _ => by simp [encM]
  | x :: l, h => by
    have h1 := encM_len l (fun n hn => h n (by simp [hn]))
    have hx := h x (by simp)
    simp only [memB, Bool.and_eq_true, decide_eq_true_eq] at hx
    have h2 : (varB x.toNat).length = 1 := by rw [varB_small (by omega)]; rfl
    simp only [encM, List.flatMap_cons, List.length_append, List.length_cons] at h1 ⊢
    omega
def BytesC (w : World) (c : Cfg) (e : Ending) (w' : World) : Prop := New w w' ∧
  ((chkC c = true ∧ ∃ u, e = .returned (.tuple #[u, .int .i64 0]) ∧ Owns w' w.heap.size 5 1 bEnc u (encC c)) ∨ (chkC c = false ∧ e = .returned (.tuple #[.slice none 0 0, .int .i64 230])))
/-- A writer in work: so many members are put. -/
def PutRelC (w2 : World) (c : Cfg) (k : Nat) (wr : World) : Prop := New w2 wr ∧ ∃ v, WrAt wr w2.heap.size w2.heap.size v (varB c.e ++ varB c.ms.length ++ encM (c.ms.take k)) 0

set_option maxRecDepth 100000 in
set_option maxHeartbeats 8000000 in
theorem cbytes_any (e : Nat) (v : Value) (ms : List Int) (w : World) (he : e < 18446744073709551616) (hl : ms.length ≤ 1000000000) (hs : SlIn w 1 iEnc v ms) :
    Calls Tryd.prog 29 #[.agg #[.int .u64 (e : Int), v]] w (BytesC w ⟨e, ms⟩) := by
  obtain ⟨A, m, cap, rfl⟩ := hs.shape
  obtain ⟨A', c', hv, hlc, -⟩ := id hs
  cases hv
  have HN0 := Lib.hid ((New.refl w).alloc (.cells #[.int .u64 (e : Int), .slice A ms.length cap] 25))
  have HB0 := Lib.hid (Blk.mk_new w 25 #[.int .u64 (e : Int), .slice A ms.length cap])
  have HS0 := Lib.hid hs
  have hl1 := varB_len10 he
  have hl2 := varB_len10 (n := ms.length) (by omega)
  have hchk := fun wx hx => check_any e (.slice A ms.length cap) ms wx hl hx
  clear hs
  go_enter Tryd.func29, Tryd.ntmps29
  cases hck : chkC ⟨e, ms⟩ with
  | false =>
    rw [hck] at hchk
    have HF := Lib.hid hck
    clear hck
    go_wp2_with fail
    refine (hchk _ (HS0.out.new HN0.out)).mono ?_
    rintro e1 w1 ⟨rfl, hn1⟩
    go_wp2_with fail
    go_ret2
    exact ⟨HN0.out.trans hn1, .inr ⟨HF.out, rfl⟩⟩
  | true =>
    rw [hck] at hchk
    have HF := Lib.hid hck
    clear hck
    go_wp2_with fail
    refine (hchk _ (HS0.out.new HN0.out)).mono ?_
    rintro e1 w1 ⟨rfl, hn1⟩
    obtain ⟨_, hela, hm1, hm7, hall, _⟩ := chk_parts HF.out
    dsimp only at hm1 hm7 hall hela
    have HALL := Lib.hid hall
    have hN1 := HN0.out.trans hn1
    have hB1 := HB0.out.new hn1
    have HN1 := Lib.hid hN1
    have HB1 := Lib.hid hB1
    clear hchk hn1 hN1 hall
    go_wp2_with fail
    refine (write_any w1).mono ?_
    rintro e1 w2 ⟨rfl, hw2, hn2⟩
    obtain ⟨p0, p1, p2, pz⟩ := Blk2F (HB1.out.new hn2)
    have hlw : IntKind.u64.wrap (ms.length : Int) = (ms.length : Int) := by rw [IntKind.wrap_u64]; omega
    have HNS := Lib.hid (show ∀ n ∈ [e, ms.length], n < 18446744073709551616 by simp; omega)
    go_wp2_with fail
    refine (num_any w1.heap.size w1.heap.size (.slice none 0 0) [] 0 _ [e, ms.length] _ (hw2.new ((New.refl w2).alloc _)) (SlIn.lit (l := [e, ms.length]) (Blk.mk_new w2 22 #[.int .u64 (e : Int), .int .u64 (ms.length : Int)]) nEncOk rfl (by simp)) (fun i hi => hw2.fresh (by simp [Value.ownBlock] at hi; omega)) (by simp) HNS.out (by simp)).mono ?_
    rintro e1 w3 ⟨v3, rfl, hw3, hu3, hf3⟩
    rw [show numB 0 [] [e, ms.length] = varB e ++ varB ms.length ++ encM (ms.take 0) by simp [numB, encM]] at hw3
    have hN3 : New w1 w3 := WrAt.step (hn2.alloc _) (hw2.new ((New.refl w2).alloc _)) hu3
    have HR3 : Hid (PutRelC w1 ⟨e, ms⟩ 0 w3) := Lib.hid ⟨hN3, v3, hw3⟩
    have hB3 := HB1.out.new hN3
    clear hw2 hn2 hw3 hu3 hf3 p0 p1 p2 pz hlw hN3
    obtain ⟨q0, q1, q2, qz⟩ := Blk2F hB3
    clear hB3
    go_wp2_with fail
    go_loopw [6, 23] (fun _ i wr => ∃ k : Nat, k ≤ ms.length ∧ i = .int .i64 k ∧ PutRelC w1 ⟨e, ms⟩ k wr) (fun _ i _ => ms.length - (intOf i).toNat)
    case atStart => exact ⟨0, by omega, rfl, HR3.out⟩
    case round =>
      clear q0 q1 q2 qz HR3
      obtain ⟨k, hk, rfl, hn, v4, hw4⟩ := hrel
      dsimp only at hw4
      by_cases hlt : k < ms.length
      · have hlt2 : (k : Int) < (ms.length : Int) := by omega
        have hk0 : (0 : Int) ≤ (k : Int) := by omega
        obtain ⟨A', c', hv, _, hh⟩ := HS0.out.new (HN1.out.trans hn)
        cases hv
        rcases hh with rfl | ⟨b, off, rfl, hbb, hc⟩
        · simp at hlt
        obtain ⟨x, hx⟩ : ∃ x, ms[k]? = some x := ⟨_, List.getElem?_eq_getElem hlt⟩
        have e0 := SlIn.int_at hc hx
        have hxm := HALL.out x (List.mem_of_getElem? hx)
        simp only [memB, Bool.and_eq_true, decide_eq_true_eq] at hxm
        obtain ⟨y, rfl⟩ : ∃ y : Nat, x = (y : Int) := ⟨x.toNat, by omega⟩
        have hy : y ≤ 63 := by omega
        have hyw : IntKind.u64.wrap (y : Int) = (y : Int) := by rw [IntKind.wrap_u64]; omega
        have HSN := Lib.hid (encM_snoc hx)
        have hlen := encM_len (ms.take k) (fun n hn => HALL.out n (List.mem_of_mem_take hn))
        rw [List.length_take] at hlen
        generalize hbs : varB e ++ varB ms.length ++ encM (ms.take k) = bs at hw4
        have hbl : bs.length ≤ 100 := by rw [← hbs, List.length_append, List.length_append]; omega
        have HBS := Lib.hid hbs
        clear hc hx hxm hlen hbs
        go_wp2_with fail
        refine (num_any w1.heap.size w1.heap.size v4 bs 0 _ [y] _ (hw4.new ((New.refl wr).alloc _)) (SlIn.one (x := y) (Blk.mk_new wr _ _) nEncOk rfl) (fun i hi => hw4.fresh (by simp [Value.ownBlock] at hi; omega)) (by omega) (by simp; omega) (by simp)).mono ?_
        rintro e1 w5 ⟨v5, rfl, hw5, hu5, hf5⟩
        rw [show numB 0 bs [y] = varB e ++ varB ms.length ++ encM (ms.take (k + 1)) by rw [HSN.out, ← List.append_assoc, HBS.out]; simp [numB]] at hw5
        have HN5 : Hid (PutRelC w1 ⟨e, ms⟩ (k + 1) w5) := Lib.hid ⟨WrAt.step (hn.alloc _) (hw4.new ((New.refl wr).alloc _)) hu5, v5, hw5⟩
        clear hw4 hw5 hu5 hf5 e0
        go_wp2_with fail
        go_roundw
        case rel => exact ⟨k + 1, by omega, by go_num, HN5.out⟩
        case measure => simp [intOf]; omega
      · have hlt2 : ¬ (k : Int) < (ms.length : Int) := by omega
        rw [List.take_of_length_le (by omega)] at hw4
        have hlen := encM_len ms HALL.out
        have HE := Lib.hid (show varB e ++ varB ms.length ++ encM ms = encC ⟨e, ms⟩ from rfl)
        have hbl : (varB e ++ varB ms.length ++ encM ms).length ≤ 1000 := by rw [List.length_append, List.length_append]; omega
        generalize varB e ++ varB ms.length ++ encM ms = bs at *
        clear hlen
        go_wp2_with fail
        refine (wbytes_any w1.heap.size w1.heap.size v4 bs 0 wr hw4 (by omega)).mono ?_
        rintro e1 w5 ⟨u, rfl, ho, hn5⟩
        rw [if_pos rfl] at ho
        have hN5 := HN1.out.trans hn
        go_wp2_with fail
        go_ret2
        exact ⟨hN5.trans hn5, .inl ⟨HF.out, u, rfl, by rw [← HE.out]; exact ho.lower hN5.size⟩⟩


def RBRel (c : Cfg) (k : Nat) (s : Value) (w wr : World) : Prop := s = .string (str (varB c.e ++ varB c.ms.length ++ encM (c.ms.take k))) ∧ New w wr

set_option maxRecDepth 100000 in
set_option maxHeartbeats 8000000 in
theorem refBytes_any (e : Nat) (v : Value) (ms : List Int) (w : World) (hck : chkC ⟨e, ms⟩ = true) (hs : SlIn w 1 iEnc v ms) :
    Calls Tryd.prog 30 #[.agg #[.int .u64 (e : Int), v]] w fun e' w' => e' = .returned (.string (str (encC ⟨e, ms⟩))) ∧ New w w' := by
  obtain ⟨A, m, cap, rfl⟩ := hs.shape
  obtain ⟨A', c', hv, hlc, -⟩ := id hs
  cases hv
  obtain ⟨_, hela, hm1, hm7, hall, _⟩ := chk_parts hck
  dsimp only [lastE] at hm1 hm7 hall hela
  have HALL := Lib.hid hall
  have HN0 := Lib.hid ((New.refl w).alloc (.cells #[.int .u64 (e : Int), .slice A ms.length cap] 25))
  have HB0 := Lib.hid (Blk.mk_new w 25 #[.int .u64 (e : Int), .slice A ms.length cap])
  have HS0 := Lib.hid hs
  clear hs hall hck
  have hl1 := varB_len10 (n := e) (by omega)
  have hl2 := varB_len10 (n := ms.length) (by omega)
  have hz1 : (str (varB e)).size ≤ 10 := by rw [str_size]; exact hl1
  have hz2 : (str (varB ms.length)).size ≤ 10 := by rw [str_size]; exact hl2
  have HST := Lib.hid (str_append (varB e) (varB ms.length))
  have hlw : IntKind.u64.wrap (ms.length : Int) = (ms.length : Int) := by rw [IntKind.wrap_u64]; omega
  have hv1 := fun wx => refVar_any e wx (by omega)
  have hv2 := fun wx => refVar_any ms.length wx (by omega)
  go_enter Tryd.func30, Tryd.ntmps30
  go_upto_region 1 with fail
  generalize w.alloc _ = w1 at *
  obtain ⟨p0, p1, p2, pz⟩ := Blk2F HB0.out
  generalize hS1 : str (varB e) = s1 at *
  generalize hS2 : str (varB ms.length) = s2 at *
  have HS1 := Lib.hid hS1
  have HS2 := Lib.hid hS2
  have hsz : ¬ 9223372036854775807 < s1.size + s2.size := by omega
  clear hS1 hS2
  refine wp_region_held_drew (S := fun w' => Held w1 w') (by kernel_rfl) (Held.of (New.refl _).drew) (fun hHeld => ?_)
  refine wpAnyH_take (i := 0) (oi := { dst := some 5, op := Op.fieldAddr 25 (Operand.tmp 1) 0, type := 0, pos := "ref.go:115", after := #[], guard := none }) (v := ?_) rfl (by kernel_rfl) (by kernel_rfl) (by kernel_rfl) (fun _ _ _ h => h) (Or.inl ⟨by rfl, ?_⟩) (by assumption) ?_
  rotate_left
  · (intro wq hSw; (try dsimp only at hSw); go_simp; first | done | with_reducible rfl)
  try simp only [Act.put, List.setIfInBounds_toArray, List.set_cons_zero, List.set_cons_succ]
  refine wpAnyH_take (i := 1) (oi := { dst := some 6, op := Op.load 22 (Operand.tmp 5), type := 22, pos := "ref.go:115", after := #[{ on := 0, ground := Ground.data }], guard := none }) (v := ?_) rfl (by kernel_rfl) (by kernel_rfl) (by kernel_rfl) (fun _ _ _ h => h) (Or.inl ⟨by rfl, ?_⟩) (by assumption) ?_
  rotate_left
  · (intro wq hSw; (try dsimp only at hSw); go_simp; first | done | with_reducible rfl)
  try simp only [Act.put, List.setIfInBounds_toArray, List.set_cons_zero, List.set_cons_succ]
  refine wpAnyH_take (i := 3) (oi := { dst := some 8, op := Op.fieldAddr 25 (Operand.tmp 1) 1, type := 0, pos := "ref.go:115", after := #[], guard := none }) (v := ?_) rfl (by kernel_rfl) (by kernel_rfl) (by kernel_rfl) (fun _ _ _ h => h) (Or.inl ⟨by rfl, ?_⟩) (by assumption) ?_
  rotate_left
  · (intro wq hSw; (try dsimp only at hSw); go_simp; first | done | with_reducible rfl)
  try simp only [Act.put, List.setIfInBounds_toArray, List.set_cons_zero, List.set_cons_succ]
  refine wpAnyH_take (i := 4) (oi := { dst := some 9, op := Op.load 23 (Operand.tmp 8), type := 23, pos := "ref.go:115", after := #[{ on := 3, ground := Ground.data }], guard := none }) (v := ?_) rfl (by kernel_rfl) (by kernel_rfl) (by kernel_rfl) (fun _ _ _ h => h) (Or.inl ⟨by rfl, ?_⟩) (by assumption) ?_
  rotate_left
  · (intro wq hSw; (try dsimp only at hSw); go_simp; first | done | with_reducible rfl)
  try simp only [Act.put, List.setIfInBounds_toArray, List.set_cons_zero, List.set_cons_succ]
  refine wpAnyH_take (i := 5) (oi := { dst := some 10, op := Op.call { callee := Callee.builtin Builtin.len, args := #[Operand.tmp 9], argTypes := #[23] }, type := 3, pos := "ref.go:115", after := #[{ on := 4, ground := Ground.data }], guard := none }) (v := ?_) rfl (by kernel_rfl) (by kernel_rfl) (by kernel_rfl) (fun _ _ _ h => h) (Or.inl ⟨by rfl, ?_⟩) (by assumption) ?_
  rotate_left
  · (intro wq hSw; (try dsimp only at hSw); go_simp; first | done | with_reducible rfl)
  try simp only [Act.put, List.setIfInBounds_toArray, List.set_cons_zero, List.set_cons_succ]
  refine wpAnyH_take (i := 6) (oi := { dst := some 11, op := Op.convert 3 22 (Operand.tmp 10), type := 22, pos := "ref.go:115", after := #[{ on := 5, ground := Ground.data }], guard := none }) (v := ?_) rfl (by kernel_rfl) (by kernel_rfl) (by kernel_rfl) (fun _ _ _ h => h) (Or.inl ⟨by rfl, ?_⟩) (by assumption) ?_
  rotate_left
  · (intro wq hSw; (try dsimp only at hSw); go_simp; first | done | with_reducible rfl)
  try simp only [Act.put, List.setIfInBounds_toArray, List.set_cons_zero, List.set_cons_succ]
  refine wpAnyH_ready (rs := [2]) (by kernel_rfl) (by simp) ?_
  refine AllReadyH.cons (o := { dst := some 7, op := Op.call { callee := Callee.value (Operand.func 50), args := #[Operand.tmp 6], argTypes := #[22] }, type := 9, pos := "ref.go:115", after := #[{ on := 1, ground := Ground.data }], guard := none }) rfl (fun K hK => ?_) AllReadyH.nil
  go_simp
  refine (hv1 _).mono ?_
  rintro e1 wk0 ⟨rfl, hk0⟩
  have hh0 := (New.refl w1).drew.trans hk0
  refine hK.out _ _ ?_ (fun hHeld => ?_)
  · exact Held.of hh0
  clear hK K
  try simp only [Act.put, List.setIfInBounds_toArray, List.set_cons_zero, List.set_cons_succ]
  refine wpAnyH_ready (rs := [7]) (by kernel_rfl) (by simp) ?_
  refine AllReadyH.cons (o := { dst := some 12, op := Op.call { callee := Callee.value (Operand.func 50), args := #[Operand.tmp 11], argTypes := #[22] }, type := 9, pos := "ref.go:115", after := #[{ on := 6, ground := Ground.data }, { on := 2, ground := Ground.chain }], guard := none }) rfl (fun K hK => ?_) AllReadyH.nil
  go_simp
  refine (hv2 _).mono ?_
  rintro e1 wk1 ⟨rfl, hk1⟩
  have hh1 := hh0.trans hk1
  refine hK.out _ _ ?_ (fun hHeld => ?_)
  · exact Held.of hh1
  clear hK K
  try simp only [Act.put, List.setIfInBounds_toArray, List.set_cons_zero, List.set_cons_succ]
  refine wpAnyH_take (i := 8) (oi := { dst := some 13, op := Op.binOp BinOp.add 9 (Operand.tmp 7) (Operand.tmp 12) 9, type := 9, pos := "ref.go:115", after := #[{ on := 2, ground := Ground.data }, { on := 7, ground := Ground.data }], guard := none }) (v := ?_) rfl (by kernel_rfl) (by kernel_rfl) (by kernel_rfl) (fun _ _ _ h => h) (Or.inl ⟨by rfl, ?_⟩) (by assumption) ?_
  rotate_left
  · (intro wq hSw; (try dsimp only at hSw); go_simp; first | done | with_reducible rfl)
  try simp only [Act.put, List.setIfInBounds_toArray, List.set_cons_zero, List.set_cons_succ]
  refine wpAnyH_take (i := 9) (oi := { dst := some 3, op := Op.assign (Operand.tmp 13), type := 9, pos := "ref.go:115", after := #[{ on := 8, ground := Ground.data }, { on := 7, ground := Ground.chain }, { on := 0, ground := Ground.phase }, { on := 1, ground := Ground.phase }, { on := 2, ground := Ground.phase }, { on := 3, ground := Ground.phase }, { on := 4, ground := Ground.phase }, { on := 5, ground := Ground.phase }, { on := 6, ground := Ground.phase }, { on := 7, ground := Ground.phase }, { on := 8, ground := Ground.phase }], guard := none }) (v := ?_) rfl (by kernel_rfl) (by kernel_rfl) (by kernel_rfl) (fun _ _ _ h => h) (Or.inl ⟨by rfl, ?_⟩) (by assumption) ?_
  rotate_left
  · (intro wq hSw; (try dsimp only at hSw); go_simp; first | done | with_reducible rfl)
  try simp only [Act.put, List.setIfInBounds_toArray, List.set_cons_zero, List.set_cons_succ]
  refine wpAnyH_done (by kernel_rfl) ?_ _
  clear hHeld
  have hNb := HN0.out.trans hh1
  have HNB := Lib.hid hNb
  have HBB := Lib.hid (HB0.out.new hh1)
  generalize wk1 = w2 at *
  have HR0 : Hid (RBRel ⟨e, ms⟩ 0 (.string (s1 ++ s2)) w2 w2) := Lib.hid ⟨by rw [HST.out]; simp [encM], New.refl _⟩
  clear hNb hv1 hv2
  go_wp2_with fail
  go_loopw [3, 4] (fun s i wr => ∃ k : Nat, k ≤ ms.length ∧ i = .int .i64 (k : Int) ∧ RBRel ⟨e, ms⟩ k s w2 wr) (fun _ i _ => ms.length - (intOf i).toNat)
  case atStart => exact ⟨0, by omega, rfl, HR0.out⟩
  case round =>
    clear HR0
    obtain ⟨k, hk, rfl, rfl, hn⟩ := hrel
    dsimp only
    obtain ⟨q0, q1, q2, qz⟩ := Blk2F (HBB.out.new hn)
    have hlen := encM_len (ms.take k) (fun n hn => HALL.out n (List.mem_of_mem_take hn))
    rw [List.length_take] at hlen
    obtain ⟨bs, hbs⟩ : ∃ bs, varB e ++ varB ms.length ++ encM (ms.take k) = bs := ⟨_, rfl⟩
    have hbl : bs.length ≤ 100 := by rw [← hbs, List.length_append, List.length_append]; omega
    have hbz : (str bs).size ≤ 100 := by rw [str_size]; exact hbl
    rw [hbs]
    have HBS := Lib.hid hbs
    clear hbs hlen
    by_cases hlt : k < ms.length
    · have hlt2 : (k : Int) < (ms.length : Int) := by omega
      have hk0 : (0 : Int) ≤ (k : Int) := by omega
      obtain ⟨A', c', hv, _, hh⟩ := HS0.out.new (HNB.out.trans hn)
      cases hv
      rcases hh with rfl | ⟨b, off, rfl, hbb, hc⟩
      · simp at hlt
      obtain ⟨x, hx⟩ : ∃ x, ms[k]? = some x := ⟨_, List.getElem?_eq_getElem hlt⟩
      have e0 := SlIn.int_at hc hx
      have hxm := HALL.out x (List.mem_of_getElem? hx)
      simp only [memB, Bool.and_eq_true, decide_eq_true_eq] at hxm
      obtain ⟨y, rfl⟩ : ∃ y : Nat, x = (y : Int) := ⟨x.toNat, by omega⟩
      have hyw : IntKind.u64.wrap (y : Int) = (y : Int) := by rw [IntKind.wrap_u64]; omega
      have hy10 : (str (varB y)).size ≤ 10 := by rw [str_size]; exact varB_len10 (by omega)
      have hvy := fun wx => refVar_any y wx (by omega)
      have HNX : Hid (str bs ++ str (varB y) = str (varB e ++ varB ms.length ++ encM (ms.take (k + 1)))) := Lib.hid (by rw [str_append, encM_snoc hx, ← HBS.out]; simp)
      clear hc hx hxm
      generalize str (varB y) = sy at *
      generalize str bs = sb at *
      have hsz3 : ¬ 9223372036854775807 < sb.size + sy.size := by omega
      go_wp2_with fail
      refine (hvy _).mono ?_
      rintro e1 w5 ⟨rfl, hn5⟩
      go_wp2_with fail
      go_roundw
      case rel => exact ⟨k + 1, by omega, by go_num, congrArg Value.string HNX.out, hn.trans hn5⟩
      case measure => simp [intOf]; omega
    · have hlt2 : ¬ (k : Int) < (ms.length : Int) := by omega
      have HFX : Hid (str bs = str (encC ⟨e, ms⟩)) := Lib.hid (by rw [← HBS.out, List.take_of_length_le (by omega)]; rfl)
      generalize str bs = sb at *
      go_wp2_with fail
      go_ret
      exact ⟨ret_eq (congrArg Value.string HFX.out), HNB.out.trans hn⟩
end Go.Proofs.YtinpbjknakncdaaDoor
