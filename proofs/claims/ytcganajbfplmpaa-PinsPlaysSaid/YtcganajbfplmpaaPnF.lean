/- Chapter 18 (pins), the document's answer: Bytes. Printed by genPnF.py. -/
import Derived.Test.YtcganajbfplmpaaPnE
import Derived.Test.YtcganajbfplmpaaRef03t
import Derived.Deep.RegionHeld3
import Derived.Deep.DeepCutAuto
namespace Go.Proofs.Ytcganajbfplmpaa
open Go.RowKit Go.Lap
set_option linter.unusedVariables false

set_option maxRecDepth 100000 in
set_option maxHeartbeats 8000000 in
theorem rbytes_any {v : Value} {E : List Pnm} (w : World) (hs : SlIn w 2 pnC v E) (hE : GoodE E) :
    Calls Try.prog 33 #[v] w fun e w' => e = .returned (.string (str (encE E))) ∧ New w w' := by
  obtain ⟨A, cp, hv, hcp, hor⟩ := _root_.id hs
  subst hv
  have hlen := hE.len
  have hlw : IntKind.u64.wrap (E.length : Int) = (E.length : Int) := by rw [IntKind.wrap_u64]; omega
  have HE := Lib.hid hE
  have HL := Lib.hid (show E.length < 18446744073709551616 by omega)
  have HALL := Lib.hid (show ∀ k, k ≤ E.length → (varB E.length ++ (E.take k).flatMap encN).length ≤ 10 + 60 * k from by
    intro k
    induction k with
    | zero => intro _; have := varB_len10 (n := E.length) (by omega); simp; omega
    | succ k ih =>
      intro hk
      obtain ⟨x, hx⟩ : ∃ x, E[k]? = some x := ⟨_, List.getElem?_eq_getElem (by omega)⟩
      have h1 := ih (by omega)
      have h2 := hE.nm x (List.mem_of_getElem? hx)
      have h3 := encN_len h2.2.1 h2.2.2
      rw [encP_snoc hx]
      simp only [List.length_append] at h1 h3 ⊢
      omega)
  clear hE hs
  go_enter Try.func33, Try.ntmps33
  go_wp2_with fail
  refine (refVar_any E.length _ HL.out).mono ?_
  rintro e w1 ⟨rfl, hn1⟩
  clear hlw
  go_wp2_with fail
  go_loopw [3, 4] (fun u i wr => ∃ k : Nat, k ≤ E.length ∧ i = .int .i64 k ∧ u = .string (str (varB E.length ++ (E.take k).flatMap encN)) ∧ New w wr) (fun _ i _ => E.length - (intOf i).toNat)
  case atStart => exact ⟨0, by omega, rfl, by simp, hn1⟩
  case round =>
    obtain ⟨k, hk, rfl, rfl, hn⟩ := hrel
    have HN := Lib.hid hn
    by_cases hlt : k < E.length
    · have hlt' : (k : Int) < (E.length : Int) := by omega
      have hk0 : (0 : Int) ≤ (k : Int) := by omega
      rcases hor with hor | ⟨b, off, rfl, hb, hc⟩
      · rw [hor] at hlt; simp at hlt
      obtain ⟨x, hx⟩ : ∃ x, E[k]? = some x := ⟨_, List.getElem?_eq_getElem hlt⟩
      obtain ⟨e0, e1⟩ := pn2 (w := wr) (fun k x h j u hu => (hn.cells.1 _ _ hb).trans (hc k x h j u hu)) hx
      have hbl := Nat.lt_of_lt_of_le hb hn.size
      have hgx := HE.out.nm x (List.mem_of_getElem? hx)
      have HX1 := Lib.hid (show x.s.size ≤ 1000000000000 by omega)
      have HX2 := Lib.hid (okU_lt hgx.2.2)
      have hal := HALL.out k hk
      have HSN := Lib.hid (show str (varB E.length ++ (E.take (k + 1)).flatMap encN) = str (varB E.length ++ (E.take k).flatMap encN) ++ (str (varB x.s.size ++ x.s.data.toList) ++ str (varB x.n)) by
        rw [encP_snoc hx, str_append, str_append]
        unfold encN
        simp only [List.append_assoc])
      have hs1 := str_size (varB E.length ++ (E.take k).flatMap encN)
      have hs2 := str_size (varB x.s.size ++ x.s.data.toList)
      have hs3 := str_size (varB x.n)
      have hen := encN_len hgx.2.1 hgx.2.2
      unfold encN at hen
      rw [List.length_append, ← hs2, ← hs3] at hen
      rw [← hs1] at hal
      generalize str (varB E.length ++ (E.take k).flatMap encN) = acc at hal HSN ⊢
      generalize hT : str (varB x.s.size ++ x.s.data.toList) = T at hen HSN
      generalize hV : str (varB x.n) = V at hen HSN
      have HTV := Lib.hid (And.intro hT hV)
      have z1 : ¬ 9223372036854775807 < T.size + V.size := by omega
      have z2 : ¬ 9223372036854775807 < acc.size + (T.size + V.size) := by omega
      have HTX := Lib.hid (show ∀ w0 : World, Calls Try.prog 59 #[.string x.s] w0 fun e w' => e = .returned (.string T) ∧ New w0 w' from fun w0 => by rw [← hT]; exact refTextW_any x.s w0 HX1.out)
      have HVX := Lib.hid (show ∀ w0 : World, Calls Try.prog 58 #[.int .u64 (x.n : Int)] w0 fun e w' => e = .returned (.string V) ∧ New w0 w' from fun w0 => by rw [← hV]; exact refVar_any x.n w0 HX2.out)
      clear hc hx hs1 hs2 hs3 hT hV hgx hn hal hen
      go_upto_region 5 with fail
      refine wp_region_held_drew (S := fun w' => Held wr w') (by kernel_rfl) (Held.of (New.refl _).drew) (fun hHeld => ?_)
      refine wpAnyH_take (i := 0) (oi := { dst := some 15, op := Op.move (Operand.tmp 3), type := 9, pos := "ref.go:123", after := #[], guard := none }) (v := ?_) rfl (by kernel_rfl) (by kernel_rfl) (by kernel_rfl) (fun _ _ _ h => h) (Or.inl ⟨by rfl, ?_⟩) (by assumption) ?_
      rotate_left
      · (intro wq hSw; (try dsimp only at hSw); go_simp; first | done | with_reducible rfl)
      try simp only [Act.put, List.setIfInBounds_toArray, List.set_cons_zero, List.set_cons_succ]
      refine wpAnyH_take (i := 1) (oi := { dst := some 16, op := Op.move (Operand.tmp 0), type := 63, pos := "ref.go:123", after := #[], guard := none }) (v := ?_) rfl (by kernel_rfl) (by kernel_rfl) (by kernel_rfl) (fun _ _ _ h => h) (Or.inl ⟨by rfl, ?_⟩) (by assumption) ?_
      rotate_left
      · (intro wq hSw; (try dsimp only at hSw); go_simp; first | done | with_reducible rfl)
      try simp only [Act.put, List.setIfInBounds_toArray, List.set_cons_zero, List.set_cons_succ]
      refine wpAnyH_take (i := 2) (oi := { dst := some 17, op := Op.move (Operand.tmp 4), type := 3, pos := "ref.go:123", after := #[], guard := none }) (v := ?_) rfl (by kernel_rfl) (by kernel_rfl) (by kernel_rfl) (fun _ _ _ h => h) (Or.inl ⟨by rfl, ?_⟩) (by assumption) ?_
      rotate_left
      · (intro wq hSw; (try dsimp only at hSw); go_simp; first | done | with_reducible rfl)
      try simp only [Act.put, List.setIfInBounds_toArray, List.set_cons_zero, List.set_cons_succ]
      refine wpAnyH_take (i := 3) (oi := { dst := some 18, op := Op.indexAddr 63 (Operand.tmp 16) (Operand.tmp 17), type := 0, pos := "ref.go:123", after := #[{ on := 1, ground := Ground.data }, { on := 2, ground := Ground.data }], guard := none }) (v := ?_) rfl (by kernel_rfl) (by kernel_rfl) (by kernel_rfl) (fun _ _ _ h => h) (Or.inl ⟨by rfl, ?_⟩) (by assumption) ?_
      rotate_left
      · (intro wq hSw; (try dsimp only at hSw); go_simp; first | done | with_reducible rfl)
      try simp only [Act.put, List.setIfInBounds_toArray, List.set_cons_zero, List.set_cons_succ]
      refine wpAnyH_take (i := 4) (oi := { dst := some 19, op := Op.fieldAddr 66 (Operand.tmp 18) 0, type := 0, pos := "ref.go:123", after := #[{ on := 3, ground := Ground.data }], guard := none }) (v := ?_) rfl (by kernel_rfl) (by kernel_rfl) (by kernel_rfl) (fun _ _ _ h => h) (Or.inl ⟨by rfl, ?_⟩) (by assumption) ?_
      rotate_left
      · (intro wq hSw; (try dsimp only at hSw); go_simp; first | done | with_reducible rfl)
      try simp only [Act.put, List.setIfInBounds_toArray, List.set_cons_zero, List.set_cons_succ]
      refine wpAnyH_take (i := 5) (oi := { dst := some 20, op := Op.load 9 (Operand.tmp 19), type := 9, pos := "ref.go:123", after := #[{ on := 4, ground := Ground.data }], guard := none }) (v := ?_) rfl (by kernel_rfl) (by kernel_rfl) (by kernel_rfl) (fun _ _ _ h => h) (Or.inl ⟨by rfl, ?_⟩) (by assumption) ?_
      rotate_left
      · (intro wq hSw; (try dsimp only at hSw); go_simp; first | done | with_reducible rfl)
      try simp only [Act.put, List.setIfInBounds_toArray, List.set_cons_zero, List.set_cons_succ]
      refine wpAnyH_take (i := 7) (oi := { dst := some 22, op := Op.move (Operand.tmp 0), type := 63, pos := "ref.go:123", after := #[], guard := none }) (v := ?_) rfl (by kernel_rfl) (by kernel_rfl) (by kernel_rfl) (fun _ _ _ h => h) (Or.inl ⟨by rfl, ?_⟩) (by assumption) ?_
      rotate_left
      · (intro wq hSw; (try dsimp only at hSw); go_simp; first | done | with_reducible rfl)
      try simp only [Act.put, List.setIfInBounds_toArray, List.set_cons_zero, List.set_cons_succ]
      refine wpAnyH_take (i := 8) (oi := { dst := some 23, op := Op.move (Operand.tmp 4), type := 3, pos := "ref.go:123", after := #[], guard := none }) (v := ?_) rfl (by kernel_rfl) (by kernel_rfl) (by kernel_rfl) (fun _ _ _ h => h) (Or.inl ⟨by rfl, ?_⟩) (by assumption) ?_
      rotate_left
      · (intro wq hSw; (try dsimp only at hSw); go_simp; first | done | with_reducible rfl)
      try simp only [Act.put, List.setIfInBounds_toArray, List.set_cons_zero, List.set_cons_succ]
      refine wpAnyH_take (i := 9) (oi := { dst := some 24, op := Op.indexAddr 63 (Operand.tmp 22) (Operand.tmp 23), type := 0, pos := "ref.go:123", after := #[{ on := 7, ground := Ground.data }, { on := 8, ground := Ground.data }], guard := none }) (v := ?_) rfl (by kernel_rfl) (by kernel_rfl) (by kernel_rfl) (fun _ _ _ h => h) (Or.inl ⟨by rfl, ?_⟩) (by assumption) ?_
      rotate_left
      · (intro wq hSw; (try dsimp only at hSw); go_simp; first | done | with_reducible rfl)
      try simp only [Act.put, List.setIfInBounds_toArray, List.set_cons_zero, List.set_cons_succ]
      refine wpAnyH_take (i := 10) (oi := { dst := some 25, op := Op.fieldAddr 66 (Operand.tmp 24) 1, type := 0, pos := "ref.go:123", after := #[{ on := 9, ground := Ground.data }], guard := none }) (v := ?_) rfl (by kernel_rfl) (by kernel_rfl) (by kernel_rfl) (fun _ _ _ h => h) (Or.inl ⟨by rfl, ?_⟩) (by assumption) ?_
      rotate_left
      · (intro wq hSw; (try dsimp only at hSw); go_simp; first | done | with_reducible rfl)
      try simp only [Act.put, List.setIfInBounds_toArray, List.set_cons_zero, List.set_cons_succ]
      refine wpAnyH_take (i := 11) (oi := { dst := some 26, op := Op.load 55 (Operand.tmp 25), type := 55, pos := "ref.go:123", after := #[{ on := 10, ground := Ground.data }], guard := none }) (v := ?_) rfl (by kernel_rfl) (by kernel_rfl) (by kernel_rfl) (fun _ _ _ h => h) (Or.inl ⟨by rfl, ?_⟩) (by assumption) ?_
      rotate_left
      · (intro wq hSw; (try dsimp only at hSw); go_simp; first | done | with_reducible rfl)
      try simp only [Act.put, List.setIfInBounds_toArray, List.set_cons_zero, List.set_cons_succ]
      refine wpAnyH_ready (rs := [6]) (by kernel_rfl) (by simp) ?_
      refine AllReadyH.cons (o := { dst := some 21, op := Op.call { callee := Callee.value (Operand.func 59), args := #[Operand.tmp 20], argTypes := #[9] }, type := 9, pos := "ref.go:123", after := #[{ on := 5, ground := Ground.data }], guard := none }) rfl (fun K hK => ?_) AllReadyH.nil
      go_simp
      refine (HTX.out _).mono ?_
      rintro e w2 ⟨rfl, hv2⟩
      have hn2 := New.trans ((New.refl wr).drew) hv2
      refine hK.out _ _ ?_ (fun hHeld => ?_)
      · exact Held.of hn2
      clear hK K
      try simp only [Act.put, List.setIfInBounds_toArray, List.set_cons_zero, List.set_cons_succ]
      refine wpAnyH_ready (rs := [12]) (by kernel_rfl) (by simp) ?_
      refine AllReadyH.cons (o := { dst := some 27, op := Op.call { callee := Callee.value (Operand.func 58), args := #[Operand.tmp 26], argTypes := #[55] }, type := 9, pos := "ref.go:123", after := #[{ on := 11, ground := Ground.data }, { on := 6, ground := Ground.chain }], guard := none }) rfl (fun K hK => ?_) AllReadyH.nil
      go_simp
      refine (HVX.out _).mono ?_
      rintro e w3 ⟨rfl, hv3⟩
      have hn3 := New.trans (hn2) hv3
      refine hK.out _ _ ?_ (fun hHeld => ?_)
      · exact Held.of hn3
      clear hK K
      try simp only [Act.put, List.setIfInBounds_toArray, List.set_cons_zero, List.set_cons_succ]
      refine wpAnyH_take (i := 13) (oi := { dst := some 28, op := Op.binOp BinOp.add 9 (Operand.tmp 21) (Operand.tmp 27) 9, type := 9, pos := "ref.go:123", after := #[{ on := 6, ground := Ground.data }, { on := 12, ground := Ground.data }], guard := none }) (v := ?_) rfl (by kernel_rfl) (by kernel_rfl) (by kernel_rfl) (fun _ _ _ h => h) (Or.inl ⟨by rfl, ?_⟩) (by assumption) ?_
      rotate_left
      · (intro wq hSw; (try dsimp only at hSw); go_simp; first | done | with_reducible rfl)
      try simp only [Act.put, List.setIfInBounds_toArray, List.set_cons_zero, List.set_cons_succ]
      refine wpAnyH_take (i := 14) (oi := { dst := some 29, op := Op.binOp BinOp.add 9 (Operand.tmp 15) (Operand.tmp 28) 9, type := 9, pos := "ref.go:123", after := #[{ on := 0, ground := Ground.data }, { on := 13, ground := Ground.data }], guard := none }) (v := ?_) rfl (by kernel_rfl) (by kernel_rfl) (by kernel_rfl) (fun _ _ _ h => h) (Or.inl ⟨by rfl, ?_⟩) (by assumption) ?_
      rotate_left
      · (intro wq hSw; (try dsimp only at hSw); go_simp; first | done | with_reducible rfl)
      try simp only [Act.put, List.setIfInBounds_toArray, List.set_cons_zero, List.set_cons_succ]
      refine wpAnyH_take (i := 15) (oi := { dst := some 3, op := Op.assign (Operand.tmp 29), type := 9, pos := "ref.go:123", after := #[{ on := 14, ground := Ground.data }, { on := 12, ground := Ground.chain }, { on := 0, ground := Ground.phase }, { on := 1, ground := Ground.phase }, { on := 2, ground := Ground.phase }, { on := 3, ground := Ground.phase }, { on := 4, ground := Ground.phase }, { on := 5, ground := Ground.phase }, { on := 6, ground := Ground.phase }, { on := 7, ground := Ground.phase }, { on := 8, ground := Ground.phase }, { on := 9, ground := Ground.phase }, { on := 10, ground := Ground.phase }, { on := 11, ground := Ground.phase }, { on := 12, ground := Ground.phase }, { on := 13, ground := Ground.phase }, { on := 14, ground := Ground.phase }], guard := none }) (v := ?_) rfl (by kernel_rfl) (by kernel_rfl) (by kernel_rfl) (fun _ _ _ h => h) (Or.inl ⟨by rfl, ?_⟩) (by assumption) ?_
      rotate_left
      · (intro wq hSw; (try dsimp only at hSw); go_simp; first | done | with_reducible rfl)
      try simp only [Act.put, List.setIfInBounds_toArray, List.set_cons_zero, List.set_cons_succ]
      refine wpAnyH_done (by kernel_rfl) ?_ _
      clear hHeld
      go_wp2_with fail
      go_roundw
      case rel => exact ⟨k + 1, by omega, by go_num, by rw [HSN.out], HN.out.trans hn3⟩
      case measure => simp [intOf]; omega
    · have hlt' : ¬ (k : Int) < (E.length : Int) := by omega
      obtain rfl : k = E.length := by omega
      rw [List.take_length]
      go_wp2_with fail
      go_ret
      exact ⟨rfl, HN.out⟩
end Go.Proofs.Ytcganajbfplmpaa
