/- The walk of the law CodeBack (chapter 3): for every input it answers true. -/
import Derived.Test.YtnjifcgomkdhdaaCodeP
namespace Go.Proofs.Ytnjifcgomkdhdaa
open Go.RowKit Go.Lap
set_option linter.unusedVariables false

/-- A writer in work: its bytes are those of the first k fields. -/
def Wrote (w wr : World) (g : Nat) (l : List Fld) (k : Nat) : Prop := ∃ v, WrAt wr w.heap.size g v (encsF ((l.take k).map kindF)) 0 ∧ New w wr ∧ ∀ f ∈ l.take k, f.s.size ≤ 200
/-- A reader in work: it holds the bytes of the fields from the k-th on. -/
def Reads (w wr : World) (g : Nat) (l : List Fld) (k : Nat) : Prop := ∃ v, RdAt wr g v (encsF ((l.drop k).map kindF)) 0 ∧ New w wr

theorem wrote_len {l : List Fld} (hgood : ∀ a ∈ l, a.good) {k : Nat} (hk : (l.take k).length ≤ 50) (h : ∀ f ∈ l.take k, f.s.size ≤ 200) : (encsF ((l.take k).map kindF)).length ≤ 10500 := by
  have := encsF_len ((l.take k).map kindF) 200 (by omega) (fun f hf => by
    obtain ⟨a, ha, rfl⟩ := List.mem_map.1 hf
    exact ⟨(hgood a (List.mem_of_mem_take ha)).1, h a ha⟩)
  rw [List.length_map] at this
  omega

theorem wrote_snoc {l : List Fld} {k : Nat} {x : Fld} (h : l[k]? = some x) : encsF ((l.take (k + 1)).map kindF) = encsF ((l.take k).map kindF) ++ encF (kindF x) := by
  have h1 : (l.map kindF)[k]? = some (kindF x) := by simp [h]
  rw [List.map_take, List.map_take]
  exact encsF_snoc h1
theorem reads_cons {l : List Fld} {k : Nat} {x : Fld} (h : l[k]? = some x) : encsF ((l.drop k).map kindF) = encF (kindF x) ++ encsF ((l.drop (k + 1)).map kindF) := by
  have h1 : (l.map kindF)[k]? = some (kindF x) := by simp [h]
  rw [List.map_drop, List.map_drop]
  exact encsF_drop h1
theorem mem_snoc {l : List Fld} {k : Nat} {x : Fld} (h : l[k]? = some x) {P : Fld → Prop} (hall : ∀ f ∈ l.take k, P f) (hx : P x) : ∀ f ∈ l.take (k + 1), P f := by
  obtain ⟨hk, rfl⟩ := List.getElem?_eq_some_iff.1 h
  intro f hf
  rw [List.take_succ_eq_append_getElem hk] at hf
  rcases List.mem_append.1 hf with h1 | h1
  · exact hall f h1
  · rw [List.mem_singleton] at h1; rw [h1]; exact hx

set_option maxRecDepth 100000 in
set_option maxHeartbeats 4000000 in
theorem codeBack_walk (l : List Fld) (v0 : Value) (w : World) (hl : l.length ≤ maxLen) (hs : SlIn w 5 Fld.enc v0 l) (hgood : ∀ a ∈ l, a.good) :
    Calls Try.prog 8 #[v0] w fun e w' => e = .returned (.bool true) ∧ New w w' := by
  unfold maxLen at hl
  obtain ⟨A, c, rfl, hlc, hh⟩ := hs
  go_enter Try.func8, Try.ntmps8
  go_wp2_with fail
  refine (write_any _).mono ?_
  rintro e w1 ⟨rfl, hw1, hn1⟩
  go_wp2_with fail
  refine (awake03 _).mono ?_
  rintro e w2 ⟨rfl, hn2⟩
  have hw2 := hw1.new hn2
  have hN2 := hn1.trans hn2
  clear hw1 hn1 hn2
  by_cases ht : l.length ≤ 50
  · have t2' : ¬ (50 : Int) < (l.length : Int) := by omega
    clear hl
    generalize hgG : w.heap.size = g at hw2 ⊢
    have HG := Lib.hid hgG
    clear hgG
    go_wp2_with fail
    go_loopw [4, 5] (fun i _ wr => ∃ k : Nat, k ≤ l.length ∧ i = .int .i64 k ∧ Wrote w wr g l k) (fun i _ _ => l.length - (intOf i).toNat)
    case atStart => exact ⟨0, by omega, rfl, _, by rw [HG.out]; exact hw2, hN2, by simp⟩
    case round =>
      clear hw2 hN2
      obtain ⟨k, hk, rfl, v, hw, hn, hall⟩ := hrel
      have hbl := wrote_len hgood (k := k) (by simp; omega) hall
      by_cases hlt : k < l.length
      · have hlt' : (k : Int) < (l.length : Int) := by omega
        have hk0 : (0 : Int) ≤ (k : Int) := by omega
        rcases hh with rfl | ⟨b, off, rfl, hbb, hc⟩
        · simp at hlt
        obtain ⟨x, hx⟩ : ∃ x, l[k]? = some x := ⟨_, List.getElem?_eq_getElem hlt⟩
        have hg := hgood x (List.mem_of_getElem? hx)
        have hC := hn.cells.1
        have e0 : wr.cell? ⟨b, off + k * 5, none⟩ = some (.int .i64 x.kind) := (hC _ _ hbb).trans (hc k x hx 0 _ rfl)
        have e1 : wr.cell? ⟨b, off + k * 5 + 1, none⟩ = some (.int .u64 x.v) := (hC _ _ hbb).trans (hc k x hx 1 _ rfl)
        have e2 : wr.cell? ⟨b, off + k * 5 + 2, none⟩ = some (.string x.s) := (hC _ _ hbb).trans (hc k x hx 2 _ rfl)
        have e3 : wr.cell? ⟨b, off + k * 5 + 3, none⟩ = some (.bool x.yes) := (hC _ _ hbb).trans (hc k x hx 3 _ rfl)
        have e4 : wr.cell? ⟨b, off + k * 5 + 4, none⟩ = some (.int .i64 x.most) := (hC _ _ hbb).trans (hc k x hx 4 _ rfl)
        have HX := Lib.hid hx
        have HAll := Lib.hid hall
        have HGd := Lib.hid hg
        clear hC hc hx hall hg
        go_wp2_with fail
        refine (kinds_any x wr).mono ?_
        rintro e w3 ⟨rfl, hn3⟩
        have hw3 := hw.new hn3
        have hN3 := hn.trans hn3
        clear e0 e1 e2 e3 e4 hw hn hn3
        by_cases hsz : x.s.size ≤ 200
        · have hsz' : ¬ (200 : Int) < (x.s.size : Int) := by omega
          have HSZ := Lib.hid hsz
          have hwA := hw3.new ((New.refl w3).alloc (Obj.cells #[.int .i64 (x.kind % 4), .int .u64 (x.v : Int), .string x.s, .bool x.yes, .int .i64 x.most] 55))
          have hNA := hN3.alloc (Obj.cells #[.int .i64 (x.kind % 4), .int .u64 (x.v : Int), .string x.s, .bool x.yes, .int .i64 x.most] 55)
          clear hsz hw3 hN3
          go_wp2_with fail
          refine (put_any w.heap.size g v _ 0 (kindF x) _ hwA (by omega) ⟨HGd.out.1, HGd.out.2.1, by show _ ≤ x.kind % 4 ∧ x.kind % 4 ≤ _ ∧ _; have := HGd.out; exact ⟨by omega, by omega, this.2.2.2.2.1, this.2.2.2.2.2⟩⟩).mono ?_
          rintro e w4 ⟨v4, rfl, hw4, hu4, hf4⟩
          rw [putF_enc _ (kindF x) (by show x.s.size ≤ _; have := HSZ.out; omega)] at hw4
          have hN4 := hwA.step hNA hu4
          go_wp2_with fail
          go_roundw
          case rel => exact ⟨k + 1, by omega, by go_num, v4, by rw [wrote_snoc HX.out]; exact hw4, hN4, mem_snoc HX.out HAll.out HSZ.out⟩
          case measure => simp [intOf]; omega
        · have hsz' : (200 : Int) < (x.s.size : Int) := by omega
          go_wp2_with fail
          go_ret
          exact ⟨rfl, hN3.alloc _⟩
      · have hlt' : ¬ (k : Int) < (l.length : Int) := by omega
        have hke : k = l.length := by omega
        subst hke
        rw [List.take_length] at hw hbl hall
        have HAll := Lib.hid hall
        have HBL := Lib.hid hbl
        clear hall hbl
        go_wp2_with fail
        refine (wbytes_any w.heap.size g v _ 0 wr hw (by have := HBL.out; omega)).mono ?_
        rintro e w3 ⟨u3, rfl, ho3, hn3⟩
        rw [if_pos rfl] at ho3
        have hN3 := hn.trans hn3
        have hsl3 := Owns.slIn bEncOk ho3
        clear hw hn hn3 ho3
        go_wp2_with fail
        refine (read_any _ u3 w3 (by have := HBL.out; omega) hsl3).mono ?_
        rintro e w4 ⟨g2, u4, rfl, hg4, _, hr4, hn4⟩
        have hgw : w.heap.size ≤ g2 := Nat.le_trans hN3.size hg4
        have hN4 := hN3.trans hn4
        clear hsl3 hN3 hn4 hg4
        go_wp2_with fail
        go_loopw [9, 10, 11] (fun i _ _ wr => ∃ k : Nat, k ≤ l.length ∧ i = .int .i64 k ∧ Reads w wr g2 l k) (fun i _ _ _ => l.length - (intOf i).toNat)
        case atStart => exact ⟨0, by omega, rfl, _, hr4, hN4⟩
        case round =>
          clear hr4 hN4
          obtain ⟨k, hk, rfl, v, hr, hn⟩ := hrel
          by_cases hlt : k < l.length
          · have hlt' : (k : Int) < (l.length : Int) := by omega
            have hk0 : (0 : Int) ≤ (k : Int) := by omega
            rcases hh with rfl | ⟨b, off, rfl, hbb, hc⟩
            · simp at hlt
            obtain ⟨x, hx⟩ : ∃ x, l[k]? = some x := ⟨_, List.getElem?_eq_getElem hlt⟩
            have hg := hgood x (List.mem_of_getElem? hx)
            have hsz := HAll.out x (List.mem_of_getElem? hx)
            have hC := hn.cells.1
            have e0 : wr.cell? ⟨b, off + k * 5, none⟩ = some (.int .i64 x.kind) := (hC _ _ hbb).trans (hc k x hx 0 _ rfl)
            have e1 : wr.cell? ⟨b, off + k * 5 + 1, none⟩ = some (.int .u64 x.v) := (hC _ _ hbb).trans (hc k x hx 1 _ rfl)
            have e2 : wr.cell? ⟨b, off + k * 5 + 2, none⟩ = some (.string x.s) := (hC _ _ hbb).trans (hc k x hx 2 _ rfl)
            have e3 : wr.cell? ⟨b, off + k * 5 + 3, none⟩ = some (.bool x.yes) := (hC _ _ hbb).trans (hc k x hx 3 _ rfl)
            have e4 : wr.cell? ⟨b, off + k * 5 + 4, none⟩ = some (.int .i64 x.most) := (hC _ _ hbb).trans (hc k x hx 4 _ rfl)
            have hbl : (encsF ((l.drop k).map kindF)).length ≤ 1000000000 := by
              have := encsF_len ((l.drop k).map kindF) 200 (by omega) (fun f hf => by
                obtain ⟨a, ha, rfl⟩ := List.mem_map.1 hf
                exact ⟨(hgood a (List.mem_of_mem_drop ha)).1, HAll.out a (List.mem_of_mem_drop ha)⟩)
              simp only [List.length_map, List.length_drop] at this
              have : (200 + 10) * (l.length - k) ≤ 210 * 50 := Nat.mul_le_mul_left _ (by omega)
              omega
            rw [reads_cons hx] at hr hbl
            have HGd := Lib.hid hg
            have HSZ := Lib.hid hsz
            have HBl := Lib.hid hbl
            clear hC hc hx hg hsz hbl
            go_wp2_with fail
            refine (kinds_any x wr).mono ?_
            rintro e w3 ⟨rfl, hn3⟩
            have hr3 := hr.new hn3
            have hN3 := hn.trans hn3
            clear e0 e1 e2 e3 e4 hr hn hn3
            have hkk : x.kind % 4 = 0 ∨ x.kind % 4 = 1 ∨ x.kind % 4 = 2 ∨ x.kind % 4 = 3 := by omega
            have hE : encF (kindF x) = if x.kind % 4 = 1 then varB x.s.size ++ x.s.data.toList else if x.kind % 4 = 2 then varB (flagN x.yes) else varB x.v := rfl
            rw [hE] at hr3 HBl
            clear hE
            generalize hR : encsF ((l.drop (k + 1)).map kindF) = rest at hr3 HBl
            have HR := Lib.hid hR.symm
            clear hR
            have hg3 := hr3.1.lt
            rcases hkk with hkk | hkk | hkk | hkk
            · rw [hkk] at hr3 HBl ⊢
              have hrA : RdAt (w3.alloc (Obj.cells #[.int .i64 0, .int .u64 (x.v : Int), .string x.s, .bool x.yes, .int .i64 x.most] 55)) g2 v (varB x.v ++ rest) 0 := hr3.new ((New.refl w3).alloc _)
              have HBl' : (varB x.v ++ rest).length ≤ 1000000000 := HBl.out
              have HBL' := Lib.hid HBl'
              clear HBl'
              go_wp2_with fail
              refine (take_num 0 g2 v _ 0 _ hrA HBL'.out).mono ?_
              rintro e w4 ⟨v4, rfl, hr4, hu4, hf4⟩
              rw [numR_enc x.v rest HGd.out.1] at hr4
              rw [numR_enc x.v rest HGd.out.1]
              have hq := ((Blk.mk_new w3 55 #[.int .i64 0, .int .u64 (x.v : Int), .string x.s, .bool x.yes, .int .i64 x.most]).upd hu4 (by have := hr3.1.lt; omega))
              obtain ⟨q0, q1, q2, q3, q4, q5, qz⟩ := Blk5F hq
              have hN4 := RdAt.step (hN3.alloc _) hgw hu4
              clear hu4 hf4 hrA hr3 hN3
              go_wp2_with fail
              go_roundw
              case rel => exact ⟨k + 1, by omega, by go_num, v4, HR.out ▸ hr4.new ((New.refl w4).alloc _), hN4.alloc _⟩
              case measure => simp [intOf]; omega
            · rw [hkk] at hr3 HBl ⊢
              have hrA : RdAt (w3.alloc (Obj.cells #[.int .i64 1, .int .u64 (x.v : Int), .string x.s, .bool x.yes, .int .i64 x.most] 55)) g2 v (varB x.s.size ++ x.s.data.toList ++ rest) 0 := hr3.new ((New.refl w3).alloc _)
              have HBl' : (varB x.s.size ++ x.s.data.toList ++ rest).length ≤ 1000000000 := HBl.out
              have HBL' := Lib.hid HBl'
              clear HBl'
              go_wp2_with fail
              refine (take_text 0 g2 v _ 0 _ hrA HBL'.out).mono ?_
              rintro e w4 ⟨v4, rfl, hr4, hu4, hf4⟩
              rw [textR_enc x.s rest (Nat.le_trans HSZ.out (by decide))] at hr4
              rw [textR_enc x.s rest (Nat.le_trans HSZ.out (by decide))]
              have hq := ((Blk.mk_new w3 55 #[.int .i64 1, .int .u64 (x.v : Int), .string x.s, .bool x.yes, .int .i64 x.most]).upd hu4 (by have := hr3.1.lt; omega))
              obtain ⟨q0, q1, q2, q3, q4, q5, qz⟩ := Blk5F hq
              have hN4 := RdAt.step (hN3.alloc _) hgw hu4
              clear hu4 hf4 hrA hr3 hN3
              rw [str_data]
              go_wp2_with fail
              go_roundw
              case rel => exact ⟨k + 1, by omega, by go_num, v4, HR.out ▸ hr4.new ((New.refl w4).alloc _), hN4.alloc _⟩
              case measure => simp [intOf]; omega
            · rw [hkk] at hr3 HBl ⊢
              have hrA : RdAt (w3.alloc (Obj.cells #[.int .i64 2, .int .u64 (x.v : Int), .string x.s, .bool x.yes, .int .i64 x.most] 55)) g2 v (varB (flagN x.yes) ++ rest) 0 := hr3.new ((New.refl w3).alloc _)
              have HBl' : (varB (flagN x.yes) ++ rest).length ≤ 1000000000 := HBl.out
              have HBL' := Lib.hid HBl'
              clear HBl'
              go_wp2_with fail
              refine (take_flag 0 g2 v _ 0 _ hrA HBL'.out).mono ?_
              rintro e w4 ⟨v4, rfl, hr4, hu4, hf4⟩
              rw [flagR_enc x.yes rest] at hr4
              rw [flagR_enc x.yes rest]
              have hq := ((Blk.mk_new w3 55 #[.int .i64 2, .int .u64 (x.v : Int), .string x.s, .bool x.yes, .int .i64 x.most]).upd hu4 (by have := hr3.1.lt; omega))
              obtain ⟨q0, q1, q2, q3, q4, q5, qz⟩ := Blk5F hq
              have hN4 := RdAt.step (hN3.alloc _) hgw hu4
              clear hu4 hf4 hrA hr3 hN3
              go_wp2_with fail
              go_roundw
              case rel => exact ⟨k + 1, by omega, by go_num, v4, HR.out ▸ hr4.new ((New.refl w4).alloc _), hN4.alloc _⟩
              case measure => simp [intOf]; omega
            · rw [hkk] at hr3 HBl ⊢
              have hrA : RdAt (w3.alloc (Obj.cells #[.int .i64 0, .int .u64 (x.v : Int), .string x.s, .bool x.yes, .int .i64 x.most] 55)) g2 v (varB x.v ++ rest) 0 := hr3.new ((New.refl w3).alloc _)
              have HBl' : (varB x.v ++ rest).length ≤ 1000000000 := HBl.out
              have HBL' := Lib.hid HBl'
              clear HBl'
              go_wp2_with fail
              refine (take_num 0 g2 v _ 0 _ hrA HBL'.out).mono ?_
              rintro e w4 ⟨v4, rfl, hr4, hu4, hf4⟩
              rw [numR_enc x.v rest HGd.out.1] at hr4
              rw [numR_enc x.v rest HGd.out.1]
              have hq := ((Blk.mk_new w3 55 #[.int .i64 0, .int .u64 (x.v : Int), .string x.s, .bool x.yes, .int .i64 x.most]).upd hu4 (by have := hr3.1.lt; omega))
              obtain ⟨q0, q1, q2, q3, q4, q5, qz⟩ := Blk5F hq
              have hN4 := RdAt.step (hN3.alloc _) hgw hu4
              clear hu4 hf4 hrA hr3 hN3
              go_wp2_with fail
              go_roundw
              case rel => exact ⟨k + 1, by omega, by go_num, v4, HR.out ▸ hr4.new ((New.refl w4).alloc _), hN4.alloc _⟩
              case measure => simp [intOf]; omega
          · have hlt' : ¬ (k : Int) < (l.length : Int) := by omega
            have hke : k = l.length := by omega
            subst hke
            rw [List.drop_length] at hr
            have hr' : RdAt wr g2 v [] 0 := hr
            clear hr
            go_wp2_with fail
            refine (end_any g2 v [] 0 wr hr' (by decide)).mono ?_
            rintro e w5 ⟨rfl, rfl⟩
            rw [exE2]
            go_wp2_with fail
            refine (rest_any g2 v [] 0 wr hr' (by decide)).mono ?_
            rintro e w6 ⟨u6, rfl, ho6, hn6⟩
            obtain ⟨A6, c6, hv6⟩ := (Owns.slIn bEncOk ho6).form
            subst hv6
            go_wp2_with fail
            go_ret
            exact ⟨rfl, hn.trans hn6⟩
  · have t2' : (50 : Int) < (l.length : Int) := by omega
    go_wp2_with fail
    refine (awake03 _).mono ?_
    rintro e w3 ⟨rfl, hn3⟩
    go_wp2_with fail
    go_ret
    exact ⟨rfl, hN2.trans hn3⟩
end Go.Proofs.Ytnjifcgomkdhdaa
