/- The walk of the law CacheKeeps (chapter 11): for every input it answers true. Printed by genLaw11k.py. -/
import Derived.Test.YtcganajbfplmpaaAct11
namespace Go.Proofs.Ytcganajbfplmpaa
open Go.RowKit Go.Lap
set_option linter.unusedVariables false

/-- What is kept of one number. -/
def KInv (E : List Ent) (id : Int) (B : ByteArray) (T Dd : Bool) : Prop := fnd E id = if T then some ⟨id, B, Dd⟩ else none
theorem KInv.has {E : List Ent} {id : Int} {B : ByteArray} {T Dd : Bool} (h : KInv E id B T Dd) : (fnd E id).elim false (·.d) = (T && Dd) := by
  rw [h]; cases T <;> rfl
section
variable {w w' : World} {F : Nat → Prop} {c N : Nat} {E : List Ent}
/-- Behind a Put: one act, its own block beside. -/
theorem KInv.put_other {id : Int} {B : ByteArray} {T Dd : Bool} (h : KInv E id B T Dd) (hi : idsOk E) (hl : E.length ≤ N) {x : Int} {b : ByteArray} {d : Bool} (hx : x ≠ id) :
    match (frontE E x b d)[N]? with
    | none => KInv (putE N E x b d) id B T Dd
    | some z => if z.id = id then T = true ∧ z = ⟨id, B, Dd⟩ ∧ KInv (putE N E x b d) id B false Dd else KInv (putE N E x b d) id B T Dd := by
  have hp := fnd_put hi hl x b d id
  cases hz : (frontE E x b d)[N]? with
  | none =>
    rw [hz] at hp
    simp only at hp ⊢
    unfold KInv
    rw [hp, if_neg (fun e => hx e.symm)]
    exact h
  | some z =>
    rw [hz] at hp
    have hg := put_goes hi hz
    simp only at hp ⊢
    split
    · rename_i he
      rw [if_neg (fun e => hx (e.symm.trans he)), he, h] at hg
      rw [if_pos he.symm] at hp
      cases T with
      | false => cases hg
      | true =>
        simp at hg
        exact ⟨rfl, hg, by unfold KInv; rw [hp]; rfl⟩
    · rename_i he
      unfold KInv
      rw [hp, if_neg (fun e => he e.symm), if_neg (fun e => hx e.symm)]
      exact h
theorem KInv.put_self {id : Int} {B : ByteArray} {T Dd : Bool} (h : KInv E id B T Dd) (hi : idsOk E) (hl : E.length ≤ N) {b : ByteArray} {d : Bool} :
    match (frontE E id b d)[N]? with
    | none => KInv (putE N E id b d) id b true (d || (T && Dd))
    | some z => if z.id = id then z = ⟨id, b, d || (T && Dd)⟩ ∧ KInv (putE N E id b d) id b false (d || (T && Dd)) else KInv (putE N E id b d) id b true (d || (T && Dd)) := by
  have hp := fnd_put hi hl id b d id
  rw [h.has] at hp
  cases hz : (frontE E id b d)[N]? with
  | none =>
    rw [hz] at hp
    simp only at hp ⊢
    unfold KInv
    rw [hp, if_pos rfl]; rfl
  | some z =>
    rw [hz] at hp
    have hg := put_goes hi hz
    simp only at hp ⊢
    split
    · rename_i he
      rw [if_pos he, h.has] at hg
      rw [if_pos he.symm] at hp
      simp at hg
      exact ⟨hg, by unfold KInv; rw [hp]; rfl⟩
    · rename_i he
      unfold KInv
      rw [hp, if_neg (fun e => he e.symm), if_pos rfl]; rfl
theorem KInv.get {id : Int} {B : ByteArray} {T Dd : Bool} (h : KInv E id B T Dd) (hi : idsOk E) (x : Int) : KInv (getE E x) id B T Dd := by
  unfold KInv
  rw [fnd_get hi]; exact h
theorem KInv.del {id : Int} {B : ByteArray} {T Dd : Bool} (h : KInv E id B T Dd) (hi : idsOk E) (x : Int) : KInv (dropE E [x]).1 id B (if x = id then false else T) Dd := by
  rw [dropE_one]
  unfold KInv
  rw [fnd_del hi]
  by_cases hx : x = id
  · rw [if_pos hx.symm, if_pos hx]; rfl
  · rw [if_neg (fun e => hx e.symm), if_neg hx]; exact h
theorem KInv.cl {id : Int} {B : ByteArray} {T Dd : Bool} (h : KInv E id B T Dd) : KInv (E.map clE) id B T false := by
  unfold KInv
  rw [fnd_cl, h]
  cases T <;> rfl
end

set_option maxRecDepth 100000 in
set_option maxHeartbeats 16000000 in
theorem cacheKeeps_walk (r : Nat) (acts : List CAct) (id : Int) (v : Value) (w : World) (hr : r < 256) (hl : acts.length ≤ maxLen) (hs : SlIn w 5 caE v acts) (hg : ∀ x ∈ acts, x.good) (hid : (Lit.int .i64 id).wf = true) :
    Calls Try.prog 4 #[.int .u8 (r : Int), v, .int .i64 id] w fun e w' => e = .returned (.bool true) ∧ New w w' := by
  unfold maxLen at hl
  obtain ⟨n, hn⟩ : ∃ n, n = r % 20 := ⟨r % 20, rfl⟩
  have hn20 : n < 20 := by omega
  have hrr : ((r : Int) % 20) = (n : Int) := by omega
  have hn0 : (0 : Int) ≤ (n : Int) := by omega
  have hn1 : (n : Int) < 20 := by omega
  have hr0 : (0 : Int) ≤ (r : Int) := by omega
  have hr1 : (r : Int) < 256 := by omega
  clear hn
  obtain ⟨A, cp, hv, hcp, hor⟩ := _root_.id hs
  subst hv
  go_enter Try.func4, Try.ntmps4
  go_wp2_with fail
  obtain ⟨N, hNN, hN1⟩ : ∃ N : Nat, N = n + 1 ∧ (1 : Int) + (n : Int) = (N : Int) := ⟨n + 1, rfl, by omega⟩
  rw [hN1]
  have HN := Lib.hid hNN
  have hN20 : N ≤ 20 := by omega
  have hNp : 1 ≤ N := by omega
  clear hN1 hNN hrr hn20 hn0 hn1 hr0 hr1 hr
  refine (newC N _ hNp (by omega)).mono ?_
  rintro e w1 ⟨c, rfl, h1, hn1⟩
  have hF1 : ∀ k, Grow (fun _ => False) w w1 k → w.heap.size ≤ k := fun k hk => hk.elim (fun h => h.elim) (fun h => h.1)
  generalize Grow (fun _ => False) w w1 = F1 at h1 hF1
  go_wp2_with fail
  refine (awake11 _).mono ?_
  rintro e w2 ⟨rfl, hn2⟩
  have h2 := h1.new hn2
  have hN2 := hn1.trans hn2
  have HG := Lib.hid hg
  have HI := Lib.hid hid
  clear hn1 hn2 h1 hg hs hid
  go_wp2_with fail
  go_loopw [10, 11, 12, 13, 14, 15, 16, 17, 18] (fun u10 u11 u12 i _ _ _ _ _ wr => ∃ k : Nat, k ≤ acts.length ∧ k ≤ 80 ∧ i = .int .i64 k ∧ ∃ (F : Nat → Prop) (E : List Ent) (B : ByteArray) (T Dd : Bool), u10 = .string B ∧ u11 = .bool T ∧ u12 = .bool Dd ∧ CSt wr F c N E ∧ (∀ k, F k → w.heap.size ≤ k) ∧ New w wr ∧ KInv E id B T Dd) (fun _ _ _ i _ _ _ _ _ _ => acts.length - (intOf i).toNat)
  case atStart => exact ⟨0, by omega, by omega, rfl, F1, [], ⟨#[]⟩, false, false, rfl, rfl, rfl, h2, hF1, hN2, rfl⟩
  case round =>
    obtain ⟨k, hk, hk80, rfl, F, E, B, T, Dd, rfl, rfl, rfl, hC, hF, hnw, hK⟩ := hrel
    have HF := Lib.hid hF
    have HC := Lib.hid hC
    have HW := Lib.hid hnw
    have HK := Lib.hid hK
    clear hF hC hnw hK
    by_cases hlt : k < acts.length
    · have hlt' : (k : Int) < (acts.length : Int) := by omega
      by_cases hlt8 : k < 80
      · have hlt8' : (k : Int) < 80 := by omega
        rcases hor with hor | ⟨b, off, rfl, hb, hc⟩
        · rw [hor] at hlt; simp at hlt
        obtain ⟨x, hx⟩ : ∃ x, acts[k]? = some x := ⟨_, List.getElem?_eq_getElem hlt⟩
        have hcells := HW.out.cells.1
        have e0 : wr.cell? ⟨b, off + k * 5, none⟩ = some (.int .i64 x.kind) := (hcells _ _ hb).trans (by have := hc _ x hx 0 _ rfl; simpa using this)
        have e1 : wr.cell? ⟨b, off + k * 5 + 1, none⟩ = some (.int .i64 x.id) := (hcells _ _ hb).trans (by have := hc _ x hx 1 _ rfl; simpa using this)
        have e2 : wr.cell? ⟨b, off + k * 5 + 2, none⟩ = some (.int .i64 x.more) := (hcells _ _ hb).trans (by have := hc _ x hx 2 _ rfl; simpa using this)
        have e3 : wr.cell? ⟨b, off + k * 5 + 3, none⟩ = some (.string x.b) := (hcells _ _ hb).trans (by have := hc _ x hx 3 _ rfl; simpa using this)
        have e4 : wr.cell? ⟨b, off + k * 5 + 4, none⟩ = some (.bool x.d) := (hcells _ _ hb).trans (by have := hc _ x hx 4 _ rfl; simpa using this)
        have hgx := HG.out x (List.mem_of_getElem? hx)
        have HC0 := Lib.hid hc
        obtain ⟨K, xi, xm, xb, xd⟩ := x
        have HGX := Lib.hid (show (Lit.int .i64 xi).wf = true from hgx.2.1)
        clear hc hx hcells hgx
        have hBz := Blk.mk_new wr 30 #[.int .i64 0, .int .i64 0, .int .i64 0, .string ⟨#[]⟩, .bool false]
        obtain ⟨z0, z1, z2, z3, z4, z5, zz⟩ := Blk5A hBz
        have hB := Blk.mk_new wr 30 #[.int .i64 K, .int .i64 xi, .int .i64 xm, .string xb, .bool xd]
        have hn4 := (New.refl wr).alloc (.cells #[.int .i64 K, .int .i64 xi, .int .i64 xm, .string xb, .bool xd] 30)
        have HC4 := Lib.hid (HC.out.ltG.new hn4)
        have HW4 := Lib.hid (HW.out.trans hn4)
        have HB4 := Lib.hid hB
        have HZ := Lib.hid hn4.size
        obtain ⟨p0, p1, p2, p3, p4, p5, pz⟩ := Blk5A hB
        have hids := HC.out.ids
        have hlen := HC.out.len.1
        clear hBz hB hn4
        have hkind : K = 0 ∨ K = 1 ∨ K = 2 ∨ K = 3 ∨ (K ≠ 0 ∧ K ≠ 1 ∧ K ≠ 2 ∧ K ≠ 3) := by omega
        rcases hkind with rfl | rfl | rfl | rfl | ⟨hk0, hk1, hk2, hk3⟩
        · go_wp2_with fail
          refine (put_any _ HC4.out xi HGX.out xb xd).mono ?_
          rintro e w5 ⟨rfl, hC5, hu5⟩
          have hB5 := HB4.out.upd hu5 (fun hk => Nat.lt_irrefl _ hk.2)
          have hN5 := HW4.out.upd hu5 (fun j hj => HF.out j hj.1)
          have HF5 : Hid (∀ j, Grow (fun j => F j ∧ j < wr.heap.size) _ w5 j → w.heap.size ≤ j) := Lib.hid (fun j hj => hj.elim (fun h => HF.out j h.1) (fun h => Nat.le_trans HW4.out.size h.1))
          generalize Grow (fun j => F j ∧ j < wr.heap.size) _ w5 = F5 at hC5 HF5
          have HU5 := Lib.hid hu5.size
          clear hu5 p0 p1 p2 p3 p4 p5 pz e0 e1 e2 e3 e4
          have hBy := Blk.mk_new w5 32 #[.int .i64 0, .string ⟨#[]⟩, .bool false]
          obtain ⟨y0, y1, y2, y3, yz⟩ := Blk3G hBy
          cases hzz : (frontE E xi xb xd)[N]? with
          | none =>
            have hn6 := (New.refl w5).alloc (.cells #[.int .i64 0, .string ⟨#[]⟩, .bool false] 32)
            have hC9 := hC5.new hn6
            have HN9 := Lib.hid (hN5.trans hn6)
            have HF9 := HF5
            obtain ⟨q0, q1, q2, q3, q4, q5, qz⟩ := Blk5A (hB5.new hn6)
            clear hB5 hn6 hN5 hC5 z0 z1 z2 z3 z4 z5 zz hBy
            dsimp only [retE]
            by_cases hxi : xi = id
            · subst hxi
              have hinv := HK.out.put_self (b := xb) (d := xd) hids hlen
              rw [hzz] at hinv
              have HINV := Lib.hid hinv
              clear hinv hzz hids hlen
              cases xd with
              | true =>
                have hl9 := hC9.len.1
                have hl9' : ¬ (N : Int) < ((putE N E xi xb true).length : Int) := by omega
                have HC9 := Lib.hid hC9
                clear hC9
                go_wp2_with fail
                refine (lenC _ HC9.out).mono ?_
                rintro e wl ⟨rfl, rfl⟩
                go_wp2_with fail
                go_roundw
                case rel => exact ⟨k + 1, by omega, by omega, by go_num, _, _, xb, true, true, rfl, rfl, rfl, HC9.out, HF9.out, HN9.out, by have := HINV.out; simpa using this⟩
                case measure => simp [intOf]; omega
              | false =>
                cases T with
                | true =>
                  have hl9 := hC9.len.1
                  have hl9' : ¬ (N : Int) < ((putE N E xi xb false).length : Int) := by omega
                  have HC9 := Lib.hid hC9
                  clear hC9
                  go_wp2_with fail
                  refine (lenC _ HC9.out).mono ?_
                  rintro e wl ⟨rfl, rfl⟩
                  go_wp2_with fail
                  go_roundw
                  case rel => exact ⟨k + 1, by omega, by omega, by go_num, _, _, xb, true, Dd, rfl, rfl, rfl, HC9.out, HF9.out, HN9.out, by have := HINV.out; simpa using this⟩
                  case measure => simp [intOf]; omega
                | false =>
                  have hl9 := hC9.len.1
                  have hl9' : ¬ (N : Int) < ((putE N E xi xb false).length : Int) := by omega
                  have HC9 := Lib.hid hC9
                  clear hC9
                  go_wp2_with fail
                  refine (lenC _ HC9.out).mono ?_
                  rintro e wl ⟨rfl, rfl⟩
                  go_wp2_with fail
                  go_roundw
                  case rel => exact ⟨k + 1, by omega, by omega, by go_num, _, _, xb, true, false, rfl, rfl, rfl, HC9.out, HF9.out, HN9.out, by have := HINV.out; simpa using this⟩
                  case measure => simp [intOf]; omega
            · have hinv := HK.out.put_other (b := xb) (d := xd) hids hlen hxi
              rw [hzz] at hinv
              have HINV := Lib.hid hinv
              clear hinv hzz hids hlen
              have hl9 := hC9.len.1
              have hl9' : ¬ (N : Int) < ((putE N E xi xb xd).length : Int) := by omega
              have HC9 := Lib.hid hC9
              clear hC9
              go_wp2_with fail
              refine (lenC _ HC9.out).mono ?_
              rintro e wl ⟨rfl, rfl⟩
              go_wp2_with fail
              go_roundw
              case rel => exact ⟨k + 1, by omega, by omega, by go_num, _, _, B, T, Dd, rfl, rfl, rfl, HC9.out, HF9.out, HN9.out, HINV.out⟩
              case measure => simp [intOf]; omega
          | some z =>
            obtain ⟨zi, zb, zd⟩ := z
            have hn6 := (New.refl w5).alloc (.cells #[.int .i64 zi, .string zb, .bool zd] 32)
            have hBg := Blk.mk_new w5 32 #[.int .i64 zi, .string zb, .bool zd]
            obtain ⟨g0, g1, g2, g3, gz⟩ := Blk3G hBg
            have hC9 := hC5.new hn6
            have HN9 := Lib.hid (hN5.trans hn6)
            have HF9 := HF5
            obtain ⟨q0, q1, q2, q3, q4, q5, qz⟩ := Blk5A (hB5.new hn6)
            clear hB5 hn6 hN5 hC5 z0 z1 z2 z3 z4 z5 zz hBy hBg
            dsimp only [retE]
            by_cases hxi : xi = id
            · subst hxi
              have hinv := HK.out.put_self (b := xb) (d := xd) hids hlen
              rw [hzz] at hinv
              simp only at hinv
              by_cases hzi : zi = xi
              · rw [if_pos hzi] at hinv
                obtain ⟨hze, hinv⟩ := hinv
                injection hze with h1 h2 h3
                replace h1 := h1.symm
                replace h2 := h2.symm
                replace h3 := h3.symm
                subst h1 h2
                have HINV := Lib.hid hinv
                clear hinv hzz hids hlen hzi
                cases xd with
                | true =>
                  replace h3 : true = zd := h3
                  subst h3
                  have hl9 := hC9.len.1
                  have hl9' : ¬ (N : Int) < ((putE N E xi xb true).length : Int) := by omega
                  have HC9 := Lib.hid hC9
                  clear hC9
                  go_wp2_with fail
                  refine (lenC _ HC9.out).mono ?_
                  rintro e wl ⟨rfl, rfl⟩
                  go_wp2_with fail
                  go_roundw
                  case rel => exact ⟨k + 1, by omega, by omega, by go_num, _, _, xb, false, true, rfl, rfl, rfl, HC9.out, HF9.out, HN9.out, by have := HINV.out; simpa using this⟩
                  case measure => simp [intOf]; omega
                | false =>
                  cases T with
                  | true =>
                    replace h3 : Dd = zd := h3
                    subst h3
                    have hl9 := hC9.len.1
                    have hl9' : ¬ (N : Int) < ((putE N E xi xb false).length : Int) := by omega
                    have HC9 := Lib.hid hC9
                    clear hC9
                    go_wp2_with fail
                    refine (lenC _ HC9.out).mono ?_
                    rintro e wl ⟨rfl, rfl⟩
                    go_wp2_with fail
                    go_roundw
                    case rel => exact ⟨k + 1, by omega, by omega, by go_num, _, _, xb, false, Dd, rfl, rfl, rfl, HC9.out, HF9.out, HN9.out, by have := HINV.out; simpa using this⟩
                    case measure => simp [intOf]; omega
                  | false =>
                    replace h3 : false = zd := h3
                    subst h3
                    have hl9 := hC9.len.1
                    have hl9' : ¬ (N : Int) < ((putE N E xi xb false).length : Int) := by omega
                    have HC9 := Lib.hid hC9
                    clear hC9
                    go_wp2_with fail
                    refine (lenC _ HC9.out).mono ?_
                    rintro e wl ⟨rfl, rfl⟩
                    go_wp2_with fail
                    go_roundw
                    case rel => exact ⟨k + 1, by omega, by omega, by go_num, _, _, xb, false, false, rfl, rfl, rfl, HC9.out, HF9.out, HN9.out, by have := HINV.out; simpa using this⟩
                    case measure => simp [intOf]; omega
              · rw [if_neg hzi] at hinv
                have HINV := Lib.hid hinv
                clear hinv hzz hids hlen
                cases xd with
                | true =>
                  have hl9 := hC9.len.1
                  have hl9' : ¬ (N : Int) < ((putE N E xi xb true).length : Int) := by omega
                  have HC9 := Lib.hid hC9
                  clear hC9
                  go_wp2_with fail
                  refine (lenC _ HC9.out).mono ?_
                  rintro e wl ⟨rfl, rfl⟩
                  go_wp2_with fail
                  go_roundw
                  case rel => exact ⟨k + 1, by omega, by omega, by go_num, _, _, xb, true, true, rfl, rfl, rfl, HC9.out, HF9.out, HN9.out, by have := HINV.out; simpa using this⟩
                  case measure => simp [intOf]; omega
                | false =>
                  cases T with
                  | true =>
                    have hl9 := hC9.len.1
                    have hl9' : ¬ (N : Int) < ((putE N E xi xb false).length : Int) := by omega
                    have HC9 := Lib.hid hC9
                    clear hC9
                    go_wp2_with fail
                    refine (lenC _ HC9.out).mono ?_
                    rintro e wl ⟨rfl, rfl⟩
                    go_wp2_with fail
                    go_roundw
                    case rel => exact ⟨k + 1, by omega, by omega, by go_num, _, _, xb, true, Dd, rfl, rfl, rfl, HC9.out, HF9.out, HN9.out, by have := HINV.out; simpa using this⟩
                    case measure => simp [intOf]; omega
                  | false =>
                    have hl9 := hC9.len.1
                    have hl9' : ¬ (N : Int) < ((putE N E xi xb false).length : Int) := by omega
                    have HC9 := Lib.hid hC9
                    clear hC9
                    go_wp2_with fail
                    refine (lenC _ HC9.out).mono ?_
                    rintro e wl ⟨rfl, rfl⟩
                    go_wp2_with fail
                    go_roundw
                    case rel => exact ⟨k + 1, by omega, by omega, by go_num, _, _, xb, true, false, rfl, rfl, rfl, HC9.out, HF9.out, HN9.out, by have := HINV.out; simpa using this⟩
                    case measure => simp [intOf]; omega
            · have hinv := HK.out.put_other (b := xb) (d := xd) hids hlen hxi
              rw [hzz] at hinv
              simp only at hinv
              by_cases hzi : zi = id
              · rw [if_pos hzi] at hinv
                obtain ⟨hT, hze, hinv⟩ := hinv
                injection hze with h1 h2 h3
                replace h1 := h1.symm
                replace h2 := h2.symm
                replace h3 := h3.symm
                subst h1 h2 h3 hT
                have HINV := Lib.hid hinv
                clear hinv hzz hids hlen hzi
                have hl9 := hC9.len.1
                have hl9' : ¬ (N : Int) < ((putE N E xi xb xd).length : Int) := by omega
                have HC9 := Lib.hid hC9
                clear hC9
                go_wp2_with fail
                refine (lenC _ HC9.out).mono ?_
                rintro e wl ⟨rfl, rfl⟩
                go_wp2_with fail
                go_roundw
                case rel => exact ⟨k + 1, by omega, by omega, by go_num, _, _, B, false, Dd, rfl, rfl, rfl, HC9.out, HF9.out, HN9.out, HINV.out⟩
                case measure => simp [intOf]; omega
              · rw [if_neg hzi] at hinv
                have HINV := Lib.hid hinv
                clear hinv hzz hids hlen
                have hl9 := hC9.len.1
                have hl9' : ¬ (N : Int) < ((putE N E xi xb xd).length : Int) := by omega
                have HC9 := Lib.hid hC9
                clear hC9
                go_wp2_with fail
                refine (lenC _ HC9.out).mono ?_
                rintro e wl ⟨rfl, rfl⟩
                go_wp2_with fail
                go_roundw
                case rel => exact ⟨k + 1, by omega, by omega, by go_num, _, _, B, T, Dd, rfl, rfl, rfl, HC9.out, HF9.out, HN9.out, HINV.out⟩
                case measure => simp [intOf]; omega
        · go_wp2_with fail
          refine (get_c _ HC4.out xi HGX.out).mono ?_
          rintro e w5 ⟨rfl, hC9, hu5⟩
          have hB5 := HB4.out.upd hu5 (fun hk => Nat.lt_irrefl _ hk.2)
          have HN9 := Lib.hid (HW4.out.upd hu5 (fun j hj => HF.out j hj.1))
          have HF9 : Hid (∀ j, F j ∧ j < wr.heap.size → w.heap.size ≤ j) := Lib.hid (fun j hj => HF.out j hj.1)
          have HINV := Lib.hid (HK.out.get hids xi)
          obtain ⟨q0, q1, q2, q3, q4, q5, qz⟩ := Blk5A hB5
          clear hu5 p0 p1 p2 p3 p4 p5 pz e0 e1 e2 e3 e4 z0 z1 z2 z3 z4 z5 zz hB5
          by_cases hxi : xi = id
          · subst hxi
            cases T with
            | true =>
              have hf : fnd E xi = some ⟨xi, B, Dd⟩ := HK.out
              rw [hf]
              clear hf
              dsimp only [getR]
              have hl9 := hC9.len.1
              have hl9' : ¬ (N : Int) < ((getE E xi).length : Int) := by omega
              have HC9 := Lib.hid hC9
              clear hC9
              go_wp2_with fail
              refine (lenC _ HC9.out).mono ?_
              rintro e wl ⟨rfl, rfl⟩
              go_wp2_with fail
              go_roundw
              case rel => exact ⟨k + 1, by omega, by omega, by go_num, _, _, B, true, Dd, rfl, rfl, rfl, HC9.out, HF9.out, HN9.out, HINV.out⟩
              case measure => simp [intOf]; omega
            | false =>
              have hf : fnd E xi = none := HK.out
              rw [hf]
              clear hf
              dsimp only [getR]
              have hl9 := hC9.len.1
              have hl9' : ¬ (N : Int) < ((getE E xi).length : Int) := by omega
              have HC9 := Lib.hid hC9
              clear hC9
              go_wp2_with fail
              refine (lenC _ HC9.out).mono ?_
              rintro e wl ⟨rfl, rfl⟩
              go_wp2_with fail
              go_roundw
              case rel => exact ⟨k + 1, by omega, by omega, by go_num, _, _, B, false, Dd, rfl, rfl, rfl, HC9.out, HF9.out, HN9.out, HINV.out⟩
              case measure => simp [intOf]; omega
          · obtain ⟨gb, gn, hgr⟩ : ∃ gb gn, getR (fnd E xi) = .tuple #[.string gb, .int .i64 gn] := by cases fnd E xi <;> exact ⟨_, _, rfl⟩
            rw [hgr]
            clear hgr
            have hl9 := hC9.len.1
            have hl9' : ¬ (N : Int) < ((getE E xi).length : Int) := by omega
            have HC9 := Lib.hid hC9
            clear hC9
            go_wp2_with fail
            refine (lenC _ HC9.out).mono ?_
            rintro e wl ⟨rfl, rfl⟩
            go_wp2_with fail
            go_roundw
            case rel => exact ⟨k + 1, by omega, by omega, by go_num, _, _, B, T, Dd, rfl, rfl, rfl, HC9.out, HF9.out, HN9.out, HINV.out⟩
            case measure => simp [intOf]; omega
        · have hsb := Blk.mk_new (wr.alloc (.cells #[.int .i64 2, .int .i64 xi, .int .i64 xm, .string xb, .bool xd] 30)) 3 #[.int .i64 xi]
          have hn6 := (New.refl (wr.alloc (.cells #[.int .i64 2, .int .i64 xi, .int .i64 xm, .string xb, .bool xd] 30))).alloc (.cells #[.int .i64 xi] 3)
          have hsl := SlIn.one (x := xi) hsb iEOk rfl
          rw [World.size_alloc] at hsl
          have HZ6 := Lib.hid hn6.size
          go_wp2_with fail
          refine (drop_c _ (HC4.out.new hn6) hsl (by simp) (by simpa using HGX.out) (fun b0 off0 n0 cp0 hv hk => by
            cases hv
            have := hk.2
            omega)).mono ?_
          rintro e w5 ⟨rfl, hC9, hu5⟩
          have hB5 := (HB4.out.new hn6).upd hu5 (fun hk => Nat.lt_irrefl _ hk.2)
          have HN9 := Lib.hid ((HW4.out.trans hn6).upd hu5 (fun j hj => HF.out j hj.1))
          have HF9 : Hid (∀ j, F j ∧ j < wr.heap.size → w.heap.size ≤ j) := Lib.hid (fun j hj => HF.out j hj.1)
          have hinv := HK.out.del hids xi
          obtain ⟨q0, q1, q2, q3, q4, q5, qz⟩ := Blk5A hB5
          clear hu5 p0 p1 p2 p3 p4 p5 pz e0 e1 e2 e3 e4 z0 z1 z2 z3 z4 z5 zz hB5 hsb hsl hn6
          by_cases hxi : xi = id
          · subst hxi
            rw [if_pos rfl] at hinv
            have HINV := Lib.hid hinv
            clear hinv
            have hl9 := hC9.len.1
            have hl9' : ¬ (N : Int) < ((dropE E [xi]).1.length : Int) := by omega
            have HC9 := Lib.hid hC9
            clear hC9
            go_wp2_with fail
            refine (lenC _ HC9.out).mono ?_
            rintro e wl ⟨rfl, rfl⟩
            go_wp2_with fail
            go_roundw
            case rel => exact ⟨k + 1, by omega, by omega, by go_num, _, _, B, false, Dd, rfl, rfl, rfl, HC9.out, HF9.out, HN9.out, HINV.out⟩
            case measure => simp [intOf]; omega
          · rw [if_neg hxi] at hinv
            have HINV := Lib.hid hinv
            clear hinv
            have hl9 := hC9.len.1
            have hl9' : ¬ (N : Int) < ((dropE E [xi]).1.length : Int) := by omega
            have HC9 := Lib.hid hC9
            clear hC9
            go_wp2_with fail
            refine (lenC _ HC9.out).mono ?_
            rintro e wl ⟨rfl, rfl⟩
            go_wp2_with fail
            go_roundw
            case rel => exact ⟨k + 1, by omega, by omega, by go_num, _, _, B, T, Dd, rfl, rfl, rfl, HC9.out, HF9.out, HN9.out, HINV.out⟩
            case measure => simp [intOf]; omega
        · go_wp2_with fail
          refine (dirty_c _ HC4.out).mono ?_
          rintro e w5 ⟨u5, D5, rfl, -, -, -, -, hC9, hu5⟩
          have HN9 := Lib.hid (HW4.out.upd hu5 (fun j hj => HF.out j hj.1))
          have HF9 : Hid (∀ j, F j ∧ j < wr.heap.size → w.heap.size ≤ j) := Lib.hid (fun j hj => HF.out j hj.1)
          have HINV := Lib.hid HK.out.cl
          clear hu5 p0 p1 p2 p3 p4 p5 pz e0 e1 e2 e3 e4 z0 z1 z2 z3 z4 z5 zz
          have hl9 := hC9.len.1
          have hl9' : ¬ (N : Int) < ((E.map clE).length : Int) := by omega
          have HC9 := Lib.hid hC9
          clear hC9
          go_wp2_with fail
          refine (lenC _ HC9.out).mono ?_
          rintro e wl ⟨rfl, rfl⟩
          go_wp2_with fail
          go_roundw
          case rel => exact ⟨k + 1, by omega, by omega, by go_num, _, _, B, T, false, rfl, rfl, rfl, HC9.out, HF9.out, HN9.out, HINV.out⟩
          case measure => simp [intOf]; omega
        · have HN9 := HW4
          have hC9 := HC4.out
          have HF9 : Hid (∀ j, F j ∧ j < wr.heap.size → w.heap.size ≤ j) := Lib.hid (fun j hj => HF.out j hj.1)
          have hl9 := hC9.len.1
          have hl9' : ¬ (N : Int) < (E.length : Int) := by omega
          have HC9 := Lib.hid hC9
          clear hC9
          go_wp2_with fail
          refine (lenC _ HC9.out).mono ?_
          rintro e wl ⟨rfl, rfl⟩
          go_wp2_with fail
          go_roundw
          case rel => exact ⟨k + 1, by omega, by omega, by go_num, _, _, B, T, Dd, rfl, rfl, rfl, HC9.out, HF9.out, HN9.out, HK.out⟩
          case measure => simp [intOf]; omega
      · have hlt8' : ¬ (k : Int) < 80 := by omega
        go_wp2_with fail
        refine (get_c _ HC.out id HI.out).mono ?_
        rintro e w5 ⟨rfl, -, hu5⟩
        have HN9 := Lib.hid (HW.out.upd hu5 HF.out)
        clear hu5
        cases T with
        | true =>
          have hf : fnd E id = some ⟨id, B, Dd⟩ := HK.out
          rw [hf]
          dsimp only [getR]
          go_wp2_with fail
          go_ret
          exact ⟨rfl, HN9.out⟩
        | false =>
          have hf : fnd E id = none := HK.out
          rw [hf]
          dsimp only [getR]
          go_wp2_with fail
          go_ret
          exact ⟨rfl, HN9.out⟩
    · have hlt' : ¬ (k : Int) < (acts.length : Int) := by omega
      go_wp2_with fail
      refine (get_c _ HC.out id HI.out).mono ?_
      rintro e w5 ⟨rfl, -, hu5⟩
      have HN9 := Lib.hid (HW.out.upd hu5 HF.out)
      clear hu5
      cases T with
      | true =>
        have hf : fnd E id = some ⟨id, B, Dd⟩ := HK.out
        rw [hf]
        dsimp only [getR]
        go_wp2_with fail
        go_ret
        exact ⟨rfl, HN9.out⟩
      | false =>
        have hf : fnd E id = none := HK.out
        rw [hf]
        dsimp only [getR]
        go_wp2_with fail
        go_ret
        exact ⟨rfl, HN9.out⟩
end Go.Proofs.Ytcganajbfplmpaa
