/- Chapter 22 (decree): Deliver whole; a group that is the call's own; the law's run and do. -/
import Derived.Test.YtghhcjpilcoblaaDg14
namespace Go.Proofs.Ytghhcjpilcoblaa
open Go.RowKit Go.Lap
set_option linter.unusedVariables false
section
variable {w w' w'' W wa w2 : World} {S F : Nat → Prop} {gp n B C k : Nat} {L : GpL} {g g' : Gm}
theorem gdeliver (h : GpAt w gp n B L g) (hok : GmOk n B g) (hn7 : n ≤ 7) (hB : B ≤ 100000000) {i : Nat} {p : Pkt} (hp : g.bg[i]? = some p) :
    Calls Try.prog 51 #[.pointer (some ⟨gp, 0, none⟩), .int .i64 (i : Int)] w (ActPost w gp n (B + 1) L (.int .i64 0) (g.deliver n i)) := by
  have hd : g.deliver n i = g.arrive n p (g.bg.eraseIdx i) := by unfold Gm.deliver; rw [hp]
  rw [hd]
  have hk := (hok.bg p (List.mem_of_getElem? hp)).2.2.k
  obtain ⟨k, hke⟩ : ∃ k, p.m.k = k := ⟨_, rfl⟩
  rw [hke] at hk
  match k, hk, hke with
  | 0, _, hk => exact gdl_zero h hok hn7 hB hp hk
  | 1, _, hk => exact gdl_one h hok hn7 hB hp hk
  | 2, _, hk => exact gdl_two h hok hn7 hB hp hk
  | 3, _, hk => exact gdl_three h hok hn7 hB hp hk
  | 4, _, hk => exact gdl_four h hok hn7 hB hp hk
  | 5, _, hk => exact gdl_five h hok hn7 hB hp hk
  | 6, _, hk => exact gdl_six h hok hn7 hB hp hk
  | k + 7, h, _ => omega
/-- A group whose blocks lie in F; what is new is in F too. -/
def GSt (F : Nat → Prop) (W : World) (n B gp : Nat) (g : Gm) : Prop := ∃ L, GpAt W gp n B L g ∧ (∀ j, GpF gp n L j → F j) ∧ (∀ j, W.heap.size ≤ j → F j) ∧ GmOk n B g
theorem GSt.act {L : GpL} (hF : ∀ j, GpF gp n L j → F j) (hn : ∀ j, W.heap.size ≤ j → F j) (hok : GmOk n C g') (hp : GrPost W gp n C L g' w') : GSt F w' n C gp g' ∧ Upd F W w' := by
  obtain ⟨L', h1, h2, h3⟩ := hp
  exact ⟨⟨L', h1, fun j hj => (h2 j hj).elim (hF j) (fun h => hn j h.1), fun j hj => hn j (Nat.le_trans h3.size hj), hok⟩, h3.mono fun j _ hj => hF j hj⟩
theorem GSt.new (h : GSt F W n B gp g) (hn : New W w') : GSt F w' n B gp g := by
  obtain ⟨L, h1, h2, h3, h4⟩ := h
  exact ⟨L, h1.new hn, h2, fun j hj => h3 j (Nat.le_trans hn.size hj), h4⟩
theorem GSt.mono (h : GSt F W n B gp g) (hB : B ≤ C) : GSt F W n C gp g := by
  obtain ⟨L, h1, h2, h3, h4⟩ := h
  exact ⟨L, h1.mono hB, h2, h3, h4.mono hB⟩
theorem GSt.weak {G : Nat → Prop} (h : GSt F W n B gp g) (hG : ∀ j, F j → G j) : GSt G W n B gp g := by
  obtain ⟨L, h1, h2, h3, h4⟩ := h
  exact ⟨L, h1, fun j hj => hG j (h2 j hj), fun j hj => hG j (h3 j hj), h4⟩
/-- A new block beside the group. -/
theorem GSt.hide (h : GSt F W n B gp g) (o : Obj) : GSt (fun j => F j ∧ j ≠ W.heap.size) (W.alloc o) n B gp g := by
  obtain ⟨L, h1, h2, h3, h4⟩ := h
  refine ⟨L, h1.new ((New.refl W).alloc o), fun j hj => ⟨h2 j hj, ?_⟩, fun j hj => ?_, h4⟩
  · have := h1.f_lt j hj; omega
  · rw [World.size_alloc] at hj; exact ⟨h3 j (by omega), by omega⟩
theorem GSt.ok (h : GSt F W n B gp g) : GmOk n B g := let ⟨_, _, _, _, h⟩ := h; h
/-- What an act of the law leaves. -/
def StPost (F : Nat → Prop) (W : World) (n B gp : Nat) (r : Int) (g' : Gm) (e : Ending) (w' : World) : Prop := e = .returned (.int .i64 r) ∧ GSt F w' n B gp g' ∧ Upd F W w'
def inN (n : Nat) (i : Int) : Prop := 0 ≤ i ∧ i < n
instance (n : Nat) (i : Int) : Decidable (inN n i) := inferInstanceAs (Decidable (_ ∧ _))
theorem inN_of {n : Nat} {i : Int} (h : inN n i) : ∃ j : Nat, i = (j : Int) ∧ j < n := ⟨i.toNat, by have := h.1; omega, by have := h.1; have := h.2; omega⟩
def deliverR (g : Gm) (i : Int) : Int := if inN g.bg.length i then 0 else 223
def deliverG (n : Nat) (g : Gm) (i : Int) : Gm := if inN g.bg.length i then g.deliver n i.toNat else g
theorem st_deliver (h : GSt F W n B gp g) (hn7 : n ≤ 7) (hB : B ≤ 100000000) (i : Int) :
    Calls Try.prog 51 #[.pointer (some ⟨gp, 0, none⟩), .int .i64 i] W (StPost F W n (B + 1) gp (deliverR g i) (deliverG n g i)) := by
  obtain ⟨L, h1, h2, h3, h4⟩ := id h
  unfold deliverR deliverG
  by_cases hi : inN g.bg.length i
  · rw [if_pos hi, if_pos hi]
    obtain ⟨j, rfl, hj⟩ := inN_of hi
    refine (gdeliver h1 h4 hn7 hB (List.getElem?_eq_getElem hj)).mono ?_
    rintro e w' ⟨rfl, hp⟩
    exact ⟨rfl, GSt.act h2 h3 ((h4.deliver hn7 j).mono (Nat.le_succ B)) hp⟩
  · rw [if_neg hi, if_neg hi]
    refine (gdl_no h1 i hi).mono ?_
    rintro e w' ⟨rfl, hn⟩
    exact ⟨rfl, (h.new hn).mono (Nat.le_succ B), Upd.new hn⟩
def tickR (n : Nat) (i : Int) : Int := if inN n i then 0 else 221
def tickG (n : Nat) (g : Gm) (i : Int) : Gm := if inN n i then g.tick n i.toNat else g
theorem st_tick (h : GSt F W n B gp g) (hn7 : n ≤ 7) (hB : B ≤ 100000000) (i : Int) :
    Calls Try.prog 21 #[.pointer (some ⟨gp, 0, none⟩), .int .i64 i] W (StPost F W n (B + 1) gp (tickR n i) (tickG n g i)) := by
  obtain ⟨L, h1, h2, h3, h4⟩ := id h
  unfold tickR tickG
  by_cases hi : inN n i
  · rw [if_pos hi, if_pos hi]
    obtain ⟨j, rfl, hj⟩ := inN_of hi
    refine (gtick h1 hj (h4.nd j hj) hB hn7).mono ?_
    rintro e w' ⟨rfl, hp⟩
    exact ⟨rfl, GSt.act h2 h3 (h4.tick hn7 (by omega) hj) (hp.mono (Nat.le_succ B))⟩
  · rw [if_neg hi, if_neg hi]
    refine (gtick_no h1 i hi).mono ?_
    rintro e w' ⟨rfl, rfl⟩
    exact ⟨rfl, h.mono (Nat.le_succ B), Upd.refl _ _⟩
def crashG (n : Nat) (g : Gm) (i : Int) : Gm := if inN n i then g.crash i.toNat else g
theorem st_crash (h : GSt F W n B gp g) (hB0 : 0 < B) (i : Int) :
    Calls Try.prog 22 #[.pointer (some ⟨gp, 0, none⟩), .int .i64 i] W (StPost F W n (B + 1) gp (tickR n i) (crashG n g i)) := by
  obtain ⟨L, h1, h2, h3, h4⟩ := id h
  unfold tickR crashG
  by_cases hi : inN n i
  · rw [if_pos hi, if_pos hi]
    obtain ⟨j, rfl, hj⟩ := inN_of hi
    refine (gcrash h1 hj).mono ?_
    rintro e w' ⟨rfl, hp⟩
    exact ⟨rfl, GSt.act h2 h3 ((h4.crash hB0 hj).mono (Nat.le_succ B)) (hp.mono (Nat.le_succ B))⟩
  · rw [if_neg hi, if_neg hi]
    refine (gcrash_no h1 i hi).mono ?_
    rintro e w' ⟨rfl, rfl⟩
    exact ⟨rfl, h.mono (Nat.le_succ B), Upd.refl _ _⟩
def proposeR (n : Nat) (i : Int) (v : ByteArray) : Int := if inN n i then if 1 ≤ v.size ∧ v.size ≤ 64 then 0 else 222 else 221
def proposeG (n : Nat) (g : Gm) (i : Int) (v : ByteArray) : Gm := if inN n i ∧ 1 ≤ v.size ∧ v.size ≤ 64 then g.propose i.toNat v else g
theorem st_propose (h : GSt F W n B gp g) (hB : B ≤ 100000000) (i : Int) (v : ByteArray) :
    Calls Try.prog 20 #[.pointer (some ⟨gp, 0, none⟩), .int .i64 i, .string v] W (StPost F W n (B + 1) gp (proposeR n i v) (proposeG n g i v)) := by
  obtain ⟨L, h1, h2, h3, h4⟩ := id h
  unfold proposeR proposeG
  by_cases hi : inN n i
  · obtain ⟨j, rfl, hj⟩ := inN_of hi
    by_cases hv : 1 ≤ v.size ∧ v.size ≤ 64
    · rw [if_pos hi, if_pos hv, if_pos ⟨hi, hv⟩]
      refine (gpropose h1 hj v hv (by have := (h4.nd j hj).pl; omega)).mono ?_
      rintro e w' ⟨rfl, hp⟩
      exact ⟨rfl, GSt.act h2 h3 (h4.propose hj hv) (hp.mono (Nat.le_succ B))⟩
    · rw [if_pos hi, if_neg hv, if_neg (fun h => hv h.2)]
      refine (gpropose_bad h1 hj v hv).mono ?_
      rintro e w' ⟨rfl, rfl⟩
      exact ⟨rfl, h.mono (Nat.le_succ B), Upd.refl _ _⟩
  · rw [if_neg hi, if_neg (fun h => hi h.1)]
    refine (gpropose_no h1 i v hi).mono ?_
    rintro e w' ⟨rfl, rfl⟩
    exact ⟨rfl, h.mono (Nat.le_succ B), Upd.refl _ _⟩
def copyR (g : Gm) (i : Int) : Int := if inN g.bg.length i then if g.bg.length = 256 then 211 else 0 else 223
def copyG (g : Gm) (i : Int) : Gm := if inN g.bg.length i ∧ g.bg.length < 256 then g.copy i.toNat else g
theorem st_copy (h : GSt F W n B gp g) (i : Int) :
    Calls Try.prog 53 #[.pointer (some ⟨gp, 0, none⟩), .int .i64 i] W (StPost F W n (B + 1) gp (copyR g i) (copyG g i)) := by
  obtain ⟨L, h1, h2, h3, h4⟩ := id h
  have hl := h4.len
  unfold copyR copyG
  by_cases hi : inN g.bg.length i
  · by_cases hf : g.bg.length = 256
    · rw [if_pos hi, if_pos hf, if_neg (by omega)]
      refine (gcopy_full h1 i hi hf).mono ?_
      rintro e w' ⟨rfl, hn⟩
      exact ⟨rfl, (h.new hn).mono (Nat.le_succ B), Upd.new hn⟩
    · rw [if_pos hi, if_neg hf, if_pos ⟨hi, by omega⟩]
      obtain ⟨j, rfl, hj⟩ := inN_of hi
      refine (gcopy h1 (List.getElem?_eq_getElem hj) (by omega)).mono ?_
      rintro e w' ⟨rfl, hp⟩
      exact ⟨rfl, GSt.act h2 h3 ((h4.copy j).mono (Nat.le_succ B)) (hp.mono (Nat.le_succ B))⟩
  · rw [if_neg hi, if_neg (fun h => hi h.1)]
    refine (gcopy_no h1 i hi).mono ?_
    rintro e w' ⟨rfl, rfl⟩
    exact ⟨rfl, h.mono (Nat.le_succ B), Upd.refl _ _⟩
theorem st_lose (h : GSt F W n B gp g) (fr dt : Int) :
    Calls Try.prog 31 #[.pointer (some ⟨gp, 0, none⟩), .int .i64 fr, .int .i64 dt] W (StPost F W n (B + 1) gp ((g.bg.length - (g.lose fr dt).bg.length : Nat) : Int) (g.lose fr dt)) := by
  obtain ⟨L, h1, h2, h3, h4⟩ := id h
  refine (glose h1 fr dt).mono ?_
  rintro e w' ⟨rfl, hp⟩
  exact ⟨rfl, GSt.act h2 h3 ((h4.lose fr dt).mono (Nat.le_succ B)) (hp.mono (Nat.le_succ B))⟩
theorem st_under (h : GSt F W n B gp g) : Calls Try.prog 27 #[.pointer (some ⟨gp, 0, none⟩)] W fun e w' => e = .returned (.int .i64 (g.bg.length : Int)) ∧ w' = W := by
  obtain ⟨L, h1, _⟩ := h
  exact gunder h1
def pendR (n : Nat) (g : Gm) (i : Int) : Int := if inN n i then ((g.nd i.toNat).pe.length : Int) else 0
theorem st_pending (h : GSt F W n B gp g) (i : Int) : Calls Try.prog 24 #[.pointer (some ⟨gp, 0, none⟩), .int .i64 i] W fun e w' => e = .returned (.int .i64 (pendR n g i)) ∧ w' = W := by
  obtain ⟨L, h1, _⟩ := h
  unfold pendR
  by_cases hi : inN n i
  · rw [if_pos hi]
    obtain ⟨j, rfl, hj⟩ := inN_of hi
    exact gpending h1 hj
  · rw [if_neg hi]
    exact gpending_no h1 i hi
def logR (n : Nat) (g : Gm) (i : Int) : List ByteArray := if inN n i then (g.nd i.toNat).log else []
theorem st_log (h : GSt F W n B gp g) (hB : B ≤ 100000000) (i : Int) : Calls Try.prog 23 #[.pointer (some ⟨gp, 0, none⟩), .int .i64 i] W (LogPost W (logR n g i)) := by
  obtain ⟨L, h1, _, _, h4⟩ := h
  unfold logR
  by_cases hi : inN n i
  · rw [if_pos hi]
    obtain ⟨j, rfl, hj⟩ := inN_of hi
    exact glog h1 hj (h4.nd j hj) hB
  · rw [if_neg hi]
    exact glog_no h1 i hi
/-- All packets, the first one first, at most so many. -/
def runG (n : Nat) : Nat → Gm → Gm
  | 0, g => g
  | f + 1, g => if g.bg = [] then g else runG n f (g.deliver n 0)
theorem runG_snoc (n : Nat) : ∀ (f : Nat) (g : Gm), (runG n f g).bg ≠ [] → runG n (f + 1) g = (runG n f g).deliver n 0
  | 0, g, h => by
    have h : g.bg ≠ [] := h
    show (if g.bg = [] then g else runG n 0 (g.deliver n 0)) = _
    rw [if_neg h]; rfl
  | f + 1, g, h => by
    by_cases hb : g.bg = []
    · have : runG n (f + 1) g = g := by show (if g.bg = [] then g else _) = _; rw [if_pos hb]
      rw [this] at h; exact absurd hb h
    · have e1 : runG n (f + 1) g = runG n f (g.deliver n 0) := by show (if g.bg = [] then g else _) = _; rw [if_neg hb]
      have e2 : runG n (f + 1 + 1) g = runG n (f + 1) (g.deliver n 0) := by show (if g.bg = [] then g else _) = _; rw [if_neg hb]
      rw [e1] at h
      rw [e1, e2]
      exact runG_snoc n f _ h
theorem runG_stop (n : Nat) : ∀ (f k : Nat) (g : Gm), (runG n f g).bg = [] → f ≤ k → runG n k g = runG n f g
  | 0, k, g, h, _ => by
    have h : g.bg = [] := h
    cases k with
    | zero => rfl
    | succ k => show (if g.bg = [] then g else _) = g; rw [if_pos h]
  | f + 1, k, g, h, hk => by
    obtain ⟨k, rfl⟩ : ∃ k', k = k' + 1 := ⟨k - 1, by omega⟩
    by_cases hb : g.bg = []
    · show (if g.bg = [] then g else _) = (if g.bg = [] then g else _); rw [if_pos hb, if_pos hb]
    · have e1 : runG n (f + 1) g = runG n f (g.deliver n 0) := by show (if g.bg = [] then g else _) = _; rw [if_neg hb]
      have e2 : runG n (k + 1) g = runG n k (g.deliver n 0) := by show (if g.bg = [] then g else _) = _; rw [if_neg hb]
      rw [e1] at h
      rw [e1, e2]
      exact runG_stop n f k _ h (by omega)
set_option maxHeartbeats 2000000 in
theorem st_run (h : GSt F W n B gp g) (hn7 : n ≤ 7) (most : Nat) (hB : B + most ≤ 100000000) :
    Calls Try.prog 25 #[.pointer (some ⟨gp, 0, none⟩), .int .i64 (most : Int)] W (fun e w' => e = .returned (.tuple #[]) ∧ GSt F w' n (B + most) gp (runG n most g) ∧ Upd F W w') := by
  have HH := Lib.hid h
  clear h
  go_enter Try.func25, Try.ntmps25
  go_wp2_with fail
  go_loopw [4] (fun i wr => ∃ k : Nat, k ≤ most ∧ i = .int .i64 (k : Int) ∧ GSt F wr n (B + k) gp (runG n k g) ∧ Upd F W wr) (fun i _ => most - (intOf i).toNat)
  case atStart => exact ⟨0, Nat.zero_le _, rfl, HH.out, Upd.refl _ _⟩
  case round =>
    obtain ⟨k, hk, rfl, hs, hu⟩ := hrel
    have HS := Lib.hid hs
    have HUp := Lib.hid hu
    clear hu
    have HU := Lib.hid (st_under hs)
    clear hs
    by_cases hlt : k < most
    · have hlt' : (k : Int) < (most : Int) := by omega
      by_cases hb : (runG n k g).bg = []
      · have HE := Lib.hid (runG_stop n k most g hb hk)
        have hl : ((runG n k g).bg.length : Int) = 0 := by rw [hb]; rfl
        rw [hl] at HU
        clear hb hl
        go_wp2_with (go_at_call 27; refine HU.out.mono ?_; rintro e wq ⟨rfl, hwq⟩; subst wq)
        go_end0
        exact ⟨rfl, by rw [HE.out]; exact HS.out.mono (by omega), HUp.out⟩
      · have hpos : 0 < (runG n k g).bg.length := List.length_pos_iff.2 hb
        have hl : (0 : Int) < ((runG n k g).bg.length : Int) := by omega
        have HE := Lib.hid (runG_snoc n k g hb)
        have HD := Lib.hid (st_deliver HS.out hn7 (by omega) 0)
        have HI := Lib.hid (show deliverG n (runG n k g) 0 = (runG n k g).deliver n 0 from if_pos ⟨Int.le_refl _, hl⟩)
        clear hb hpos
        go_wp2_with (go_at_call 27; refine HU.out.mono ?_; rintro e wq ⟨rfl, hwq⟩; subst wq)
        refine HD.out.mono ?_
        rintro e w9 ⟨rfl, hs9, hu9⟩
        rw [HI.out] at hs9
        have HS9 := Lib.hid hs9
        have HU9 := Lib.hid (HUp.out.trans hu9 fun _ _ h => h)
        clear hs9 hu9 hl
        go_wp2_with fail
        go_roundw
        case rel => exact ⟨k + 1, by omega, by go_num, by rw [HE.out]; exact HS9.out, HU9.out⟩
        case measure => simp [intOf]; omega
    · have hge : ¬ (k : Int) < (most : Int) := by omega
      have hkm : k = most := by omega
      subst hkm
      go_wp2_with fail
      go_end0
      exact ⟨rfl, HS.out, HUp.out⟩
end
end Go.Proofs.Ytghhcjpilcoblaa
