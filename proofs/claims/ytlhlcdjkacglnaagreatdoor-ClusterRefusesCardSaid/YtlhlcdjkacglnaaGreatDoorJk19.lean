/- Chapter 22 (decree): a group in memory; at, send. -/
import Derived.Test.YtlhlcdjkacglnaaGreatDoorJk17
import Derived.Test.YtlhlcdjkacglnaaGreatDoorJk18
import Derived.Test.YtlhlcdjkacglnaaGreatDoorJk1
import Derived.Deep.RegionHeld3
import Derived.Test.YtlhlcdjkacglnaaGreatDoorJk9
import Derived.Deep.DeepCutAuto
import Derived.Deep.QuietTactic
import Derived.BigQuiet
namespace Go.Proofs.YtlhlcdjkacglnaaGreatDoor.D
open Go.RowKit Go.Lap
set_option linter.unusedVariables false

def Pkt.pk (p : Pkt) : Pk := ⟨(p.fr : Int), (p.ds : Int), str p.m.enc⟩
def ptrE (g : Nat) : List Value := [.pointer (some ⟨g, 0, none⟩)]
theorem ptrOk : Enc ptrE 1 := fun x => ⟨rfl, by simp [ptrE, Value.oneCell']⟩
theorem ptrTy : SlTy Tryz.prog 214 181 (.pointer none) 1 8 := ⟨Tryz.underlying214, by kernel_rfl, rfl, by decide⟩
/-- A group's blocks. -/
structure GpL where
  nv : Value
  bb : Nat
  lv : Value
  nb : Nat → Nat
  Fn : Nat → Nat → Prop
  nl : Nat → NdL
def GpO (gp : Nat) (L : GpL) (k : Nat) : Prop := k = gp ∨ L.nv.ownBlock = some k ∨ BgF L.bb L.lv k
structure GpAt (w : World) (gp n B : Nat) (L : GpL) (g : Gm) : Prop where
  blk : Blk w gp 216 #[L.nv, .pointer (some ⟨L.bb, 0, none⟩)]
  nds : Row w 0 181 1 ptrE L.nv ((List.range n).map L.nb)
  bag : BgAt w L.bb L.lv (g.bg.map Pkt.pk)
  nd : ∀ i, i < n → NdAt w (L.Fn i) (L.nb i) (i : Int) B (L.nl i) (g.nd i)
  lt : ∀ i, i < n → ∀ k, L.Fn i k → k < w.heap.size
  dj : ∀ i j, i < n → j < n → i ≠ j → ∀ k, L.Fn i k → ¬ L.Fn j k
  out : ∀ i, i < n → ∀ k, L.Fn i k → ¬ GpO gp L k
def GpF (gp n : Nat) (L : GpL) (k : Nat) : Prop := GpO gp L k ∨ ∃ i, i < n ∧ L.Fn i k
theorem Row.ne_row {α β : Type} {e1 : α → List Value} {e2 : β → List Value} {w : World} {b1 b2 s1 s2 : Nat} {t1 t2 : TypeId} {v1 v2 : Value} {l1 : List α} {l2 : List β} (h1 : Row w b1 t1 s1 e1 v1 l1) (h2 : Row w b2 t2 s2 e2 v2 l2) (hne : t1 ≠ t2) {k : Nat} (hk : v1.ownBlock = some k) : v2.ownBlock ≠ some k := by
  intro hk2
  rcases h2 with ⟨rfl, _⟩ | ⟨g, off, cap, cur, rfl, _, hh, _⟩
  · cases hk2
  · cases hk2; exact h1.ne_blk hh hne hk
section
variable {w w' w'' : World} {S : Nat → Prop} {gp n B : Nat} {L : GpL} {g : Gm}
theorem GpAt.o_lt (h : GpAt w gp n B L g) : ∀ k, GpO gp L k → k < w.heap.size := by
  rintro k (rfl | hk | hk)
  · exact h.blk.lt
  · exact (h.nds.lt k hk).2
  · exact h.bag.lt k hk
theorem GpAt.f_lt (h : GpAt w gp n B L g) : ∀ k, GpF gp n L k → k < w.heap.size := by
  rintro k (hk | ⟨i, hi, hk⟩)
  · exact h.o_lt k hk
  · exact h.lt i hi k hk
theorem GpAt.upd (h : GpAt w gp n B L g) (hu : Upd S w w') (hS : ∀ k, GpF gp n L k → ¬ S k) : GpAt w' gp n B L g :=
  ⟨h.blk.upd hu (hS _ (.inl (.inl rfl))), h.nds.upd hu (fun k hk => hS k (.inl (.inr (.inl hk)))), h.bag.upd hu (fun k hk => hS k (.inl (.inr (.inr hk)))),
    fun i hi => (h.nd i hi).upd hu (fun k hk => hS k (.inr ⟨i, hi, hk⟩)), fun i hi k hk => Nat.lt_of_lt_of_le (h.lt i hi k hk) hu.size, h.dj, h.out⟩
theorem GpAt.new (h : GpAt w gp n B L g) (hn : New w w') : GpAt w' gp n B L g := h.upd (S := fun _ => False) (Upd.new hn) (fun _ _ x => x)
theorem GpAt.mono {C : Nat} (h : GpAt w gp n B L g) (hB : B ≤ C) : GpAt w gp n C L g := { h with nd := fun i hi => (h.nd i hi).mono (fun _ h => h) hB }
/-- A node turns. -/
theorem GpAt.setNd (h : GpAt w gp n B L g) {i C : Nat} (hi : i < n) {F' : Nat → Prop} {l' : NdL} {x' : Nod} (hu : Upd (L.Fn i) w w') (hx : NdAt w' F' (L.nb i) (i : Int) C l' x') (hG : Gro (L.Fn i) F' w w') (hB : B ≤ C) :
    GpAt w' gp n C { L with Fn := set L.Fn i F', nl := set L.nl i l' } { g with nd := set g.nd i x' } := by
  have hs := hu.size
  refine ⟨h.blk.upd hu (fun hk => h.out i hi _ hk (.inl rfl)), h.nds.upd hu (fun k hk hk2 => h.out i hi k hk2 (.inr (.inl hk))), h.bag.upd hu (fun k hk hk2 => h.out i hi k hk2 (.inr (.inr hk))), fun j hj => ?_, fun j hj k hk => ?_, fun j r hj hr hjr k hk hk2 => ?_, fun j hj k hk => ?_⟩
  · by_cases hji : j = i
    · subst hji
      dsimp only
      rw [set_same, set_same, set_same]
      exact hx
    · dsimp only
      rw [set_ne _ _ hji, set_ne _ _ hji, set_ne _ _ hji]
      exact ((h.nd j hj).upd hu (fun k hk hk2 => h.dj j i hj hi hji k hk hk2)).mono (fun _ h => h) hB
  · by_cases hji : j = i
    · subst hji
      dsimp only at hk
      rw [set_same] at hk
      rcases hG k hk with h1 | h1
      · exact Nat.lt_of_lt_of_le (h.lt j hj k h1) hs
      · exact h1.2
    · dsimp only at hk
      rw [set_ne _ _ hji] at hk
      exact Nat.lt_of_lt_of_le (h.lt j hj k hk) hs
  · dsimp only at hk hk2
    by_cases hji : j = i <;> by_cases hri : r = i
    · exact hjr (hji.trans hri.symm)
    · rw [hji, set_same] at hk
      rw [set_ne _ _ hri] at hk2
      rcases hG k hk with h1 | h1
      · exact h.dj i r hi hr (fun e => hri e.symm) k h1 hk2
      · have := h.lt r hr k hk2; omega
    · rw [hri, set_same] at hk2
      rw [set_ne _ _ hji] at hk
      rcases hG k hk2 with h1 | h1
      · exact h.dj j i hj hi hji k hk h1
      · have := h.lt j hj k hk; omega
    · rw [set_ne _ _ hji] at hk
      rw [set_ne _ _ hri] at hk2
      exact h.dj j r hj hr hjr k hk hk2
  · intro ho
    have ho : GpO gp L k := ho
    dsimp only at hk
    by_cases hji : j = i
    · rw [hji, set_same] at hk
      rcases hG k hk with h1 | h1
      · exact h.out i hi k h1 ho
      · have := h.o_lt k ho; omega
    · rw [set_ne _ _ hji] at hk
      exact h.out j hj k hk ho
theorem Blk2G {w : World} {g t : Nat} {a b : Value} (h : Blk w g t #[a, b]) : g < w.heap.size ∧ w.cell? ⟨g, 0, none⟩ = some a ∧ w.cell? ⟨g, 1, none⟩ = some b ∧ (∀ i, w.frozen? ⟨g, i, none⟩ = false) := ⟨h.lt, h.cell 0, h.cell 1, h.frozen⟩
theorem GpAt.facts (h : GpAt w gp n B L g) : gp < w.heap.size ∧ w.cell? ⟨gp, 0, none⟩ = some L.nv ∧ w.cell? ⟨gp, 1, none⟩ = some (.pointer (some ⟨L.bb, 0, none⟩)) ∧ (∀ i, w.frozen? ⟨gp, i, none⟩ = false) := Blk2G h.blk
theorem GpAt.node (h : GpAt w gp n B L g) {i : Nat} (hi : i < n) : ∃ b off c, L.nv = .slice (some ⟨b, off, none⟩) n c ∧ n ≤ c ∧ w.cell? ⟨b, off + i, none⟩ = some (.pointer (some ⟨L.nb i, 0, none⟩)) := by
  have hne : (List.range n).map L.nb ≠ [] := fun e => by have := congrArg List.length e; simp at this; omega
  obtain ⟨b, off, c, hv, _, hr⟩ := h.nds.at_ hne
  have hl := hr.len.1
  have := hr.cell ptrOk (k := i) (x := L.nb i) (by simp [hi]) (j := 0) rfl
  simp at hv hl this
  exact ⟨b, off, c, hv, hl, this⟩
theorem GpAt.nvs (h : GpAt w gp n B L g) : ∃ A c, L.nv = .slice A n c := by
  obtain ⟨A, c, hv⟩ := h.nds.shape
  simp at hv
  exact ⟨A, c, hv⟩
set_option maxHeartbeats 1000000 in
theorem gat_no (h : GpAt w gp n B L g) (i : Int) (hi : ¬ (0 ≤ i ∧ i < n)) :
    Calls Tryz.prog 100 #[.pointer (some ⟨gp, 0, none⟩), .int .i64 i] w fun e w' => e = .returned (.pointer none) ∧ w' = w := by
  obtain ⟨g0, c0, c1, cz⟩ := h.facts
  obtain ⟨A, c, hv⟩ := h.nvs
  rw [hv] at c0
  clear h hv
  by_cases h0 : i < 0
  · clear hi
    go_enter Tryz.func100, Tryz.ntmps100
    go_wp2_with fail
    go_ret
    exact ⟨rfl, rfl⟩
  · have h1 : (n : Int) ≤ i := by omega
    clear hi
    go_enter Tryz.func100, Tryz.ntmps100
    go_wp2_with fail
    go_ret
    exact ⟨rfl, rfl⟩
set_option maxHeartbeats 1000000 in
theorem gat (h : GpAt w gp n B L g) {i : Nat} (hi : i < n) :
    Calls Tryz.prog 100 #[.pointer (some ⟨gp, 0, none⟩), .int .i64 (i : Int)] w fun e w' => e = .returned (.pointer (some ⟨L.nb i, 0, none⟩)) ∧ w' = w := by
  obtain ⟨g0, c0, c1, cz⟩ := h.facts
  obtain ⟨b, off, c, hv, hc, hcell⟩ := h.node hi
  rw [hv] at c0
  have h0 : ¬ (i : Int) < 0 := by omega
  have h1 : ¬ (n : Int) ≤ (i : Int) := by omega
  have h2 : (i : Int) < (n : Int) := by omega
  have h3 : (0 : Int) ≤ (i : Int) := by omega
  clear h hv
  go_enter Tryz.func100, Tryz.ntmps100
  go_wp2_with fail
  go_ret
  exact ⟨rfl, rfl⟩
end
end Go.Proofs.YtlhlcdjkacglnaaGreatDoor.D
/- Chapter 22 (decree): Propose, Crash, Pending, Under, Copy, Lose, Log. -/
namespace Go.Proofs.YtlhlcdjkacglnaaGreatDoor.D
open Go.RowKit Go.Lap
set_option linter.unusedVariables false
section
variable {w w' w'' : World} {S : Nat → Prop} {gp n B : Nat} {L : GpL} {g : Gm}
/-- What an act of a group leaves. -/
def GrPost (w : World) (gp n B : Nat) (L : GpL) (g' : Gm) (w' : World) : Prop := ∃ L', GpAt w' gp n B L' g' ∧ Gro (GpF gp n L) (GpF gp n L') w w' ∧ Upd (GpF gp n L) w w'
def ActPost (w : World) (gp n B : Nat) (L : GpL) (r : Value) (g' : Gm) (e : Ending) (w' : World) : Prop := e = .returned r ∧ GrPost w gp n B L g' w'
theorem GrPost.mono {C : Nat} (h : GrPost w gp n B L g w') (hB : B ≤ C) : GrPost w gp n C L g w' := let ⟨L', h1, h2⟩ := h; ⟨L', h1.mono hB, h2⟩
theorem GpAt.ndPost (h : GpAt w gp n B L g) {i C : Nat} (hi : i < n) {F' : Nat → Prop} {l' : NdL} {x' : Nod} (hu : Upd (L.Fn i) w w') (hx : NdAt w' F' (L.nb i) (i : Int) C l' x') (hG : Gro (L.Fn i) F' w w') (hB : B ≤ C) :
    GrPost w gp n C L { g with nd := set g.nd i x' } w' := by
  refine ⟨_, h.setNd hi hu hx hG hB, fun k hk => ?_, hu.mono fun k _ hk => .inr ⟨i, hi, hk⟩⟩
  rcases hk with hk | ⟨j, hj, hk⟩
  · exact .inl (.inl hk)
  · dsimp only at hk
    by_cases hji : j = i
    · rw [hji, set_same] at hk
      rcases hG k hk with h1 | h1
      · exact .inl (.inr ⟨i, hi, h1⟩)
      · exact .inr h1
    · rw [set_ne _ _ hji] at hk
      exact .inl (.inr ⟨j, hj, hk⟩)
theorem strTy : SlTy Tryz.prog 106 9 (.string ⟨#[]⟩) 1 16 := ⟨Tryz.underlying106, by kernel_rfl, rfl, by decide⟩
set_option maxHeartbeats 1000000 in
theorem gpropose_no (h : GpAt w gp n B L g) (i : Int) (v : ByteArray) (hi : ¬ (0 ≤ i ∧ i < n)) : Calls Tryz.prog 48 #[.pointer (some ⟨gp, 0, none⟩), .int .i64 i, .string v] w fun e w' => e = .returned (.int .i64 221) ∧ w' = w := by
  have HA := Lib.hid (gat_no h i hi)
  clear h hi
  go_enter Tryz.func48, Tryz.ntmps48
  go_wp2_with (go_at_call 100; refine HA.out.mono ?_; rintro e w1 ⟨rfl, hw1⟩; subst w1)
  go_ret
  exact ⟨rfl, rfl⟩
theorem emptyB (s : ByteArray) : s.toList.isEmpty = decide (s.size = 0) := by
  rw [ByteArray.toList_eq]
  obtain ⟨⟨l⟩⟩ := s
  cases l <;> simp [ByteArray.size]
set_option maxHeartbeats 2000000 in
theorem gpropose_bad (h : GpAt w gp n B L g) {i : Nat} (hi : i < n) (v : ByteArray) (hv : ¬ (1 ≤ v.size ∧ v.size ≤ 64)) : Calls Tryz.prog 48 #[.pointer (some ⟨gp, 0, none⟩), .int .i64 (i : Int), .string v] w fun e w' => e = .returned (.int .i64 222) ∧ w' = w := by
  have HA := Lib.hid (gat h hi)
  clear h hi
  have he := emptyB v
  by_cases h0 : v.size = 0
  · rw [decide_eq_true h0] at he
    clear hv h0
    go_enter Tryz.func48, Tryz.ntmps48
    go_wp2_with (go_at_call 100; refine HA.out.mono ?_; rintro e w1 ⟨rfl, hw1⟩; subst w1)
    go_ret
    exact ⟨rfl, rfl⟩
  · rw [decide_eq_false h0] at he
    have h64 : (64 : Int) < (v.size : Int) := by omega
    clear hv h0
    go_enter Tryz.func48, Tryz.ntmps48
    go_wp2_with (go_at_call 100; refine HA.out.mono ?_; rintro e w1 ⟨rfl, hw1⟩; subst w1)
    go_ret
    exact ⟨rfl, rfl⟩
theorem NdAt.pushPe {F : Nat → Prop} {nb B : Nat} {id : Int} {l : NdL} {x : Nod} (h : NdAt w F nb id B l x) {pv : Value} {pe : List ByteArray} (hu : Upd (fun k => l.pv.ownBlock = some k) w w') (hr : Row w' 0 9 1 sEnc pv pe) :
    NdAt (w'.setCell ⟨nb, 4, none⟩ pv) (fun k => F k ∨ pv.ownBlock = some k) nb id B { l with pv := pv } { x with pe := pe } := by
  have hb1 := h.blk.upd hu (h.pe.ne_blk h.blk (by decide))
  have hU : Upd (fun k => l.pv.ownBlock = some k ∨ k = nb) w (w'.setCell ⟨nb, 4, none⟩ pv) := (hu.mono fun _ _ h => .inl h).setCell (fun _ => .inr rfl) _
  have hu2 : Upd (· = nb) w' (w'.setCell ⟨nb, 4, none⟩ pv) := (Upd.refl _ w').setIn (g := nb) 4 pv
  have hb : ∀ {t : TypeId} {cs : Array Value} {b : Nat}, Blk w b t cs → t ≠ 9 → t ≠ 187 → ¬ (l.pv.ownBlock = some b ∨ b = nb) := fun hb h1 h2 hh => by
    rcases hh with e | e
    · exact h.pe.ne_blk hb (fun e => h1 e.symm) e
    · exact Blk.ne_ hb h.blk h2 e
  have hm : ∀ {kt : TypeId} {κ : Type} {lit : κ → Lit} {ok : κ → Prop} {b m : Nat} {f : κ → Option Value}, MpAt Tryz.prog kt lit ok w b m f → ¬ (l.pv.ownBlock = some b ∨ b = nb) := fun hmp hh => by
    rcases hh with e | e
    · exact Row.ne_map h.pe hmp e
    · exact Blk.ne_map h.blk hmp e.symm
  obtain ⟨m, hm1, hmp⟩ := h.ac.mp
  obtain ⟨ml, hml, hlp⟩ := h.lg
  refine ⟨hb1.set_ 4 pv, ⟨⟨m, hm1, hmp.upd hU (hm hmp)⟩, fun s a ha => ⟨Blk.upd (h.ac.at_ s a ha).1 hU (hb (h.ac.at_ s a ha).1 (by decide) (by decide)), .inl (h.ac.at_ s a ha).2⟩, h.ac.inj⟩, ⟨ml, hml, hlp.upd hU (hm hlp)⟩, hr.upd hu2 (fun k hk e => hr.ne_blk hb1 (by decide) (e ▸ hk)), ?_, h.n1, ⟨.inl h.f1.1, .inl h.f1.2.1, .inl h.f1.2.2⟩, fun k hk => .inr hk⟩
  have hn := h.nw
  cases hnw : x.nw with
  | none => rw [hnw] at hn; exact hn
  | some p =>
    rw [hnw] at hn
    obtain ⟨P, e, hP⟩ := hn
    refine ⟨P, e, hP.blk.upd hU (hb hP.blk (by decide) (by decide)), hP.row.upd hU (fun k hk hh => ?_), hP.fm.upd hU (hm hP.fm), hP.bm.upd hU (hm hP.bm), hP.n1, hP.n2, hP.n3, ⟨.inl hP.f1.1, .inl hP.f1.2.1, .inl hP.f1.2.2⟩, fun k hk => .inl (hP.f2 k hk)⟩
    rcases hh with e2 | e2
    · exact Row.ne_row hP.row h.pe (by decide) hk e2
    · exact hP.row.ne_blk h.blk (by decide) (e2 ▸ hk)
set_option maxRecDepth 100000 in
set_option maxHeartbeats 4000000 in
theorem gpropose (h : GpAt w gp n B L g) {i : Nat} (hi : i < n) (v : ByteArray) (hv : 1 ≤ v.size ∧ v.size ≤ 64) (hpl : (g.nd i).pe.length ≤ 1000000000) : Calls Tryz.prog 48 #[.pointer (some ⟨gp, 0, none⟩), .int .i64 (i : Int), .string v] w (ActPost w gp n B L (.int .i64 0) (g.propose i v)) := by
  have HA := Lib.hid (gat h hi)
  have HH := Lib.hid h
  have hx := h.nd i hi
  have he := emptyB v
  rw [decide_eq_false (by omega)] at he
  have h64 : ¬ (64 : Int) < (v.size : Int) := by omega
  obtain ⟨g0, c0, c1, c2, c3, c4, c5, cz⟩ := Blk6F hx.blk
  have HM1 := Lib.hid (show (g.nd i).pe.length + [v].length ≤ maxLen by unfold maxLen; simp; omega)
  have HM2 := Lib.hid (show ((g.nd i).pe.length + [v].length) * 16 ≤ 140737488355328 by simp; omega)
  obtain ⟨A, c, hpv⟩ := hx.pe.shape
  have HN := Lib.hid ((New.refl w).alloc (.cells #[.string v] 9))
  have hx1 := hx.new HN.out
  have hpe1 := hx1.pe
  have HX1 := Lib.hid hx1
  rw [hpv] at c4 hpe1
  have HPE := Lib.hid hpe1
  have HPV := Lib.hid hpv
  clear h hx hv hpl hpv hx1 hpe1
  go_enter Tryz.func48, Tryz.ntmps48
  go_wp2_with (first | (go_at_call 100; refine HA.out.mono ?_; rintro e w1 ⟨rfl, hw1⟩; subst w1) | (at_builtin; refine wpList_appR strTy sEncOk rfl (.tmp 26) (.tmp 28) rfl rfl rfl HPE.out (SlIn.one (x := v) (Blk.mk_new w _ _) sEncOk rfl) HM1.out HM2.out (Nat.zero_le _) ?_; intro v2 w2 hr2 hg2 hb2; have hu2 : Upd (fun k => Value.ownBlock (.slice A (g.nd i).pe.length c) = some k) _ w2 := (Upd.refl _ _).grown hg2 (fun k _ hk => hk); have hb2' := HX1.out.blk.upd hu2 (HPE.out.ne_blk HX1.out.blk (by decide)); obtain ⟨k0, d0, d1, d2, d3, d4, d5, dz⟩ := Blk6F hb2'; obtain ⟨A2, n2, c2, rfl⟩ := hr2.shp))
  go_ret
  have hu2n : Upd (L.Fn i) (w.alloc (.cells #[.string v] 9)) w2 := hu2.mono fun k _ hk => HX1.out.f2 k (by rw [HPV.out]; exact hk)
  have hx2 := HX1.out.pushPe (by rw [HPV.out]; exact hu2) hr2
  have hs2 := HN.out.size
  have hs3 := hu2.size
  refine ⟨rfl, HH.out.ndPost hi ((Upd.new HN.out).trans hu2n (fun _ _ h => h) |>.setCell (fun _ => HX1.out.f1.1) _) hx2 (fun k hk => ?_) (Nat.le_refl _)⟩
  rcases hk with hk | hk
  · exact .inl hk
  · rcases hb2 with e | e
    · exact .inl (HX1.out.f2 k (by rw [HPV.out]; rw [e] at hk; exact hk))
    · rw [e] at hk
      injection hk with hk
      have hl := (hr2.lt k (by rw [e, hk])).2
      exact .inr ⟨by omega, by simpa [World.setCell] using hl⟩
end
end Go.Proofs.YtlhlcdjkacglnaaGreatDoor.D
/- Chapter 22 (decree): Copy, Lose, Log. -/
namespace Go.Proofs.YtlhlcdjkacglnaaGreatDoor.D
open Go.RowKit Go.Lap
set_option linter.unusedVariables false
section
variable {w w' w'' : World} {S : Nat → Prop} {gp n B : Nat} {L : GpL} {g : Gm}
/-- What Log answers. -/
def LogPost (w : World) (l : List ByteArray) (e : Ending) (w' : World) : Prop := ∃ v, e = .returned v ∧ Row w' w.heap.size 9 1 sEnc v l ∧ New w w'
set_option maxHeartbeats 1000000 in
theorem glog_no (h : GpAt w gp n B L g) (i : Int) (hi : ¬ (0 ≤ i ∧ i < n)) : Calls Tryz.prog 52 #[.pointer (some ⟨gp, 0, none⟩), .int .i64 i] w (LogPost w []) := by
  have HA := Lib.hid (gat_no h i hi)
  clear h hi
  go_enter Tryz.func52, Tryz.ntmps52
  go_wp2_with (go_at_call 100; refine HA.out.mono ?_; rintro e w1 ⟨rfl, hw1⟩; subst w1)
  go_ret
  exact ⟨_, rfl, Row.nil _ _ _ _ _, New.refl _⟩
theorem log_take (x : Nod) (k : Nat) : ((List.range (k + 1)).map fun s => (x.lg s).getD E0) = ((List.range k).map fun s => (x.lg s).getD E0) ++ [(x.lg k).getD E0] := by rw [List.range_succ, List.map_append]; rfl
def lgL (x : Nod) (k : Nat) : List ByteArray := (List.range k).map fun s => (x.lg s).getD E0
theorem lgL_succ (x : Nod) (k : Nat) : lgL x (k + 1) = lgL x k ++ [(x.lg k).getD E0] := log_take x k
theorem lgL_len (x : Nod) (k : Nat) : (lgL x k).length = k := by unfold lgL; simp
set_option maxRecDepth 100000 in
set_option maxHeartbeats 4000000 in
theorem glog (h : GpAt w gp n B L g) {i : Nat} (hi : i < n) (hok : NodOk B (g.nd i)) (hB : B ≤ 100000000) : Calls Tryz.prog 52 #[.pointer (some ⟨gp, 0, none⟩), .int .i64 (i : Int)] w (LogPost w (g.nd i).log) := by
  have HA := Lib.hid (gat h hi)
  have hx := h.nd i hi
  obtain ⟨hf, hfB⟩ := hok.first (by omega)
  have HFI := Lib.hid (nfirst hx hf (by omega))
  obtain ⟨s, hs⟩ : ∃ s, (g.nd i).first = s := ⟨_, rfl⟩
  have HLOG := Lib.hid (show (g.nd i).log = lgL (g.nd i) s by rw [← hs]; rfl)
  rw [hs] at HFI hfB
  have HX := Lib.hid hx
  generalize g.nd i = x at *
  clear h hi hok hf hs hx
  go_enter Tryz.func52, Tryz.ntmps52
  go_wp2_with (first | (go_at_call 100; refine HA.out.mono ?_; rintro e w1 ⟨rfl, hw1⟩; subst w1) | (go_at_call 109; refine HFI.out.mono ?_; rintro e w1 ⟨rfl, hw1⟩; subst w1))
  go_loopw [6, 7, 15] (fun v _ i wr => ∃ (k : Nat) (A : Option Addr) (nn c : Nat), k ≤ s ∧ i = .int .u64 (k : Int) ∧ v = .slice A nn c ∧ Row wr w.heap.size 9 1 sEnc (.slice A nn c) (lgL x k) ∧ New w wr) (fun _ _ i _ => s - (intOf i).toNat)
  case atStart => exact ⟨0, none, 0, 0, Nat.zero_le _, rfl, rfl, Row.nil _ _ _ _ _, New.refl _⟩
  case round =>
    obtain ⟨k, A, nn, c, hk, rfl, rfl, hr, hn⟩ := hrel
    have hx := HX.out.new hn
    obtain ⟨g0, c0, c1, c2, c3, c4, c5, cz⟩ := Blk6F hx.blk
    obtain ⟨m, _, hmp⟩ := hx.lg
    have HM := Lib.hid hmp
    have HR := Lib.hid hr
    have HN := Lib.hid hn
    clear hx hmp hr hn
    by_cases hlt : k < s
    · have hlt' : (k : Int) < (s : Int) := by omega
      have hv := lgV_get x.lg k
      obtain ⟨u, hu⟩ : ∃ u, (x.lg k).getD E0 = u := ⟨_, rfl⟩
      rw [hu] at hv
      have HSN := Lib.hid (lgL_succ x k)
      rw [hu] at HSN
      clear hu
      have HA1 := Lib.hid ((New.refl wr).alloc (.cells #[.string u] 9))
      have HM1 := Lib.hid (show (lgL x k).length + [u].length ≤ maxLen by rw [lgL_len]; unfold maxLen; simp; omega)
      have HM2 := Lib.hid (show ((lgL x k).length + [u].length) * 16 ≤ 140737488355328 by rw [lgL_len]; simp; omega)
      have HBS := Lib.hid (show w.heap.size ≤ (wr.alloc (.cells #[.string u] 9)).heap.size by have := HN.out.size; have := HA1.out.size; omega)
      go_wp2_with (first | (at_lookup; refine wpList_mp_at keyS64 rfl _ _ 184 9 rfl Tryz.underlying184 (zeroS _) rfl HM.out k (okU_lt (by omega)) rfl ?_; rw [hv]) | (at_builtin; refine wpList_appR strTy sEncOk rfl (.tmp 18) (.tmp 25) rfl rfl rfl (HR.out.new HA1.out) (SlIn.one (x := u) (Blk.mk_new wr _ _) sEncOk rfl) HM1.out HM2.out HBS.out ?_; intro v2 w2 hr2 hg2 hb2; obtain ⟨A2, n2, c2, rfl⟩ := hr2.shp))
      have HN2 := Lib.hid ((HN.out.trans HA1.out).grown hg2 (fun j hj => (HR.out.lt j hj).1))
      have HR2 := Lib.hid hr2
      clear hr2 hg2 hb2
      go_roundw
      case rel => exact ⟨k + 1, A2, n2, c2, by omega, by go_num, rfl, by rw [HSN.out]; exact HR2.out, HN2.out⟩
      case measure => simp [intOf]; omega
    · have hlt' : ¬ (k : Int) < (s : Int) := by omega
      have hks : k = s := by omega
      subst hks
      go_wp2_with fail
      go_ret
      exact ⟨_, rfl, by rw [HLOG.out]; exact HR.out, HN.out⟩
end
end Go.Proofs.YtlhlcdjkacglnaaGreatDoor.D
/- Chapter 22 (decree): New. -/
namespace Go.Proofs.YtlhlcdjkacglnaaGreatDoor.D
open Go.RowKit Go.Lap
set_option linter.unusedVariables false
section
variable {w w' w'' wa w2 : World} {S : Nat → Prop} {gp n B k : Nat} {L : GpL} {g : Gm}
/-- One more node. -/
theorem GpAt.add (h : GpAt w gp k B L g) (hn : New w wa) {F : Nat → Prop} {nb : Nat} {nl : NdL} {x : Nod} (hx : NdAt wa F nb (k : Int) B nl x) (hF : ∀ j, F j → w.heap.size ≤ j ∧ j < wa.heap.size) {v2 : Value}
    (hr : Row w2 0 181 1 ptrE v2 ((List.range k).map L.nb ++ [nb])) (hg : wa.grownBy w2 L.nv.ownBlock) (hb : v2.ownBlock = L.nv.ownBlock ∨ v2.ownBlock = some wa.heap.size) :
    GpAt (w2.setCell ⟨gp, 0, none⟩ v2) gp (k + 1) B { L with nv := v2, nb := set L.nb k nb, Fn := set L.Fn k F, nl := set L.nl k nl } { g with nd := set g.nd k x } := by
  have h1 := h.new hn
  have hu : Upd (fun j => L.nv.ownBlock = some j) wa w2 := (Upd.refl _ _).grown hg (fun j _ e => e)
  have hU : Upd (fun j => L.nv.ownBlock = some j ∨ j = gp) wa (w2.setCell ⟨gp, 0, none⟩ v2) := (hu.mono fun _ _ h => .inl h).setCell (fun _ => .inr rfl) _
  have hbl := h1.blk.upd hu (h1.nds.ne_blk h1.blk (by decide))
  have hgp : gp < w.heap.size := h.blk.lt
  have hown : ∀ j, L.nv.ownBlock = some j → j < w.heap.size := fun j hj => (h.nds.lt j hj).2
  have hs1 := hn.size
  have hs2 := hu.size
  have hv2 : ∀ j, v2.ownBlock = some j → L.nv.ownBlock = some j ∨ j = wa.heap.size := fun j hj => by
    rcases hb with e | e
    · exact .inl (e ▸ hj)
    · rw [e] at hj; injection hj with hj; exact .inr hj.symm
  refine ⟨hbl.set_ 0 v2, ?_, ?_, fun i hi => ?_, fun i hi j hj => ?_, fun i r hi hr2 hir j hj hj2 => ?_, fun i hi j hj ho => ?_⟩
  · have he : (List.range (k + 1)).map (set L.nb k nb) = (List.range k).map L.nb ++ [nb] := by
      rw [List.range_succ, List.map_append]
      congr 1
      · refine List.map_congr_left fun j hj => set_ne _ _ ?_
        have := List.mem_range.1 hj
        omega
      · show [set L.nb k nb k] = [nb]
        rw [set_same]
    show Row _ 0 _ 1 ptrE v2 ((List.range (k + 1)).map (set L.nb k nb))
    rw [he]
    exact hr.upd ((Upd.refl (· = gp) w2).setIn 0 v2) (fun j hj e => hr.ne_blk hbl (by decide) (e ▸ hj))
  · refine h1.bag.upd hU ?_
    rintro j (e | e) (e2 | e2)
    · exact h1.nds.ne_blk h1.bag.blk (by decide) (e ▸ e2)
    · exact Blk.ne_ h1.bag.blk h1.blk (by decide) (e.symm.trans e2)
    · exact Row.ne_row h1.nds h1.bag.row (by decide) e2 e
    · exact h1.bag.row.ne_blk h1.blk (by decide) (e2 ▸ e)
  · by_cases hik : i = k
    · subst hik
      dsimp only
      rw [set_same, set_same, set_same, set_same]
      refine hx.upd hU ?_
      rintro j hj (e | e)
      · have := hown j e; have := (hF j hj).1; omega
      · have := (hF j hj).1; omega
    · dsimp only
      rw [set_ne _ _ hik, set_ne _ _ hik, set_ne _ _ hik, set_ne _ _ hik]
      refine (h1.nd i (by omega)).upd hU ?_
      rintro j hj (e | e)
      · exact h.out i (by omega) j hj (.inr (.inl e))
      · exact h.out i (by omega) j hj (.inl e)
  · have hsz : (w2.setCell ⟨gp, 0, none⟩ v2).heap.size = w2.heap.size := by simp [World.setCell]
    rw [hsz]
    by_cases hik : i = k
    · subst hik
      dsimp only at hj
      rw [set_same] at hj
      have := (hF j hj).2
      omega
    · dsimp only at hj
      rw [set_ne _ _ hik] at hj
      have := h.lt i (by omega) j hj
      omega
  · dsimp only at hj hj2
    by_cases hik : i = k <;> by_cases hrk : r = k
    · exact hir (hik.trans hrk.symm)
    · rw [hik, set_same] at hj
      rw [set_ne _ _ hrk] at hj2
      have := h.lt r (by omega) j hj2
      have := (hF j hj).1
      omega
    · rw [hrk, set_same] at hj2
      rw [set_ne _ _ hik] at hj
      have := h.lt i (by omega) j hj
      have := (hF j hj2).1
      omega
    · rw [set_ne _ _ hik] at hj
      rw [set_ne _ _ hrk] at hj2
      exact h.dj i r (by omega) (by omega) hir j hj hj2
  · have ho' : j < w.heap.size ∧ GpO gp L j ∨ j = wa.heap.size := by
      rcases ho with e | e | e
      · exact .inl ⟨e ▸ hgp, .inl e⟩
      · rcases hv2 j e with e | e
        · exact .inl ⟨hown j e, .inr (.inl e)⟩
        · exact .inr e
      · exact .inl ⟨h.bag.lt j e, .inr (.inr e)⟩
    dsimp only at hj
    by_cases hik : i = k
    · rw [hik, set_same] at hj
      have := hF j hj
      rcases ho' with ⟨e, _⟩ | e <;> omega
    · rw [set_ne _ _ hik] at hj
      have := h.lt i (by omega) j hj
      rcases ho' with ⟨_, e⟩ | e
      · exact h.out i (by omega) j hj e
      · omega
theorem NdAt.made (w : World) (k : Int) : ∃ L, NdAt (((w.alloc (.map #[] 0)).alloc (.map #[] 0)).alloc (.cells #[.int .i64 k, .map (some w.heap.size), .map (some (w.heap.size + 1)), .int .u64 0, .slice none 0 0, .pointer none] 187))
    (fun j => j = w.heap.size ∨ j = w.heap.size + 1 ∨ j = w.heap.size + 1 + 1) (w.heap.size + 1 + 1) k 1 L Nod.zero := by
  have h1 := MpAt.made Tryz.prog 22 litU okU w
  have h2 := MpAt.made Tryz.prog 22 litU okU (w.alloc (.map #[] 0))
  rw [World.size_alloc] at h2
  have hb := Blk.mk_new ((w.alloc (.map #[] 0)).alloc (.map #[] 0)) 187 #[.int .i64 k, .map (some w.heap.size), .map (some (w.heap.size + 1)), .int .u64 0, .slice none 0 0, .pointer none]
  rw [World.size_alloc, World.size_alloc] at hb
  have hn1 := ((New.refl (w.alloc (.map #[] 0))).alloc (.map #[] 0)).alloc (.cells #[.int .i64 k, .map (some w.heap.size), .map (some (w.heap.size + 1)), .int .u64 0, .slice none 0 0, .pointer none] 187)
  have hn2 := (New.refl ((w.alloc (.map #[] 0)).alloc (.map #[] 0))).alloc (.cells #[.int .i64 k, .map (some w.heap.size), .map (some (w.heap.size + 1)), .int .u64 0, .slice none 0 0, .pointer none] 187)
  refine ⟨⟨w.heap.size, w.heap.size + 1, fun _ => 0, .slice none 0 0, .pointer none⟩, hb, ⟨⟨0, by omega, (h1.new hn1).congr fun _ _ => rfl⟩, fun s a ha => (nomatch ha), fun s t hs => absurd rfl hs⟩, ⟨0, by omega, (h2.new hn2).congr fun _ _ => rfl⟩, Row.nil _ _ _ _ _, rfl, ?_, ⟨.inr (.inr rfl), .inl rfl, .inr (.inl rfl)⟩, fun j hj => by cases hj⟩
  show w.heap.size ≠ w.heap.size + 1
  omega
def Gm.zero : Gm := ⟨fun _ => Nod.zero, []⟩
/-- What New answers. -/
def NewPost (w : World) (n : Nat) (e : Ending) (w' : World) : Prop := ∃ gp L, e = .returned (.tuple #[.pointer (some ⟨gp, 0, none⟩), .int .i64 0]) ∧ GpAt w' gp n 1 L Gm.zero ∧ (∀ j, GpF gp n L j → w.heap.size ≤ j) ∧ New w w'
def NewRel (w : World) (gp k : Nat) (wr : World) : Prop := ∃ L, GpAt wr gp k 1 L Gm.zero ∧ (∀ j, GpF gp k L j → w.heap.size ≤ j) ∧ New w wr
theorem set_zero (k : Nat) : set Gm.zero.nd k Nod.zero = Gm.zero.nd := set_self Gm.zero.nd k
theorem gnew_no (n : Int) (hn : ¬ (1 ≤ n ∧ n ≤ 7)) (w : World) : Calls Tryz.prog 77 #[.int .i64 n] w fun e w' => e = .returned (.tuple #[.pointer none, .int .i64 220]) ∧ w' = w := by
  by_cases h1 : n < 1
  · clear hn
    go_enter Tryz.func77, Tryz.ntmps77
    go_wp2_with fail
    go_ret2
    exact ⟨rfl, rfl⟩
  · have h7 : 7 < n := by omega
    clear hn
    go_enter Tryz.func77, Tryz.ntmps77
    go_wp2_with fail
    go_ret2
    exact ⟨rfl, rfl⟩
set_option maxRecDepth 100000 in
set_option maxHeartbeats 8000000 in
theorem gnew (n : Nat) (h1 : 1 ≤ n) (h7 : n ≤ 7) (w : World) : Calls Tryz.prog 77 #[.int .i64 (n : Int)] w (NewPost w n) := by
  have q1 : ¬ (n : Int) < 1 := by omega
  have q7 : ¬ (7 : Int) < (n : Int) := by omega
  have hmk := @run_makeMap Tryz.prog
  go_enter Tryz.func77, Tryz.ntmps77
  go_wp2_with (go_at_call 78; refine (bnew _).mono ?_; rintro e w1 ⟨rfl, hb1, hn1⟩)
  have hblk := Blk.mk_new w1 216 #[.slice none 0 0, .pointer (some ⟨w.heap.size, 0, none⟩)]
  have hNN := hn1.alloc (.cells #[.slice none 0 0, .pointer (some ⟨w.heap.size, 0, none⟩)] 216)
  have hst : NewRel w w1.heap.size 0 (w1.alloc (.cells #[.slice none 0 0, .pointer (some ⟨w.heap.size, 0, none⟩)] 216)) := by
    refine ⟨⟨.slice none 0 0, w.heap.size, .slice none 0 0, fun _ => 0, fun _ _ => False, fun _ => ⟨0, 0, fun _ => 0, .slice none 0 0, .pointer none⟩⟩, ⟨hblk, Row.nil _ _ _ _ _, hb1.new ((New.refl w1).alloc _), fun i hi => by omega, fun i hi => by omega, fun i j hi => by omega, fun i hi => by omega⟩, ?_, hNN⟩
    rintro j (e | ⟨i, hi, _⟩)
    · rcases e with e | e | e | e
      · rw [e]; exact hn1.size
      · cases e
      · rw [e]; exact Nat.le_refl _
      · cases e
    · omega
  have HST := Lib.hid hst
  clear hst hblk hNN
  generalize w1.alloc (.cells #[.slice none 0 0, .pointer (some ⟨w.heap.size, 0, none⟩)] 216) = w3 at *
  generalize w1.heap.size = gp at *
  clear hb1 hn1
  go_loopw [7, 22] (fun _ i wr => ∃ k : Nat, k ≤ n ∧ i = .int .i64 (k : Int) ∧ NewRel w gp k wr) (fun _ i _ => n - (intOf i).toNat)
  case atStart => exact ⟨0, Nat.zero_le _, rfl, HST.out⟩
  case round =>
    obtain ⟨k, hk, rfl, L, hg, hF, hn⟩ := hrel
    have HG := Lib.hid hg
    have HF := Lib.hid hF
    have HN := Lib.hid hn
    clear hg hF hn
    by_cases hlt : k < n
    · have hlt' : (k : Int) < (n : Int) := by omega
      obtain ⟨g0, c0, c1, cz⟩ := HG.out.facts
      obtain ⟨A, c, hnv⟩ := HG.out.nvs
      rw [hnv] at c0
      have HNV := Lib.hid hnv
      obtain ⟨nl, hx⟩ := NdAt.made wr (k : Int)
      have hb4 := (New.refl (((wr.alloc (.map #[] 0)).alloc (.map #[] 0)).alloc (.cells #[.int .i64 (k : Int), .map (some wr.heap.size), .map (some (wr.heap.size + 1)), .int .u64 0, .slice none 0 0, .pointer none] 187))).alloc (.cells #[.pointer (some ⟨wr.heap.size + 1 + 1, 0, none⟩)] 181)
      have HX := Lib.hid (hx.new hb4)
      have hNA := (((New.refl wr).alloc (.map #[] 0)).alloc (.map #[] 0)).alloc (.cells #[.int .i64 (k : Int), .map (some wr.heap.size), .map (some (wr.heap.size + 1)), .int .u64 0, .slice none 0 0, .pointer none] 187) |>.alloc (.cells #[.pointer (some ⟨wr.heap.size + 1 + 1, 0, none⟩)] 181)
      have HNA := Lib.hid hNA
      have hsl := SlIn.one (x := wr.heap.size + 1 + 1) (Blk.mk_new (((wr.alloc (.map #[] 0)).alloc (.map #[] 0)).alloc (.cells #[.int .i64 (k : Int), .map (some wr.heap.size), .map (some (wr.heap.size + 1)), .int .u64 0, .slice none 0 0, .pointer none] 187)) 181 #[.pointer (some ⟨wr.heap.size + 1 + 1, 0, none⟩)]) ptrOk rfl
      simp only [World.size_alloc] at hsl
      have HSL := Lib.hid hsl
      have hlen : ((List.range k).map L.nb).length = k := by simp
      have HM1 := Lib.hid (show ((List.range k).map L.nb).length + [wr.heap.size + 1 + 1].length ≤ maxLen by rw [hlen]; unfold maxLen; simp; omega)
      have HM2 := Lib.hid (show (((List.range k).map L.nb).length + [wr.heap.size + 1 + 1].length) * 8 ≤ 140737488355328 by rw [hlen]; simp; omega)
      have hrow := HG.out.nds
      rw [hnv] at hrow
      have HROW := Lib.hid hrow
      clear hx hb4 hNA hlen hrow hnv hsl
      go_wp2_with (at_builtin; refine wpList_appR (l := (List.range k).map L.nb) (m := [wr.heap.size + 1 + 1]) ptrTy ptrOk rfl (.tmp 29) (.tmp 35) rfl rfl rfl (HROW.out.new HNA.out) HSL.out HM1.out HM2.out (Nat.zero_le _) ?_; intro v2 w2 hr2 hg2 hb2; have hbk := (HG.out.blk.new HNA.out).grown hg2 (fun e => (HROW.out.ne_blk HG.out.blk (by decide)) e.symm); have d0 := Blk.cell hbk 0; have dz := Blk.frozen hbk; have dl := Blk.lt hbk; simp at d0; obtain ⟨A2, n2, c2, rfl⟩ := hr2.shp)
      have HG2 := Lib.hid (HG.out.add HNA.out (F := fun j => j = wr.heap.size ∨ j = wr.heap.size + 1 ∨ j = wr.heap.size + 1 + 1) HX.out (fun j hj => by simp; omega) hr2 (by rw [HNV.out]; exact hg2) (by rw [HNV.out]; exact hb2))
      have HHR := Lib.hid hr2
      have HU2 := Lib.hid ((Upd.refl (fun j => L.nv.ownBlock = some j) _).grown hg2 (fun j _ e => by rw [HNV.out]; exact e))
      have HB2 := Lib.hid hb2
      clear hr2 hg2 hb2 hbk
      go_roundw
      case rel =>
        refine ⟨k + 1, by omega, by go_num, _, by have := HG2.out; rw [show Gm.mk (set Gm.zero.nd k Nod.zero) Gm.zero.bg = Gm.zero from by rw [set_zero]] at this; exact this, ?_, ?_⟩
        · have hge := HN.out.size
          have hF0 := HF.out
          have hlim : ∀ j, Value.ownBlock (.slice A2 n2 c2) = some j → w.heap.size ≤ j := fun j hj => by
            rcases HB2.out with e | e
            · exact hF0 j (.inl (.inr (.inl (by rw [HNV.out]; rw [e] at hj; exact hj))))
            · rw [e] at hj; injection hj with hj; simp at hj; omega
          rintro j (e | ⟨i, hi, e⟩)
          · rcases e with e | e | e
            · exact hF0 j (.inl (.inl e))
            · exact hlim j e
            · exact hF0 j (.inl (.inr (.inr e)))
          · dsimp only at e
            by_cases hik : i = k
            · rw [hik, set_same] at e
              rcases e with e | e | e <;> omega
            · rw [set_ne _ _ hik] at e
              exact hF0 j (.inr ⟨i, by omega, e⟩)
        · refine New.setCell ((HN.out.trans HNA.out).upd HU2.out (fun j hj => HF.out j (.inl (.inr (.inl hj))))) (HF.out gp (.inl (.inl rfl))) _
      case measure => simp [intOf]; omega
    · have hge : ¬ (k : Int) < (n : Int) := by omega
      have hkn : k = n := by omega
      subst hkn
      go_wp2_with fail
      go_ret2
      exact ⟨gp, L, rfl, HG.out, HF.out, HN.out⟩
end
end Go.Proofs.YtlhlcdjkacglnaaGreatDoor.D
/- Chapter 22 (decree): what holds of a group stays so. No program here. -/
namespace Go.Proofs.YtlhlcdjkacglnaaGreatDoor.D
open Go.Lap
set_option linter.unusedVariables false

theorem GmOk.mono {n B C : Nat} {g : Gm} (h : GmOk n B g) (hB : B ≤ C) : GmOk n C g := ⟨fun i hi => (h.nd i hi).mono hB, fun p hp => ⟨(h.bg p hp).1, (h.bg p hp).2.1, (h.bg p hp).2.2.mono hB⟩, h.len⟩
theorem GmOk.setNd {n B : Nat} {g : Gm} (h : GmOk n B g) {i : Nat} {x : Nod} (hx : NodOk B x) : ∀ j, j < n → NodOk B (set g.nd i x j) := fun j hj => by
  by_cases hji : j = i
  · rw [hji, set_same]; exact hx
  · rw [set_ne _ _ hji]; exact h.nd j hj
theorem GmOk.propose {n B : Nat} {g : Gm} (h : GmOk n B g) {i : Nat} (hi : i < n) {v : ByteArray} (hv : 1 ≤ v.size ∧ v.size ≤ 64) : GmOk n (B + 1) (g.propose i v) := by
  have h' := h.mono (Nat.le_succ B)
  have hx := h'.nd i hi
  refine ⟨h'.setNd ⟨hx.ac, hx.lg, hx.rd, fun u hu => ?_, ?_, fun p hp => ⟨(hx.nw p hp).1, by simp⟩⟩, h'.bg, h'.len⟩
  · rcases List.mem_append.1 hu with hu | hu
    · exact hx.pe u hu
    · simp at hu; rw [hu]; exact hv
  · have := (h.nd i hi).pl
    show ((g.nd i).pe ++ [v]).length < B + 1
    rw [List.length_append]
    simp
    omega
theorem NodOk.zero : NodOk 1 Nod.zero := ⟨fun s a ha => (nomatch ha), fun s v hv => (nomatch hv), Nat.one_pos, fun v hv => (nomatch hv), Nat.one_pos, fun p hp => (nomatch hp)⟩
theorem GmOk.zero {n : Nat} : GmOk n 1 ⟨fun _ => Nod.zero, []⟩ := ⟨fun i hi => NodOk.zero, fun p hp => (nomatch hp), Nat.zero_le _⟩
end Go.Proofs.YtlhlcdjkacglnaaGreatDoor.D
/- Chapter 22 (decree): Deliver whole; a group that is the call's own; the law's run and do. -/
namespace Go.Proofs.YtlhlcdjkacglnaaGreatDoor.D
open Go.RowKit Go.Lap
set_option linter.unusedVariables false
section
variable {w w' w'' W wa w2 : World} {S F : Nat → Prop} {gp n B C k : Nat} {L : GpL} {g g' : Gm}
/-- A group whose blocks lie in F; what is new is in F too. -/
def GSt (F : Nat → Prop) (W : World) (n B gp : Nat) (g : Gm) : Prop := ∃ L, GpAt W gp n B L g ∧ (∀ j, GpF gp n L j → F j) ∧ (∀ j, W.heap.size ≤ j → F j) ∧ GmOk n B g
theorem GSt.act {L : GpL} (hF : ∀ j, GpF gp n L j → F j) (hn : ∀ j, W.heap.size ≤ j → F j) (hok : GmOk n C g') (hp : GrPost W gp n C L g' w') : GSt F w' n C gp g' ∧ Upd F W w' := by
  obtain ⟨L', h1, h2, h3⟩ := hp
  exact ⟨⟨L', h1, fun j hj => (h2 j hj).elim (hF j) (fun h => hn j h.1), fun j hj => hn j (Nat.le_trans h3.size hj), hok⟩, h3.mono fun j _ hj => hF j hj⟩
theorem GSt.new (h : GSt F W n B gp g) (hn : New W w') : GSt F w' n B gp g := by
  obtain ⟨L, h1, h2, h3, h4⟩ := h
  exact ⟨L, h1.new hn, h2, fun j hj => h3 j (Nat.le_trans hn.size hj), h4⟩
theorem GSt.mono (h : GSt F W n B gp g) (hB : B ≤ C) : GSt F W n C gp g := by
  obtain ⟨L, h1, h2, h3, h4⟩ := h
  exact ⟨L, h1.mono hB, h2, h3, h4.mono hB⟩
/-- What an act of the law leaves. -/
def StPost (F : Nat → Prop) (W : World) (n B gp : Nat) (r : Int) (g' : Gm) (e : Ending) (w' : World) : Prop := e = .returned (.int .i64 r) ∧ GSt F w' n B gp g' ∧ Upd F W w'
def inN (n : Nat) (i : Int) : Prop := 0 ≤ i ∧ i < n
instance (n : Nat) (i : Int) : Decidable (inN n i) := inferInstanceAs (Decidable (_ ∧ _))
theorem inN_of {n : Nat} {i : Int} (h : inN n i) : ∃ j : Nat, i = (j : Int) ∧ j < n := ⟨i.toNat, by have := h.1; omega, by have := h.1; have := h.2; omega⟩
def proposeR (n : Nat) (i : Int) (v : ByteArray) : Int := if inN n i then if 1 ≤ v.size ∧ v.size ≤ 64 then 0 else 222 else 221
def proposeG (n : Nat) (g : Gm) (i : Int) (v : ByteArray) : Gm := if inN n i ∧ 1 ≤ v.size ∧ v.size ≤ 64 then g.propose i.toNat v else g
theorem st_propose (h : GSt F W n B gp g) (hB : B ≤ 100000000) (i : Int) (v : ByteArray) :
    Calls Tryz.prog 48 #[.pointer (some ⟨gp, 0, none⟩), .int .i64 i, .string v] W (StPost F W n (B + 1) gp (proposeR n i v) (proposeG n g i v)) := by
  obtain ⟨L, h1, h2, h3, h4⟩ := id h
  unfold proposeR proposeG
  by_cases hi : inN n i
  · obtain ⟨j, rfl, hj⟩ := inN_of hi
    by_cases hv : 1 ≤ v.size ∧ v.size ≤ 64
    · rw [if_pos hi, if_pos hv, if_pos ⟨hi, hv⟩]
      refine (gpropose h1 hj v hv (by have := (h4.nd j hj).pl; omega)).mono ?_
      rintro e w' ⟨rfl, hp⟩
      exact ⟨rfl, GSt.act h2 h3 (h4.propose hj hv) (hp.mono (Nat.le_succ B))⟩
    · rw [if_pos hi, if_neg hv, if_neg (fun h => hv h.2)]
      refine (gpropose_bad h1 hj v hv).mono ?_
      rintro e w' ⟨rfl, rfl⟩
      exact ⟨rfl, h.mono (Nat.le_succ B), Upd.refl _ _⟩
  · rw [if_neg hi, if_neg (fun h => hi h.1)]
    refine (gpropose_no h1 i v hi).mono ?_
    rintro e w' ⟨rfl, rfl⟩
    exact ⟨rfl, h.mono (Nat.le_succ B), Upd.refl _ _⟩
def logR (n : Nat) (g : Gm) (i : Int) : List ByteArray := if inN n i then (g.nd i.toNat).log else []
theorem st_log (h : GSt F W n B gp g) (hB : B ≤ 100000000) (i : Int) : Calls Tryz.prog 52 #[.pointer (some ⟨gp, 0, none⟩), .int .i64 i] W (LogPost W (logR n g i)) := by
  obtain ⟨L, h1, _, _, h4⟩ := h
  unfold logR
  by_cases hi : inN n i
  · rw [if_pos hi]
    obtain ⟨j, rfl, hj⟩ := inN_of hi
    exact glog h1 hj (h4.nd j hj) hB
  · rw [if_neg hi]
    exact glog_no h1 i hi
end
end Go.Proofs.YtlhlcdjkacglnaaGreatDoor.D
