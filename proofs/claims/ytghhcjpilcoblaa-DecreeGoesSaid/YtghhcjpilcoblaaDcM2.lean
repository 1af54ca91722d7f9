/- Chapter 22 (decree): what holds of a group stays so. No program here. -/
import Derived.Test.YtghhcjpilcoblaaDcM
namespace Go.Proofs.Ytghhcjpilcoblaa
open Go.Lap
set_option linter.unusedVariables false

theorem len8 {l : List Int} (hn : l.Nodup) (h : ∀ k ∈ l, 0 ≤ k ∧ k < 8) : l.length ≤ 8 := by
  have := hn.length_le_of_subset (l₂ := [0, 1, 2, 3, 4, 5, 6, 7]) (fun x hx => by have := h x hx; simp; omega)
  simpa using this
theorem best_small {own : ByteArray} {l : List Pro} (ho : own.size ≤ 64) (hl : ∀ q ∈ l, q.v.size ≤ 64) : (Pro.best own l).v.size ≤ 64 := by
  unfold Pro.best
  have : ∀ (l : List Pro) (b : Pro), b.v.size ≤ 64 → (∀ q ∈ l, q.v.size ≤ 64) → (l.foldl Pro.take b).v.size ≤ 64 := by
    intro l
    induction l with
    | nil => intro b hb _; exact hb
    | cons x l ih =>
      intro b hb h
      rw [List.foldl_cons]
      refine ih _ ?_ (fun q hq => h q (List.mem_cons_of_mem _ hq))
      unfold Pro.take
      split
      · exact h x (List.mem_cons_self ..)
      · exact hb
  exact this l _ ho hl
theorem head_small {x : Nod} {B : Nat} (h : NodOk B x) : (x.pe.headD E0).size ≤ 64 := by
  cases hp : x.pe with
  | nil => show E0.size ≤ 64; decide
  | cons v l => exact (h.pe v (by rw [hp]; simp)).2
theorem set_some {α : Type} {f : Nat → Option α} {k j : Nat} {x y : α} (h : set f k (some x) j = some y) : (j = k ∧ y = x) ∨ f j = some y := by
  by_cases hj : j = k
  · rw [hj, set_same] at h; cases h; exact .inl ⟨hj, rfl⟩
  · rw [set_ne _ _ hj] at h; exact .inr h
theorem NodOk.know {B : Nat} {x : Nod} (h : NodOk B x) {s : Nat} {v : ByteArray} (hs : s < B) (hv : v.size ≤ 64) : NodOk B (x.know s v) := by
  unfold Nod.know
  split
  · exact h
  · have hl : ∀ t u, set x.lg s (some v) t = some u → t < B ∧ u.size ≤ 64 := fun t u hu => by
      rcases set_some hu with ⟨e, e2⟩ | e
      · rw [e, e2]; exact ⟨hs, hv⟩
      · exact h.lg t u e
    dsimp only
    split
    · refine ⟨h.ac, hl, h.rd, fun u hu => h.pe u (List.mem_of_mem_tail hu), ?_, fun p hp => by cases hp⟩
      have := h.pl
      show x.pe.tail.length < B
      rw [List.length_tail]
      omega
    · refine ⟨h.ac, hl, h.rd, h.pe, h.pl, fun p hp => ?_⟩
      cases hn : x.nw with
      | none => simp [hn] at hp
      | some q =>
        rw [hn] at hp
        dsimp only at hp
        split at hp
        · cases hp
        · cases hp; exact h.nw _ hn
theorem NodOk.acr {B : Nat} {x : Nod} (h : NodOk B x) (hB : 0 < B) (s : Nat) : AcrOk B (x.acr s) := by
  unfold Nod.acr
  cases ha : x.ac s with
  | none => exact ⟨hB, by decide, hB, by decide, by decide⟩
  | some a => exact (h.ac s a ha).2
theorem NodOk.setAc {B : Nat} {x : Nod} (h : NodOk B x) {s : Nat} {a : Acr} (hs : s < B) (ha : AcrOk B a) : NodOk B { x with ac := set x.ac s (some a) } :=
  ⟨fun t b hb => by
    rcases set_some hb with ⟨e, e2⟩ | e
    · rw [e, e2]; exact ⟨hs, ha⟩
    · exact h.ac t b e, h.lg, h.rd, h.pe, h.pl, h.nw⟩
theorem NodOk.asked {B : Nat} {x : Nod} (h : NodOk B x) {m : Msg} (hm : MsgOk B m) : NodOk B (x.asked m).1 ∧ MsgOk B (x.asked m).2 := by
  have hB : 0 < B := by have := hm.s; omega
  have ha := h.acr hB m.s
  unfold Nod.asked
  split
  · rename_i v hv
    exact ⟨h, ⟨by show 5 ≤ 6; omega, (h.lg _ _ hv).1, hB, by show 0 < 8; omega, (h.lg _ _ hv).2, hB, by show 0 < 8; omega, by show 0 ≤ 64; omega⟩⟩
  · dsimp only
    split
    · exact ⟨h.setAc hm.s ha, ⟨by show 4 ≤ 6; omega, hm.s, ha.r, ha.n, by show 0 ≤ 64; omega, hB, by show 0 < 8; omega, by show 0 ≤ 64; omega⟩⟩
    · split
      · exact ⟨h.setAc hm.s ⟨hm.r, hm.n, ha.ar, ha.an, ha.v⟩, ⟨by show 1 ≤ 6; omega, hm.s, hm.r, hm.n, by show 0 ≤ 64; omega, ha.ar, ha.an, ha.v⟩⟩
      · exact ⟨h.setAc hm.s ⟨hm.r, hm.n, hm.r, hm.n, hm.v⟩, ⟨by show 3 ≤ 6; omega, hm.s, hm.r, hm.n, by show 0 ≤ 64; omega, hB, by show 0 < 8; omega, by show 0 ≤ 64; omega⟩⟩
theorem NodOk.setNw {B : Nat} {x : Nod} (h : NodOk B x) {p : Prs} (hp : PrsOk B p) (hne : x.pe ≠ []) : NodOk B { x with nw := some p } := ⟨h.ac, h.lg, h.rd, h.pe, h.pl, fun q hq => by cases hq; exact ⟨hp, hne⟩⟩
theorem NodOk.promised {B : Nat} {x : Nod} (h : NodOk B x) {n : Nat} {fr : Nat} (hfr : fr < 8) {m : Msg} (hm : MsgOk B m) : NodOk B (x.promised n fr m).1 ∧ ∀ m', (x.promised n fr m).2 = some m' → MsgOk B m' := by
  unfold Nod.promised
  split
  · exact ⟨h, fun _ h => by cases h⟩
  · rename_i p hp
    obtain ⟨hq, hne⟩ := h.nw p hp
    split
    · exact ⟨h, fun _ h => by cases h⟩
    · rename_i hc
      simp only [not_or] at hc
      have hB : 0 < B := by have := hq.s; omega
      have hnd : (p.fr ++ [(fr : Int)]).Nodup := by
        rw [List.nodup_append]
        refine ⟨hq.fn, by simp, fun a ha b hb => ?_⟩
        simp at hb
        intro e
        exact hc.2.2 (by rw [← hb, ← e]; exact ha)
      have hfm : ∀ k ∈ p.fr ++ [(fr : Int)], 0 ≤ k ∧ k < 8 := fun k hk => by
        rcases List.mem_append.1 hk with hk | hk
        · exact hq.fm k hk
        · simp at hk; omega
      have hpm : ∀ q ∈ p.pm ++ [m.pro], q.v.size ≤ 64 := fun q hqm => by
        rcases List.mem_append.1 hqm with hqm | hqm
        · exact hq.pm q hqm
        · simp at hqm; rw [hqm]; exact hm.hv
      have hl8 := len8 hnd hfm
      have hfp : (p.pm ++ [m.pro]).length = (p.fr ++ [(fr : Int)]).length := by rw [List.length_append, List.length_append, hq.fp]; rfl
      have hv := best_small (head_small h) hpm
      split
      · refine ⟨h.setNw ⟨hq.s, hq.r, hq.n, hv, hpm, by rw [hfp]; exact hl8, hl8, hq.bl, hnd, hq.bn, hfm, hq.bm, hfp⟩ hne, fun m' hm' => ?_⟩
        cases hm'
        exact ⟨by show 2 ≤ 6; omega, hq.s, hq.r, hq.n, hv, hB, by show 0 < 8; omega, by show 0 ≤ 64; omega⟩
      · exact ⟨h.setNw ⟨hq.s, hq.r, hq.n, hq.v, hpm, by rw [hfp]; exact hl8, hl8, hq.bl, hnd, hq.bn, hfm, hq.bm, hfp⟩ hne, fun _ h => by cases h⟩
theorem addL_nodup {l : List Int} {k : Int} (h : l.Nodup) : (addL l k).Nodup := by
  unfold addL
  split
  · exact h
  · rename_i hk
    rw [List.nodup_append]
    refine ⟨h, by simp, fun a ha b hb => ?_⟩
    simp at hb
    intro e
    exact hk (by rw [← hb, ← e]; exact ha)
theorem addL_mem {l : List Int} {k j : Int} (h : j ∈ addL l k) : j ∈ l ∨ j = k := by
  unfold addL at h
  split at h
  · exact .inl h
  · simpa using h
theorem NodOk.taken {B : Nat} {x : Nod} (h : NodOk B x) {n : Nat} {fr : Nat} (hfr : fr < 8) {m : Msg} : NodOk B (x.taken n fr m).1 ∧ ∀ m', (x.taken n fr m).2 = some m' → MsgOk B m' := by
  unfold Nod.taken
  split
  · exact ⟨h, fun _ h => by cases h⟩
  · rename_i p hp
    obtain ⟨hq, hne⟩ := h.nw p hp
    split
    · exact ⟨h, fun _ h => by cases h⟩
    · have hB : 0 < B := by have := hq.s; omega
      have hbn := addL_nodup (k := (fr : Int)) hq.bn
      have hbm : ∀ k ∈ addL p.by_ (fr : Int), 0 ≤ k ∧ k < 8 := fun k hk => by
        rcases addL_mem hk with hk | hk
        · exact hq.bm k hk
        · omega
      have h1 : NodOk B { x with nw := some { p with by_ := addL p.by_ (fr : Int) } } := h.setNw { hq with bl := len8 hbn hbm, bn := hbn, bm := hbm } hne
      dsimp only
      split
      · refine ⟨h1.know hq.s hq.v, fun m' hm' => ?_⟩
        cases hm'
        exact ⟨by show 5 ≤ 6; omega, hq.s, hB, by show 0 < 8; omega, hq.v, hB, by show 0 < 8; omega, by show 0 ≤ 64; omega⟩
      · exact ⟨h1, fun _ h => by cases h⟩
theorem NodOk.refused {B : Nat} {x : Nod} (h : NodOk B x) {m : Msg} (hm : MsgOk B m) : NodOk B (x.refused m) := by
  refine ⟨h.ac, h.lg, ?_, h.pe, h.pl, fun p hp => ?_⟩
  · show max x.rd m.r < B
    have := h.rd
    have := hm.r
    omega
  · unfold Nod.refused at hp
    dsimp only at hp
    cases hn : x.nw with
    | none => rw [hn] at hp; cases hp
    | some q =>
      rw [hn] at hp
      dsimp only at hp
      split at hp
      · cases hp
      · cases hp; exact h.nw _ hn
theorem sendB_len {b : List Pkt} {p : Pkt} (h : b.length ≤ 256) : (sendB b p).length ≤ 256 := by
  unfold sendB
  split
  · rw [List.length_append]; simp; omega
  · exact h
theorem sendB_mem {b : List Pkt} {p q : Pkt} (h : q ∈ sendB b p) : q ∈ b ∨ q = p := by
  unfold sendB at h
  split at h
  · simpa using h
  · exact .inl h
theorem sendTo_len {fr : Nat} {m : Msg} : ∀ {l : List Nat} {b : List Pkt}, b.length ≤ 256 → (sendTo b fr m l).length ≤ 256
  | [], _, h => h
  | d :: l, b, h => sendTo_len (l := l) (sendB_len h)
theorem sendTo_mem {fr : Nat} {m : Msg} {q : Pkt} : ∀ {l : List Nat} {b : List Pkt}, q ∈ sendTo b fr m l → q ∈ b ∨ ∃ d ∈ l, q = ⟨fr, d, m⟩
  | [], _, h => .inl h
  | d :: l, b, h => by
    rcases sendTo_mem (l := l) (b := sendB b ⟨fr, d, m⟩) h with h | ⟨e, he, h⟩
    · rcases sendB_mem h with h | h
      · exact .inl h
      · exact .inr ⟨d, List.mem_cons_self .., h⟩
    · exact .inr ⟨e, List.mem_cons_of_mem _ he, h⟩
theorem all_lt {n d : Nat} (h : d ∈ allOf n) : d < n := List.mem_range.1 h
theorem others_lt {n i d : Nat} (h : d ∈ othersOf n i) : d < n := List.mem_range.1 (List.mem_filter.1 h).1
theorem GmOk.mono {n B C : Nat} {g : Gm} (h : GmOk n B g) (hB : B ≤ C) : GmOk n C g := ⟨fun i hi => (h.nd i hi).mono hB, fun p hp => ⟨(h.bg p hp).1, (h.bg p hp).2.1, (h.bg p hp).2.2.mono hB⟩, h.len⟩
theorem GmOk.setNd {n B : Nat} {g : Gm} (h : GmOk n B g) {i : Nat} {x : Nod} (hx : NodOk B x) : ∀ j, j < n → NodOk B (set g.nd i x j) := fun j hj => by
  by_cases hji : j = i
  · rw [hji, set_same]; exact hx
  · rw [set_ne _ _ hji]; exact h.nd j hj
theorem bagOk_to {n B : Nat} {b : List Pkt} {fr : Nat} {m : Msg} {l : List Nat} (hb : ∀ p ∈ b, p.fr < n ∧ p.ds < n ∧ MsgOk B p.m) (hfr : fr < n) (hm : MsgOk B m) (hl : ∀ d ∈ l, d < n) : ∀ p ∈ sendTo b fr m l, p.fr < n ∧ p.ds < n ∧ MsgOk B p.m := fun p hp => by
  rcases sendTo_mem hp with h | ⟨d, hd, rfl⟩
  · exact hb p h
  · exact ⟨hfr, hl d hd, hm⟩
theorem bagOk_b {n B : Nat} {b : List Pkt} {q : Pkt} (hb : ∀ p ∈ b, p.fr < n ∧ p.ds < n ∧ MsgOk B p.m) (hq : q.fr < n ∧ q.ds < n ∧ MsgOk B q.m) : ∀ p ∈ sendB b q, p.fr < n ∧ p.ds < n ∧ MsgOk B p.m := fun p hp => by
  rcases sendB_mem hp with h | rfl
  · exact hb p h
  · exact hq
theorem five_mem {x : Nod} {s : Nat} {m : Msg} (h : m ∈ x.five s) : ∃ t v, x.lg t = some v ∧ m = mLearn t v := by
  obtain ⟨j, _, hj⟩ := List.mem_filterMap.1 h
  obtain ⟨v, hv, rfl⟩ := Option.map_eq_some_iff.1 hj
  exact ⟨_, v, hv, rfl⟩
theorem foldOk {n B : Nat} {fr ds : Nat} (hfr : fr < n) (hds : ds < n) : ∀ (l : List Msg) (b : List Pkt), (∀ m ∈ l, MsgOk B m) → (∀ p ∈ b, p.fr < n ∧ p.ds < n ∧ MsgOk B p.m) ∧ b.length ≤ 256 → (∀ p ∈ l.foldl (fun b m => sendB b ⟨fr, ds, m⟩) b, p.fr < n ∧ p.ds < n ∧ MsgOk B p.m) ∧ (l.foldl (fun b m => sendB b ⟨fr, ds, m⟩) b).length ≤ 256
  | [], _, _, h => h
  | m :: l, b, hl, h => foldOk hfr hds l _ (fun q hq => hl q (List.mem_cons_of_mem _ hq)) ⟨bagOk_b h.1 ⟨hfr, hds, hl m (List.mem_cons_self ..)⟩, sendB_len h.2⟩
theorem GmOk.arrive {n B : Nat} {g : Gm} (h : GmOk n B g) (hn : n ≤ 7) {p : Pkt} (hp : p.fr < n ∧ p.ds < n ∧ MsgOk B p.m) {b : List Pkt} (hb : ∀ p ∈ b, p.fr < n ∧ p.ds < n ∧ MsgOk B p.m) (hl : b.length ≤ 256) : GmOk n B (g.arrive n p b) := by
  have hx := h.nd p.ds hp.2.1
  have hB : 0 < B := by have := hp.2.2.s; omega
  have hA := hx.asked hp.2.2
  have hP := hx.promised (n := n) (fr := p.fr) (by omega) hp.2.2
  have hT := hx.taken (n := n) (fr := p.fr) (by omega) (m := p.m)
  unfold Gm.arrive
  dsimp only
  split
  · exact ⟨h.setNd hA.1, bagOk_b hb ⟨hp.2.1, hp.1, hA.2⟩, sendB_len hl⟩
  · exact ⟨h.setNd hA.1, bagOk_b hb ⟨hp.2.1, hp.1, hA.2⟩, sendB_len hl⟩
  · refine ⟨h.setNd hP.1, ?_, ?_⟩
    · dsimp only
      split
      · rename_i m' hm'
        exact bagOk_to hb hp.2.1 (hP.2 m' hm') (fun d hd => all_lt hd)
      · exact hb
    · dsimp only
      split
      · exact sendTo_len hl
      · exact hl
  · refine ⟨h.setNd hT.1, ?_, ?_⟩
    · dsimp only
      split
      · rename_i m' hm'
        exact bagOk_to hb hp.2.1 (hT.2 m' hm') (fun d hd => others_lt hd)
      · exact hb
    · dsimp only
      split
      · exact sendTo_len hl
      · exact hl
  · exact ⟨h.setNd (hx.refused hp.2.2), hb, hl⟩
  · exact ⟨h.setNd (hx.know hp.2.2.s hp.2.2.v), hb, hl⟩
  · have := foldOk (B := B) hp.2.1 hp.1 ((g.nd p.ds).five p.m.s) b (fun m hm => by
      obtain ⟨t, v, hv, rfl⟩ := five_mem hm
      exact ⟨by show 5 ≤ 6; omega, (hx.lg t v hv).1, hB, by show 0 < 8; omega, (hx.lg t v hv).2, hB, by show 0 < 8; omega, by show 0 ≤ 64; omega⟩) ⟨hb, hl⟩
    exact ⟨h.nd, this.1, this.2⟩
theorem GmOk.deliver {n B : Nat} {g : Gm} (h : GmOk n B g) (hn : n ≤ 7) (i : Nat) : GmOk n B (g.deliver n i) := by
  unfold Gm.deliver
  split
  · rename_i p hp
    have hl := List.length_eraseIdx_le g.bg i
    exact h.arrive hn (h.bg p (List.mem_of_getElem? hp)) (fun q hq => h.bg q (List.mem_of_mem_eraseIdx hq)) (by have := h.len; omega)
  · exact h
theorem GmOk.copy {n B : Nat} {g : Gm} (h : GmOk n B g) (i : Nat) : GmOk n B (g.copy i) := by
  unfold Gm.copy
  split
  · rename_i p hp
    exact ⟨h.nd, bagOk_b h.bg (h.bg p (List.mem_of_getElem? hp)), sendB_len h.len⟩
  · exact h
theorem GmOk.lose {n B : Nat} {g : Gm} (h : GmOk n B g) (fr dt : Int) : GmOk n B (g.lose fr dt) :=
  ⟨h.nd, fun p hp => h.bg p (List.mem_filter.1 hp).1, Nat.le_trans (List.length_filter_le ..) h.len⟩
theorem GmOk.crash {n B : Nat} {g : Gm} (h : GmOk n B g) (hB : 0 < B) {i : Nat} (hi : i < n) : GmOk n B (g.crash i) := by
  have hx := h.nd i hi
  exact ⟨h.setNd ⟨hx.ac, hx.lg, hx.rd, by simp, by simpa using hB, fun p hp => by cases hp⟩, h.bg, h.len⟩
theorem GmOk.propose {n B : Nat} {g : Gm} (h : GmOk n B g) {i : Nat} (hi : i < n) {v : ByteArray} (hv : 1 ≤ v.size ∧ v.size ≤ 64) : GmOk n (B + 1) (g.propose i v) := by
  have h' := h.mono (Nat.le_succ B)
  have hx := h'.nd i hi
  refine ⟨h'.setNd ⟨hx.ac, hx.lg, hx.rd, fun u hu => ?_, ?_, fun p hp => ⟨(hx.nw p hp).1, by simp⟩⟩, h'.bg, h'.len⟩
  · rcases List.mem_append.1 hu with hu | hu
    · exact hx.pe u hu
    · simp at hu; rw [hu]; exact hv
  · have := (h.nd i hi).pl
    show ((g.nd i).pe ++ [v]).length < B + 1
    rw [List.length_append]
    simp
    omega
theorem GmOk.tick {n B : Nat} {g : Gm} (h : GmOk n B g) (hn : n ≤ 7) (hB : B ≤ 1000000000) {i : Nat} (hi : i < n) : GmOk n (B + 1) (g.tick n i) := by
  have h' := h.mono (Nat.le_succ B)
  have hx := h.nd i hi
  have hf := (hx.first hB).2
  have ha : MsgOk (B + 1) (mAsk (g.nd i).first) := ⟨by show 6 ≤ 6; omega, by show (g.nd i).first < B + 1; omega, Nat.succ_pos _, by show 0 < 8; omega, by show 0 ≤ 64; omega, Nat.succ_pos _, by show 0 < 8; omega, by show 0 ≤ 64; omega⟩
  have hr := hx.rd
  have hp : MsgOk (B + 1) (mPrep (g.nd i).first ((g.nd i).rd + 1) i) := ⟨by show 0 ≤ 6; omega, by show (g.nd i).first < B + 1; omega, by show (g.nd i).rd + 1 < B + 1; omega, by show i < 8; omega, by show 0 ≤ 64; omega, Nat.succ_pos _, by show 0 < 8; omega, by show 0 ≤ 64; omega⟩
  unfold Gm.tick
  dsimp only
  split
  · exact ⟨h'.nd, bagOk_to h'.bg hi ha (fun d hd => others_lt hd), sendTo_len h'.len⟩
  · rename_i hne
    have hx' := h'.nd i hi
    refine ⟨h'.setNd ⟨hx'.ac, hx'.lg, by show (g.nd i).rd + 1 < B + 1; omega, hx'.pe, hx'.pl, fun p hp => ?_⟩, bagOk_to (bagOk_to h'.bg hi hp (fun d hd => all_lt hd)) hi ha (fun d hd => others_lt hd), sendTo_len (sendTo_len h'.len)⟩
    cases hp
    exact ⟨⟨by show (g.nd i).first < B + 1; omega, by show (g.nd i).rd + 1 < B + 1; omega, by show i < 8; omega, by show 0 ≤ 64; omega, by simp, by simp, by simp, by simp, by simp, by simp, by simp, by simp, rfl⟩, hne⟩
theorem NodOk.zero : NodOk 1 Nod.zero := ⟨fun s a ha => (nomatch ha), fun s v hv => (nomatch hv), Nat.one_pos, fun v hv => (nomatch hv), Nat.one_pos, fun p hp => (nomatch hp)⟩
theorem GmOk.zero {n : Nat} : GmOk n 1 ⟨fun _ => Nod.zero, []⟩ := ⟨fun i hi => NodOk.zero, fun p hp => (nomatch hp), Nat.zero_le _⟩
end Go.Proofs.Ytghhcjpilcoblaa
