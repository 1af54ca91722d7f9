/- Chapter 22 (decree): where nothing is lost a tick brings a value into all lists. No program here. -/
import Derived.Test.YtghhcjpilcoblaaDcR
namespace Go.Proofs.Ytghhcjpilcoblaa
open Go.RowKit Go.Lap
set_option linter.unusedVariables false
section
variable {n i s r B : Nat} {g g' : Gm} {x x' : Vw} {p : Pkt} {b out : List Pkt} {pe0 : List ByteArray} {h : ByteArray} {L0 : Nat → Option ByteArray}
structure QI (n i s : Nat) (h : ByteArray) (pe0 : List ByteArray) (L0 : Nat → Option ByteArray) (x : Vw) (b : List Pkt) : Prop where
  ot : ∀ k t, k < n → t ≠ s → x.L k t = L0 t
  st : (x.pe = pe0 ∧ x.L i s = none) ∨ (x.pe = pe0.tail ∧ x.L i s = some h)
  ks : ∀ k, k < n → x.L k s = none ∨ x.L k s = some h
  ki : ∀ k, k < n → (x.L k s).isSome = true → (x.L i s).isSome = true
  ms : ∀ q ∈ b, q.m.k = 5 → q.m.s = s ∧ q.m.v = h ∧ (x.L i s).isSome = true
  tl : (x.L i s).isSome = true → ∀ k, k < n → k ≠ i → (⟨i, k, mLearn s h⟩ : Pkt) ∈ b ∨ (x.L k s).isSome = true
theorem QI.same (hQ : QI n i s h pe0 L0 x (p :: b)) (hL : x'.L = x.L) (hpe : x'.pe = x.pe) (hp : p.m.k ≠ 5) (ho : ∀ q ∈ out, q.m.k = 5 → q.m.s = s ∧ q.m.v = h ∧ (x.L i s).isSome = true) : QI n i s h pe0 L0 x' (b ++ out) := by
  refine ⟨by rw [hL]; exact hQ.ot, by rw [hL, hpe]; exact hQ.st, by rw [hL]; exact hQ.ks, by rw [hL]; exact hQ.ki, fun q hq => ?_, fun hs k hk hki => ?_⟩
  · rw [hL]
    rcases List.mem_append.1 hq with hq | hq
    · exact hQ.ms q (List.mem_cons_of_mem _ hq)
    · exact ho q hq
  · rw [hL] at hs ⊢
    rcases hQ.tl hs k hk hki with g | g
    · rcases List.mem_cons.1 g with g | g
      · exact absurd (congrArg (fun q : Pkt => q.m.k) g.symm) hp
      · exact .inl (List.mem_append_left _ g)
    · exact .inr g
theorem QI.step (hQ : QI n i s h pe0 L0 x (p :: b)) (hI : RI n i s r pe0 x (p :: b)) (hV : RV h n i s pe0 x (p :: b)) (e : Ev n i s r x p x' out) (hi : i < n) (h0 : ∀ t, s < t → L0 t = none) : QI n i s h pe0 L0 x' (b ++ out) := by
  have hnil : ∀ q ∈ ([] : List Pkt), q.m.k = 5 → q.m.s = s ∧ q.m.v = h ∧ (x.L i s).isSome = true := fun q hq => (nomatch hq)
  have hno : ∀ {y : Pkt}, y.m.k ≠ 5 → ∀ q ∈ [y], q.m.k = 5 → q.m.s = s ∧ q.m.v = h ∧ (x.L i s).isSome = true := fun {y} hy q hq h5 => by simp at hq; subst hq; exact absurd h5 hy
  have hm := hQ.ms _ (List.mem_cons_self ..)
  cases e
  case known k v m h1 h2 h3 =>
    have hv : v = h := by rcases hQ.ks k h1 with g | g <;> rw [h2] at g <;> cases g; rfl
    have hk := hQ.ki k h1 (by rw [h2]; rfl)
    refine hQ.same rfl rfl ?_ fun q hq _ => ?_
    · rcases h3 with rfl | ⟨u, rfl⟩
      · show (0 : Nat) ≠ 5; omega
      · show (2 : Nat) ≠ 5; omega
    · simp at hq; subst hq; exact ⟨rfl, hv, hk⟩
  case refuse k m h1 h2 h3 h4 =>
    refine hQ.same rfl rfl ?_ (hno (by show (4 : Nat) ≠ 5; omega))
    rcases h4 with rfl | ⟨u, rfl⟩
    · show (0 : Nat) ≠ 5; omega
    · show (2 : Nat) ≠ 5; omega
  case prom => exact hQ.same rfl rfl (by show (0 : Nat) ≠ 5; omega) (hno (by show (1 : Nat) ≠ 5; omega))
  case acc => exact hQ.same rfl rfl (by show (2 : Nat) ≠ 5; omega) (hno (by show (3 : Nat) ≠ 5; omega))
  case promNo => exact hQ.same rfl rfl (by show (1 : Nat) ≠ 5; omega) hnil
  case promAdd => exact hQ.same rfl rfl (by show (1 : Nat) ≠ 5; omega) hnil
  case promAll => exact hQ.same rfl rfl (by show (1 : Nat) ≠ 5; omega) fun q hq h5 => by obtain ⟨d, _, rfl⟩ := List.mem_map.1 hq; cases h5
  case accNo => exact hQ.same rfl rfl (by show (3 : Nat) ≠ 5; omega) hnil
  case accAdd => exact hQ.same rfl rfl (by show (3 : Nat) ≠ 5; omega) hnil
  case refused => exact hQ.same rfl rfl (by show (4 : Nat) ≠ 5; omega) hnil
  case ask k h1 h2 =>
    refine hQ.same rfl rfl (by show (6 : Nat) ≠ 5; omega) fun q hq _ => ?_
    obtain ⟨t, v, g1, g2, g3, rfl⟩ := five_mem' hq
    have hts : t = s := by
      refine Classical.byContradiction fun hne => ?_
      rw [hQ.ot k t h1 hne, h0 t (by omega)] at g3
      cases g3
    subst hts
    refine ⟨rfl, ?_, hQ.ki k h1 (by rw [g3]; rfl)⟩
    rcases hQ.ks k h1 with g | g <;> rw [g3] at g <;> cases g
    rfl
  case accAll k q0 h1 h2 h3 h4 =>
    obtain ⟨a1, a2, a3, a4, _⟩ := hI.nw q0 h2
    have hpe : x.pe = pe0 := by rcases hQ.st with g | g
                                · exact g.1
                                · rw [a4] at g; cases g.2
    have hRV := hV (by rw [hpe])
    have hv := (hRV.pw q0 h2).1 h3
    have hhd := hRV.hd
    have hL : ∀ j t, (({ x with nw := some { q0 with by_ := addL q0.by_ (k : Int) } } : Vw).know i s q0.v).L j t = if j = i ∧ t = s then some h else x.L j t := fun j t => by
      rw [kn_L, hv]
      by_cases hc : j = i ∧ t = s
      · rw [if_pos hc, if_pos ⟨hc.1, hc.2, a4⟩]
      · rw [if_neg hc, if_neg (fun g => hc ⟨g.1, g.2.1⟩)]
    refine ⟨fun j t hj ht => ?_, .inr ⟨?_, ?_⟩, fun j hj => ?_, fun j hj _ => ?_, fun q hq h5 => ?_, fun _ j hj hji => ?_⟩
    · rw [hL, if_neg (fun g => ht g.2)]; exact hQ.ot j t hj ht
    · rw [kn_pe, if_pos ⟨a4, by rw [hv]; exact hhd⟩]; show x.pe.tail = _; rw [hpe]
    · rw [hL, if_pos ⟨rfl, rfl⟩]
    · rw [hL]; split
      · exact .inr rfl
      · exact hQ.ks j hj
    · rw [hL, if_pos ⟨rfl, rfl⟩]; rfl
    · rw [hL, if_pos ⟨rfl, rfl⟩]
      rcases List.mem_append.1 hq with hq | hq
      · have := hQ.ms q (List.mem_cons_of_mem _ hq) h5
        exact ⟨this.1, this.2.1, rfl⟩
      · obtain ⟨d, _, rfl⟩ := List.mem_map.1 hq
        exact ⟨rfl, hv, rfl⟩
    · left
      refine List.mem_append_right _ (List.mem_map.2 ⟨j, mem_others.2 ⟨hj, hji⟩, ?_⟩)
      rw [hv]
  case learn k t v h1 h2 h3 h4 =>
    obtain ⟨e1, e2, e3⟩ := hm rfl
    have e1 : t = s := e1
    subst e1
    have hsame : x.know i t v = x := by unfold Vw.know; rw [if_pos e3]
    rw [hsame, List.append_nil]
    refine ⟨hQ.ot, hQ.st, hQ.ks, hQ.ki, fun q hq => hQ.ms q (List.mem_cons_of_mem _ hq), fun hs j hj hji => ?_⟩
    rcases hQ.tl hs j hj hji with g | g
    · rcases List.mem_cons.1 g with g | g
      · injection g with g1 g2; exact absurd g2 hji
      · exact .inl g
    · exact .inr g
  case told k v h1 h2 h3 =>
    obtain ⟨e1, e2, e3⟩ := hm rfl
    have e2 : v = h := e2
    subst e2
    have hL : ∀ j t, (x.kno k s v).L j t = if j = k ∧ t = s ∧ x.L k s = none then some v else x.L j t := fun j t => ko_L x k s v j t
    have hLi : (x.kno k s v).L i s = x.L i s := by rw [hL, if_neg]; rintro ⟨e, _⟩; exact h2 e.symm
    rw [List.append_nil]
    refine ⟨fun j t hj ht => ?_, ?_, fun j hj => ?_, fun j hj _ => ?_, fun q hq h5 => ?_, fun hs j hj hji => ?_⟩
    · rw [hL, if_neg (fun g => ht g.2.1)]; exact hQ.ot j t hj ht
    · rw [hLi, (ko_rest x k s v).2.1]; exact hQ.st
    · rw [hL]; split
      · exact .inr rfl
      · exact hQ.ks j hj
    · rw [hLi]; exact e3
    · rw [hLi]; exact hQ.ms q (List.mem_cons_of_mem _ hq) h5
    · rw [hLi] at hs
      have hks : (x.L j s).isSome = true → ((x.kno k s v).L j s).isSome = true := fun g => by
        rw [hL]; split
        · rfl
        · exact g
      rcases hQ.tl hs j hj hji with g | g
      · rcases List.mem_cons.1 g with g | g
        · injection g with g1 g2
          subst g2
          right
          rw [hL]
          cases hl : x.L j s with
          | none => rw [if_pos ⟨rfl, rfl, rfl⟩]; rfl
          | some u => rw [if_neg (fun g => by cases g.2.2)]; rfl
        · exact .inl g
      · exact .inr (hks g)
/-- The group behind so many ticks. -/
structure QSt (n i : Nat) (want : List ByteArray) (j B : Nat) (g : Gm) : Prop where
  ts : TS n i B g
  lg : ∀ k t, k < n → (g.nd k).lg t = if t < j then want[t]? else none
  ac : ∀ k t, k < n → j ≤ t → (g.nd k).acr t = Acr.zero
  pe : (g.nd i).pe = want.drop j
theorem quiet_turn {want : List ByteArray} {j : Nat} (hQ : QSt n i want j B g) (hj : j < want.length) (hn : n ≤ 7) (hi : i < n) (hB : B ≤ 100000000) {f : Nat} (hf : 450 ≤ f) : QSt n i want (j + 1) (B + 1) (runG n f (g.tick n i)) := by
  obtain ⟨r, hr⟩ : ∃ r, (g.nd i).rd + 1 = r := ⟨_, rfl⟩
  have hjs : ∀ t, t < j → (want[t]?).isSome = true := fun t ht => by rw [List.getElem?_eq_getElem (by omega)]; rfl
  have hs : (g.nd i).first = j := by
    refine ((hQ.ts.ok.nd i hi).first (B := B) (by omega)).1.unique ⟨?_, fun t ht => ?_⟩
    · rw [hQ.lg i j hi, if_neg (by omega)]
    · rw [hQ.lg i t hi, if_pos ht]; exact hjs t ht
  obtain ⟨h, hh⟩ : ∃ h, want[j]? = some h := ⟨_, List.getElem?_eq_getElem hj⟩
  have hdr : want.drop j = h :: want.drop (j + 1) := by
    obtain ⟨h1, h2⟩ := List.getElem?_eq_some_iff.1 hh
    rw [← h2]; exact List.drop_eq_getElem_cons h1
  have hpe : (g.nd i).pe ≠ [] := by rw [hQ.pe, hdr]; simp
  have hprep : ∀ k, k < n → (⟨i, k, mPrep j r i⟩ : Pkt) ∈ ((allOf n).map fun d => (⟨i, d, mPrep j r i⟩ : Pkt)) ++ ((othersOf n i).map fun d => ⟨i, d, mAsk j⟩) := fun k hk => List.mem_append_left _ (List.mem_map.2 ⟨k, List.mem_range.2 hk, rfl⟩)
  have hbk : ∀ q ∈ ((allOf n).map fun d => (⟨i, d, mPrep j r i⟩ : Pkt)) ++ ((othersOf n i).map fun d => ⟨i, d, mAsk j⟩), q.m.k = 0 ∨ q.m.k = 6 := fun q hq => by
    rcases List.mem_append.1 hq with hq | hq
    · obtain ⟨d, _, rfl⟩ := List.mem_map.1 hq; exact .inl rfl
    · obtain ⟨d, _, rfl⟩ := List.mem_map.1 hq; exact .inr rfl
  have hnone : ∀ k, k < n → (g.nd k).lg j = none := fun k hk => by rw [hQ.lg k j hk, if_neg (by omega)]
  have hzero : ∀ k, k < n → (g.nd k).acr j = Acr.zero := fun k hk => hQ.ac k j hk (Nat.le_refl _)
  obtain ⟨hG, hw⟩ := start_ri hQ.ts hn hi hB hs hr hpe
    (Inv := fun x b => RS n i j r (g.nd i).pe x b ∧ RV h n i j (g.nd i).pe x b ∧ QI n i j h (g.nd i).pe (fun t => if t < j then want[t]? else none) x b)
    ⟨⟨fun k hk => (by
        show ((g.nd k).acr j).pb ≤ _
        rw [hzero k hk]; exact Nat.zero_le _), fun q hq => (by rcases hbk q hq with h | h <;> omega), fun h => (nomatch h), fun q hq k hk => (by cases hq; exact .inr (.inl ⟨rfl, .inl (hprep k hk)⟩))⟩,
     fun _ => ⟨(by show (g.nd i).pe.head? = some h; rw [hQ.pe, hdr]; rfl), hnone i hi, fun k hk hc => (by
        have hc : ((g.nd k).acr j).h = true := hc
        rw [hzero k hk] at hc; cases hc), fun k hk v hv => (by
        have hv : (g.nd k).lg j = some v := hv
        rw [hnone k hk] at hv; cases hv), fun q hq => ⟨fun h => (by rcases hbk q hq with e | e <;> omega), fun h => (by rcases hbk q hq with e | e <;> omega), fun h => (by rcases hbk q hq with e | e <;> omega)⟩, fun q hq => (by cases hq; exact ⟨fun h => (nomatch h), fun y hy => (nomatch hy)⟩)⟩,
     ⟨fun k t hk _ => hQ.lg k t hk, .inl ⟨rfl, hnone i hi⟩, fun k hk => .inl (hnone k hk), fun k hk hc => (by
        have hc : ((g.nd k).lg j).isSome = true := hc
        rw [hnone k hk] at hc; cases hc), fun q hq h5 => (by rcases hbk q hq with e | e <;> omega), fun hc => (by
        have hc : ((g.nd i).lg j).isSome = true := hc
        rw [hnone i hi] at hc; cases hc)⟩⟩
  obtain ⟨hG', hbg⟩ := RG.run hn hi (Nat.succ_pos _) (fun x p b x' out hI hV e => ⟨hV.1.step hI e hi, hV.2.1.step hI e hi, hV.2.2.step hI hV.2.1 e hi fun t ht => if_neg (by omega)⟩) f _ hG (by omega)
  have hri := hG'.ri
  obtain ⟨h1, h2, h3⟩ := hG'.inv
  rw [hbg] at hri h1 h2 h3
  have hknow : (vw i j (runG n f (g.tick n i))).pe = (g.nd i).pe.tail ∧ (vw i j (runG n f (g.tick n i))).L i j = some h := by
    rcases h3.st with ⟨g1, g2⟩ | g
    · rcases h1.done hri (by omega) with hd | hd
      · rw [g2] at hd; cases hd
      · rw [g1] at hd; omega
    · exact g
  have hall : ∀ k, k < n → ((runG n f (g.tick n i)).nd k).lg j = some h := fun k hk => by
    by_cases hki : k = i
    · rw [hki]; exact hknow.2
    · have hsm : (((runG n f (g.tick n i)).nd k).lg j).isSome = true := by
        rcases h3.tl (by rw [hknow.2]; rfl) k hk hki with g | g
        · cases g
        · exact g
      rcases h3.ks k hk with hy | hy
      · have g' : ((runG n f (g.tick n i)).nd k).lg j = none := hy
        rw [g'] at hsm; cases hsm
      · exact hy
  refine ⟨⟨hG'.ok, hG'.idle, hbg, hri.ch⟩, fun k t hk => ?_, fun k t hk ht => ?_, ?_⟩
  · by_cases htj : t = j
    · rw [htj, hall k hk, if_pos (by omega), hh]
    · have : ((runG n f (g.tick n i)).nd k).lg t = if t < j then want[t]? else none := h3.ot k t hk htj
      rw [this]
      by_cases hlt : t < j
      · rw [if_pos hlt, if_pos (by omega)]
      · rw [if_neg hlt, if_neg (by omega)]
  · rw [hG'.ac k t (by omega)]; exact hQ.ac k t hk (by omega)
  · have : ((runG n f (g.tick n i)).nd i).pe = (g.nd i).pe.tail := hknow.1
    rw [this, hQ.pe, hdr]; rfl
end
end Go.Proofs.Ytghhcjpilcoblaa
