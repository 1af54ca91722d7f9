/- Chapter 24 (replica): a chain of replicas as plain data; what is clean is everywhere. No program here. -/
import Derived.Test.YtlhlcdjkacglnaaGreatDoorJk6
import Derived.Test.YtlhlcdjkacglnaaGreatDoorJk20
import Derived.Test.YtlhlcdjkacglnaaGreatDoorJk21
import Derived.Test.YtlhlcdjkacglnaaGreatDoorJk1
import Derived.Test.YtlhlcdjkacglnaaGreatDoorJk10
namespace Go.Proofs.YtlhlcdjkacglnaaGreatDoor
open Go.RowKit Go.Lap C
set_option linter.unusedVariables false

theorem next_some {c : Cfg} {i y : Int} (h : nextC c i = (y, true)) : ∃ k, c.ms[k]? = some i ∧ c.ms[k + 1]? = some y := by
  unfold nextC atC at h
  rcases place_cases c.ms i with ⟨h1, h2⟩ | ⟨k, h1, h2, h3, h4⟩
  · rw [h2] at h; simp at h
  · rw [h4] at h
    refine ⟨k, h2, ?_⟩
    split at h
    · rw [show ((k : Int) + 1).toNat = k + 1 by omega] at h
      split at h
      · rename_i x hx; cases h; exact hx
      · cases h
    · cases h
theorem bef_some {c : Cfg} {i y : Int} (h : befC c i = (y, true)) : ∃ k, c.ms[k]? = some y ∧ c.ms[k + 1]? = some i := by
  unfold befC atC at h
  rcases place_cases c.ms i with ⟨h1, h2⟩ | ⟨k, h1, h2, h3, h4⟩
  · rw [h2] at h; simp at h
  · rw [h4] at h
    split at h
    · rename_i hk
      obtain ⟨k, rfl⟩ : ∃ r, k = r + 1 := ⟨k - 1, by omega⟩
      refine ⟨k, ?_, h2⟩
      rw [show (((k + 1 : Nat) : Int) + -1).toNat = k by omega] at h
      split at h
      · rename_i x hx; cases h; exact hx
      · cases h
    · cases h
theorem pair_of {r : Int × Bool} (h : r.2 = true) : r = (r.1, true) := by rw [← h]

section
variable {n : Nat} {cs : List Cfg} {nw c d : Cfg}
end

section
variable {n y : Nat} {cs : List Cfg} {nw c d : Cfg} {L M : Nat → List Btc} {x : Rpl} {nt : Nt}
/-- The lists with one more batch at y. -/
def grown (L : Nat → List Btc) (y : Nat) (b : Btc) : Nat → List Btc := setD L y (L y ++ [b])
end

/-- The law's chain: replicas, what is under way, all configurations. -/
structure Chn where
  rp : Nat → Rpl
  un : List Nt
  cs : List Cfg
section
variable {n : Nat} {x : Chn}
end
end Go.Proofs.YtlhlcdjkacglnaaGreatDoor
/- Chapter 26 (cluster), plain: what a packet's bytes are read as; what a replica's notes may be. -/
namespace Go.Proofs.YtlhlcdjkacglnaaGreatDoor
open Go.RowKit Go.Lap C
set_option linter.unusedVariables false
theorem countR_enc (n : Nat) (rest : List UInt8) (h : n < 18446744073709551616) {most : Int} (hm : (n : Int) ≤ most) : D.countR (varB n ++ rest) 0 most = (n, rest, 0) := by
  unfold D.countR
  rw [D.takeV_varB n rest h]
  exact if_pos ⟨rfl, rfl, hm⟩
theorem textR_encL (l rest : List UInt8) (h : l.length ≤ 65536) : D.textR (txtB l ++ rest) 0 = (l, rest, 0) := by
  have h1 := D.textR_enc (str l) rest (by rw [str_size]; exact h)
  rw [str_size, D.str_list] at h1
  exact h1
theorem bB_len (b : Btc) (h : b.Ok) : (bB b).length ≤ 4000 := by
  unfold bB
  split
  · rename_i hc
    have h1 := chk_ok hc
    have h2 := varB_len10 h.c
    have h3 := varB_len10 h.r
    have h4 := varB_len10 h.s
    have h5 := varB_len10 (n := b.l.length) (by omega)
    have h6 : (b.l.flatMap encW).length ≤ 400 * b.l.length := by
      have : ∀ l : List Wri, (∀ x ∈ l, chk1 x = 0) → (l.flatMap encW).length ≤ 400 * l.length := by
        intro l
        induction l with
        | nil => intro _; simp
        | cons x l ih =>
          intro hl
          have := encW_len (hl x (by simp))
          have := ih (fun y hy => hl y (by simp [hy]))
          simp only [List.flatMap_cons, List.length_append, List.length_cons]
          omega
      exact this b.l h1.2.2
    simp only [encB, encH, List.length_append]
    omega
  · simp
theorem val_nilC {s : ByteArray} (h : s.size = 0) : s = str [] := by
  rw [← str_data s]
  congr 1
  exact List.eq_nil_of_length_eq_zero h
theorem rdW_enc {x : Wri} (h : chk1 x = 0) (rest : List UInt8) : D.rdW (encW x ++ rest) 0 = (x, rest, 0) := by
  obtain ⟨h1, h2, h3, h4⟩ := chk1_ok h
  obtain ⟨k, v, g⟩ := x
  dsimp only at *
  have e1 : ∀ r : List UInt8, D.textR (varB k.size ++ k.data.toList ++ r) 0 = (k.data.toList, r, 0) := fun r => D.textR_enc k r (by omega)
  cases g with
  | true =>
    have e2 : encW ⟨k, v, true⟩ ++ rest = varB k.size ++ k.data.toList ++ (varB (flagN true) ++ rest) := by simp [encW, List.append_assoc]
    unfold D.rdW
    rw [e2, e1]
    dsimp only
    rw [D.flagR_enc]
    simp only [if_true]
    rw [str_data, ← val_nilC (h4 rfl)]
  | false =>
    have e2 : encW ⟨k, v, false⟩ ++ rest = varB k.size ++ k.data.toList ++ (varB (flagN false) ++ (varB v.size ++ v.data.toList ++ rest)) := by simp [encW, List.append_assoc]
    unfold D.rdW
    rw [e2, e1]
    dsimp only
    rw [D.flagR_enc]
    simp only [Bool.false_eq_true, if_false]
    rw [D.textR_enc v rest (by omega)]
    dsimp only
    rw [str_data, str_data]
theorem rdWs_enc (rest : List UInt8) : ∀ l : List Wri, (∀ x ∈ l, chk1 x = 0) → D.rdWs l.length (l.flatMap encW ++ rest) 0 = (l, rest, 0)
  | [], _ => rfl
  | x :: l, h => by
    have e : (x :: l).flatMap encW ++ rest = encW x ++ (l.flatMap encW ++ rest) := by simp [List.append_assoc]
    rw [e]
    show ((D.rdW _ 0).1 :: (D.rdWs l.length _ _).1, _) = _
    rw [rdW_enc (h x (by simp))]
    dsimp only
    rw [rdWs_enc rest l (fun y hy => h y (by simp [hy]))]
theorem getC_enc {c r s : Nat} {l : List Wri} (hc : c < 18446744073709551616) (hr : r < 18446744073709551616) (hs : s < 18446744073709551616) (h : chk l = 0) : D.getC (encB c r s l) = some ⟨c, r, s, l⟩ := by
  obtain ⟨h1, h2, h3⟩ := chk_ok h
  have e : encB c r s l = varB c ++ (varB r ++ (varB s ++ (varB l.length ++ l.flatMap encW))) := by simp [encB, encH, List.append_assoc]
  unfold D.getC
  rw [e, D.numR_enc c _ hc]
  dsimp only
  rw [D.numR_enc r _ hr]
  dsimp only
  rw [D.numR_enc s _ hs]
  dsimp only
  rw [countR_enc l.length _ (by omega) (by omega)]
  dsimp only
  have := rdWs_enc [] l h3
  rw [List.append_nil] at this
  rw [this]
  dsimp only
  rw [if_pos (by decide), if_pos h]
/-- The batch that comes out of a packet's bytes. -/
theorem getC_bB (b : Btc) (h : b.Ok) : D.getC (bB b) = if chk b.l = 0 then some ⟨b.c, b.r, b.s, b.l⟩ else none := by
  unfold bB
  by_cases hc : chk b.l = 0
  · rw [if_pos hc, if_pos hc]; exact getC_enc h.c h.r h.s hc
  · rw [if_neg hc, if_neg hc]; decide
theorem wireB_ok {b : Btc} (h : b.Ok) : (wireB b).Ok := by unfold wireB; split; exact h; exact Btc.none_ok
theorem bB_wire (b : Btc) : bB (wireB b) = bB b := by
  unfold wireB
  split
  · rfl
  · rename_i h
    unfold bB
    rw [if_neg h, if_neg (by decide)]
theorem wire_wire (b : Btc) : wireB (wireB b) = wireB b := by
  unfold wireB
  by_cases h : chk b.l = 0
  · rw [if_pos h, if_pos h]
  · rw [if_neg h, if_neg (by decide)]
/-- What a note may be that a replica makes. -/
structure NtOk (n : Nt) : Prop where
  k : 0 ≤ n.k ∧ n.k ≤ 2
  fr : inI n.fr
  ds : inI n.ds
  ep : n.ep < big
  t : n.t < big
structure RpN (x : Rpl) : Prop where
  id : inI x.id
  ck : chkC x.cf = true
  l : x.l.length < 1000000000
  cl : x.cl < 1000000000
  out : ∀ n ∈ x.out, NtOk n
section
variable {x : Rpl}
theorem memI {c : Cfg} (h : chkC c = true) {i : Int} (hi : i ∈ c.ms) : inI i := by
  have := (chk_parts h).2.2.2.2.1 i hi
  simp only [memB, Bool.and_eq_true, decide_eq_true_eq] at this
  exact ⟨by omega, by omega⟩
theorem nextI {c : Cfg} (h : chkC c = true) {i : Int} (hn : (nextC c i).2 = true) : inI (nextC c i).1 := by
  obtain ⟨k, _, h2⟩ := next_some (pair_of hn)
  exact memI h (List.mem_of_getElem? h2)
theorem befI {c : Cfg} (h : chkC c = true) {i : Int} (hn : (befC c i).2 = true) : inI (befC c i).1 := by
  obtain ⟨k, h2, _⟩ := bef_some (pair_of hn)
  exact memI h (List.mem_of_getElem? h2)
theorem chk_e {c : Cfg} (h : chkC c = true) : c.e < big := by have := (chk_parts h).2.1; unfold lastE at this; unfold big; omega
theorem RpN.send (h : RpN x) {ds k : Int} {t : Nat} {b : Btc} (hd : inI ds) (hk : 0 ≤ k ∧ k ≤ 2) (ht : t < big) : RpN (x.send ds k t b) :=
  ⟨h.id, h.ck, h.l, h.cl, fun n hn => by
    rcases List.mem_append.1 hn with hn | hn
    · exact h.out n hn
    · rw [List.mem_singleton] at hn
      subst hn
      exact ⟨hk, h.id, hd, chk_e h.ck, ht⟩⟩
theorem RpN.tell (h : RpN x) : RpN x.tell := by
  unfold Rpl.tell
  split
  · rename_i hb; exact h.send (befI h.ck hb) (by decide) (by have := h.cl; unfold big; omega)
  · exact h
theorem RpN.ask (h : RpN x) : RpN x.ask := by
  unfold Rpl.ask
  split
  · rename_i hb; exact h.send (befI h.ck hb) (by decide) (by have := h.l; unfold Rpl.la big; omega)
  · exact h
theorem RpN.cleaned (h : RpN x) {t : Nat} (ht : t < 1000000000) : RpN (x.cleaned t) := by
  unfold Rpl.cleaned
  exact RpN.tell ⟨h.id, h.ck, h.l, ht, h.out⟩
theorem RpN.added (h : RpN x) (b : Btc) (hl : x.l.length + 1 < 1000000000) : RpN (x.added b) := by
  unfold Rpl.added
  have h2 : RpN { x with l := x.l ++ [b] } := ⟨h.id, h.ck, by simpa using hl, h.cl, h.out⟩
  dsimp only
  split
  · rename_i hb; exact h2.send (nextI h.ck hb) (by decide) (by have := h2.l; unfold Rpl.la big; omega)
  · exact h2.cleaned h2.l
theorem RpN.jdg (h : RpN x) (j : Jd) : RpN { x with j := j } := ⟨h.id, h.ck, h.l, h.cl, h.out⟩
theorem RpN.some_ (h : RpN x) {ds : Int} (hd : inI ds) (t : Nat) : RpN (x.some_ ds t) := by
  unfold Rpl.some_
  have hgo : ∀ (l : List Nat) (y : Rpl), RpN y → RpN (l.foldl (fun y i => if 1 ≤ t ∧ t + i ≤ x.la then y.send ds 0 (t + i) ((x.l[t + i - 1]?).getD Btc.none) else y) y) := by
    intro l
    induction l with
    | nil => intro y hy; exact hy
    | cons i l ih =>
      intro y hy
      rw [List.foldl_cons]
      apply ih
      split
      · rename_i hc; exact hy.send hd (by decide) (by have := h.l; have := hc.2; unfold Rpl.la at this; unfold big; omega)
      · exact hy
  exact hgo _ x h
theorem RpN.submit (h : RpN x) (b : Btc) (hl : x.l.length + 1 < 1000000000) : RpN (x.submit b).1 := by
  unfold Rpl.submit
  split
  · exact h
  · dsimp only
    split
    · exact (h.jdg _).added b hl
    · exact h.jdg _
theorem RpN.receive (h : RpN x) (n : Nt) (hl : x.l.length + 1 < 1000000000) : RpN (x.receive n) := by
  unfold Rpl.receive
  split
  · exact h
  · split
    · rename_i hs
      have hfr : inI n.fr := by
        rw [← hs.2]
        have h2 := hs.1
        unfold Rpl.side at h2 ⊢
        split
        · rename_i hk; rw [if_pos hk] at h2; exact befI h.ck h2
        · rename_i hk; rw [if_neg hk] at h2; exact nextI h.ck h2
      split
      · unfold Rpl.forwarded
        split
        · split
          · exact h
          · exact (h.jdg _).added n.b hl
        · split
          · exact h.ask
          · split
            · exact h.tell
            · exact h
      · split
        · unfold Rpl.acked
          split
          · exact h.cleaned (by have := h.l; unfold Rpl.la; omega)
          · exact h
        · exact h.some_ hfr n.t
    · exact h
theorem RpN.adopt (h : RpN x) (c : Cfg) : RpN (x.adopt c).1 := by
  unfold Rpl.adopt
  split
  · exact h
  · rename_i hc
    have hck : chkC c = true := by
      cases hcc : chkC c with
      | true => rfl
      | false => exact absurd (.inl hcc) hc
    have h2 : RpN { x with cf := c } := ⟨h.id, hck, h.l, h.cl, h.out⟩
    dsimp only
    split
    · exact h2
    · apply RpN.ask
      split
      · exact h2
      · exact h2.cleaned h2.l
theorem RpN.tick (h : RpN x) : RpN x.tick := by
  have h2 : RpN (if (nextC x.cf x.id).2 = true then x.some_ (nextC x.cf x.id).1 (x.cl + 1) else x) := by
    split
    · rename_i hb; exact h.some_ (nextI h.ck hb) _
    · exact h
  unfold Rpl.tick
  apply RpN.ask
  generalize (if (nextC x.cf x.id).2 = true then x.some_ (nextC x.cf x.id).1 (x.cl + 1) else x) = y at *
  split
  · exact h2.tell
  · exact h2
end
end Go.Proofs.YtlhlcdjkacglnaaGreatDoor
/- Chapter 26 (cluster): who is there: at, node, client, Replica. -/
namespace Go.Proofs.YtlhlcdjkacglnaaGreatDoor
open Go.RowKit Go.Lap C
set_option linter.unusedVariables false
set_option linter.unusedSimpArgs false
section
variable {w w' : World} {S F : Nat → Prop} {up B C n : Nat} {L : CuL} {x : Clu} {v : Value} {f : Nat → Nat} {t : TypeId}
theorem ptr_at (h : Row w 0 t 1 pE v ((List.range n).map f)) {i : Nat} (hi : i < n) : ∃ b off c, v = .slice (some ⟨b, off, none⟩) n c ∧ n ≤ c ∧ w.cell? ⟨b, off + i, none⟩ = some (.pointer (some ⟨f i, 0, none⟩)) := by
  have hne : (List.range n).map f ≠ [] := fun e => by have := congrArg List.length e; simp at this; omega
  obtain ⟨b, off, c, hv, _, hr⟩ := h.at_ hne
  have hl := hr.len.1
  have := hr.cell pEok (k := i) (x := f i) (by simp [hi]) (j := 0) rfl
  simp at hv hl this
  exact ⟨b, off, c, hv, hl, this⟩
theorem ptr_sh (h : Row w 0 t 1 pE v ((List.range n).map f)) : ∃ A c, v = .slice A n c := by obtain ⟨A, c, hv⟩ := h.shape; exact ⟨A, c, by simpa using hv⟩
theorem atC_no {A : Option Addr} {c : Nat} (i : Int) (hi : ¬ (0 ≤ i ∧ i < (n : Int))) : Calls Tryz.prog 84 #[.slice A n c, .int .i64 i] w fun e w' => e = .returned (.pointer none) ∧ w' = w := by
  by_cases h0 : i < 0
  · clear hi
    go_enter Tryz.func84, Tryz.ntmps84
    go_wp2_with fail
    go_ret
    exact ⟨rfl, rfl⟩
  · have h1 : (n : Int) ≤ i := by omega
    clear hi
    go_enter Tryz.func84, Tryz.ntmps84
    go_wp2_with fail
    go_ret
    exact ⟨rfl, rfl⟩
theorem atC_yes {b off c g : Nat} {i : Nat} (hi : i < n) (hc : n ≤ c) (hcell : w.cell? ⟨b, off + i, none⟩ = some (.pointer (some ⟨g, 0, none⟩))) : Calls Tryz.prog 84 #[.slice (some ⟨b, off, none⟩) n c, .int .i64 (i : Int)] w fun e w' => e = .returned (.pointer (some ⟨g, 0, none⟩)) ∧ w' = w := by
  have h0 : ¬ (i : Int) < 0 := by omega
  have h1 : ¬ (n : Int) ≤ (i : Int) := by omega
  have h2 : (i : Int) < (n : Int) := by omega
  have h3 : (0 : Int) ≤ (i : Int) := by omega
  go_enter Tryz.func84, Tryz.ntmps84
  go_wp2_with fail
  go_ret
  exact ⟨rfl, rfl⟩
theorem atR_no {A : Option Addr} {c : Nat} (i : Int) (hi : ¬ (0 ≤ i ∧ i < (n : Int))) : Calls Tryz.prog 87 #[.slice A n c, .int .i64 i] w fun e w' => e = .returned (.pointer none) ∧ w' = w := by
  by_cases h0 : i < 0
  · clear hi
    go_enter Tryz.func87, Tryz.ntmps87
    go_wp2_with fail
    go_ret
    exact ⟨rfl, rfl⟩
  · have h1 : (n : Int) ≤ i := by omega
    clear hi
    go_enter Tryz.func87, Tryz.ntmps87
    go_wp2_with fail
    go_ret
    exact ⟨rfl, rfl⟩
theorem atR_yes {b off c g : Nat} {i : Nat} (hi : i < n) (hc : n ≤ c) (hcell : w.cell? ⟨b, off + i, none⟩ = some (.pointer (some ⟨g, 0, none⟩))) : Calls Tryz.prog 87 #[.slice (some ⟨b, off, none⟩) n c, .int .i64 (i : Int)] w fun e w' => e = .returned (.pointer (some ⟨g, 0, none⟩)) ∧ w' = w := by
  have h0 : ¬ (i : Int) < 0 := by omega
  have h1 : ¬ (n : Int) ≤ (i : Int) := by omega
  have h2 : (i : Int) < (n : Int) := by omega
  have h3 : (0 : Int) ≤ (i : Int) := by omega
  go_enter Tryz.func87, Tryz.ntmps87
  go_wp2_with fail
  go_ret
  exact ⟨rfl, rfl⟩
theorem cclient_no (h : CuAt w up B L x) (i : Int) (hi : ¬ (0 ≤ i ∧ i < (L.m : Int))) : Calls Tryz.prog 38 #[.pointer (some ⟨up, 0, none⟩), .int .i64 i] w fun e w' => e = .returned (.pointer none) ∧ w' = w := by
  obtain ⟨g0, c0, c1, c2, c3, c4, c5, c6, c7, c8, cz⟩ := h.top
  obtain ⟨A, c, hv⟩ := ptr_sh (h.pt .cv)
  rw [hv] at c2
  have HI := Lib.hid hi
  clear h hv hi c0 c1 c3 c4 c5 c6 c7 c8 cz
  go_enter Tryz.func38, Tryz.ntmps38
  go_wp2_with fail
  refine (atC_no i HI.out).mono ?_
  rintro e w2 ⟨rfl, rfl⟩
  go_wp2_with fail
  go_ret
  exact ⟨rfl, rfl⟩
theorem cclient (h : CuAt w up B L x) {i : Nat} (hi : i < L.m) : Calls Tryz.prog 38 #[.pointer (some ⟨up, 0, none⟩), .int .i64 (i : Int)] w fun e w' => e = .returned (.pointer (some ⟨L.cp i, 0, none⟩)) ∧ w' = w := by
  obtain ⟨g0, c0, c1, c2, c3, c4, c5, c6, c7, c8, cz⟩ := h.top
  obtain ⟨b, off, c, hv, hc, hcell⟩ := ptr_at (h.pt .cv) hi
  rw [hv] at c2
  have HC := Lib.hid hcell
  clear h hv hcell c0 c1 c3 c4 c5 c6 c7 c8 cz
  go_enter Tryz.func38, Tryz.ntmps38
  go_wp2_with fail
  refine (atC_yes hi hc HC.out).mono ?_
  rintro e w2 ⟨rfl, rfl⟩
  go_wp2_with fail
  go_ret
  exact ⟨rfl, rfl⟩
theorem cnode_no (h : CuAt w up B L x) (i : Int) (hi : ¬ (0 ≤ i ∧ i < (L.n : Int))) : Calls Tryz.prog 40 #[.pointer (some ⟨up, 0, none⟩), .int .i64 i] w fun e w' => e = .returned (.pointer none) ∧ w' = w := by
  obtain ⟨g0, c0, c1, c2, c3, c4, c5, c6, c7, c8, cz⟩ := h.top
  obtain ⟨A, c, hv⟩ := ptr_sh (h.pt .rv)
  rw [hv] at c0
  have HI := Lib.hid hi
  clear h hv hi c1 c2 c3 c4 c5 c6 c7 c8 cz
  go_enter Tryz.func40, Tryz.ntmps40
  go_wp2_with fail
  refine (atR_no i HI.out).mono ?_
  rintro e w2 ⟨rfl, rfl⟩
  go_wp2_with fail
  go_ret
  exact ⟨rfl, rfl⟩
theorem cnode (h : CuAt w up B L x) {i : Nat} (hi : i < L.n) : Calls Tryz.prog 40 #[.pointer (some ⟨up, 0, none⟩), .int .i64 (i : Int)] w fun e w' => e = .returned (.pointer (some ⟨L.rp i, 0, none⟩)) ∧ w' = w := by
  obtain ⟨g0, c0, c1, c2, c3, c4, c5, c6, c7, c8, cz⟩ := h.top
  obtain ⟨b, off, c, hv, hc, hcell⟩ := ptr_at (h.pt .rv) hi
  rw [hv] at c0
  have HC := Lib.hid hcell
  clear h hv hcell c1 c2 c3 c4 c5 c6 c7 c8 cz
  go_enter Tryz.func40, Tryz.ntmps40
  go_wp2_with fail
  refine (atR_yes hi hc HC.out).mono ?_
  rintro e w2 ⟨rfl, rfl⟩
  go_wp2_with fail
  go_ret
  exact ⟨rfl, rfl⟩
theorem zeroB (w : World) : (zeroValue 4).run Tryz.prog w = .ok (.bool false) w := by kernel_rfl
theorem okI_of {i : Int} (h : inI i) : D.okI i := D.okI_lt h.1 h.2
/-- A lookup as a run. -/
theorem Replica_no (h : CuAt w up B L x) (i : Int) (hi : inI i) (hx : x.rep i = none) : Calls Tryz.prog 14 #[.pointer (some ⟨up, 0, none⟩), .int .i64 i] w fun e w' => e = .returned (.pointer none) ∧ w' = w := by
  obtain ⟨g0, c0, c1, c2, c3, c4, c5, c6, c7, c8, cz⟩ := h.top
  obtain ⟨m, hm, hmp⟩ := h.pt .gm
  have HM := Lib.hid hmp
  have HH := Lib.hid h
  have HX := Lib.hid hx
  clear h hmp hx c0 c2 c3 c4 c5 c6 c7 c8 cz
  cases hg : x.gone i with
  | true =>
    have hgv : (goneV x.gone i).getD (.bool false) = .bool true := by unfold goneV; rw [if_pos hg]; rfl
    go_enter Tryz.func14, Tryz.ntmps14
    go_wp2_with (refine wpList_mp_at D.keyI64 rfl (.tmp 8) (.tmp 9) 95 4 rfl Tryz.underlying95 (zeroB _) rfl HM.out i (okI_of hi) rfl ?_; rw [hgv])
    go_ret
    exact ⟨rfl, rfl⟩
  | false =>
    have hgv : (goneV x.gone i).getD (.bool false) = .bool false := by unfold goneV; rw [hg]; rfl
    have hno : ¬ (0 ≤ i ∧ i < (L.n : Int)) := by
      rintro ⟨h0, h1⟩
      have := HX.out
      unfold Clu.rep atL at this
      rw [hg, if_neg Bool.false_ne_true, if_pos h0, List.getElem?_eq_none_iff] at this
      have := HH.out.rl
      omega
    have HN := Lib.hid hno
    clear hno hg
    go_enter Tryz.func14, Tryz.ntmps14
    go_wp2_with (refine wpList_mp_at D.keyI64 rfl (.tmp 8) (.tmp 9) 95 4 rfl Tryz.underlying95 (zeroB _) rfl HM.out i (okI_of hi) rfl ?_; rw [hgv])
    refine (cnode_no HH.out i HN.out).mono ?_
    rintro e w2 ⟨rfl, rfl⟩
    go_wp2_with fail
    go_ret
    exact ⟨rfl, rfl⟩
theorem rep_at {i : Int} {r : Rpl} (hx : x.rep i = some r) : ∃ k : Nat, i = (k : Int) ∧ x.rs[k]? = some r ∧ x.gone i = false := by
  unfold Clu.rep at hx
  cases hg : x.gone i with
  | true => rw [hg, if_pos rfl] at hx; cases hx
  | false =>
    rw [hg, if_neg Bool.false_ne_true] at hx
    unfold atL at hx
    split at hx
    · exact ⟨i.toNat, by omega, hx, rfl⟩
    · cases hx
theorem CuAt.rlt (h : CuAt w up B L x) {i : Nat} {r : Rpl} (hr : x.rs[i]? = some r) : i < L.n := by have := (List.getElem?_eq_some_iff.1 hr).1; have := h.rl; omega
theorem Replica_yes (h : CuAt w up B L x) {i : Nat} {r : Rpl} (hx : x.rs[i]? = some r) (hg : x.gone (i : Int) = false) : Calls Tryz.prog 14 #[.pointer (some ⟨up, 0, none⟩), .int .i64 (i : Int)] w fun e w' => e = .returned (.pointer (some ⟨L.rp i, 0, none⟩)) ∧ w' = w := by
  obtain ⟨g0, c0, c1, c2, c3, c4, c5, c6, c7, c8, cz⟩ := h.top
  obtain ⟨m, hm, hmp⟩ := h.pt .gm
  have HI := Lib.hid (h.rlt hx)
  have hi : inI (i : Int) := by have := h.rlt hx; have := h.nm.2.1; exact ⟨by omega, by omega⟩
  have HM := Lib.hid hmp
  have HH := Lib.hid h
  have hgv : (goneV x.gone (i : Int)).getD (.bool false) = .bool false := by unfold goneV; rw [hg]; rfl
  clear h hmp hx hg c0 c2 c3 c4 c5 c6 c7 c8 cz
  go_enter Tryz.func14, Tryz.ntmps14
  go_wp2_with (refine wpList_mp_at D.keyI64 rfl (.tmp 8) (.tmp 9) 95 4 rfl Tryz.underlying95 (zeroB _) rfl HM.out (i : Int) (okI_of hi) rfl ?_; rw [hgv])
  refine (cnode HH.out HI.out).mono ?_
  rintro e w2 ⟨rfl, rfl⟩
  go_wp2_with fail
  go_ret
  exact ⟨rfl, rfl⟩
end
end Go.Proofs.YtlhlcdjkacglnaaGreatDoor
/- Chapter 26 (cluster): send; what a packet's writers write. Printed by genCu6.py. -/
namespace Go.Proofs.YtlhlcdjkacglnaaGreatDoor
open Go.RowKit Go.Lap C
set_option linter.unusedVariables false
set_option linter.unusedSimpArgs false
section
variable {w w' W : World} {S F : Nat → Prop} {up B C n : Nat} {L : CuL} {x : Clu}
/-- A function that writes these bytes. -/
def Puts (pf : Nat) (caps : List Value) (w : World) (bs : List UInt8) : Prop := (∀ args w, (callFunc pf args).run Tryz.prog w = .ok (.enter pf args) w) ∧ ∀ (wx : World) (base g : Nat) (v : Value) (pre : List UInt8), New w wx → WrAt wx base g v pre 0 → w.heap.size ≤ base → pre.length ≤ 100 → Calls Tryz.prog pf (Value.pointer (some ⟨g, 0, none⟩) :: caps).toArray wx (PutPost wx base g v (pre ++ bs) 0)
theorem Puts.ap {pf : Nat} {caps : List Value} {bs : List UInt8} (h : Puts pf caps w bs) {wx : World} {base g : Nat} {v : Value} {pre : List UInt8} (hn : New w wx) (hw : WrAt wx base g v pre 0) (hb : w.heap.size ≤ base) (hl : pre.length ≤ 100) : Calls Tryz.prog pf (Value.pointer (some ⟨g, 0, none⟩) :: caps).toArray wx (PutPost wx base g v (pre ++ bs) 0) := h.2 wx base g v pre hn hw hb hl
theorem send_pk (b : List CPk) (p : CPk) (hb : b.length ≤ 256) : (b.map CPk.pk) ++ [p.pk].take (256 - (b.map CPk.pk).length) = ((if b.length < 256 then b ++ [p] else b).map CPk.pk) := by
  rw [List.length_map]
  by_cases h : b.length < 256
  · rw [if_pos h, List.take_of_length_le (by simp; omega), List.map_append]; rfl
  · rw [if_neg h, show 256 - b.length = 0 by omega]; simp
theorem send_bg (x : Clu) (p : CPk) : x.send p = { x with bg := if x.bg.length < 256 then x.bg ++ [p] else x.bg } := by
  unfold Clu.send
  split <;> rfl
theorem CuAt.bgl (h : CuAt w up B L x) : x.bg.length ≤ 256 := by have := D.BgAt.len (h.pt .bg); rwa [List.length_map] at this
def SendPost (w : World) (up B : Nat) (L : CuL) (x' : Clu) (e : Ending) (w' : World) : Prop := e = .returned (.tuple #[]) ∧ Sent w up B L x' w'
set_option maxRecDepth 100000 in
set_option maxHeartbeats 4000000 in
theorem csend1 (h : CuAt w up B L x) (p : CPk) {kind : Nat} (hk : kind ≤ 2) {pf : Nat} {q1 : Value} {bs : List UInt8} (hp : Puts pf [q1] w bs) (hm : p.m.enc = varB kind ++ bs) (hl : bs.length ≤ 100000) :
    Calls Tryz.prog 43 #[.pointer (some ⟨up, 0, none⟩), .int .i64 p.fr, .int .i64 p.ds, .int .i64 (kind : Int), .func (.func pf) #[] #[q1]] w (SendPost w up B L (x.send p)) := by
  have hwk : IntKind.u64.wrap (kind : Int) = (kind : Int) := by rw [IntKind.wrap_u64]; omega
  have hkk : (kind : Int) % 18446744073709551616 = (kind : Int) := by omega
  have HC0 := Lib.hid h
  have HP := Lib.hid hp
  have HM := Lib.hid hm
  have hvl := varB_len10 (n := kind) (by omega)
  clear h hp hm
  go_enter Tryz.func43, Tryz.ntmps43
  go_wp2_with fail
  refine (write_any _).mono ?_
  rintro e w1 ⟨rfl, hw1, hn1⟩
  go_wp2_with fail
  have hal1 := (New.refl w1).alloc (.cells #[.int .u64 (kind : Int)] 22)
  refine (num_any w.heap.size w.heap.size (.slice none 0 0) [] 0 _ [kind] _ (hw1.new hal1) (SlIn.lit (l := [kind]) (Blk.mk_new w1 22 #[.int .u64 (kind : Int)]) nEncOk rfl (by simp)) (fun i hi => hw1.fresh (by simp [Value.ownBlock] at hi; omega)) (by simp) (by simp; omega) (by simp)).mono ?_
  rintro e w2 ⟨v2, rfl, hw2, hu2, hf2⟩
  have hN2 : New w w2 := hn1.upd ((Upd.new hal1).trans hu2 (fun i _ h => h)) (fun i hi => by rcases hi with rfl | hi <;> first | omega | (have := (hw1.2.2.lt i hi).1; omega))
  have hB2 : numB 0 [] [kind] = varB kind := by simp [numB]
  rw [hB2] at hw2
  have HN2 := Lib.hid hN2
  have HW2 := Lib.hid hw2
  clear hB2 hu2 hf2 hal1 hw1 hn1 hN2 hw2
  go_wp2_with fail
  rw [HP.out.1, Oper.upon_enter]
  refine (HP.out.ap HN2.out HW2.out (Nat.le_refl _) (by omega)).mono ?_
  rintro e w3 ⟨v3, rfl, hw3, hu3, hf3⟩
  rw [← HM.out] at hw3
  have HML : Hid (p.m.enc.length ≤ 200000) := Lib.hid (by rw [HM.out, List.length_append]; omega)
  have HN3 : Hid (New w w3) := Lib.hid (HN2.out.upd hu3 (fun i hi => by rcases hi with rfl | hi <;> first | omega | (have := (HW2.out.2.2.lt i hi).1; omega)))
  have HW3 := Lib.hid hw3
  clear hw3 hu3 hf3
  go_wp2_with fail
  refine (wbytes_any _ _ _ _ _ _ HW3.out (by have := HML.out; omega)).mono ?_
  rintro e W ⟨u, rfl, hu, hn4⟩
  rw [if_pos rfl] at hu
  have HN : Hid (New w W) := Lib.hid (HN3.out.trans hn4)
  have HSL := Lib.hid (hu.slIn bEncOk)
  have HU := Lib.hid hu
  have HC := Lib.hid (HC0.out.new HN.out)
  obtain ⟨g0, c0, c1, c2, c3, c4, c5, c6, c7, c8, cz⟩ := HC.out.top
  clear hu hn4 c0 c1 c2 c3 c4 c5 c7 c8
  go_upto_region 4 with fail
  refine wp_region_held_drew (S := fun w' => w'.cell? ⟨up, 6, none⟩ = some (.pointer (some ⟨L.bb, 0, none⟩)) ∧ SlIn w' 1 bEnc u p.m.enc) (by kernel_rfl) (⟨c6, HSL.out⟩) (fun hHeld => ?_)
  refine tkN (i := 0) rfl ?_
  try simp only [Act.put, sA, sZ, sS]
  refine tkN (i := 1) rfl ?_
  try simp only [Act.put, sA, sZ, sS]
  refine tkN (i := 2) rfl ?_
  try simp only [Act.put, sA, sZ, sS]
  refine tkN (i := 3) rfl ?_
  try simp only [Act.put, sA, sZ, sS]
  refine tkN (i := 4) rfl ?_
  try simp only [Act.put, sA, sZ, sS]
  refine tkN (i := 5) rfl ?_
  try simp only [Act.put, sA, sZ, sS]
  refine tkN (i := 6) rfl ?_
  try simp only [Act.put, sA, sZ, sS]
  refine tkN (i := 7) (v := .string (str p.m.enc)) rfl ?_ (by (intro wq hSw; (try dsimp only at hSw); go_simp; (rw [run_str wq hSw.2]; rfl)))
  try simp only [Act.put, sA, sZ, sS]
  refine tkN (i := 8) rfl ?_
  try simp only [Act.put, sA, sZ, sS]
  refine stN (i := 9) rfl (fun K hK => ?_)
  go_simp
  have HA : Hid (New W (W.alloc (.cells #[.int .i64 p.fr, .int .i64 p.ds, .string (str p.m.enc)] 111)).drew ∧ Blk (W.alloc (.cells #[.int .i64 p.fr, .int .i64 p.ds, .string (str p.m.enc)] 111)).drew W.heap.size 111 #[.int .i64 p.fr, .int .i64 p.ds, .string (str p.m.enc)]) := Lib.hid ⟨((New.refl W).alloc _).drew, Blk.mk_new W _ _⟩
  generalize (W.alloc (.cells #[.int .i64 p.fr, .int .i64 p.ds, .string (str p.m.enc)] 111)).drew = wa at *
  have c6a := (HA.out.1.cells.1 up 6 g0).trans c6
  have g0a := Nat.lt_of_lt_of_le g0 HA.out.1.size
  have HSA := Lib.hid (HSL.out.new HA.out.1)
  refine hK.out _ _ ?_ (fun hHeld => ?_)
  · exact ⟨c6a, HSA.out⟩
  clear hK K
  try simp only [Act.put, sA, sZ, sS]
  refine stN (i := 10) rfl (fun K hK => ?_)
  go_simp
  refine (D.bput (D.BgAt.new (HC.out.pt .bg) HA.out.1) (m := [p.pk]) (SlIn.one (x := p.pk) HA.out.2 D.pkOk rfl) (by simp)).mono ?_
  rintro e w5 ⟨v5, rfl, hb5, hu5, hv5⟩
  have HF : Hid (Sent w up B L (x.send p) w5) := Lib.hid (by
    rw [send_pk x.bg p HC.out.bgl] at hb5
    rw [send_bg]
    exact Sent.pre (HN.out.trans HA.out.1) ⟨v5, (HC.out.new HA.out.1).turnBx hb5 hu5 hv5, hu5, hv5⟩)
  have HL5 : Hid (Upd (D.BgF L.bb L.lv) wa w5) := Lib.hid hu5
  have c6b := (keepR hu5 g0a (HC.out.dj .top .bg (by simp) up rfl) 6).trans c6a
  have HSB : Hid (SlIn w5 1 bEnc u p.m.enc) := Lib.hid (HSA.out.upd hu5 (fun k hk hb => by have := (HU.out.lt k hk).1; have := (HC0.out.cln .bg k hb).1; have := HN3.out.size; omega))
  clear hb5 hu5 hv5
  refine hK.out _ _ ?_ (fun hHeld => ?_)
  · exact ⟨c6b, HSB.out⟩
  clear hK K
  try simp only [Act.put, sA, sZ, sS]
  refine wpAnyH_done (by kernel_rfl) ?_ _
  clear hHeld
  refine bodyPost_end (v := .tuple #[]) (by kernel_rfl) rfl ⟨rfl, ?_⟩
  exact HF.out
  rotate_left
set_option maxRecDepth 100000 in
set_option maxHeartbeats 4000000 in
theorem csend2 (h : CuAt w up B L x) (p : CPk) {kind : Nat} (hk : kind ≤ 2) {pf : Nat} {q1 q2 : Value} {bs : List UInt8} (hp : Puts pf [q1, q2] w bs) (hm : p.m.enc = varB kind ++ bs) (hl : bs.length ≤ 100000) :
    Calls Tryz.prog 43 #[.pointer (some ⟨up, 0, none⟩), .int .i64 p.fr, .int .i64 p.ds, .int .i64 (kind : Int), .func (.func pf) #[] #[q1, q2]] w (SendPost w up B L (x.send p)) := by
  have hwk : IntKind.u64.wrap (kind : Int) = (kind : Int) := by rw [IntKind.wrap_u64]; omega
  have hkk : (kind : Int) % 18446744073709551616 = (kind : Int) := by omega
  have HC0 := Lib.hid h
  have HP := Lib.hid hp
  have HM := Lib.hid hm
  have hvl := varB_len10 (n := kind) (by omega)
  clear h hp hm
  go_enter Tryz.func43, Tryz.ntmps43
  go_wp2_with fail
  refine (write_any _).mono ?_
  rintro e w1 ⟨rfl, hw1, hn1⟩
  go_wp2_with fail
  have hal1 := (New.refl w1).alloc (.cells #[.int .u64 (kind : Int)] 22)
  refine (num_any w.heap.size w.heap.size (.slice none 0 0) [] 0 _ [kind] _ (hw1.new hal1) (SlIn.lit (l := [kind]) (Blk.mk_new w1 22 #[.int .u64 (kind : Int)]) nEncOk rfl (by simp)) (fun i hi => hw1.fresh (by simp [Value.ownBlock] at hi; omega)) (by simp) (by simp; omega) (by simp)).mono ?_
  rintro e w2 ⟨v2, rfl, hw2, hu2, hf2⟩
  have hN2 : New w w2 := hn1.upd ((Upd.new hal1).trans hu2 (fun i _ h => h)) (fun i hi => by rcases hi with rfl | hi <;> first | omega | (have := (hw1.2.2.lt i hi).1; omega))
  have hB2 : numB 0 [] [kind] = varB kind := by simp [numB]
  rw [hB2] at hw2
  have HN2 := Lib.hid hN2
  have HW2 := Lib.hid hw2
  clear hB2 hu2 hf2 hal1 hw1 hn1 hN2 hw2
  go_wp2_with fail
  rw [HP.out.1, Oper.upon_enter]
  refine (HP.out.ap HN2.out HW2.out (Nat.le_refl _) (by omega)).mono ?_
  rintro e w3 ⟨v3, rfl, hw3, hu3, hf3⟩
  rw [← HM.out] at hw3
  have HML : Hid (p.m.enc.length ≤ 200000) := Lib.hid (by rw [HM.out, List.length_append]; omega)
  have HN3 : Hid (New w w3) := Lib.hid (HN2.out.upd hu3 (fun i hi => by rcases hi with rfl | hi <;> first | omega | (have := (HW2.out.2.2.lt i hi).1; omega)))
  have HW3 := Lib.hid hw3
  clear hw3 hu3 hf3
  go_wp2_with fail
  refine (wbytes_any _ _ _ _ _ _ HW3.out (by have := HML.out; omega)).mono ?_
  rintro e W ⟨u, rfl, hu, hn4⟩
  rw [if_pos rfl] at hu
  have HN : Hid (New w W) := Lib.hid (HN3.out.trans hn4)
  have HSL := Lib.hid (hu.slIn bEncOk)
  have HU := Lib.hid hu
  have HC := Lib.hid (HC0.out.new HN.out)
  obtain ⟨g0, c0, c1, c2, c3, c4, c5, c6, c7, c8, cz⟩ := HC.out.top
  clear hu hn4 c0 c1 c2 c3 c4 c5 c7 c8
  go_upto_region 4 with fail
  refine wp_region_held_drew (S := fun w' => w'.cell? ⟨up, 6, none⟩ = some (.pointer (some ⟨L.bb, 0, none⟩)) ∧ SlIn w' 1 bEnc u p.m.enc) (by kernel_rfl) (⟨c6, HSL.out⟩) (fun hHeld => ?_)
  refine tkN (i := 0) rfl ?_
  try simp only [Act.put, sA, sZ, sS]
  refine tkN (i := 1) rfl ?_
  try simp only [Act.put, sA, sZ, sS]
  refine tkN (i := 2) rfl ?_
  try simp only [Act.put, sA, sZ, sS]
  refine tkN (i := 3) rfl ?_
  try simp only [Act.put, sA, sZ, sS]
  refine tkN (i := 4) rfl ?_
  try simp only [Act.put, sA, sZ, sS]
  refine tkN (i := 5) rfl ?_
  try simp only [Act.put, sA, sZ, sS]
  refine tkN (i := 6) rfl ?_
  try simp only [Act.put, sA, sZ, sS]
  refine tkN (i := 7) (v := .string (str p.m.enc)) rfl ?_ (by (intro wq hSw; (try dsimp only at hSw); go_simp; (rw [run_str wq hSw.2]; rfl)))
  try simp only [Act.put, sA, sZ, sS]
  refine tkN (i := 8) rfl ?_
  try simp only [Act.put, sA, sZ, sS]
  refine stN (i := 9) rfl (fun K hK => ?_)
  go_simp
  have HA : Hid (New W (W.alloc (.cells #[.int .i64 p.fr, .int .i64 p.ds, .string (str p.m.enc)] 111)).drew ∧ Blk (W.alloc (.cells #[.int .i64 p.fr, .int .i64 p.ds, .string (str p.m.enc)] 111)).drew W.heap.size 111 #[.int .i64 p.fr, .int .i64 p.ds, .string (str p.m.enc)]) := Lib.hid ⟨((New.refl W).alloc _).drew, Blk.mk_new W _ _⟩
  generalize (W.alloc (.cells #[.int .i64 p.fr, .int .i64 p.ds, .string (str p.m.enc)] 111)).drew = wa at *
  have c6a := (HA.out.1.cells.1 up 6 g0).trans c6
  have g0a := Nat.lt_of_lt_of_le g0 HA.out.1.size
  have HSA := Lib.hid (HSL.out.new HA.out.1)
  refine hK.out _ _ ?_ (fun hHeld => ?_)
  · exact ⟨c6a, HSA.out⟩
  clear hK K
  try simp only [Act.put, sA, sZ, sS]
  refine stN (i := 10) rfl (fun K hK => ?_)
  go_simp
  refine (D.bput (D.BgAt.new (HC.out.pt .bg) HA.out.1) (m := [p.pk]) (SlIn.one (x := p.pk) HA.out.2 D.pkOk rfl) (by simp)).mono ?_
  rintro e w5 ⟨v5, rfl, hb5, hu5, hv5⟩
  have HF : Hid (Sent w up B L (x.send p) w5) := Lib.hid (by
    rw [send_pk x.bg p HC.out.bgl] at hb5
    rw [send_bg]
    exact Sent.pre (HN.out.trans HA.out.1) ⟨v5, (HC.out.new HA.out.1).turnBx hb5 hu5 hv5, hu5, hv5⟩)
  have HL5 : Hid (Upd (D.BgF L.bb L.lv) wa w5) := Lib.hid hu5
  have c6b := (keepR hu5 g0a (HC.out.dj .top .bg (by simp) up rfl) 6).trans c6a
  have HSB : Hid (SlIn w5 1 bEnc u p.m.enc) := Lib.hid (HSA.out.upd hu5 (fun k hk hb => by have := (HU.out.lt k hk).1; have := (HC0.out.cln .bg k hb).1; have := HN3.out.size; omega))
  clear hb5 hu5 hv5
  refine hK.out _ _ ?_ (fun hHeld => ?_)
  · exact ⟨c6b, HSB.out⟩
  clear hK K
  try simp only [Act.put, sA, sZ, sS]
  refine wpAnyH_done (by kernel_rfl) ?_ _
  clear hHeld
  refine bodyPost_end (v := .tuple #[]) (by kernel_rfl) rfl ⟨rfl, ?_⟩
  exact HF.out
  rotate_left
end
end Go.Proofs.YtlhlcdjkacglnaaGreatDoor
/- Chapter 26 (cluster): what the writers of packets write. -/
namespace Go.Proofs.YtlhlcdjkacglnaaGreatDoor
open Go.RowKit Go.Lap C
set_option linter.unusedVariables false
set_option linter.unusedSimpArgs false
section
variable {w w' W : World} {S F : Nat → Prop} {up B n : Nat} {L : CuL} {x : Clu}
/-- w.Text(string(bytes)). -/
theorem textP {base g : Nat} {v : Value} {pre bs : List UInt8} {wx : World} (hw : WrAt wx base g v pre 0) (hl : pre.length ≤ 1000) (hb : bs.length ≤ 5000) :
    Calls Tryz.prog 45 #[.pointer (some ⟨g, 0, none⟩), .slice (some ⟨wx.heap.size, 0, none⟩) 1 1] (wx.alloc (.cells #[.string (str bs)] 9)) (PutPost wx base g v (pre ++ txtB bs) 0) := by
  have hal := (New.refl wx).alloc (.cells #[.string (str bs)] 9)
  refine (text_any base g v pre 0 _ [str bs] _ (hw.new hal) (SlIn.one (x := str bs) (Blk.mk_new wx _ _) sEncOk rfl) (fun i hi => hw.fresh (by simp [Value.ownBlock] at hi; omega)) (by simp only [List.length_singleton]; omega) (by simp [maxLen, str_size]; omega)).mono ?_
  rintro e w3 ⟨v3, rfl, hw3, hu3, hf3⟩
  rw [textOne _ _ (by rw [str_size]; omega)] at hw3
  rw [str_size, D.str_list, List.append_assoc] at hw3
  exact ⟨v3, rfl, hw3, (Upd.new (S := WrS g v) hal).trans hu3 (fun _ _ h => h), fun k hk => (hf3 k hk).imp id (fun h => by rw [World.size_alloc] at h; omega)⟩
theorem ns_flat : ∀ ns : List Nat, ns.map (fun (n : Nat) => Value.int .u64 (n : Int)) = ns.flatMap nEnc
  | [] => rfl
  | n :: ns => by rw [List.map_cons, List.flatMap_cons, ns_flat ns]; rfl
/-- w.Num(..). -/
theorem numP {base g : Nat} {v : Value} {pre : List UInt8} {wx : World} {ns : List Nat} (hw : WrAt wx base g v pre 0) (hl : pre.length ≤ 1000) (hns : ∀ n ∈ ns, n < 18446744073709551616) (h3 : ns.length = 3) :
    Calls Tryz.prog 89 #[.pointer (some ⟨g, 0, none⟩), .slice (some ⟨wx.heap.size, 0, none⟩) 3 3] (wx.alloc (.cells (ns.map fun (n : Nat) => Value.int .u64 (n : Int)).toArray 22)) (PutPost wx base g v (pre ++ ns.flatMap varB) 0) := by
  have hal := (New.refl wx).alloc (.cells (ns.map fun (n : Nat) => Value.int .u64 (n : Int)).toArray 22)
  have hsl := SlIn.lit (l := ns) (c := ns.length) (Blk.mk_new wx 22 (ns.map fun (n : Nat) => Value.int .u64 (n : Int)).toArray) nEncOk (by rw [← ns_flat]) (Nat.le_refl _)
  rw [h3] at hsl
  refine (num_any base g v pre 0 _ ns _ (hw.new hal) hsl (fun i hi => hw.fresh (by simp [Value.ownBlock] at hi; omega)) (by omega) hns (by omega)).mono ?_
  rintro e w3 ⟨v3, rfl, hw3, hu3, hf3⟩
  have e3 : numB 0 pre ns = pre ++ ns.flatMap varB := by simp [numB]
  rw [e3] at hw3
  exact ⟨v3, rfl, hw3, (Upd.new (S := WrS g v) hal).trans hu3 (fun _ _ h => h), fun k hk => (hf3 k hk).imp id (fun h => by rw [World.size_alloc] at h; omega)⟩
theorem Blk1K {w : World} {g t : Nat} {a : Value} (h : Blk w g t #[a]) : g < w.heap.size ∧ w.cell? ⟨g, 0, none⟩ = some a ∧ (∀ i, w.frozen? ⟨g, i, none⟩ = false) := ⟨h.lt, h.cell 0, h.frozen⟩
theorem putsReq {pb t : Nat} {u : Value} {bs : List UInt8} (hb : Blk w pb t #[u]) (hs : SlIn w 1 bEnc u bs) (hl : bs.length ≤ 5000) : Puts 44 [.pointer (some ⟨pb, 0, none⟩)] w (txtB bs) := by
  refine ⟨fun args w => by go_simp, fun wx base g v pre hn hw hbs hpl => ?_⟩
  obtain ⟨p0, p1, pz⟩ := Blk1K (hb.new hn)
  have hcv := run_str wx (hs.new hn)
  have HT := Lib.hid (textP (bs := bs) hw (by omega) hl)
  clear hn hb hs hw
  go_enter Tryz.func44, Tryz.ntmps44
  go_wp2_with fail
  refine HT.out.mono ?_
  rintro e w3 ⟨v3, rfl, hw3, hu3, hf3⟩
  have H3 := Lib.hid hw3
  have H4 := Lib.hid hu3
  have H5 := Lib.hid hf3
  clear hw3 hu3 hf3
  go_wp2_with fail
  refine bodyPost_end (v := .tuple #[]) (by kernel_rfl) rfl ?_
  exact ⟨v3, rfl, H3.out, H4.out, H5.out⟩
theorem putsNote {pb nb t : Nat} {n : NtV} {u : Value} {bs : List UInt8} (hb : Blk w pb t #[u]) (hs : SlIn w 1 bEnc u bs) (hl : bs.length ≤ 5000) (hn : Blk w nb 177 n.cells) (hk : 0 ≤ n.k ∧ n.k ≤ 2) (he : n.ep < big) (ht : n.t < big) :
    Puts 98 [.pointer (some ⟨nb, 0, none⟩), .pointer (some ⟨pb, 0, none⟩)] w (varB n.k.toNat ++ varB n.ep ++ varB n.t ++ txtB bs) := by
  refine ⟨fun args w => by go_simp, fun wx base g v pre hnw hw hbs hpl => ?_⟩
  obtain ⟨p0, p1, pz⟩ := Blk1K (hb.new hnw)
  obtain ⟨n0, d0, d1, d2, d3, d4, d5, d6, d7, d8, dz⟩ := nt_facts (hn.new hnw)
  obtain ⟨k, hkk⟩ : ∃ k : Nat, n.k = (k : Int) := ⟨n.k.toNat, by omega⟩
  rw [hkk] at d0
  have hk2 : k ≤ 2 := by omega
  have HKN : Hid (n.k.toNat = k) := Lib.hid (by omega)
  have hwk : IntKind.u64.wrap (k : Int) = (k : Int) := by rw [IntKind.wrap_u64]; omega
  have hkm : (k : Int) % 18446744073709551616 = (k : Int) := by omega
  have HT := Lib.hid (numP (ns := [k, n.ep, n.t]) hw (by omega) (by simp; unfold big at he ht; omega) rfl)
  have HB := Lib.hid (hb.new hnw)
  have HB0 := Lib.hid hb.lt
  have HS0 := Lib.hid hs
  have l1 := varB_len10 (n := k) (by omega)
  have l2 := varB_len10 he
  have l3 := varB_len10 ht
  have HNW := Lib.hid hnw
  have HG : Hid (∀ k, WrS g v k → w.heap.size ≤ k) := Lib.hid (fun k hk => by rcases Nat.lt_or_ge k base with h | h; exact absurd hk (hw.below h); omega)
  clear hnw hb hs hw hn hkk hk he ht
  go_enter Tryz.func98, Tryz.ntmps98
  go_wp2_with fail
  refine HT.out.mono ?_
  rintro e w3 ⟨v3, rfl, hw3, hu3, hf3⟩
  have hN3 : New w w3 := HNW.out.upd hu3 HG.out
  have hpb : ¬ WrS g v pb := fun h => by have := HG.out _ h; have := HB0.out; omega
  have hb3 := HB.out.upd hu3 hpb
  have hs3 := HS0.out.new hN3
  clear p0 p1 pz
  obtain ⟨p0, p1, pz⟩ := Blk1K hb3
  have hcv := run_str w3 hs3
  have HF3 : Hid (Fr wx v v3) := Lib.hid hf3
  have HU3 : Hid (Upd (WrS g v) wx w3) := Lib.hid hu3
  have HT3 := Lib.hid (textP (bs := bs) hw3 (by simp only [List.length_append, List.flatMap_cons, List.flatMap_nil, List.length_nil]; omega) hl)
  clear hN3 hb3 hs3 hf3 hu3 hw3 hpb n0 d0 d1 d2 d3 d4 d5 d6 d7 d8 dz
  go_wp2_with fail
  refine HT3.out.mono ?_
  rintro e w4 ⟨v4, rfl, hw4, hu4, hf4⟩
  have H3 : Hid (PutPost wx base g v (pre ++ (varB k ++ varB n.ep ++ varB n.t ++ txtB bs)) 0 (.returned (.tuple #[])) w4) := Lib.hid ⟨v4, rfl, by
    simp only [List.flatMap_cons, List.flatMap_nil, List.append_nil, List.append_assoc] at hw4 ⊢
    exact hw4, HU3.out.trans hu4 (WrS.back HF3.out), HF3.out.trans hf4 HU3.out.size⟩
  rw [← HKN.out] at H3
  clear hw4 hu4 hf4
  go_wp2_with fail
  exact bodyPost_end (v := .tuple #[]) (by kernel_rfl) rfl H3.out
theorem putsAns {yb : Nat} {y : Wt} (hb : Blk w yb 180 y.enc.toArray) (hr : y.rq < big) (ht : y.vd.t < big) (he : 0 ≤ y.vd.e ∧ y.vd.e ≤ 1000) :
    Puts 99 [.pointer (some ⟨yb, 0, none⟩)] w (varB y.rq ++ varB y.vd.t ++ varB y.vd.e.toNat) := by
  refine ⟨fun args w => by go_simp, fun wx base g v pre hnw hw hbs hpl => ?_⟩
  have hb2 := hb.new hnw
  have l0 := hb2.lt
  have d1 : wx.cell? ⟨yb, 1, none⟩ = some (.int .u64 (y.rq : Int)) := hb2.cell 1
  have d2 : wx.cell? ⟨yb, 2, none⟩ = some (.int .u64 (y.vd.t : Int)) := hb2.cell 2
  have d3 : wx.cell? ⟨yb, 3, none⟩ = some (.int .i64 y.vd.e) := hb2.cell 3
  have dz : ∀ i, wx.frozen? ⟨yb, i, none⟩ = false := hb2.frozen
  obtain ⟨k, hkk⟩ : ∃ k : Nat, y.vd.e = (k : Int) := ⟨y.vd.e.toNat, by omega⟩
  rw [hkk] at d3
  have HKN : Hid (y.vd.e.toNat = k) := Lib.hid (by omega)
  have hwk : IntKind.u64.wrap (k : Int) = (k : Int) := by rw [IntKind.wrap_u64]; omega
  have hkm : (k : Int) % 18446744073709551616 = (k : Int) := by omega
  have HT := Lib.hid (numP (ns := [y.rq, y.vd.t, k]) hw (by omega) (by simp; unfold big at hr ht; omega) rfl)
  clear hnw hb hw hkk he ht hb2
  go_enter Tryz.func99, Tryz.ntmps99
  go_wp2_with fail
  refine HT.out.mono ?_
  rintro e w3 ⟨v3, rfl, hw3, hu3, hf3⟩
  have H3 : Hid (PutPost wx base g v (pre ++ (varB y.rq ++ varB y.vd.t ++ varB k)) 0 (.returned (.tuple #[])) w3) := Lib.hid ⟨v3, rfl, by
    simp only [List.flatMap_cons, List.flatMap_nil, List.append_nil, List.append_assoc] at hw3 ⊢
    exact hw3, hu3, hf3⟩
  rw [← HKN.out] at H3
  clear hw3 hu3 hf3
  go_wp2_with fail
  exact bodyPost_end (v := .tuple #[]) (by kernel_rfl) rfl H3.out
end
end Go.Proofs.YtlhlcdjkacglnaaGreatDoor
/- Chapter 25 (client): Again, Start, Answer. -/
namespace Go.Proofs.YtlhlcdjkacglnaaGreatDoor
open Go.RowKit Go.Lap C
set_option linter.unusedVariables false
set_option linter.unusedSimpArgs false
section
variable {w w' W : World} {S : Nat → Prop} {cp : Nat} {L : CliL} {x : Cli}
set_option maxHeartbeats 1000000 in
theorem cagain_no (h : CliAt w cp L x) (hx : x.now = none) : Calls Tryz.prog 41 #[.pointer (some ⟨cp, 0, none⟩)] w fun e w' => e = .returned (.tuple #[batV 0 0 0 (.slice none 0 0), .int .i64 251]) ∧ New w w' := by
  obtain ⟨id, nx, now, la, saw⟩ := x
  dsimp only at hx
  subst hx
  obtain ⟨g0, c0, c1, c2, c3, c4, c5, c6, cz⟩ := Blk7U h.blk
  dsimp only [nowV] at c2
  clear h
  go_enter Tryz.func41, Tryz.ntmps41
  go_wp2_with fail
  exact bodyPost_ret (v := .tuple #[.agg #[.int .u64 0, .int .u64 0, .int .u64 0, .slice none 0 0], .int .i64 251]) (by simp [results, Tryz.results41, go_sem]) rfl ⟨rfl, (New.refl w).alloc _⟩
theorem Blk5U {w : World} {g t : Nat} {a b c d e : Value} (h : Blk w g t #[a, b, c, d, e]) : g < w.heap.size ∧ w.cell? ⟨g, 0, none⟩ = some a ∧ w.cell? ⟨g, 1, none⟩ = some b ∧ w.cell? ⟨g, 2, none⟩ = some c ∧ w.cell? ⟨g, 3, none⟩ = some d ∧ w.cell? ⟨g, 4, none⟩ = some e ∧ (∀ i, w.frozen? ⟨g, i, none⟩ = false) :=
  ⟨h.lt, h.cell 0, h.cell 1, h.cell 2, h.cell 3, h.cell 4, h.frozen⟩
/-- Asked once more. -/
theorem CliAt.tries (h : CliAt w cp L x) {b : Btc} {t : Nat} (hx : x.now = some (b, t)) : CliAt (w.setCell ⟨L.nb, 4, none⟩ (.int .i64 ((t : Int) + 1))) cp L { x with now := some (b, t + 1) } ∧ Upd (· = L.nb) w (w.setCell ⟨L.nb, 4, none⟩ (.int .i64 ((t : Int) + 1))) ∧
    Blk (w.setCell ⟨L.nb, 4, none⟩ (.int .i64 ((t : Int) + 1))) L.nb 164 #[.int .u64 (b.c : Int), .int .u64 (b.r : Int), .int .u64 (b.s : Int), .slice L.A b.l.length L.c, .int .i64 ((t : Int) + 1)] ∧ BtAt (w.setCell ⟨L.nb, 4, none⟩ (.int .i64 ((t : Int) + 1))) ⟨b, L.A, L.c⟩ := by
  obtain ⟨h1, h2⟩ := h.now b t hx
  have hu : Upd (· = L.nb) w (w.setCell ⟨L.nb, 4, none⟩ (.int .i64 ((t : Int) + 1))) := (Upd.refl _ w).setIn 4 _
  have hb := h1.set_ 4 (.int .i64 ((t : Int) + 1))
  have hbt := h2.upd hu (Off.blk h1 (by decide))
  have h3 := h.blk.upd hu (h.blk.ne_ h1 (by decide))
  refine ⟨⟨?_, (fun e => by cases e), ?_⟩, hu, hb, hbt⟩
  · rw [show CliCells L { x with now := some (b, t + 1) } = CliCells L x from by simp only [CliCells, nowV, hx]]
    exact h3
  · intro b2 t2 e
    cases e
    exact ⟨hb, hbt⟩
def CaPost (w : World) (cp : Nat) (L : CliL) (b : Btc) (x' : Cli) (e : Ending) (w' : World) : Prop := ∃ y : BtV, e = .returned (.tuple #[y.val, .int .i64 0]) ∧ y.b = b ∧ BtAt w' y ∧ CliAt w' cp L x' ∧ Upd (· = L.nb) w w'
theorem alloc2 (w : World) (o : Obj) (t : TypeId) (cs : Array Value) : Blk ((w.alloc o).alloc (.cells cs t)) (w.heap.size + 1) t cs := by have := Blk.mk_new (w.alloc o) t cs; rw [World.size_alloc] at this; exact this
set_option maxRecDepth 100000 in
set_option maxHeartbeats 2000000 in
theorem cagain (h : CliAt w cp L x) {b : Btc} {t : Nat} (hx : x.now = some (b, t)) (ht : t ≤ 100000000) :
    Calls Tryz.prog 41 #[.pointer (some ⟨cp, 0, none⟩)] w (CaPost w cp L b { x with now := some (b, t + 1) }) := by
  obtain ⟨h1, h2, h3, h4⟩ := h.tries hx
  obtain ⟨hnb, hbt⟩ := h.now b t hx
  obtain ⟨id, nx, now, la, saw⟩ := x
  dsimp only at hx
  subst hx
  obtain ⟨bc, br, bs, bl⟩ := b
  obtain ⟨nb, A, cap⟩ := L
  dsimp only at *
  obtain ⟨g0, c0, c1, c2, c3, c4, c5, c6, cz⟩ := Blk7U h.blk
  dsimp only [nowV] at c2
  obtain ⟨n0, d0, d1, d2, d3, d4, dz⟩ := Blk5U hnb
  have w1 : IntKind.i64.wrap ((t : Int) + 1) = (t : Int) + 1 := IntWalk.i64_in _ (by omega)
  generalize hV : w.setCell ⟨nb, 4, none⟩ (.int .i64 ((t : Int) + 1)) = V at h1 h2 h3 h4
  have hsz : V.heap.size = w.heap.size := by rw [← hV, World.size_setCell]
  have hN := ((New.refl V).alloc (.cells #[.int .u64 0, .int .u64 0, .int .u64 0, .slice none 0 0] 82)).alloc (.cells #[.int .u64 (bc : Int), .int .u64 (br : Int), .int .u64 (bs : Int), .slice A bl.length cap] 82)
  have hM := alloc2 V (.cells #[.int .u64 0, .int .u64 0, .int .u64 0, .slice none 0 0] 82) 82 #[.int .u64 (bc : Int), .int .u64 (br : Int), .int .u64 (bs : Int), .slice A bl.length cap]
  have hZ := (Blk.mk_new V 82 #[.int .u64 0, .int .u64 0, .int .u64 0, .slice none 0 0]).alloc (.cells #[.int .u64 (bc : Int), .int .u64 (br : Int), .int .u64 (bs : Int), .slice A bl.length cap] 82)
  have H1 := Lib.hid (h1.new hN)
  have H2 := Lib.hid ((Upd.refl (· = nb) w).trans h2 (fun _ _ h => h) |>.transNew hN)
  have H3 := Lib.hid (h3.new hN)
  have H4 := Lib.hid (h4.new hN)
  have HM := Lib.hid hM
  have HZ := Lib.hid hZ
  have HV := Lib.hid hV
  have HSZ := Lib.hid hsz
  clear hN hM hZ h h1 h2 h3 h4 hnb hbt hV hsz
  go_enter Tryz.func41, Tryz.ntmps41
  go_upto_region 5 with fail
  rw [HV.out]
  have HM2 : Hid (Blk _ (w.heap.size + 1) _ _) := Lib.hid (HSZ.out ▸ HM.out)
  have HZ2 : Hid (Blk _ w.heap.size _ _) := Lib.hid (HSZ.out ▸ HZ.out)
  have HS2 : Hid (w.heap.size + 1 < ((V.alloc (.cells #[.int .u64 0, .int .u64 0, .int .u64 0, .slice none 0 0] 82)).alloc (.cells #[.int .u64 (bc : Int), .int .u64 (br : Int), .int .u64 (bs : Int), .slice A bl.length cap] 82)).heap.size) := Lib.hid HM2.out.lt
  generalize (V.alloc _).alloc _ = V2 at *
  clear c0 c1 c2 c3 c4 c5 c6 cz d0 d1 d2 d3 d4 dz HM HZ HV
  obtain ⟨k0, c0, c1, c2, c3, c4, c5, c6, cz⟩ := Blk7U H1.out.blk
  obtain ⟨l0, d0, d1, d2, d3, d4, dz⟩ := Blk5U H3.out
  obtain ⟨m0, m1, m2, m3, m4, mz⟩ := Blk4K HM2.out
  obtain ⟨z0, z1, z2, z3, z4, zz⟩ := Blk4K HZ2.out
  dsimp only [nowV] at c2
  go_wp2_with fail
  refine (wclone H4.out.sl H4.out.ok.l).mono ?_
  rintro e w2 ⟨A2, c2', rfl, ht2, hn2⟩
  have hM2 := HM2.out.new hn2
  have hZ2 := HZ2.out.new hn2
  have hu3 : Upd (· = w.heap.size + 1) w2 (w2.setCell ⟨w.heap.size + 1, 3, none⟩ (.slice A2 bl.length c2')) := (Upd.refl _ w2).setIn 3 _
  have hM3 := hM2.set_ 3 (.slice A2 bl.length c2')
  have hZ3 := hZ2.upd hu3 (by omega)
  have HT2 := Lib.hid (ht2.upd hu3 (Off.blk hM2 (by decide)))
  have HC2 := Lib.hid ((H1.out.new hn2).upd hu3 (by rintro k (rfl | rfl) e; exact Blk.ne_ H1.out.blk HM2.out (by decide) e; exact Blk.ne_ H3.out HM2.out (by decide) e) (Off.blk hM2 (by decide)))
  have HU2 : Hid (Upd (· = nb) w (w2.setCell ⟨w.heap.size + 1, 3, none⟩ (.slice A2 bl.length c2'))) := Lib.hid ((H2.out.transNew hn2).setNew (by show w.heap.size ≤ w.heap.size + 1; omega) _)
  have HM3 := Lib.hid hM3
  have HZ3 := Lib.hid hZ3
  clear k0 c0 c1 c2 c3 c4 c5 c6 cz l0 d0 d1 d2 d3 d4 dz m0 m1 m2 m3 m4 mz z0 z1 z2 z3 z4 zz
  obtain ⟨q0, q1, q2, q3, q4, qz⟩ := Blk4K hM2
  obtain ⟨p0, p1, p2, p3, p4, pz⟩ := Blk4K hM3
  obtain ⟨r0, r1, r2, r3, r4, rz⟩ := Blk4K hZ3
  clear hM2 hZ2 hM3 hZ3 hn2 hu3 ht2
  go_upto_region 6 with fail
  clear q0 q1 q2 q3 q4 qz
  generalize w2.setCell ⟨w.heap.size + 1, 3, none⟩ (.slice A2 bl.length c2') = w3 at *
  go_wp2_with fail
  have hu4 : Upd (· = w.heap.size) w3 ((((w3.setCell ⟨w.heap.size, 0, none⟩ (.int .u64 (bc : Int))).setCell ⟨w.heap.size, 1, none⟩ (.int .u64 (br : Int))).setCell ⟨w.heap.size, 2, none⟩ (.int .u64 (bs : Int))).setCell ⟨w.heap.size, 3, none⟩ (.slice A2 bl.length c2')) := ((((Upd.refl _ w3).setIn 0 _).setIn 1 _).setIn 2 _).setIn 3 _
  have hof : Off w3 34 (· = w.heap.size) := Off.blk HZ3.out (by decide)
  exact bodyPost_ret (v := .tuple #[batV bc br bs (.slice A2 bl.length c2'), .int .i64 0]) (by simp [results, Tryz.results41, go_sem, r0, r1, r2, r3, r4, batV]) rfl ⟨⟨⟨bc, br, bs, bl⟩, A2, c2'⟩, rfl, rfl, ⟨HT2.out.upd hu4 hof, H4.out.ok⟩, HC2.out.upd hu4 (by rintro k (rfl | rfl) e; exact Blk.ne_ HC2.out.blk HZ3.out (by decide) e; exact Blk.ne_ (HC2.out.now _ _ rfl).1 HZ3.out (by decide) e) hof, HU2.out.trans hu4 (fun k hk e => by omega)⟩
set_option maxHeartbeats 1000000 in
theorem cstart_busy (h : CliAt w cp L x) {p : Btc × Nat} (hx : x.now = some p) (s : Nat) (A : Option Addr) (n c : Nat) : Calls Tryz.prog 39 #[.pointer (some ⟨cp, 0, none⟩), .int .u64 (s : Int), .slice A n c] w fun e w' => e = .returned (.tuple #[batV 0 0 0 (.slice none 0 0), .int .i64 250]) ∧ New w w' := by
  obtain ⟨id, nx, now, la, saw⟩ := x
  dsimp only at hx
  subst hx
  obtain ⟨g0, c0, c1, c2, c3, c4, c5, c6, cz⟩ := Blk7U h.blk
  dsimp only [nowV] at c2
  clear h
  go_enter Tryz.func39, Tryz.ntmps39
  go_wp2_with fail
  exact bodyPost_ret (v := .tuple #[.agg #[.int .u64 0, .int .u64 0, .int .u64 0, .slice none 0 0], .int .i64 250]) (by simp [results, Tryz.results39, go_sem]) rfl ⟨rfl, (New.refl w).alloc _⟩
/-- A request is opened. -/
theorem CliAt.opened (h : CliAt w cp L x) {b : Btc} {A2 : Option Addr} {k2 : Nat} (ht : TSl w 34 3 Wri.enc (.slice A2 b.l.length k2) b.l) (hb : b.Ok) {W : World}
    (hW : W = ((w.setCell ⟨cp, 2, none⟩ (.pointer (some ⟨w.heap.size, 0, none⟩))).setCell ⟨cp, 1, none⟩ (.int .u64 ((x.nx : Int) + 1))).alloc (.cells #[.int .u64 (b.c : Int), .int .u64 (b.r : Int), .int .u64 (b.s : Int), .slice A2 b.l.length k2, .int .i64 0] 164)) :
    CliAt W cp ⟨w.heap.size, A2, k2⟩ { x with now := some (b, 0), nx := x.nx + 1 } ∧ Upd (· = cp) w W := by
  have hu : Upd (· = cp) w ((w.setCell ⟨cp, 2, none⟩ (.pointer (some ⟨w.heap.size, 0, none⟩))).setCell ⟨cp, 1, none⟩ (.int .u64 ((x.nx : Int) + 1))) := ((Upd.refl _ w).setIn 2 _).setIn 1 _
  have h1 := (h.blk.set_ 2 (.pointer (some ⟨w.heap.size, 0, none⟩))).set_ 1 (.int .u64 ((x.nx : Int) + 1))
  have hbk := Blk.mk_new ((w.setCell ⟨cp, 2, none⟩ (.pointer (some ⟨w.heap.size, 0, none⟩))).setCell ⟨cp, 1, none⟩ (.int .u64 ((x.nx : Int) + 1))) 164 #[.int .u64 (b.c : Int), .int .u64 (b.r : Int), .int .u64 (b.s : Int), .slice A2 b.l.length k2, .int .i64 0]
  rw [← hW, World.size_setCell, World.size_setCell] at hbk
  have hu2 : Upd (· = cp) w W := by rw [hW]; exact hu.alloc _
  refine ⟨⟨?_, (fun e => by cases e), ?_⟩, hu2⟩
  · have h2 := h1.alloc (.cells #[.int .u64 (b.c : Int), .int .u64 (b.r : Int), .int .u64 (b.s : Int), .slice A2 b.l.length k2, .int .i64 0] 164)
    rw [← hW] at h2
    exact h2
  · intro b2 t2 e
    cases e
    exact ⟨hbk, ht.upd hu2 (Off.blk h.blk (by decide)), hb⟩
def CsPost (w : World) (cp : Nat) (L : CliL) (r : Cli × Btc × Int) (e : Ending) (w' : World) : Prop := ∃ (y : BtV) (L' : CliL), e = .returned (.tuple #[y.val, .int .i64 r.2.2]) ∧ y.b = r.2.1 ∧ BtAt w' y ∧ CliAt w' cp L' r.1 ∧ Upd (CliF cp L) w w' ∧ ∀ k, CliF cp L' k → CliF cp L k ∨ w.heap.size ≤ k
set_option maxRecDepth 100000 in
set_option maxHeartbeats 4000000 in
theorem cstart (h : CliAt w cp L x) (hx : x.now = none) (hid : x.id < big) (hnx : x.nx < 1000000000) {s : Nat} (hs : s < big) {l : List Wri} {A : Option Addr} {cap : Nat} (ht : TSl w 34 3 Wri.enc (.slice A l.length cap) l) (hl : l.length ≤ 1000) {r : Cli × Btc × Int} (hr : x.start s l = r) :
    Calls Tryz.prog 39 #[.pointer (some ⟨cp, 0, none⟩), .int .u64 (s : Int), .slice A l.length cap] w (CsPost w cp L r) := by
  obtain ⟨id, nx, now, la, saw⟩ := x
  dsimp only at hx hid hnx
  subst hx
  have HR := Lib.hid hr
  clear hr
  have hN := (New.refl w).alloc (.cells #[.int .u64 0, .int .u64 0, .int .u64 0, .slice none 0 0] 82)
  have HC := Lib.hid (h.new hN)
  have HS := Lib.hid (ht.new hN)
  have HZ0 := Lib.hid (Blk.mk_new w 82 #[.int .u64 0, .int .u64 0, .int .u64 0, .slice none 0 0])
  have HN := Lib.hid hN
  obtain ⟨g0, c0, c1, c2, c3, c4, c5, c6, cz⟩ := Blk7U HC.out.blk
  dsimp only [nowV] at c0 c1 c2
  clear h hN ht
  go_enter Tryz.func39, Tryz.ntmps39
  go_upto_region 3 with fail
  have HSZ : Hid ((w.alloc (.cells #[.int .u64 0, .int .u64 0, .int .u64 0, .slice none 0 0] 82)).heap.size = w.heap.size + 1) := Lib.hid (World.size_alloc _ _)
  generalize w.alloc (.cells #[.int .u64 0, .int .u64 0, .int .u64 0, .slice none 0 0] 82) = W at *
  refine wp_region_held_drew (S := fun w' => Held W w') (by kernel_rfl) (Held.of (New.refl _).drew) (fun hHeld => ?_)
  refine tkN (i := 0) rfl ?_
  try simp only [Act.put, sA, sZ, sS]
  refine tkN (i := 1) rfl ?_
  try simp only [Act.put, sA, sZ, sS]
  refine tkN (i := 2) rfl ?_
  try simp only [Act.put, sA, sZ, sS]
  refine tkN (i := 3) rfl ?_
  try simp only [Act.put, sA, sZ, sS]
  refine tkN (i := 4) rfl ?_
  try simp only [Act.put, sA, sZ, sS]
  refine tkN (i := 5) rfl ?_
  try simp only [Act.put, sA, sZ, sS]
  refine tkN (i := 6) rfl ?_
  try simp only [Act.put, sA, sZ, sS]
  refine tkN (i := 7) rfl ?_
  try simp only [Act.put, sA, sZ, sS]
  refine tkN (i := 8) rfl ?_
  try simp only [Act.put, sA, sZ, sS]
  refine tkN (i := 9) rfl ?_
  try simp only [Act.put, sA, sZ, sS]
  refine wpAnyH_ready (rs := [10, 12]) (by kernel_rfl) (by simp) ?_
  refine rdN rfl (fun K hK => ?_) (rdN rfl (fun K hK => ?_) AllReadyH.nil)
  go_simp
  refine (wclone (HS.out.new (New.refl W).drew) hl).mono ?_
  rintro e w5 ⟨A2, k2, rfl, ht2, hn2⟩
  have HT5 := Lib.hid ht2
  have HN5 : Hid (New W w5) := Lib.hid ((New.refl W).drew.trans hn2)
  clear ht2
  refine hK.out _ _ ?_ (fun hHeld => ?_)
  · exact Held.of HN5.out
  clear hK K
  try simp only [Act.put, sA, sZ, sS]
  refine tkN (i := 11) rfl ?_
  try simp only [Act.put, sA, sZ, sS]
  refine stN (i := 12) rfl (fun K hK => ?_)
  go_simp
  have hz5 := Blk.mk_new w5 82 #[.int .u64 0, .int .u64 0, .int .u64 0, .slice none 0 0]
  obtain ⟨z0, z1, z2, z3, z4, zz⟩ := Blk4K hz5
  refine hK.out _ _ ?_ (fun hHeld => ?_)
  · exact Held.of ((HN5.out).alloc _)
  clear hK K
  try simp only [Act.put, sA, sZ, sS]
  refine stN (i := 13) rfl (fun K hK => ?_)
  go_simp
  refine hK.out _ _ ?_ (fun hHeld => ?_)
  · exact Held.of ((HN5.out).alloc _)
  clear hK K
  try simp only [Act.put, sA, sZ, sS]
  refine wpAnyH_done (by kernel_rfl) ?_ _
  have HT6 := Lib.hid (HT5.out.new ((New.refl w5).alloc (.cells #[.int .u64 (id : Int), .int .u64 (nx : Int), .int .u64 (s : Int), .slice A2 l.length k2] 82)))
  have HN6 := Lib.hid (HN5.out.alloc (.cells #[.int .u64 (id : Int), .int .u64 (nx : Int), .int .u64 (s : Int), .slice A2 l.length k2] 82))
  have HB6 := Lib.hid (Blk.mk_new w5 82 #[.int .u64 (id : Int), .int .u64 (nx : Int), .int .u64 (s : Int), .slice A2 l.length k2])
  clear hHeld hn2 hz5 HT5 HN5 z0 z1 z2 z3 z4 zz
  generalize w5.alloc (.cells #[.int .u64 (id : Int), .int .u64 (nx : Int), .int .u64 (s : Int), .slice A2 l.length k2] 82) = w6 at *
  generalize w5.heap.size = ab at *
  rotate_left
  go_simp
  have HA : Hid (New W (W.alloc (.cells #[.int .u64 0, .int .u64 0, .int .u64 0, .slice none 0 0] 82)).drew ∧ Blk (W.alloc (.cells #[.int .u64 0, .int .u64 0, .int .u64 0, .slice none 0 0] 82)).drew W.heap.size 82 #[.int .u64 0, .int .u64 0, .int .u64 0, .slice none 0 0]) := Lib.hid ⟨((New.refl W).alloc _).drew, Blk.mk_new W _ _⟩
  generalize (W.alloc (.cells #[.int .u64 0, .int .u64 0, .int .u64 0, .slice none 0 0] 82)).drew = wa at *
  refine hK.out _ _ ?_ (fun hHeld => ?_)
  · exact Held.of HA.out.1
  clear hK K
  try simp only [Act.put, sA, sZ, sS]
  refine stN (i := 10) rfl (fun K hK => ?_)
  go_simp
  refine (wclone (HS.out.new HA.out.1) hl).mono ?_
  rintro e w5 ⟨A2, k2, rfl, ht2, hn2⟩
  have HT5 := Lib.hid ht2
  have HN5 : Hid (New W w5) := Lib.hid (HA.out.1.trans hn2)
  have HB5 := Lib.hid (HA.out.2.new hn2)
  have hn5 := hn2.cells.1
  clear ht2
  refine hK.out _ _ ?_ (fun hHeld => ?_)
  · exact Held.of HN5.out
  clear hK K
  try simp only [Act.put, sA, sZ, sS]
  refine tkN (i := 11) rfl ?_
  try simp only [Act.put, sA, sZ, sS]
  refine stN (i := 13) rfl (fun K hK => ?_)
  obtain ⟨z0, z1, z2, z3, z4, zz⟩ := Blk4K HB5.out
  go_simp
  refine hK.out _ _ ?_ (fun hHeld => ?_)
  · exact Held.of ((((HN5.out.setCell (Nat.le_refl _) _).setCell (Nat.le_refl _) _).setCell (Nat.le_refl _) _).setCell (Nat.le_refl _) _)
  clear hK K
  try simp only [Act.put, sA, sZ, sS]
  refine wpAnyH_done (by kernel_rfl) ?_ _
  have hu6 : Upd (· = W.heap.size) w5 ((((w5.setCell ⟨W.heap.size, 0, none⟩ (.int .u64 (id : Int))).setCell ⟨W.heap.size, 1, none⟩ (.int .u64 (nx : Int))).setCell ⟨W.heap.size, 2, none⟩ (.int .u64 (s : Int))).setCell ⟨W.heap.size, 3, none⟩ (.slice A2 l.length k2)) := ((((Upd.refl _ w5).setIn 0 _).setIn 1 _).setIn 2 _).setIn 3 _
  have HT6 := Lib.hid (HT5.out.upd hu6 (Off.blk HB5.out (by decide)))
  have HN6 := Lib.hid (HN5.out.upd hu6 (fun i e => by omega))
  have HB6 : Hid (Blk _ W.heap.size 82 #[.int .u64 (id : Int), .int .u64 (nx : Int), .int .u64 (s : Int), .slice A2 l.length k2]) := Lib.hid ((((HB5.out.set_ 0 (.int .u64 (id : Int))).set_ 1 (.int .u64 (nx : Int))).set_ 2 (.int .u64 (s : Int))).set_ 3 (.slice A2 l.length k2))
  clear hu6 hHeld hn2 hn5 HA HB5 HT5 HN5 z0 z1 z2 z3 z4 zz
  generalize (((w5.setCell ⟨W.heap.size, 0, none⟩ (.int .u64 (id : Int))).setCell ⟨W.heap.size, 1, none⟩ (.int .u64 (nx : Int))).setCell ⟨W.heap.size, 2, none⟩ (.int .u64 (s : Int))).setCell ⟨W.heap.size, 3, none⟩ (.slice A2 l.length k2) = w6 at *
  obtain ⟨ab, hab⟩ : ∃ ab, W.heap.size = ab := ⟨_, rfl⟩
  rw [hab] at HB6 ⊢
  clear hab
  rotate_left
  all_goals
    clear c0 c1 c2 c3 c4 c5 c6 cz g0
    have HC6 := Lib.hid (HC.out.new HN6.out)
    obtain ⟨g0, c0, c1, c2, c3, c4, c5, c6, cz⟩ := Blk7U HC6.out.blk
    obtain ⟨p0, p1, p2, p3, p4, pz⟩ := Blk4K HB6.out
    dsimp only [nowV] at c0 c1 c2
    go_wp2_with fail
    refine (check_any id nx s _ l _ (by omega) HT6.out.slIn).mono ?_
    rintro e w7 ⟨rfl, hn7⟩
    have HN7 := Lib.hid (HN6.out.trans hn7)
    have HC7 := Lib.hid (HC6.out.new hn7)
    have HB7 := Lib.hid (HB6.out.new hn7)
    have HT7 := Lib.hid (HT6.out.new hn7)
    have HZ7 := Lib.hid (HZ0.out.new HN7.out)
    clear g0 c0 c1 c2 c3 c4 c5 c6 cz p0 p1 p2 p3 p4 pz hn7
    obtain ⟨g0, c0, c1, c2, c3, c4, c5, c6, cz⟩ := Blk7U HC7.out.blk
    obtain ⟨p0, p1, p2, p3, p4, pz⟩ := Blk4K HB7.out
    obtain ⟨z0, z1, z2, z3, z4, zz⟩ := Blk4K HZ7.out
    dsimp only [nowV] at c0 c1 c2
    by_cases hck : chk l = 0
    · obtain rfl : (⟨id, nx + 1, some (⟨id, nx, s, l⟩, 1), la, saw⟩, ⟨id, nx, s, l⟩, 0) = r := (show Cli.start ⟨id, nx, none, la, saw⟩ s l = _ by unfold Cli.start; exact if_neg (fun h => h hck)).symm.trans HR.out
      have w1 : IntKind.u64.wrap ((nx : Int) + 1) = (nx : Int) + 1 := IntWalk.u64_in _ (by omega)
      go_upto_region 9 with fail
      obtain ⟨h8, hu8⟩ := HC7.out.opened (b := ⟨id, nx, s, l⟩) HT7.out ⟨hid, (show nx < big by unfold big; omega), hs, hl⟩ rfl
      have hz8 := HZ7.out.upd hu8 (fun e => Blk.ne_ HC7.out.blk HZ7.out (by decide) e.symm)
      have H8 := Lib.hid h8
      have HU8 := Lib.hid hu8
      have HZ8 := Lib.hid hz8
      clear g0 c0 c1 c2 c3 c4 c5 c6 cz p0 p1 p2 p3 p4 pz z0 z1 z2 z3 z4 zz h8 hu8 hz8
      dsimp only at H8 HU8 HZ8
      generalize World.alloc _ _ = w8 at *
      go_wp2_with fail
      refine (cagain H8.out rfl (by omega)).mono ?_
      rintro e w9 ⟨y, rfl, hyb, hy9, h9, hu9⟩
      obtain ⟨⟨yc, yr, ys, yl⟩, yA, ycap⟩ := y
      dsimp only at hyb
      cases hyb
      have HZ9 := Lib.hid (HZ8.out.upd hu9 (fun e => Blk.ne_ (H8.out.now _ _ rfl).1 HZ8.out (by decide) e.symm))
      have HY9 := Lib.hid hy9
      have H9 := Lib.hid h9
      have HU9 := Lib.hid hu9
      have HS7 : Hid (w.heap.size ≤ w7.heap.size) := Lib.hid (HN.out.trans HN7.out).size
      obtain ⟨z0, z1, z2, z3, z4, zz⟩ := Blk4K HZ9.out
      clear hy9 h9 hu9
      dsimp only [BtV.val, BtV.sl, batV]
      go_wp2_with fail
      have hu10 : Upd (· = w.heap.size) w9 ((((w9.setCell ⟨w.heap.size, 0, none⟩ (.int .u64 (id : Int))).setCell ⟨w.heap.size, 1, none⟩ (.int .u64 (nx : Int))).setCell ⟨w.heap.size, 2, none⟩ (.int .u64 (s : Int))).setCell ⟨w.heap.size, 3, none⟩ (.slice yA l.length ycap)) := ((((Upd.refl _ w9).setIn 0 _).setIn 1 _).setIn 2 _).setIn 3 _
      exact bodyPost_ret (v := .tuple #[batV id nx s (.slice yA l.length ycap), .int .i64 0]) (by simp [results, Tryz.results39, go_sem, z0, z1, z2, z3, z4, batV]) rfl ⟨⟨⟨id, nx, s, l⟩, yA, ycap⟩, _, rfl, rfl, HY9.out.upd hu10 (Off.blk HZ9.out (by decide)), H9.out.upd hu10 (by rintro k (rfl | rfl) e; exact Blk.ne_ H9.out.blk HZ9.out (by decide) e; exact Blk.ne_ (H9.out.now _ _ rfl).1 HZ9.out (by decide) e) (Off.blk HZ9.out (by decide)),
        ((((Upd.new (S := CliF cp L) (HN.out.trans HN7.out)).trans HU8.out (fun k hk e => .inl e)).trans HU9.out (fun k hk e => by have := HS7.out; omega)).trans hu10 (fun k hk e => by omega)), fun k hk => hk.elim (fun e => .inl (.inl e)) (fun e => .inr (by rw [e]; exact HS7.out))⟩
    · obtain rfl : (⟨id, nx, none, la, saw⟩, Btc.none, chk l) = r := (show Cli.start ⟨id, nx, none, la, saw⟩ s l = _ by unfold Cli.start; exact if_pos hck).symm.trans HR.out
      go_wp2_with fail
      have hu8 : Upd (· = w.heap.size) w7 ((((w7.setCell ⟨w.heap.size, 0, none⟩ (.int .u64 0)).setCell ⟨w.heap.size, 1, none⟩ (.int .u64 0)).setCell ⟨w.heap.size, 2, none⟩ (.int .u64 0)).setCell ⟨w.heap.size, 3, none⟩ (.slice none 0 0)) := ((((Upd.refl _ w7).setIn 0 _).setIn 1 _).setIn 2 _).setIn 3 _
      exact bodyPost_ret (v := .tuple #[batV 0 0 0 (.slice none 0 0), .int .i64 (chk l)]) (by simp [results, Tryz.results39, go_sem, z0, z1, z2, z3, z4, batV]) rfl ⟨BtV.nil, L, rfl, rfl, BtAt.nil _, HC7.out.upd hu8 (by rintro k (rfl | rfl) e; exact Blk.ne_ HC7.out.blk HZ7.out (by decide) e; exact absurd e (by rw [HC7.out.nj rfl]; exact Blk.ne_ HC7.out.blk HZ7.out (by decide))) (Off.blk HZ7.out (by decide)), (Upd.new (HN.out.trans HN7.out)).trans hu8 (fun k hk e => by omega), fun k hk => .inl hk⟩
set_option maxHeartbeats 2000000 in
theorem canswer_no (h : CliAt w cp L x) (rq : Nat) (vt : Nat) (ve : Int) (hno : ∀ b t, x.now = some (b, t) → b.r ≠ rq) : Calls Tryz.prog 142 #[.pointer (some ⟨cp, 0, none⟩), .int .u64 (rq : Int), .agg #[.int .u64 (vt : Int), .int .i64 ve]] w fun e w' => e = .returned (.bool false) ∧ New w w' := by
  have hN := (New.refl w).alloc (.cells #[.int .u64 (vt : Int), .int .i64 ve] 46)
  obtain ⟨id, nx, now, la, saw⟩ := x
  cases now with
  | none =>
    obtain ⟨g0, c0, c1, c2, c3, c4, c5, c6, cz⟩ := Blk7U h.blk
    dsimp only [nowV] at c2
    clear h
    go_enter Tryz.func142, Tryz.ntmps142
    go_wp2_with fail
    go_ret
    exact ⟨rfl, hN⟩
  | some p =>
    obtain ⟨b, t⟩ := p
    have hne := hno b t rfl
    have h0 : ¬ (b.r : Int) = (rq : Int) := by omega
    have h1 : ((b.r : Int) == (rq : Int)) = false := by simpa using h0
    have h2 : ((b.r : Int) != (rq : Int)) = true := by simpa using h0
    clear h0
    obtain ⟨g0, c0, c1, c2, c3, c4, c5, c6, cz⟩ := Blk7U h.blk
    obtain ⟨n0, d0, d1, d2, d3, d4, dz⟩ := Blk5U (h.now b t rfl).1
    dsimp only [nowV] at c2
    clear h hne hno
    go_enter Tryz.func142, Tryz.ntmps142
    go_wp2_with fail
    go_ret
    exact ⟨rfl, hN⟩
def AnPost (w : World) (cp : Nat) (L : CliL) (x' : Cli) (e : Ending) (w' : World) : Prop := ∃ r L', e = .returned (.bool r) ∧ CliAt w' cp L' x' ∧ Upd (CliF cp L) w w' ∧ ∀ k, CliF cp L' k → CliF cp L k ∨ w.heap.size ≤ k
theorem an_of {id nx rq vt saw : Nat} {ve : Int} (hb : Blk w' cp 160 #[.int .u64 (id : Int), .int .u64 (nx : Int), .pointer none, .int .u64 (rq : Int), .int .u64 (vt : Int), .int .i64 ve, .int .u64 (saw : Int)]) (hu : Upd (· = cp) w w') (hx : x = ⟨id, nx, none, (rq, ⟨vt, ve⟩), saw⟩) {v : Value} (hv : v = .bool true) : AnPost w cp L x (.returned v) w' := by
  subst hx hv
  exact ⟨true, ⟨cp, none, 0⟩, rfl, ⟨hb, fun _ => rfl, fun b t e => by cases e⟩, hu.mono (fun k _ e => .inl e), fun k hk => .inl (.inl (by rcases hk with e | e <;> exact e))⟩
set_option maxHeartbeats 4000000 in
theorem canswer_yes (h : CliAt w cp L x) {b : Btc} {t : Nat} (hx : x.now = some (b, t)) (vt : Nat) (ve : Int) : Calls Tryz.prog 142 #[.pointer (some ⟨cp, 0, none⟩), .int .u64 (b.r : Int), .agg #[.int .u64 (vt : Int), .int .i64 ve]] w (AnPost w cp L (x.answer b.r ⟨vt, ve⟩)) := by
  have hN := (New.refl w).alloc (.cells #[.int .u64 (vt : Int), .int .i64 ve] 46)
  obtain ⟨id, nx, now, ⟨lr, lt, le⟩, saw⟩ := x
  dsimp only at hx
  subst hx
  have hc := h.new hN
  have HC := Lib.hid hc
  obtain ⟨g0, c0, c1, c2, c3, c4, c5, c6, cz⟩ := Blk7U hc.blk
  obtain ⟨n0, d0, d1, d2, d3, d4, dz⟩ := Blk5U (hc.now b t rfl).1
  dsimp only [nowV] at c0 c1 c2 c3 c4 c5 c6
  have HN := Lib.hid hN
  have HV := Lib.hid (Blk.mk_new w 46 #[.int .u64 (vt : Int), .int .i64 ve])
  obtain ⟨v0, v1, v2, vz⟩ := Blk2F HV.out
  clear h hc hN
  go_enter Tryz.func142, Tryz.ntmps142
  go_upto_region 3 with fail
  generalize w.alloc _ = W at *
  go_region
  have hu1 : Upd (· = cp) W ((((W.setCell ⟨cp, 2, none⟩ (.pointer none)).setCell ⟨cp, 3, none⟩ (.int .u64 (b.r : Int))).setCell ⟨cp, 4, none⟩ (.int .u64 (vt : Int))).setCell ⟨cp, 5, none⟩ (.int .i64 ve)) := ((((Upd.refl _ W).setIn 2 _).setIn 3 _).setIn 4 _).setIn 5 _
  have hb1 := (((HC.out.blk.set_ 2 (.pointer none)).set_ 3 (.int .u64 (b.r : Int))).set_ 4 (.int .u64 (vt : Int))).set_ 5 (.int .i64 ve)
  have hv1 := HV.out.upd hu1 (fun e => Blk.ne_ HC.out.blk HV.out (by decide) e.symm)
  have HB1 : Hid (Blk ((((W.setCell ⟨cp, 2, none⟩ (.pointer none)).setCell ⟨cp, 3, none⟩ (.int .u64 (b.r : Int))).setCell ⟨cp, 4, none⟩ (.int .u64 (vt : Int))).setCell ⟨cp, 5, none⟩ (.int .i64 ve)) cp 160 #[.int .u64 (id : Int), .int .u64 (nx : Int), .pointer none, .int .u64 (b.r : Int), .int .u64 (vt : Int), .int .i64 ve, .int .u64 (saw : Int)]) := Lib.hid hb1
  have HU1 := Lib.hid hu1
  have HV1 := Lib.hid hv1
  clear g0 c0 c1 c2 c3 c4 c5 c6 cz n0 d0 d1 d2 d3 d4 dz v0 v1 v2 vz hu1 hb1 hv1
  generalize World.setCell _ ⟨cp, 5, none⟩ _ = w1 at *
  obtain ⟨g0, c0, c1, c2, c3, c4, c5, c6, cz⟩ := Blk7U HB1.out
  obtain ⟨v0, v1, v2, vz⟩ := Blk2F HV1.out
  by_cases he : ve = 0
  · subst he
    go_upto_region 5 with fail
    have HM : Hid (max (saw : Int) (vt : Int) = ((max saw vt : Nat) : Int)) := Lib.hid (by omega)
    go_region
    go_wp2_with fail
    go_ret
    rw [HM.out]
    refine an_of (HB1.out.set_ 6 (.int .u64 ((max saw vt : Nat) : Int))).drew.drew ((((Upd.new HN.out)).trans HU1.out (fun k _ e => e)).setIn 6 _).drew.drew ?_ ?_
    · simp [Cli.answer]
    · rfl
  · have he1 : (ve == 0) = false := by simpa using he
    go_wp2_with fail
    go_ret
    refine an_of HB1.out.drew (((Upd.new HN.out)).trans HU1.out (fun k _ e => e)).drew ?_ ?_
    · simp [Cli.answer, he]
    · rfl
end
end Go.Proofs.YtlhlcdjkacglnaaGreatDoor
