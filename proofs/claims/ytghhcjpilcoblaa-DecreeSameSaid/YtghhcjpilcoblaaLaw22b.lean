/- The walk of the law DecreeSame (chapter 22): for every input it answers true. -/
import Derived.Test.YtghhcjpilcoblaaDcS3
import Derived.Deep.DeepCutAuto
namespace Go.Proofs.Ytghhcjpilcoblaa
open Go.RowKit Go.Lap
set_option linter.unusedVariables false
section
variable {F S : Nat → Prop} {w wr w1 w2 w' W : World} {n m B C gp pb : Nat} {g g' : Gm} {ws : List Value} {pv : Value} {P : List ByteArray} {Ws : List (List ByteArray)}
/-- A change elsewhere: what is new since then is no block of the group. -/
theorem GSt.keep (h : GSt F W n B gp g) (hu : Upd S W w') (hS : ∀ j, F j → ¬ S j) : GSt (fun j => F j ∧ (j < W.heap.size ∨ w'.heap.size ≤ j)) w' n B gp g := by
  obtain ⟨L, h1, h2, h3, h4⟩ := h
  exact ⟨L, h1.upd hu (fun k hk => hS k (h2 k hk)), fun j hj => ⟨h2 j hj, .inl (h1.f_lt j hj)⟩, fun j hj => ⟨h3 j (Nat.le_trans hu.size hj), .inr hj⟩, h4⟩
abbrev SRow (w : World) (b : Nat) (v : Value) (l : List ByteArray) : Prop := Row w b 9 1 sEnc v l
/-- What lies in memory: the group; the lists as they were; what was proposed. -/
structure SSt (w wr : World) (m B gp pb : Nat) (ws : List Value) (pv : Value) (P : List ByteArray) (Ws : List (List ByteArray)) (g : Gm) : Prop where
  st : ∃ F, GSt F wr m B gp g ∧ ∀ j, F j → w.heap.size ≤ j ∧ j ≠ pb ∧ (∀ v ∈ ws, v.ownBlock ≠ some j) ∧ pv.ownBlock ≠ some j
  blk : Blk wr pb 64 ws.toArray
  ge : w.heap.size ≤ pb
  len : ws.length = 7
  wen : Ws.length = 7
  rows : ∀ (k : Nat) (v : Value) (l : List ByteArray), ws[k]? = some v → Ws[k]? = some l → SRow wr w.heap.size v l
  prow : SRow wr w.heap.size pv P
  dj : ∀ v ∈ ws, ∀ b, v.ownBlock = some b → pv.ownBlock ≠ some b
  nw : New w wr
theorem SSt.ok (h : SSt w wr m B gp pb ws pv P Ws g) : GmOk m B g := by obtain ⟨F, hF, _⟩ := h.st; exact hF.ok
theorem SSt.new (h : SSt w wr m B gp pb ws pv P Ws g) (hn : New wr w') : SSt w w' m B gp pb ws pv P Ws g := by
  obtain ⟨F, hF, hj⟩ := h.st
  exact ⟨⟨F, hF.new hn, hj⟩, h.blk.new hn, h.ge, h.len, h.wen, fun k v l hv hl => (h.rows k v l hv hl).new hn, h.prow.new hn, h.dj, h.nw.trans hn⟩
theorem SSt.act (h : SSt w wr m B gp pb ws pv P Ws g) {f : Nat} {args : Array Value} {r : Int} (k : ∀ F, GSt F wr m B gp g → Calls Try.prog f args wr (StPost F wr m C gp r g')) :
    Calls Try.prog f args wr (fun e w' => e = .returned (.int .i64 r) ∧ SSt w w' m C gp pb ws pv P Ws g') := by
  obtain ⟨F, hF, hj⟩ := h.st
  refine (k F hF).mono ?_
  rintro e w' ⟨rfl, h2, hu⟩
  exact ⟨rfl, ⟨F, h2, hj⟩, h.blk.upd hu (fun hb => (hj _ hb).2.1 rfl), h.ge, h.len, h.wen, fun k v l hv hl => (h.rows k v l hv hl).upd hu (fun b hb hF => (hj b hF).2.2.1 v (List.mem_of_getElem? hv) hb), h.prow.upd hu (fun b hb hF => (hj b hF).2.2.2 hb), h.dj, h.nw.upd hu (fun j hF => (hj j hF).1)⟩
theorem SSt.do (h : SSt w wr m B gp pb ws pv P Ws g) (hn7 : m ≤ 7) (hB0 : 0 < B) (hB : B ≤ 100000000) (x : DAct) :
    Calls Try.prog 28 #[.pointer (some ⟨gp, 0, none⟩), .agg #[.int .i64 x.k, .int .i64 x.i, .int .i64 x.a, .int .i64 x.t, .string x.v]] wr (fun e w' => e = .returned (.int .i64 (doR m g x)) ∧ SSt w w' m (B + 1) gp pb ws pv P Ws (doG m g x)) :=
  h.act fun F hF => do22 hF hn7 hB0 hB x
theorem SSt.mono (h : SSt w wr m B gp pb ws pv P Ws g) (hC : B ≤ C) : SSt w wr m C gp pb ws pv P Ws g := by
  obtain ⟨F, hF, hj⟩ := h.st
  exact { h with st := ⟨F, hF.mono hC, hj⟩ }
theorem SSt.log (h : SSt w wr m B gp pb ws pv P Ws g) (hB : B ≤ 100000000) {i : Nat} (hi : i < m) : Calls Try.prog 23 #[.pointer (some ⟨gp, 0, none⟩), .int .i64 (i : Int)] wr (LogPost wr (g.nd i).log) := by
  obtain ⟨F, hF, _⟩ := h.st
  have := st_log hF hB (i : Int)
  rwa [logR_nat hi] at this
theorem SSt.own_lt (h : SSt w wr m B gp pb ws pv P Ws g) {v : Value} (hv : v ∈ ws) {b : Nat} (hb : v.ownBlock = some b) : b < wr.heap.size := by
  obtain ⟨k, hk⟩ := List.getElem?_of_mem hv
  have hk7 : k < 7 := by have := (List.getElem?_eq_some_iff.1 hk).1; rwa [h.len] at this
  obtain ⟨l, hl⟩ : ∃ l, Ws[k]? = some l := ⟨_, List.getElem?_eq_getElem (by rw [h.wen]; exact hk7)⟩
  exact ((h.rows k v l hk hl).lt b hb).2
/-- What was proposed has grown. -/
theorem SSt.append (h : SSt w w1 m B gp pb ws pv P Ws g) {v2 : Value} {Q : List ByteArray} (hr : SRow w2 w.heap.size v2 Q) (hg : w1.grownBy w2 pv.ownBlock) (hb : v2.ownBlock = pv.ownBlock ∨ v2.ownBlock = some w1.heap.size) :
    SSt w w2 m B gp pb ws v2 Q Ws g := by
  obtain ⟨F, hF, hj⟩ := h.st
  have hu : Upd (fun k => pv.ownBlock = some k) w1 w2 := (Upd.refl _ _).grown hg (fun k _ hk => hk)
  refine ⟨⟨_, hF.keep hu (fun j hf hp => (hj j hf).2.2.2 hp), fun j hf => ⟨(hj j hf.1).1, (hj j hf.1).2.1, (hj j hf.1).2.2.1, fun hv => ?_⟩⟩, h.blk.upd hu (h.prow.ne_blk h.blk (by decide)), h.ge, h.len, h.wen, fun k v l hv hl => (h.rows k v l hv hl).upd hu (fun b hb hp => h.dj v (List.mem_of_getElem? hv) b hb hp), hr, fun v hv b hvb hv2 => ?_, h.nw.grown hg (fun k hk => (h.prow.lt k hk).1)⟩
  · rcases hb with e | e
    · exact (hj j hf.1).2.2.2 (e ▸ hv)
    · have hlt := (hr.lt j hv).2
      rw [e] at hv
      injection hv with hv
      have := hf.2
      omega
  · rcases hb with e | e
    · exact h.dj v hv b hvb (e ▸ hv2)
    · rw [e] at hv2
      injection hv2 with hv2
      have := h.own_lt hv hvb
      omega
theorem mem_set {α : Type} {l : List α} {i : Nat} {x y : α} (h : y ∈ l.set i x) : y ∈ l ∨ y = x := List.mem_or_eq_of_mem_set h
/-- A list is kept. -/
theorem SSt.put (h : SSt w W m B gp pb ws pv P Ws g) (hn : New W w') {v : Value} {l : List ByteArray} (hr : SRow w' W.heap.size v l) (j : Nat) :
    SSt w (w'.setCell ⟨pb, j, none⟩ v) m B gp pb (ws.set j v) pv P (Ws.set j l) g := by
  obtain ⟨F, hF, hj⟩ := h.st
  have h' := h.new hn
  have hu : Upd (· = pb) w' (w'.setCell ⟨pb, j, none⟩ v) := (Upd.refl _ _).setIn j v
  have hs : (w'.setCell ⟨pb, j, none⟩ v).heap.size = w'.heap.size := World.size_setCell ..
  have hlw := h.nw.size
  have hpl := h.prow.lt
  have hF1 := hF.keep (Upd.new (S := fun _ => False) hn) (fun _ _ x => x)
  have hF2 := hF1.keep hu (fun j hf e => (hj j hf.1).2.1 e)
  refine ⟨⟨_, hF2, fun k hf => ?_⟩, by have := h'.blk.set_ j v; simpa using this, h.ge, by rw [List.length_set]; exact h.len, by rw [List.length_set]; exact h.wen, fun k u q hk hq => ?_, h'.prow.upd hu (fun b hb e => h'.prow.ne_blk h'.blk (by decide) (e ▸ hb)), fun u hu b hub hpb => ?_, h'.nw.setCell h.ge _⟩
  · have hk := hj k hf.1.1
    refine ⟨hk.1, hk.2.1, fun u hu hub => ?_, hk.2.2.2⟩
    rcases mem_set hu with hu | rfl
    · exact hk.2.2.1 u hu hub
    · have := hr.lt k hub
      have := hf.1.2
      omega
  · have hun : ∀ {u : Value} {q : List ByteArray}, SRow w' w.heap.size u q → SRow (w'.setCell ⟨pb, j, none⟩ v) w.heap.size u q := fun {u q} hq => hq.upd hu (fun b hb e => hq.ne_blk h'.blk (by decide) (e ▸ hb))
    rw [List.getElem?_set] at hk hq
    by_cases hjk : j = k
    · subst hjk
      rw [if_pos rfl] at hk hq
      split at hk
      · split at hq
        · cases hk; cases hq
          exact hun (hr.lower hlw)
        · cases hq
      · cases hk
    · rw [if_neg hjk] at hk hq
      exact hun (h'.rows k u q hk hq)
  · rcases mem_set hu with hu | rfl
    · exact h.dj u hu b hub hpb
    · have := hr.lt b hub
      have := hpl b hpb
      omega
theorem SSt.start {w2 : World} {gp m B : Nat} (h : GSt (fun j => w.heap.size ≤ j) w2 m B gp Gm.zero) (hn : New w w2) (t : TypeId) (ht : t = 9) :
    SSt w ((w2.alloc (.cells #[] t)).alloc (.cells #[.slice none 0 0, .slice none 0 0, .slice none 0 0, .slice none 0 0, .slice none 0 0, .slice none 0 0, .slice none 0 0] 64)) m B gp (w2.heap.size + 1)
      [.slice none 0 0, .slice none 0 0, .slice none 0 0, .slice none 0 0, .slice none 0 0, .slice none 0 0, .slice none 0 0] (.slice (some ⟨w2.heap.size, 0, none⟩) 0 0) [] [[], [], [], [], [], [], []] Gm.zero := by
  subst ht
  have hs := World.size_alloc w2 (.cells #[] 9)
  have hb := hn.size
  have hblk := Blk.mk_new (w2.alloc (.cells #[] 9)) 64 #[.slice none 0 0, .slice none 0 0, .slice none 0 0, .slice none 0 0, .slice none 0 0, .slice none 0 0, .slice none 0 0]
  rw [hs] at hblk
  have hall : ∀ v ∈ ([.slice none 0 0, .slice none 0 0, .slice none 0 0, .slice none 0 0, .slice none 0 0, .slice none 0 0, .slice none 0 0] : List Value), v = .slice none 0 0 := by simp
  have hall2 : ∀ l ∈ ([[], [], [], [], [], [], []] : List (List ByteArray)), l = [] := by simp
  refine ⟨⟨_, (h.hide (.cells #[] 9)).hide _, fun j hj => ⟨hj.1.1, by rw [hs] at hj; exact hj.2, fun v hv hvb => ?_, fun hvb => ?_⟩⟩, hblk, by omega, rfl, rfl, fun k v l hv hl => ?_, ?_, fun v hv b hb => ?_, (hn.alloc _).alloc _⟩
  · rw [hall v hv] at hvb; cases hvb
  · cases hvb; exact hj.1.2 rfl
  · rw [hall v (List.mem_of_getElem? hv), hall2 l (List.mem_of_getElem? hl)]; exact Row.nil _ _ _ _ _
  · refine .inr ⟨w2.heap.size, 0, 0, #[], rfl, hb, (Blk.mk_new w2 9 #[]).alloc _, Nat.le_refl _, Nat.zero_le _, Nat.le_refl _, rfl⟩
  · rw [hall v hv] at hb; cases hb
end
theorem pre_set {Ws : List (List ByteArray)} {g : Gm} {m j : Nat} {l : List ByteArray} (h : ∀ k q, k < m → Ws[k]? = some q → q <+: (g.nd k).log) (hl : l = (g.nd j).log) : ∀ k q, k < m → (Ws.set j l)[k]? = some q → q <+: (g.nd k).log := fun k q hk hq => by
  rw [List.getElem?_set] at hq
  by_cases hjk : j = k
  · subst hjk
    rw [if_pos rfl] at hq
    split at hq
    · cases hq; rw [hl]; exact List.prefix_refl _
    · cases hq
  · rw [if_neg hjk] at hq; exact h k q hk hq
theorem da_at' {w : World} {acts : List DAct} {b off : Nat} (hc : ∀ k x, acts[k]? = some x → ∀ j u, (daE x)[j]? = some u → w.cell? ⟨b, off + k * 5 + j, none⟩ = some u) {k : Nat} {x : DAct} (hx : acts[k]? = some x) :
    w.cell? ⟨b, off + k * 5, none⟩ = some (.int .i64 x.k) ∧ w.cell? ⟨b, off + k * 5 + 1, none⟩ = some (.int .i64 x.i) ∧ w.cell? ⟨b, off + k * 5 + 2, none⟩ = some (.int .i64 x.a) ∧ w.cell? ⟨b, off + k * 5 + 3, none⟩ = some (.int .i64 x.t) ∧ w.cell? ⟨b, off + k * 5 + 4, none⟩ = some (.string x.v) :=
  ⟨by have := hc _ x hx 0 _ rfl; simpa using this, by have := hc _ x hx 1 _ rfl; simpa using this, by have := hc _ x hx 2 _ rfl; simpa using this, by have := hc _ x hx 3 _ rfl; simpa using this, by have := hc _ x hx 4 _ rfl; simpa using this⟩
set_option maxRecDepth 100000 in
set_option maxHeartbeats 16000000 in
theorem decreeSame_walk (n : Int) (acts : List DAct) (v : Value) (w : World) (hl : acts.length ≤ maxLen) (hs : SlIn w 5 daE v acts) :
    Calls Try.prog 5 #[.int .i64 n, v] w fun e w' => e = .returned (.bool true) ∧ New w w' := by
  unfold maxLen at hl
  obtain ⟨A, cp, hv, hcp, hor⟩ := _root_.id hs
  subst hv
  clear hs
  by_cases hn : 1 ≤ n ∧ n ≤ 7
  · obtain ⟨m, rfl⟩ : ∃ m : Nat, n = (m : Int) := ⟨n.toNat, by omega⟩
    obtain ⟨hm1, hm7⟩ : 1 ≤ m ∧ m ≤ 7 := by omega
    clear hn
    have HN := Lib.hid (st_new m hm1 hm7 w)
    go_enter Try.func5, Try.ntmps5
    go_wp2_with (go_at_call 18; refine HN.out.mono ?_; rintro e w1 ⟨gp, rfl, h1, hn1⟩; have H1 := Lib.hid h1; have HN1 := Lib.hid hn1; clear h1 hn1)
    refine (awake22 _).mono ?_
    rintro e w2 ⟨rfl, hn2⟩
    have H2 := Lib.hid (H1.out.new hn2)
    have HN2 := Lib.hid (HN1.out.trans hn2)
    clear H1 HN1 hn2 HN
    go_wp2_with fail
    have HS0 := Lib.hid (SSt.start H2.out HN2.out _ rfl)
    clear H2 HN2
    obtain ⟨pb, hpb⟩ : ∃ pb, w2.heap.size + 1 = pb := ⟨_, rfl⟩
    rw [hpb] at HS0
    simp only [hpb]
    clear hpb
    have Hor := Lib.hid hor
    clear hor
    go_loopw [7, 9, 10, 11, 12, 13, 14] (fun p i _ _ _ _ _ wr => ∃ k : Nat, k ≤ acts.length ∧ k ≤ 400 ∧ i = .int .i64 k ∧ ∃ ws P Ws g, SSt w wr m (k + 1) gp pb ws p P Ws g ∧ DJ m (fun v => v ∈ P) g ∧ P.length ≤ k ∧ ∀ k q, k < m → Ws[k]? = some q → q <+: (g.nd k).log) (fun _ i _ _ _ _ _ _ => acts.length - (intOf i).toNat)
    case atStart => exact ⟨0, by omega, by omega, rfl, _, _, _, _, HS0.out, DJ.zero, Nat.le_refl _, fun k q hk hq => by
      have : q = [] := by
        have hm := List.mem_of_getElem? hq
        simpa using hm
      rw [this]; exact List.nil_prefix⟩
    case round =>
      obtain ⟨k, hk, hk4, rfl, ws, P, Ws, g, hS, hD, hP, hpre⟩ := hrel
      obtain ⟨wo, hwo⟩ : ∃ wo, wo = wr := ⟨_, rfl⟩
      subst hwo
      obtain ⟨pA, pn, pc, rfl⟩ := hS.prow.shp
      have HS := Lib.hid hS
      have HD := Lib.hid hD
      have HP := Lib.hid hP
      have HPre := Lib.hid hpre
      clear hS hD hP hpre
      by_cases hlt : k < acts.length
      · have hlt' : (k : Int) < (acts.length : Int) := by omega
        by_cases hlt2 : k < 400
        · have hlt2' : (k : Int) < 400 := by omega
          rcases Hor.out with hor | ⟨b, off, rfl, hb, hc⟩
          · rw [hor] at hlt; simp at hlt
          have HC := Lib.hid hc
          have HB := Lib.hid hb
          clear Hor hc
          have hk0 : (0 : Int) ≤ (k : Int) := by omega
          obtain ⟨x, hx⟩ : ∃ x, acts[k]? = some x := ⟨_, List.getElem?_eq_getElem hlt⟩
          have HX := Lib.hid hx
          obtain ⟨e0, e1, e2, e3, e4⟩ := da_at' (w := wo) (fun k x h j u hu => (HS.out.nw.cells.1 _ _ hb).trans (HC.out k x h j u hu)) hx
          have hbl := Nat.lt_of_lt_of_le hb HS.out.nw.size
          have HDO := Lib.hid (HS.out.do hm7 (by omega) (by omega) x)
          have HDJ := Lib.hid (fun (P' : List ByteArray) (hP : ∀ v, v ∈ P → v ∈ P') (hx : x.k = 0 → doR m g x = 0 → x.v ∈ P') => HD.out.do22 hm7 HS.out.ok x hP hx)
          have HLU := Lib.hid (LgUp.do22 m g x)
          clear hx hb
          have HL1 := Lib.hid (show P.length + [x.v].length ≤ maxLen by have := HP.out; unfold maxLen; simp; omega)
          have HL2 := Lib.hid (show (P.length + [x.v].length) * 16 ≤ 140737488355328 by have := HP.out; simp; omega)
          go_upto_region 9 with fail
          go_cut [68] (fun s68 wx => (x.k = 0 ∧ doR m g x = 0 ∧ s68 = .bool true ∧ SSt w wx m (k + 1 + 1) gp pb ws (.slice pA pn pc) P Ws (doG m g x)) ∨ (x.k = 0 ∧ doR m g x ≠ 0 ∧ s68 = .bool false ∧ SSt w wx m (k + 1 + 1) gp pb ws (.slice pA pn pc) P Ws (doG m g x)) ∨ (x.k ≠ 0 ∧ s68 = .bool false ∧ wx = wo))
          case first =>
            by_cases hk0 : x.k = 0
            · obtain ⟨xk, xi, xa, xt, xv⟩ := x
              dsimp only at *
              subst hk0
              by_cases hr : doR m g ⟨0, xi, xa, xt, xv⟩ = 0
              · have HR := Lib.hid hr
                go_wp2_with (go_at_call 28; refine HDO.out.mono ?_; rintro e w5 ⟨rfl, h5⟩)
                go_meet
                exact .inl ⟨trivial, HR.out, congrArg Value.bool (by simp), h5⟩
              · have HR := Lib.hid hr
                go_wp2_with (go_at_call 28; refine HDO.out.mono ?_; rintro e w5 ⟨rfl, h5⟩)
                go_meet
                exact .inr (.inl ⟨trivial, HR.out, congrArg Value.bool (by simpa using HR.out), h5⟩)
            · have HK0 := Lib.hid hk0
              go_wp2_with fail
              go_meet
              exact .inr (.inr ⟨HK0.out, rfl, rfl⟩)
          case rest =>
            clear e0 e1 e2 e3 e4
            have HCut := Lib.hid hcut
            clear hcut
            go_upto_if 68 with fail
            go_cut [7] (fun s7 wx => ∃ P' : List ByteArray, P'.length ≤ k + 1 ∧ ((x.k = 0 ∧ SSt w wx m (k + 1 + 1) gp pb ws s7 P' Ws (doG m g x) ∧ DJ m (fun v => v ∈ P') (doG m g x)) ∨ (x.k ≠ 0 ∧ s7 = .slice pA pn pc ∧ wx = wo ∧ P' = P)))
            case first =>
              rcases HCut.out with ⟨c1, c2, rfl, c3⟩ | ⟨c1, c2, rfl, c3⟩ | ⟨c1, rfl, rfl⟩
              · have HC1 := Lib.hid c1
                have HC2 := Lib.hid c2
                have H5 := Lib.hid c3
                have f0 := fun k x h j u hu => (c3.nw.cells.1 _ _ HB.out).trans (HC.out k x h j u hu)
                obtain ⟨d0, d1, d2, d3, d4⟩ := da_at' (w := wc) f0 HX.out
                have hbl5 := Nat.lt_of_lt_of_le HB.out c3.nw.size
                clear c1 c2 c3 f0 hbl
                go_wp2_with (at_builtin; refine wpList_appR strTy sEncOk rfl (.tmp 69) (.tmp 75) rfl rfl rfl (H5.out.prow.new ((New.refl _).alloc _)) (SlIn.one (x := x.v) (Blk.mk_new wc _ _) sEncOk rfl) HL1.out HL2.out (Nat.le_trans H5.out.nw.size (by rw [World.size_alloc]; omega)) ?_; intro v2 w6 hr2 hg2 hb2)
                go_meet
                exact ⟨P ++ [x.v], by have := HP.out; simp; omega, .inl ⟨HC1.out, (H5.out.new ((New.refl _).alloc _)).append hr2 hg2 hb2, HDJ.out _ (fun v hv => List.mem_append_left _ hv) (fun _ _ => List.mem_append_right _ (List.mem_singleton.2 rfl))⟩⟩
              · have HC1 := Lib.hid c1
                have HC2 := Lib.hid c2
                have H5 := Lib.hid c3
                clear c1 c2 c3
                go_wp2_with fail
                go_meet
                exact ⟨P, by have := HP.out; omega, .inl ⟨HC1.out, H5.out, HDJ.out _ (fun v hv => hv) (fun _ h => absurd h HC2.out)⟩⟩
              · have HC1 := Lib.hid c1
                clear c1
                go_wp2_with fail
                go_meet
                exact ⟨P, by have := HP.out; omega, .inr ⟨HC1.out, rfl, rfl, rfl⟩⟩
            case rest =>
              obtain ⟨P', hP', hcut⟩ := hcut
              have HP' := Lib.hid hP'
              have HCu := Lib.hid hcut
              have hnwc : New w wc := by
                rcases hcut with ⟨_, h, _⟩ | ⟨_, _, rfl, _⟩
                · exact h.nw
                · exact HS.out.nw
              obtain ⟨e0, e1, e2, e3, e4⟩ := da_at' (w := wc) (fun k x h j u hu => (hnwc.cells.1 _ _ HB.out).trans (HC.out k x h j u hu)) HX.out
              have hblc := Nat.lt_of_lt_of_le HB.out hnwc.size
              clear hcut hnwc hP'
              go_upto_region 11 with fail
              go_cut [82] (fun s82 wx => wx = wc ∧ s82 = .bool (decide (x.k ≠ 0)))
              case first =>
                go_wp2_with fail
                go_meet
                exact ⟨rfl, congrArg Value.bool (by by_cases h : x.k = 0 <;> simp [h])⟩
              case rest =>
                obtain ⟨hwx, hs82⟩ := hcut
                subst hwx
                subst hs82
                clear e0 e1 e2 e3 e4 hblc
                go_upto_if 82 with fail
                go_cut [] (fun wx => ∃ P' : List ByteArray, P'.length ≤ k + 1 ∧ SSt w wx m (k + 1 + 1) gp pb ws u7 P' Ws (doG m g x) ∧ DJ m (fun v => v ∈ P') (doG m g x))
                case first =>
                  rcases HCu.out with ⟨hc1, hc2, hc3⟩ | ⟨hc1, rfl, hc2, hc3⟩
                  · have HC2 := Lib.hid hc2
                    have HC3 := Lib.hid hc3
                    rw [decide_eq_false (show ¬ x.k ≠ 0 from fun h => h hc1)]
                    clear hc1 hc2 hc3
                    go_wp2_with fail
                    go_meet
                    exact ⟨P', HP'.out, HC2.out, HC3.out⟩
                  · rw [decide_eq_true hc1]
                    have HC1 := Lib.hid hc1
                    rw [hc2]
                    clear hc2 hc1
                    obtain ⟨e0, e1, e2, e3, e4⟩ := da_at' (w := wo) (fun k x h j u hu => (HS.out.nw.cells.1 _ _ HB.out).trans (HC.out k x h j u hu)) HX.out
                    go_wp2_with (go_at_call 28; refine HDO.out.mono ?_; rintro e w5 ⟨rfl, h5⟩)
                    go_meet
                    exact ⟨P', HP'.out, by rw [hc3]; exact h5, by rw [hc3]; exact HDJ.out P (fun v hv => hv) (fun h => absurd h HC1.out)⟩
                case rest =>
                  obtain ⟨P2, hP2, hS2, hD2⟩ := hcut
                  have HP2 := Lib.hid hP2
                  have HS2 := Lib.hid hS2
                  have HD2 := Lib.hid hD2
                  clear hP2 hS2 hD2 HCu HP' HDO HDJ
                  have HPr2 := Lib.hid (fun (i : Nat) (q : List ByteArray) (hi : i < m) (hq : Ws[i]? = some q) => (HPre.out i q hi hq).trans (HLU.out.log HS.out.ok (by omega) HS2.out.ok (by omega) hi))
                  clear HPre HLU HS HD HP
                  generalize doG m g x = g2 at *
                  obtain ⟨qA, qn, qc, rfl⟩ := HS2.out.prow.shp
                  go_wp2_with fail
                  go_loopw [10, 11, 12, 13, 14] (fun j _ _ _ _ wr => ∃ i : Nat, i ≤ m ∧ j = .int .i64 (i : Int) ∧ ∃ ws Ws, SSt w wr m (k + 1 + 1) gp pb ws (.slice qA qn qc) P2 Ws g2 ∧ ∀ k q, k < m → Ws[k]? = some q → q <+: (g2.nd k).log) (fun j _ _ _ _ _ => m - (intOf j).toNat)
                  case atStart => exact ⟨0, Nat.zero_le _, rfl, _, _, HS2.out, HPr2.out⟩
                  case round =>
                    obtain ⟨i, hi, rfl, ws2, Ws2, hS3, hpr3⟩ := hrel
                    obtain ⟨wj, hwj⟩ : ∃ wj, wj = wr := ⟨_, rfl⟩
                    subst hwj
                    have HS3 := Lib.hid hS3
                    have HPr3 := Lib.hid hpr3
                    clear hS3 hpr3
                    by_cases him : i < m
                    · have him' : (i : Int) < (m : Int) := by omega
                      have hi7 : i < 7 := by omega
                      have hi7' : (i : Int) < 7 := by omega
                      have hi0 : (0 : Int) ≤ (i : Int) := by omega
                      have HL := Lib.hid (HS3.out.log (by omega) him)
                      have HLL := Lib.hid (log_small HS3.out.ok (by omega) him)
                      obtain ⟨wv, hwv⟩ : ∃ wv, ws2[i]? = some wv := ⟨_, List.getElem?_eq_getElem (by rw [HS3.out.len]; exact hi7)⟩
                      obtain ⟨wl, hwl⟩ : ∃ wl, Ws2[i]? = some wl := ⟨_, List.getElem?_eq_getElem (by rw [HS3.out.wen]; exact hi7)⟩
                      obtain ⟨wA, wc3, rfl⟩ := (HS3.out.rows i wv wl hwv hwl).shape
                      have HR3 := Lib.hid (HS3.out.rows i _ wl hwv hwl)
                      have HPW := Lib.hid (HPr3.out i wl him hwl)
                      have HWV := Lib.hid hwv
                      clear hwv hwl
                      obtain ⟨l, hl⟩ : ∃ l, (g2.nd i).log = l := ⟨_, rfl⟩
                      rw [hl] at HL HPW HLL
                      have HLo := Lib.hid hl
                      clear hl
                      go_wp2_with fail
                      refine HL.out.mono ?_
                      rintro e w5 ⟨v5, rfl, h5, hn5⟩
                      obtain ⟨lA, lc, rfl⟩ := h5.shape
                      have HR5 := Lib.hid h5
                      have HN5 := Lib.hid hn5
                      have hb5 := HS3.out.blk.new hn5
                      have c5 : w5.cell? ⟨pb, i, none⟩ = some (.slice wA wl.length wc3) := by rw [hb5.cell i, List.getElem?_toArray]; exact HWV.out
                      have z5 := hb5.frozen
                      have hbl5 := hb5.lt
                      clear h5 hn5 hb5
                      by_cases heq : l.length = wl.length
                      · have heq' : (l.length : Int) = (wl.length : Int) := by omega
                        by_cases hrem : (k : Int) % 20 = 0
                        · go_wp2_with fail
                          have hN : l.length = wl.length := heq
                          have HVL := Lib.hid (show SlIn w5 1 sEnc (.slice lA wl.length lc) l by rw [← hN]; exact HR5.out.slIn sEncOk)
                          have HVR := Lib.hid (show SRow w5 wj.heap.size (.slice lA wl.length lc) l by rw [← hN]; exact HR5.out)
                          have HLL2 := Lib.hid (show l.length = wl.length from hN)
                          have HLLs := Lib.hid (show l.length ≤ 1000000000 by have := HLL.out; omega)
                          have HWLs := Lib.hid (show wl.length ≤ 1000000000 by have := HPW.out.length_le; have := HLL.out; omega)
                          clear hN heq heq' hrem
                          refine (prefix22 (a := wl) (b := l) ((HR3.out.new HN5.out).slIn sEncOk) HVL.out HWLs.out HLLs.out).mono ?_
                          rintro e w6 ⟨rfl, hn6⟩
                          rw [decide_eq_true HPW.out]
                          have HN6 := Lib.hid (HN5.out.trans hn6)
                          have HVL6 := Lib.hid (HVL.out.new hn6)
                          have HVR6 := Lib.hid (HVR.out.new hn6)
                          clear c5 z5 hbl5 hn6 HVL HVR
                          go_wp2_with fail
                          go_loopw [12, 13] (fun a _ wr => ∃ an : Nat, an ≤ m ∧ a = .int .i64 (an : Int) ∧ New w6 wr) (fun a _ _ => m - (intOf a).toNat)
                          case atStart => exact ⟨0, Nat.zero_le _, rfl, New.refl _⟩
                          case round =>
                            obtain ⟨an, han, rfl, hnr⟩ := hrel
                            obtain ⟨wk, hwk⟩ : ∃ wk, wk = wr := ⟨_, rfl⟩
                            subst hwk
                            have HNR := Lib.hid hnr
                            clear hnr
                            by_cases ham : an < m
                            · have ham' : (an : Int) < (m : Int) := by omega
                              have HLk := Lib.hid ((HS3.out.new (HN6.out.trans HNR.out)).log (by omega) ham)
                              have HLs := Lib.hid (show (g2.nd an).log.length ≤ 1000000000 by have := log_small HS3.out.ok (by omega) ham; omega)
                              have HCp := Lib.hid (show l <+: (g2.nd an).log ∨ (g2.nd an).log <+: l from HLo.out ▸ HD2.out.compat HS3.out.ok (by omega) him ham)
                              go_wp2_with fail
                              refine HLk.out.mono ?_
                              rintro e w7 ⟨v7, rfl, h7, hn7⟩
                              have HV7 := Lib.hid (h7.slIn sEncOk)
                              have HN7 := Lib.hid (HNR.out.trans hn7)
                              clear h7 hn7
                              by_cases hpq : l <+: (g2.nd an).log
                              · have HPq := Lib.hid hpq
                                clear hpq
                                go_wp2_with fail
                                refine (prefix22 (a := l) (b := (g2.nd an).log) (HVL6.out.new HN7.out) HV7.out HLLs.out HLs.out).mono ?_
                                rintro e w8 ⟨rfl, hn8⟩
                                rw [decide_eq_true HPq.out]
                                have HN8 := Lib.hid (HN7.out.trans hn8)
                                clear hn8
                                go_wp2_with fail
                                go_roundw
                                case rel => exact ⟨an + 1, by omega, by go_num, HN8.out⟩
                                case measure => simp [intOf]; omega
                              · have HPq := Lib.hid hpq
                                clear hpq
                                go_wp2_with fail
                                refine (prefix22 (a := l) (b := (g2.nd an).log) (HVL6.out.new HN7.out) HV7.out HLLs.out HLs.out).mono ?_
                                rintro e w8 ⟨rfl, hn8⟩
                                rw [decide_eq_false HPq.out]
                                have HV8 := Lib.hid (HV7.out.new hn8)
                                have HN8 := Lib.hid (HN7.out.trans hn8)
                                clear hn8
                                go_wp2_with fail
                                refine (prefix22 (a := (g2.nd an).log) (b := l) HV8.out (HVL6.out.new HN8.out) HLs.out HLLs.out).mono ?_
                                rintro e w9 ⟨rfl, hn9⟩
                                rw [decide_eq_true (HCp.out.resolve_left HPq.out)]
                                have HN9 := Lib.hid (HN8.out.trans hn9)
                                clear hn9
                                go_wp2_with fail
                                go_roundw
                                case rel => exact ⟨an + 1, by omega, by go_num, HN9.out⟩
                                case measure => simp [intOf]; omega
                            · have ham' : ¬ (an : Int) < (m : Int) := by omega
                              have hbk := HS3.out.blk.new (HN6.out.trans HNR.out)
                              have c9 : wk.cell? ⟨pb, i, none⟩ = some (.slice wA wl.length wc3) := by rw [hbk.cell i, List.getElem?_toArray]; exact HWV.out
                              have hbl9 := hbk.lt
                              clear hbk
                              go_wp2_with fail
                              go_loopw [14] (fun a wr => ∃ an : Nat, an ≤ l.length ∧ a = .int .i64 (an : Int) ∧ New w6 wr) (fun a _ => l.length - (intOf a).toNat)
                              case atStart => exact ⟨wl.length, HPW.out.length_le, rfl, HNR.out⟩
                              case round =>
                                obtain ⟨an2, han2, rfl, hnr2⟩ := hrel
                                obtain ⟨wk2, hwk2⟩ : ∃ wk2, wk2 = wr := ⟨_, rfl⟩
                                subst hwk2
                                have HNR2 := Lib.hid hnr2
                                clear hnr2 c9 hbl9
                                by_cases hal : an2 < l.length
                                · have hal' : (an2 : Int) < ((wl.length : Nat) : Int) := by have := HLL2.out; omega
                                  have han0 : (0 : Int) ≤ (an2 : Int) := by omega
                                  have hsm : (an2 : Int) < 1000000000 := by have := HLLs.out; omega
                                  obtain ⟨lA2, lc2, hv2, hlc2, hor2⟩ := HVL6.out
                                  injection hv2 with q1 q2 q3
                                  subst q1
                                  subst q3
                                  clear q2
                                  rcases hor2 with hor2 | ⟨b5, off5, rfl, hb5, hc5⟩
                                  · rw [hor2] at hal; simp at hal
                                  obtain ⟨y, hy⟩ : ∃ y, l[an2]? = some y := ⟨_, List.getElem?_eq_getElem hal⟩
                                  have e5 := str_at (w := wk2) (fun k x h j u hu => (HNR2.out.cells.1 _ _ hb5).trans (hc5 k x h j u hu)) hy
                                  have hbl5 := Nat.lt_of_lt_of_le hb5 HNR2.out.size
                                  have HY := Lib.hid (show hasL P2 y = true from hasL_iff.2 (HD2.out.mem HS3.out.ok (by omega) him (HLo.out ▸ List.mem_of_getElem? hy)))
                                  clear hy hb5 hc5
                                  go_wp2_with fail
                                  refine (has22 (l := P2) ((HS3.out.prow.new (HN6.out.trans HNR2.out)).slIn sEncOk) y (by have := HP2.out; omega)).mono ?_
                                  rintro e w8 ⟨rfl, hn8⟩
                                  rw [HY.out]
                                  have HN8 := Lib.hid (HNR2.out.trans hn8)
                                  clear hn8
                                  go_wp2_with fail
                                  go_roundw
                                  case rel => exact ⟨an2 + 1, by omega, by go_num, HN8.out⟩
                                  case measure => simp [intOf]; omega
                                · have hal' : ¬ (an2 : Int) < ((wl.length : Nat) : Int) := by have := HLL2.out; omega
                                  have hbk := HS3.out.blk.new (HN6.out.trans HNR2.out)
                                  have c9 : wk2.cell? ⟨pb, i, none⟩ = some (.slice wA wl.length wc3) := by rw [hbk.cell i, List.getElem?_toArray]; exact HWV.out
                                  have z9 := hbk.frozen
                                  have hbl9 := hbk.lt
                                  clear hbk
                                  go_wp2_with fail
                                  go_roundw
                                  case rel => exact ⟨i + 1, by omega, by go_num, _, _, HS3.out.put (HN6.out.trans HNR2.out) (HVR6.out.new HNR2.out) i, pre_set HPr3.out HLo.out.symm⟩
                                  case measure => simp [intOf]; omega
                        · go_wp2_with fail
                          go_roundw
                          case rel => exact ⟨i + 1, by omega, by go_num, _, _, HS3.out.new HN5.out, HPr3.out⟩
                          case measure => simp [intOf]; omega
                      · have heq' : ¬ (l.length : Int) = (wl.length : Int) := by omega
                        go_wp2_with fail
                        have hN : l.length = l.length := rfl
                        have HVL := Lib.hid (show SlIn w5 1 sEnc (.slice lA l.length lc) l by rw [← hN]; exact HR5.out.slIn sEncOk)
                        have HVR := Lib.hid (show SRow w5 wj.heap.size (.slice lA l.length lc) l by rw [← hN]; exact HR5.out)
                        have HLL2 := Lib.hid (show l.length = l.length from hN)
                        have HLLs := Lib.hid (show l.length ≤ 1000000000 by have := HLL.out; omega)
                        have HWLs := Lib.hid (show wl.length ≤ 1000000000 by have := HPW.out.length_le; have := HLL.out; omega)
                        clear hN heq heq'
                        refine (prefix22 (a := wl) (b := l) ((HR3.out.new HN5.out).slIn sEncOk) HVL.out HWLs.out HLLs.out).mono ?_
                        rintro e w6 ⟨rfl, hn6⟩
                        rw [decide_eq_true HPW.out]
                        have HN6 := Lib.hid (HN5.out.trans hn6)
                        have HVL6 := Lib.hid (HVL.out.new hn6)
                        have HVR6 := Lib.hid (HVR.out.new hn6)
                        clear c5 z5 hbl5 hn6 HVL HVR
                        go_wp2_with fail
                        go_loopw [12, 13] (fun a _ wr => ∃ an : Nat, an ≤ m ∧ a = .int .i64 (an : Int) ∧ New w6 wr) (fun a _ _ => m - (intOf a).toNat)
                        case atStart => exact ⟨0, Nat.zero_le _, rfl, New.refl _⟩
                        case round =>
                          obtain ⟨an, han, rfl, hnr⟩ := hrel
                          obtain ⟨wk, hwk⟩ : ∃ wk, wk = wr := ⟨_, rfl⟩
                          subst hwk
                          have HNR := Lib.hid hnr
                          clear hnr
                          by_cases ham : an < m
                          · have ham' : (an : Int) < (m : Int) := by omega
                            have HLk := Lib.hid ((HS3.out.new (HN6.out.trans HNR.out)).log (by omega) ham)
                            have HLs := Lib.hid (show (g2.nd an).log.length ≤ 1000000000 by have := log_small HS3.out.ok (by omega) ham; omega)
                            have HCp := Lib.hid (show l <+: (g2.nd an).log ∨ (g2.nd an).log <+: l from HLo.out ▸ HD2.out.compat HS3.out.ok (by omega) him ham)
                            go_wp2_with fail
                            refine HLk.out.mono ?_
                            rintro e w7 ⟨v7, rfl, h7, hn7⟩
                            have HV7 := Lib.hid (h7.slIn sEncOk)
                            have HN7 := Lib.hid (HNR.out.trans hn7)
                            clear h7 hn7
                            by_cases hpq : l <+: (g2.nd an).log
                            · have HPq := Lib.hid hpq
                              clear hpq
                              go_wp2_with fail
                              refine (prefix22 (a := l) (b := (g2.nd an).log) (HVL6.out.new HN7.out) HV7.out HLLs.out HLs.out).mono ?_
                              rintro e w8 ⟨rfl, hn8⟩
                              rw [decide_eq_true HPq.out]
                              have HN8 := Lib.hid (HN7.out.trans hn8)
                              clear hn8
                              go_wp2_with fail
                              go_roundw
                              case rel => exact ⟨an + 1, by omega, by go_num, HN8.out⟩
                              case measure => simp [intOf]; omega
                            · have HPq := Lib.hid hpq
                              clear hpq
                              go_wp2_with fail
                              refine (prefix22 (a := l) (b := (g2.nd an).log) (HVL6.out.new HN7.out) HV7.out HLLs.out HLs.out).mono ?_
                              rintro e w8 ⟨rfl, hn8⟩
                              rw [decide_eq_false HPq.out]
                              have HV8 := Lib.hid (HV7.out.new hn8)
                              have HN8 := Lib.hid (HN7.out.trans hn8)
                              clear hn8
                              go_wp2_with fail
                              refine (prefix22 (a := (g2.nd an).log) (b := l) HV8.out (HVL6.out.new HN8.out) HLs.out HLLs.out).mono ?_
                              rintro e w9 ⟨rfl, hn9⟩
                              rw [decide_eq_true (HCp.out.resolve_left HPq.out)]
                              have HN9 := Lib.hid (HN8.out.trans hn9)
                              clear hn9
                              go_wp2_with fail
                              go_roundw
                              case rel => exact ⟨an + 1, by omega, by go_num, HN9.out⟩
                              case measure => simp [intOf]; omega
                          · have ham' : ¬ (an : Int) < (m : Int) := by omega
                            have hbk := HS3.out.blk.new (HN6.out.trans HNR.out)
                            have c9 : wk.cell? ⟨pb, i, none⟩ = some (.slice wA wl.length wc3) := by rw [hbk.cell i, List.getElem?_toArray]; exact HWV.out
                            have hbl9 := hbk.lt
                            clear hbk
                            go_wp2_with fail
                            go_loopw [14] (fun a wr => ∃ an : Nat, an ≤ l.length ∧ a = .int .i64 (an : Int) ∧ New w6 wr) (fun a _ => l.length - (intOf a).toNat)
                            case atStart => exact ⟨wl.length, HPW.out.length_le, rfl, HNR.out⟩
                            case round =>
                              obtain ⟨an2, han2, rfl, hnr2⟩ := hrel
                              obtain ⟨wk2, hwk2⟩ : ∃ wk2, wk2 = wr := ⟨_, rfl⟩
                              subst hwk2
                              have HNR2 := Lib.hid hnr2
                              clear hnr2 c9 hbl9
                              by_cases hal : an2 < l.length
                              · have hal' : (an2 : Int) < ((l.length : Nat) : Int) := by have := HLL2.out; omega
                                have han0 : (0 : Int) ≤ (an2 : Int) := by omega
                                have hsm : (an2 : Int) < 1000000000 := by have := HLLs.out; omega
                                obtain ⟨lA2, lc2, hv2, hlc2, hor2⟩ := HVL6.out
                                injection hv2 with q1 q2 q3
                                subst q1
                                subst q3
                                clear q2
                                rcases hor2 with hor2 | ⟨b5, off5, rfl, hb5, hc5⟩
                                · rw [hor2] at hal; simp at hal
                                obtain ⟨y, hy⟩ : ∃ y, l[an2]? = some y := ⟨_, List.getElem?_eq_getElem hal⟩
                                have e5 := str_at (w := wk2) (fun k x h j u hu => (HNR2.out.cells.1 _ _ hb5).trans (hc5 k x h j u hu)) hy
                                have hbl5 := Nat.lt_of_lt_of_le hb5 HNR2.out.size
                                have HY := Lib.hid (show hasL P2 y = true from hasL_iff.2 (HD2.out.mem HS3.out.ok (by omega) him (HLo.out ▸ List.mem_of_getElem? hy)))
                                clear hy hb5 hc5
                                go_wp2_with fail
                                refine (has22 (l := P2) ((HS3.out.prow.new (HN6.out.trans HNR2.out)).slIn sEncOk) y (by have := HP2.out; omega)).mono ?_
                                rintro e w8 ⟨rfl, hn8⟩
                                rw [HY.out]
                                have HN8 := Lib.hid (HNR2.out.trans hn8)
                                clear hn8
                                go_wp2_with fail
                                go_roundw
                                case rel => exact ⟨an2 + 1, by omega, by go_num, HN8.out⟩
                                case measure => simp [intOf]; omega
                              · have hal' : ¬ (an2 : Int) < ((l.length : Nat) : Int) := by have := HLL2.out; omega
                                have hbk := HS3.out.blk.new (HN6.out.trans HNR2.out)
                                have c9 : wk2.cell? ⟨pb, i, none⟩ = some (.slice wA wl.length wc3) := by rw [hbk.cell i, List.getElem?_toArray]; exact HWV.out
                                have z9 := hbk.frozen
                                have hbl9 := hbk.lt
                                clear hbk
                                go_wp2_with fail
                                go_roundw
                                case rel => exact ⟨i + 1, by omega, by go_num, _, _, HS3.out.put (HN6.out.trans HNR2.out) (HVR6.out.new HNR2.out) i, pre_set HPr3.out HLo.out.symm⟩
                                case measure => simp [intOf]; omega
                    · have him' : ¬ (i : Int) < (m : Int) := by omega
                      go_wp2_with fail
                      go_roundw
                      case rel => exact ⟨k + 1, by omega, by omega, by go_num, ws2, P2, Ws2, g2, HS3.out, HD2.out, HP2.out, HPr3.out⟩
                      case measure => simp [intOf]; omega
        · have hlt2' : ¬ (k : Int) < 400 := by omega
          have HN := Lib.hid HS.out.nw
          go_wp2_with fail
          go_ret
          exact ⟨rfl, HN.out⟩
      · have hlt' : ¬ (k : Int) < (acts.length : Int) := by omega
        have HN := Lib.hid HS.out.nw
        go_wp2_with fail
        go_ret
        exact ⟨rfl, HN.out⟩
  · have HN := Lib.hid (gnew_no n hn w)
    have hn' : n < 1 ∨ 7 < n := by omega
    clear hn
    go_enter Try.func5, Try.ntmps5
    go_wp2_with (go_at_call 18; refine HN.out.mono ?_; rintro e w1 ⟨rfl, hw1⟩; subst hw1)
    refine (awake22 _).mono ?_
    rintro e w2 ⟨rfl, hn2⟩
    have HN2 := Lib.hid hn2
    clear hn2
    go_wp2_with fail
    refine (awake22 _).mono ?_
    rintro e w3 ⟨rfl, hn3⟩
    have HN3 := Lib.hid (HN2.out.trans hn3)
    clear hn3
    rcases hn' with hn' | hn'
    · go_wp2_with fail
      go_ret
      exact ⟨rfl, HN3.out⟩
    · have hn1 : ¬ n < 1 := by omega
      go_wp2_with fail
      go_ret
      exact ⟨rfl, HN3.out⟩
end Go.Proofs.Ytghhcjpilcoblaa
