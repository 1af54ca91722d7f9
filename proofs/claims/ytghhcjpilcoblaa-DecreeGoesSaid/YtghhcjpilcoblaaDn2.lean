/- Chapter 22 (decree): a node's acceptor; what is known; a message of the proposal. -/
import Derived.Test.YtghhcjpilcoblaaDn
namespace Go.Proofs.Ytghhcjpilcoblaa
open Go.RowKit Go.Lap
set_option linter.unusedVariables false
section
variable {w w' w'' : World} {S F G : Nat → Prop} {am lm nb B : Nat} {ab : Nat → Nat} {ac : Nat → Option Acr} {lg : Nat → Option ByteArray} {id : Int} {L : NdL} {x : Nod}
theorem PrsAt.far {L : PrL} {p : Prs} {g t : Nat} {cs : Array Value} (h : PrsAt w F am lm L p) (hg : Blk w g t cs) (h1 : t ≠ 104) (h2 : t ≠ 45) (hu : Upd (· = g) w w') : PrsAt w' F am lm L p :=
  ⟨h.blk.upd hu (fun e => Blk.ne_ h.blk hg (fun e => h1 e.symm) e), h.row.upd hu (fun k hk e => h.row.ne_blk hg (fun e => h2 e.symm) (e ▸ hk)), h.fm.upd hu (fun e => Blk.ne_map hg h.fm e.symm), h.bm.upd hu (fun e => Blk.ne_map hg h.bm e.symm), h.n1, h.n2, h.n3, h.f1, h.f2⟩
theorem NwAt.far {pw : Value} {nw : Option Prs} {g t : Nat} {cs : Array Value} (h : NwAt w F am lm pw nw) (hg : Blk w g t cs) (h1 : t ≠ 104) (h2 : t ≠ 45) (hu : Upd (· = g) w w') : NwAt w' F am lm pw nw := by
  cases nw with
  | none => exact h
  | some p => obtain ⟨L, e, h⟩ := h; exact ⟨L, e, h.far hg h1 h2 hu⟩
theorem PrsAt.farMap {L : PrL} {p : Prs} {kt : TypeId} {κ : Type} {lit : κ → Lit} {ok : κ → Prop} {b m : Nat} {f : κ → Option Value} (h : PrsAt w F am lm L p) (hg : MpAt Try.prog kt lit ok w b m f) (hb : b = am ∨ b = lm) (hu : Upd (· = b) w w') : PrsAt w' F am lm L p :=
  ⟨h.blk.upd hu (fun e => Blk.ne_map h.blk hg e), h.row.upd hu (fun k hk e => Row.ne_map h.row hg (e ▸ hk)), h.fm.upd hu (fun e => by rcases hb with rfl | rfl; exact h.n2.1 e; exact h.n2.2 e), h.bm.upd hu (fun e => by rcases hb with rfl | rfl; exact h.n3.1 e; exact h.n3.2 e), h.n1, h.n2, h.n3, h.f1, h.f2⟩
theorem NwAt.farMap {pw : Value} {nw : Option Prs} {kt : TypeId} {κ : Type} {lit : κ → Lit} {ok : κ → Prop} {b m : Nat} {f : κ → Option Value} (h : NwAt w F am lm pw nw) (hg : MpAt Try.prog kt lit ok w b m f) (hb : b = am ∨ b = lm) (hu : Upd (· = b) w w') : NwAt w' F am lm pw nw := by
  cases nw with
  | none => exact h
  | some p => obtain ⟨L, e, h⟩ := h; exact ⟨L, e, h.farMap hg hb hu⟩
/-- One acceptor turns. -/
theorem NdAt.setAc (h : NdAt w F nb id B L x) {s : Nat} {a a' : Acr} (ha : x.ac s = some a) (hu : Upd (· = L.ab s) w w') (ha' : AcrAt w' (L.ab s) a') : NdAt w' F nb id B L { x with ac := set x.ac s (some a') } := by
  have hg : Blk w (L.ab s) _ _ := (h.ac.at_ s a ha).1
  obtain ⟨m, hm, hmp⟩ := h.ac.mp
  obtain ⟨ml, hml, hlp⟩ := h.lg
  refine ⟨h.blk.upd hu (fun e => Blk.ne_ h.blk hg (by decide) e), ⟨⟨m, hm, (hmp.upd hu (fun e => Blk.ne_map hg hmp e.symm)).congr fun k _ => ?_⟩, fun t b hb => ?_, fun t r ht hr e => ?_⟩, ⟨ml, hml, hlp.upd hu (fun e => Blk.ne_map hg hlp e.symm)⟩, h.pe.upd hu (fun k hk e => h.pe.ne_blk hg (by decide) (e ▸ hk)), h.nw.far hg (by decide) (by decide) hu, h.n1, h.f1, h.f2⟩
  · unfold acV
    dsimp only
    by_cases hk : k = s
    · subst hk; rw [set_same, ha]; rfl
    · rw [set_ne _ _ hk]
  · by_cases hts : t = s
    · subst hts
      dsimp only at hb
      rw [set_same] at hb
      cases hb
      exact ⟨ha', (h.ac.at_ t a ha).2⟩
    · dsimp only at hb
      rw [set_ne _ _ hts] at hb
      exact ⟨Blk.upd (h.ac.at_ t b hb).1 hu (fun e => hts (h.ac.inj t s (by rw [hb]; simp) (by rw [ha]; simp) e)), (h.ac.at_ t b hb).2⟩
  · have hne : ∀ q, set x.ac s (some a') q ≠ none → x.ac q ≠ none := fun q hq => by
      by_cases hqs : q = s
      · rw [hqs, ha]; simp
      · rwa [set_ne _ _ hqs] at hq
    exact h.ac.inj t r (hne t ht) (hne r hr) e
/-- More blocks: new ones alone. -/
def Gro (F F' : Nat → Prop) (w w' : World) : Prop := ∀ k, F' k → F k ∨ (w.heap.size ≤ k ∧ k < w'.heap.size)
/-- What a node's own act leaves. -/
def NPost (w : World) (F : Nat → Prop) (nb : Nat) (id : Int) (B : Nat) (x' : Nod) (w' : World) : Prop :=
  ∃ F' L', NdAt w' F' nb id B L' x' ∧ Gro F F' w w' ∧ Upd F w w'
def AcPost (w : World) (F : Nat → Prop) (nb : Nat) (id : Int) (B : Nat) (x : Nod) (s : Nat) (e : Ending) (w' : World) : Prop :=
  ∃ F' L', e = .returned (.pointer (some ⟨L'.ab s, 0, none⟩)) ∧ NdAt w' F' nb id (B + 1) L' { x with ac := set x.ac s (some (x.acr s)) } ∧ Gro F F' w w' ∧ F' (L'.ab s) ∧ Upd F w w'
theorem acV_get (ac : Nat → Option Acr) (ab : Nat → Nat) (s : Nat) {a : Acr} (h : ac s = some a) : acV ac ab s = some (.pointer (some ⟨ab s, 0, none⟩)) := by unfold acV; rw [h]; rfl
theorem acV_none (ac : Nat → Option Acr) (ab : Nat → Nat) (s : Nat) (h : ac s = none) : acV ac ab s = none := by unfold acV; rw [h]; rfl
set_option maxRecDepth 100000 in
set_option maxHeartbeats 4000000 in
theorem nacc (h : NdAt w F nb id B L x) {s : Nat} (hs : s < 18446744073709551616) (hB : B ≤ 1000000000000) :
    Calls Try.prog 78 #[.pointer (some ⟨nb, 0, none⟩), .int .u64 (s : Int)] w (AcPost w F nb id B x s) := by
  obtain ⟨g0, c0, c1, c2, c3, c4, c5, cz⟩ := Blk6F h.blk
  obtain ⟨m, hm, hmp⟩ := h.ac.mp
  have HOK := Lib.hid (okU_lt hs)
  have HH := Lib.hid h
  cases ha : x.ac s with
  | some a =>
    have hv := acV_get x.ac L.ab s ha
    have HM := Lib.hid hmp
    have HS : Hid ({ x with ac := set x.ac s (some (x.acr s)) } = x) := Lib.hid (by unfold Nod.acr; rw [ha]; show Nod.mk (set x.ac s (some a)) _ _ _ _ = x; rw [← ha, set_self])
    have HF := Lib.hid ((h.ac.at_ s a ha).2)
    clear ha h hmp
    go_enter Try.func78, Try.ntmps78
    go_wp2_with (at_lookup; refine wpList_mp_ok keyS64 rfl _ _ 96 24 rfl Try.underlying96 (zeroP _) rfl HM.out s HOK.out rfl ?_; rw [hv]; dsimp only [Option.isSome, Option.getD])
    go_ret
    exact ⟨F, L, rfl, by rw [HS.out]; exact HH.out.mono (fun _ h => h) (by omega), fun _ h => .inl h, HF.out, Upd.refl _ _⟩
  | none =>
    have hv := acV_none x.ac L.ab s ha
    have HM := Lib.hid hmp
    have HA := Lib.hid ha
    have HMM := Lib.hid hm
    have HMX := Lib.hid (show m < maxLen by unfold maxLen; omega)
    clear ha h hmp hm
    have HN := Lib.hid ((New.refl w).alloc (.cells #[.int .u64 0, .int .u64 0, .bool false, .int .u64 0, .int .u64 0, .string ⟨#[]⟩] 73))
    go_enter Try.func78, Try.ntmps78
    go_wp2_with (first | (go_at_call 8; refine (new_any _).mono ?_; rintro e w1 ⟨rfl, rfl⟩) | (at_lookup; refine wpList_mp_ok keyS64 rfl _ _ 96 24 rfl Try.underlying96 (zeroP _) rfl HM.out s HOK.out rfl ?_; rw [hv]; dsimp only [Option.isSome, Option.getD]) | (at_mapUpdate; refine wpList_mp_put keyS64 rfl _ _ _ 96 24 rfl Try.underlying96 rfl (HM.out.new HN.out) HMX.out s HOK.out rfl _ rfl ?_; intro w5 hm5 hg5))
    go_ret
    have h1 := HH.out.new HN.out
    have hz := Blk.mk_new w 73 #[.int .u64 0, .int .u64 0, .bool false, .int .u64 0, .int .u64 0, .string ⟨#[]⟩]
    have hU : Upd (· = L.am) (w.alloc (.cells #[.int .u64 0, .int .u64 0, .bool false, .int .u64 0, .int .u64 0, .string ⟨#[]⟩] 73)) w5 := (Upd.refl _ _).grown hg5 (fun k _ e => by injection e with e; exact e.symm)
    rw [hv, if_neg (by simp)] at hm5
    obtain ⟨m1, hm1, hmp1⟩ := h1.ac.mp
    have hlt : ∀ t a, x.ac t = some a → L.ab t < w.heap.size := fun t a h => Blk.lt (HH.out.ac.at_ t a h).1
    obtain ⟨ml, hml, hlp⟩ := h1.lg
    refine ⟨fun k => F k ∨ k = w.heap.size, { L with ab := set L.ab s w.heap.size }, by show _ = Ending.returned (.pointer (some ⟨set L.ab s w.heap.size s, 0, none⟩)); rw [set_same]; rfl, ⟨h1.blk.upd hU (fun e => Blk.ne_map h1.blk hmp1 e), ⟨⟨m + 1, by have := HMM.out; omega, hm5.congr fun k _ => ?_⟩, fun t b hb => ?_, fun t r ht hr e => ?_⟩, ⟨ml, Nat.le_trans hml (by omega), hlp.upd hU (fun e => h1.n1 e.symm)⟩, h1.pe.upd hU (fun k hk e => Row.ne_map h1.pe hmp1 (e ▸ hk)), (h1.nw.farMap hmp1 (.inl rfl) hU).mono (fun k hk => .inl hk), h1.n1, ⟨.inl h1.f1.1, .inl h1.f1.2.1, .inl h1.f1.2.2⟩, fun k hk => .inl (h1.f2 k hk)⟩, ?_, ?_, ?_⟩
    · unfold acV
      dsimp only
      by_cases hk : k = s
      · subst hk; rw [if_pos rfl, set_same, set_same]; rfl
      · rw [if_neg hk, set_ne _ _ hk, set_ne _ _ hk]
    · dsimp only at hb ⊢
      by_cases hts : t = s
      · subst hts
        rw [set_same] at hb ⊢
        cases hb
        refine ⟨?_, .inr rfl⟩
        unfold Nod.acr
        rw [HA.out]
        exact Blk.upd hz hU (fun e => Blk.ne_map hz hmp1 e)
      · rw [set_ne _ _ hts] at hb ⊢
        exact ⟨Blk.upd (h1.ac.at_ t b hb).1 hU (fun e => Blk.ne_map (h1.ac.at_ t b hb).1 hmp1 e), .inl (h1.ac.at_ t b hb).2⟩
    · dsimp only at ht hr e
      by_cases hts : t = s <;> by_cases hrs : r = s
      · rw [hts, hrs]
      · rw [set_ne _ _ hrs] at hr e
        obtain ⟨b, hb⟩ := Option.ne_none_iff_exists'.1 hr
        rw [hts, set_same] at e
        have := hlt r b hb
        omega
      · rw [set_ne _ _ hts] at ht e
        obtain ⟨b, hb⟩ := Option.ne_none_iff_exists'.1 ht
        rw [hrs, set_same] at e
        have := hlt t b hb
        omega
      · rw [set_ne _ _ hts] at ht e
        rw [set_ne _ _ hrs] at hr e
        exact HH.out.ac.inj t r ht hr e
    · rintro k (hk | rfl)
      · exact .inl hk
      · exact .inr ⟨Nat.le_refl _, by have := hU.size; simp at this; omega⟩
    · exact .inr (set_same _ _ _)
    · exact (Upd.new HN.out).trans hU (fun k _ e => by rw [e]; exact HH.out.f1.2.1)
end
end Go.Proofs.Ytghhcjpilcoblaa
