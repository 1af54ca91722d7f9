/- Chapter 22 (decree): a node's proposal turns. -/
import Derived.Test.YtghhcjpilcoblaaDg4
namespace Go.Proofs.Ytghhcjpilcoblaa
open Go.RowKit Go.Lap
set_option linter.unusedVariables false
section
variable {w w' w'' wa w2 : World} {S F G : Nat → Prop} {am lm nb B : Nat} {id : Int} {L : NdL} {x : Nod} {P P' : PrL} {p p' : Prs}
/-- A proposal's blocks. -/
def PrS (P : PrL) (k : Nat) : Prop := k = P.fm ∨ k = P.bm ∨ k = P.pb ∨ P.qv.ownBlock = some k
theorem NdAt.prs (h : NdAt w F nb id B L x) (hn : x.nw = some p) : ∃ P : PrL, L.pw = .pointer (some ⟨P.pb, 0, none⟩) ∧ PrsAt w F L.am L.lm P p := by
  have := h.nw
  rw [hn] at this
  exact this
theorem mp_lt {P : Program} {kt : TypeId} {κ : Type} {lit : κ → Lit} {ok : κ → Prop} {b m : Nat} {f : κ → Option Value} (h : MpAt P kt lit ok w b m f) : b < w.heap.size := by
  obtain ⟨D, h1, _⟩ := h
  exact h1.lt
/-- The proposal alone turns. -/
theorem NdAt.setNw (h : NdAt w F nb id B L x) (hn : x.nw = some p) (hw : L.pw = .pointer (some ⟨P.pb, 0, none⟩)) (hP : PrsAt w F L.am L.lm P p) (hu : Upd S w w') (hS : ∀ k, k < w.heap.size → S k → PrS P k) (hF : ∀ k, F k → G k) (hP' : PrsAt w' G L.am L.lm P' p') (he : P'.pb = P.pb) :
    NdAt w' G nb id B L { x with nw := some p' } := by
  have hb : ∀ {t : TypeId} {cs : Array Value} {b : Nat}, Blk w b t cs → t ≠ 104 → t ≠ 45 → ¬ S b := fun {t cs b} hb h1 h2 hs => by
    rcases hS b hb.lt hs with e | e | e | e
    · exact Blk.ne_map hb hP.fm e
    · exact Blk.ne_map hb hP.bm e
    · exact Blk.ne_ hb hP.blk h1 e
    · exact hP.row.ne_blk hb (fun e => h2 e.symm) e
  have hm : ∀ {kt : TypeId} {κ : Type} {lit : κ → Lit} {ok : κ → Prop} {b m : Nat} {f : κ → Option Value}, MpAt Try.prog kt lit ok w b m f → b ≠ P.fm → b ≠ P.bm → ¬ S b := fun {kt κ lit ok b m f} hmp h1 h2 hs => by
    rcases hS b (mp_lt hmp) hs with e | e | e | e
    · exact h1 e
    · exact h2 e
    · exact Blk.ne_map hP.blk hmp e.symm
    · exact Row.ne_map hP.row hmp e
  obtain ⟨m, hm1, hmp⟩ := h.ac.mp
  obtain ⟨ml, hml, hlp⟩ := h.lg
  refine ⟨h.blk.upd hu (hb h.blk (by decide) (by decide)), ⟨⟨m, hm1, hmp.upd hu (hm hmp (fun e => hP.n2.1 e.symm) (fun e => hP.n3.1 e.symm))⟩, fun s a ha => ⟨Blk.upd (h.ac.at_ s a ha).1 hu (hb (h.ac.at_ s a ha).1 (by decide) (by decide)), hF _ (h.ac.at_ s a ha).2⟩, h.ac.inj⟩, ⟨ml, hml, hlp.upd hu (hm hlp (fun e => hP.n2.2 e.symm) (fun e => hP.n3.2 e.symm))⟩,
    h.pe.upd hu (fun k hk hs => ?_), ⟨P', by rw [he]; exact hw, hP'⟩, h.n1, ⟨hF _ h.f1.1, hF _ h.f1.2.1, hF _ h.f1.2.2⟩, fun k hk => hF k (h.f2 k hk)⟩
  rcases hS k (h.pe.lt k hk).2 hs with e | e | e | e
  · exact Row.ne_map h.pe hP.fm (e ▸ hk)
  · exact Row.ne_map h.pe hP.bm (e ▸ hk)
  · exact h.pe.ne_blk hP.blk (by decide) (e ▸ hk)
  · exact Row.ne_row hP.row h.pe (by decide) e hk
theorem growI {b : Nat} (hg : w.grownBy w' (some b)) : Upd (· = b) w w' := (Upd.refl _ _).grown hg (fun k _ e => by injection e with e; exact e.symm)
theorem setV_add {l : List Int} {k : Int} (j : Int) (h : k ∉ l) : (if j = k then some (Value.bool true) else setV l j) = setV (l ++ [k]) j := by
  unfold setV
  by_cases hj : j = k
  · subst hj; simp
  · rw [if_neg hj]
    simp [hj]
theorem setV_addL {l : List Int} {k : Int} (j : Int) : (if j = k then some (Value.bool true) else setV l j) = setV (addL l k) j := by
  by_cases h : k ∈ l
  · have : addL l k = l := if_pos h
    rw [this]
    unfold setV
    by_cases hj : j = k
    · subst hj; rw [if_pos rfl, if_pos h]
    · rw [if_neg hj]
  · have : addL l k = l ++ [k] := if_neg h
    rw [this]
    exact setV_add j h
theorem setV_some (l : List Int) (k : Int) : (setV l k).isSome = decide (k ∈ l) := by unfold setV; split <;> simp_all
theorem addL_len (l : List Int) (k : Int) : (addL l k).length = if (setV l k).isSome then l.length else l.length + 1 := by
  rw [setV_some]
  unfold addL
  by_cases h : k ∈ l <;> simp [h]
theorem setV_get (l : List Int) (k : Int) : (setV l k).getD (.bool false) = .bool (decide (k ∈ l)) := by unfold setV; split <;> simp_all
theorem PrsAt.from_ (h : PrsAt w F am lm P p) {k : Int} (hm' : MpI w' P.fm (if (setV p.fr k).isSome then p.fr.length else p.fr.length + 1) (fun j => if j = k then some (.bool true) else setV p.fr j)) (hk : k ∉ p.fr) (hu : Upd (· = P.fm) w w') : PrsAt w' F am lm P { p with fr := p.fr ++ [k] } := by
  rw [setV_some, decide_eq_false hk, if_neg (by simp)] at hm'
  exact ⟨h.blk.upd hu (fun e => Blk.ne_map h.blk h.fm e), h.row.upd hu (fun k hk e => Row.ne_map h.row h.fm (e ▸ hk)), by
    show MpI w' P.fm (p.fr ++ [k]).length (setV (p.fr ++ [k]))
    rw [List.length_append]
    exact hm'.congr fun j _ => setV_add j hk, h.bm.upd hu (fun e => h.n1 e.symm), h.n1, h.n2, h.n3, h.f1, h.f2⟩
theorem PrsAt.by_ (h : PrsAt w F am lm P p) {k : Int} (hm' : MpI w' P.bm (if (setV p.by_ k).isSome then p.by_.length else p.by_.length + 1) (fun j => if j = k then some (.bool true) else setV p.by_ j)) (hu : Upd (· = P.bm) w w') : PrsAt w' F am lm P { p with by_ := addL p.by_ k } := by
  rw [← addL_len] at hm'
  exact ⟨h.blk.upd hu (fun e => Blk.ne_map h.blk h.bm e), h.row.upd hu (fun k hk e => Row.ne_map h.row h.bm (e ▸ hk)), h.fm.upd hu (fun e => h.n1 e), hm'.congr fun j _ => setV_addL j, h.n1, h.n2, h.n3, h.f1, h.f2⟩
theorem PrsAt.new (h : PrsAt w F am lm P p) (hn : New w w') : PrsAt w' F am lm P p := h.upd (S := fun _ => False) (Upd.new hn) (fun _ _ h => h)
theorem PrsAt.pm_ (h : PrsAt w F am lm P p) {qv : Value} {pm : List Pro} (hu : Upd (fun k => P.qv.ownBlock = some k) w w2) (hr : Row w2 0 45 4 Pro.enc qv pm) :
    PrsAt (w2.setCell ⟨P.pb, 3, none⟩ qv) (fun k => F k ∨ qv.ownBlock = some k) am lm { P with qv := qv } { p with pm := pm } := by
  have hb1 := h.blk.upd hu (h.row.ne_blk h.blk (by decide))
  have hU : Upd (fun k => P.qv.ownBlock = some k ∨ k = P.pb) w (w2.setCell ⟨P.pb, 3, none⟩ qv) := (hu.mono fun _ _ h => .inl h).setCell (fun _ => .inr rfl) _
  have hm : ∀ {kt : TypeId} {κ : Type} {lit : κ → Lit} {ok : κ → Prop} {b m : Nat} {f : κ → Option Value}, MpAt Try.prog kt lit ok w b m f → ¬ (P.qv.ownBlock = some b ∨ b = P.pb) := fun hmp hh => by
    rcases hh with e | e
    · exact Row.ne_map h.row hmp e
    · exact Blk.ne_map h.blk hmp e.symm
  exact ⟨hb1.set_ 3 qv, hr.upd ((Upd.refl (· = P.pb) w2).setIn 3 qv) (fun k hk e => hr.ne_blk hb1 (by decide) (e ▸ hk)), h.fm.upd hU (hm h.fm), h.bm.upd hU (hm h.bm), h.n1, h.n2, h.n3, ⟨.inl h.f1.1, .inl h.f1.2.1, .inl h.f1.2.2⟩, fun k hk => .inr hk⟩
theorem PrsAt.val_ (h : PrsAt w F am lm P p) (v : ByteArray) : PrsAt ((w.setCell ⟨P.pb, 6, none⟩ (.string v)).setCell ⟨P.pb, 7, none⟩ (.bool true)) F am lm P { p with v := v, ch := true } := by
  have hu : Upd (· = P.pb) w ((w.setCell ⟨P.pb, 6, none⟩ (.string v)).setCell ⟨P.pb, 7, none⟩ (.bool true)) := ((Upd.refl _ w).setIn 6 _).setIn 7 _
  exact ⟨(h.blk.set_ 6 _).set_ 7 _, h.row.upd hu (fun k hk e => h.row.ne_blk h.blk (by decide) (e ▸ hk)), h.fm.upd hu (fun e => Blk.ne_map h.blk h.fm e.symm), h.bm.upd hu (fun e => Blk.ne_map h.blk h.bm e.symm), h.n1, h.n2, h.n3, h.f1, h.f2⟩
end
end Go.Proofs.Ytghhcjpilcoblaa
