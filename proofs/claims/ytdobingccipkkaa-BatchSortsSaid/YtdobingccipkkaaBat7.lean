/- Chapter 5 (batch): a reader beside a batch in work. -/
import Derived.Test.YtdobingccipkkaaBat5
namespace Go.Proofs.Ytdobingccipkkaa
open Go.RowKit Go.Lap
set_option linter.unusedVariables false

theorem wTy : SlTy Try.prog 23 43 (.agg #[.string ⟨#[]⟩, .string ⟨#[]⟩, .bool false]) 3 40 := ⟨Try.underlying23, by kernel_rfl, rfl, by decide⟩

/-- The reader's bytes do not lie in the slice's block. -/
def OffV (vO u : Value) (bs : List UInt8) : Prop := bs = [] ∨ ∀ k, u.ownBlock = some k → vO.ownBlock ≠ some k

/-- A batch in work at p, beside a reader at g. -/
structure GS (w0 wr : World) (g p : Nat) (n1 n2 n3 : Nat) (u : Value) (bs : List UInt8) (err : Int) (vO : Value) (acc : List Wri) : Prop where
  rd : RdAt wr g u bs err
  blk : Blk wr p 25 #[.int .u64 (n1 : Int), .int .u64 (n2 : Int), .int .u64 (n3 : Int), vO]
  own : Owns wr (p + 1) 43 3 Wri.enc vO acc
  off : Off p u bs
  offV : OffV vO u bs
  new : New w0 wr
  gp : g < p
  wp : w0.heap.size ≤ g

section
variable {w0 wr w' : World} {g p n1 n2 n3 : Nat} {u u' vO : Value} {bs bs' : List UInt8} {err err' : Int} {acc : List Wri}

theorem GS.read (h : GS w0 wr g p n1 n2 n3 u bs err vO acc) (hr : RdAt w' g u' bs' err') (hu : Upd (· = g) wr w') (hf : Fr wr u u') (hl : bs'.length ≤ bs.length) : GS w0 w' g p n1 n2 n3 u' bs' err' vO acc := by
  have hgp := h.gp
  refine ⟨hr, h.blk.upd hu (by omega), h.own.upd hu (fun k hk e => by have := (h.own.lt k hk).1; omega), h.off.read hf h.blk.lt hl, ?_, h.new.upd hu (fun i hi => by have := h.wp; omega), h.gp, h.wp⟩
  rcases h.offV with rfl | ho
  · exact .inl (List.eq_nil_of_length_eq_zero (by simpa using hl))
  · right
    intro k hk hv
    rcases hf k hk with h1 | h1
    · exact ho k h1 hv
    · have := (h.own.lt k hv).2
      omega
theorem GS.keep (h : GS w0 wr g p n1 n2 n3 u bs err vO acc) (hn : New wr w') : GS w0 w' g p n1 n2 n3 u bs err vO acc :=
  ⟨h.rd.new hn, h.blk.new hn, h.own.new hn, h.off, h.offV, h.new.trans hn, h.gp, h.wp⟩
/-- A store into a block of the round's own. -/
theorem GS.far (h : GS w0 wr g p n1 n2 n3 u bs err vO acc) {x : Nat} (hx : Off x u bs) (hp : p < x) (hv : vO.ownBlock ≠ some x) (i : Nat) (c : Value) : GS w0 (wr.setCell ⟨x, i, none⟩ c) g p n1 n2 n3 u bs err vO acc := by
  have hgp := h.gp
  have hu : Upd (· = x) wr (wr.setCell ⟨x, i, none⟩ c) := (Upd.refl _ wr).setIn i c
  exact ⟨h.rd.off hx hu (by omega) (fun k hk => hk), h.blk.upd hu (by omega), h.own.upd hu (fun k hk e => hv (by rw [hk, e])), h.off, h.offV, h.new.upd hu (fun k hk => by have := h.wp; omega), h.gp, h.wp⟩
theorem GS.blkG (h : GS w0 wr g p n1 n2 n3 u bs err vO acc) (hg : wr.grownBy w' vO.ownBlock) : Blk w' p 25 #[.int .u64 (n1 : Int), .int .u64 (n2 : Int), .int .u64 (n3 : Int), vO] :=
  h.blk.upd ((Upd.refl _ wr).grown (S := fun k => vO.ownBlock = some k) hg (fun k _ hk => hk)) (fun e => by have := (h.own.lt p e).1; omega)
theorem GS.resG (h : GS w0 wr g p n1 n2 n3 u bs err vO acc) (hg : wr.grownBy w' vO.ownBlock) {R t : Nat} {cs : Array Value} (hR : Blk wr R t cs) (hl : R < p) : Blk w' R t cs :=
  hR.upd ((Upd.refl _ wr).grown (S := fun k => vO.ownBlock = some k) hg (fun k _ hk => hk)) (fun e => by have := (h.own.lt R e).1; omega)
/-- One more write is appended, and the slice laid back. -/
theorem GS.app (h : GS w0 wr g p n1 n2 n3 u bs err vO acc) {v' : Value} {x : Wri} (ho : Owns w' (p + 1) 43 3 Wri.enc v' (acc ++ [x])) (hg : wr.grownBy w' vO.ownBlock) (hv : v'.ownBlock = vO.ownBlock ∨ v'.ownBlock = some wr.heap.size) :
    GS w0 (w'.setCell ⟨p, 3, none⟩ v') g p n1 n2 n3 u bs err v' (acc ++ [x]) := by
  have hgp := h.gp
  have hwp := h.wp
  have hP := h.blk.lt
  have hu1 : Upd (fun k => vO.ownBlock = some k) wr w' := (Upd.refl _ wr).grown hg (fun k _ hk => hk)
  have hb1 := h.blk.upd hu1 (fun e => by have := (h.own.lt p e).1; omega)
  have hu2 : Upd (· = p) w' (w'.setCell ⟨p, 3, none⟩ v') := (Upd.refl _ w').setIn 3 v'
  have hr1 : RdAt w' g u bs err := by
    refine ⟨h.rd.1.upd hu1 (fun e => by have := (h.own.lt g e).1; omega), ?_, h.rd.2.2⟩
    rcases h.offV with rfl | ho
    · obtain ⟨A, c, rfl, hc, _⟩ := h.rd.2.1
      exact ⟨A, c, rfl, hc, .inl rfl⟩
    · exact h.rd.2.1.upd hu1 (fun k hk hs => ho k hk hs)
  refine ⟨hr1.off h.off hu2 (by omega) (fun k hk => hk), hb1.set_ 3 v', ho.upd hu2 (fun k hk e => by have := (ho.lt k hk).1; omega), h.off, ?_, ?_, h.gp, h.wp⟩
  · by_cases hne : bs = []
    · exact .inl hne
    · right
      intro k hk hk'
      rcases hv with e | e
      · rcases h.offV with h1 | h1
        · exact hne h1
        · exact h1 k hk (by rw [← e]; exact hk')
      · have := h.rd.own_lt hne k hk
        rw [e] at hk'
        injection hk' with hk'
        omega
  · exact (h.new.upd hu1 (fun k hk => by have := (h.own.lt k hk).1; omega)).upd hu2 (fun k hk => by omega)
end

/-- One write read. -/
def rdW (bs : List UInt8) (err : Int) : Wri × List UInt8 × Int :=
  let r1 := textR bs err
  let r2 := flagR r1.2.1 r1.2.2
  if r2.1 = true then (⟨str r1.1, str [], true⟩, r2.2) else
    let r3 := textR r2.2.1 r2.2.2
    (⟨str r1.1, str r3.1, false⟩, r3.2)
def rdWs : Nat → List UInt8 → Int → List Wri × List UInt8 × Int
  | 0, bs, err => ([], bs, err)
  | n + 1, bs, err => ((rdW bs err).1 :: (rdWs n (rdW bs err).2.1 (rdW bs err).2.2).1, (rdWs n (rdW bs err).2.1 (rdW bs err).2.2).2)

/-- A batch as it is read. -/
structure BatR where
  c : Nat
  r : Nat
  s : Nat
  l : List Wri

/-- The batch of bytes, as the code reads it. -/
def getC (bs : List UInt8) : Option BatR :=
  let r1 := numR bs 0
  let r2 := numR r1.2.1 r1.2.2
  let r3 := numR r2.2.1 r2.2.2
  let r4 := countR r3.2.1 r3.2.2 8
  let ws := rdWs r4.1 r4.2.1 r4.2.2
  if endR ws.2.1 ws.2.2 = 0 then if chk ws.1 = 0 then some ⟨r1.1, r2.1, r3.1, ws.1⟩ else none else none

theorem countR_lenE (bs : List UInt8) (err most : Int) : (countR bs err most).2.1.length ≤ bs.length := by simpa [takeF] using takeF_lenP 3 most bs err
end Go.Proofs.Ytdobingccipkkaa
