/- ClusterRefuses, the walk: both halves. -/
import Derived.Test.YtlhlcdjkacglnaaGreatDoorJk30
import Derived.Test.YtlhlcdjkacglnaaGreatDoorJk31
import Derived.Test.YtlhlcdjkacglnaaGreatDoorJk1
import Derived.ProofKit
import Derived.Deep.Slices
import Derived.OpenShut
import Derived.ShutString
import Derived.ChangeOld
import Derived.Test.YtlhlcdjkacglnaaGreatDoorChecked
import Derived.Test.YtlhlcdjkacglnaaGreatDoorRows
import Derived.Test.YtlhlcdjkacglnaaGreatDoorJk29
import Derived.LaidMore
import Derived.Stop.Joined
import Derived.Lay
import Derived.Test.YtlhlcdjkacglnaaGreatDoorJk26
namespace Go.Proofs.YtlhlcdjkacglnaaGreatDoor
open Go.RowKit Go.Lap C
set_option linter.unusedVariables false
theorem refuses_walk (w : World) (henv : C.Env w) (n m : Int) (kd cl nd ms at_ to_ : Int) (st : Nat) (wv : Value) (h1 : inI cl) (h2 : inI nd) (h3 : inI ms) (h4 : inI at_) : Calls Tryz.prog 3 #[.int .i64 n, .int .i64 m, .agg #[.int .i64 kd, .int .i64 cl, .int .i64 nd, .int .i64 ms, .int .i64 at_, .int .i64 to_, .int .u64 (st : Int), wv]] w
    fun e w' => e = .returned (.bool true) ∧ New w w' := by
  cases h : decide (0 ≤ nd ∧ nd < n) with
  | true => exact refuses_walk_t w henv n m kd cl nd ms at_ to_ st wv h1 h2 h3 h4 h
  | false => exact refuses_walk_f w henv n m kd cl nd ms at_ to_ st wv h1 h2 h3 h4 h
end Go.Proofs.YtlhlcdjkacglnaaGreatDoor
/- How an argument that is read as data is opened: structs laid flat, slices of structs as lists. -/
namespace Go.Lap
open Go.ChangeShapes Go.WideShapes Go.ChangeAt Go.RowKit

def joinFlat (P : Program) (g : TypeId → Option (List TypeId)) : List Field → Nat → Option (List TypeId)
  | [], _ => some []
  | f :: fs, off => if f.offset = off then (g f.type).bind fun ks => if P.cellsOf f.type = ks.length then (joinFlat P g fs (off + ks.length)).map (ks ++ ·) else none else none

/-- The leaf types of a type, one a cell. -/
def flat (P : Program) : Nat → TypeId → Option (List TypeId)
  | 0, _ => none
  | n + 1, t => match P.underlying t with
    | some .bool => some [t]
    | some (.int _) => some [t]
    | some .string => some [t]
    | some (.slice _) => some [t]
    | some (.struct fs) => (joinFlat P (flat P n) fs.toList 0).bind fun ks => if P.cellsOf t = ks.length then some ks else none
    | _ => none

section
variable {H : Type} (enc : TypeId × Value → H) (P : Program) (w : World) (base : Nat) (spare : Nat → Bool) (held : Bool)

/-- One cell reads as a value of type t. -/
def OkL (t : TypeId) (v : Value) : Prop := ∃ fuel y, DataW.trod enc P w base spare held fuel t [v] = some y

def OkAll : List TypeId → List Value → Prop
  | [], [] => True
  | k :: ks, v :: vs => OkL enc P w base spare held k v ∧ OkAll ks vs
  | _, _ => False

variable {enc P w base spare held}
theorem OkAll.append : ∀ {ks ks' : List TypeId} {cs cs' : List Value}, OkAll enc P w base spare held ks cs → OkAll enc P w base spare held ks' cs' → OkAll enc P w base spare held (ks ++ ks') (cs ++ cs')
  | [], _, [], _, _, h' => h'
  | _ :: _, _, _ :: _, _, h, h' => ⟨h.1, OkAll.append h.2 h'⟩
  | [], _, _ :: _, _, h, _ => h.elim
  | _ :: _, _, [], _, h, _ => h.elim

theorem joinFlat_sound {g : TypeId → Option (List TypeId)} {n : Nat} {cs : List Value}
    (hg : ∀ t ks cs' x, g t = some ks → DataW.trod enc P w base spare held n t cs' = some x → OkAll enc P w base spare held ks cs') :
    ∀ (fs : List Field) (off : Nat) (ks : List TypeId), joinFlat P g fs off = some ks →
      (∀ f ∈ fs, ∃ y, DataW.trod enc P w base spare held n f.type ((cs.drop f.offset).take (P.cellsOf f.type)) = some y) → OkAll enc P w base spare held ks ((cs.drop off).take ks.length) := by
  intro fs
  induction fs with
  | nil => intro off ks h _; simp [joinFlat] at h; subst h; simp [OkAll]
  | cons f fs ih =>
    intro off ks h hf
    unfold joinFlat at h
    split at h
    case isFalse => cases h
    rename_i ho
    obtain ⟨kf, hkf, h⟩ := Option.bind_eq_some_iff.1 h
    split at h
    case isFalse => cases h
    rename_i hc
    obtain ⟨kr, hkr, rfl⟩ := Option.map_eq_some_iff.1 h
    have h2 := ih _ _ hkr (fun f' hf' => hf f' (List.mem_cons_of_mem _ hf'))
    obtain ⟨y, hy⟩ := hf f (List.mem_cons_self ..)
    have h1 := hg _ _ _ _ hkf hy
    rw [ho, hc] at h1
    have := OkAll.append h1 h2
    rw [List.length_append, List.take_add]
    rw [List.drop_drop]
    exact this

theorem flat_sound : ∀ (n : Nat) (t : TypeId) (ks : List TypeId) (fuel : Nat) (cs : List Value) (x : DataW H × List MemPlace), flat P n t = some ks →
    DataW.trod enc P w base spare held fuel t cs = some x → OkAll enc P w base spare held ks cs := by
  intro n
  induction n with
  | zero => intro t ks fuel cs x h; simp [flat] at h
  | succ n ih =>
    intro t ks fuel cs x h hx
    unfold flat at h
    split at h
    · rename_i hu; cases h; obtain ⟨b, rfl, _⟩ := DataW.trod_bool hu hx; exact ⟨⟨_, _, hx⟩, trivial⟩
    · rename_i hu; cases h; obtain ⟨b, rfl, _⟩ := DataW.trod_int hu hx; exact ⟨⟨_, _, hx⟩, trivial⟩
    · rename_i hu; cases h; obtain ⟨b, rfl, _⟩ := DataW.trod_string hu hx; exact ⟨⟨_, _, hx⟩, trivial⟩
    · rename_i hu; cases h
      rcases DataW.trod_slice hu hx with ⟨rfl, _⟩ | ⟨a, len, cap, _, _, _, _, rfl, _⟩ <;> exact ⟨⟨_, _, hx⟩, trivial⟩
    · rename_i fs hu
      obtain ⟨ks', hj, h⟩ := Option.bind_eq_some_iff.1 h
      split at h
      case isFalse => cases h
      rename_i hc
      cases h
      obtain ⟨xs, m, _, _, hlen, hxl, hf⟩ := DataW.trod_struct hu hx
      have h1 := joinFlat_sound (n := m) (cs := cs) (fun t ks cs' x hk hx => ih t ks m cs' x hk hx) _ _ _ hj (fun f hfm => by
        obtain ⟨i, hi, hfi⟩ := List.mem_iff_getElem.1 hfm
        have h2 := hf i f (by simpa [Array.getElem?_eq_some_iff] using ⟨by simpa using hi, by simpa using hfi⟩)
        rw [List.getElem?_eq_getElem (by simpa [hxl] using hi)] at h2
        exact ⟨_, h2⟩)
      rw [List.drop_zero, List.take_of_length_le (by omega)] at h1
      exact h1
    · cases h

theorem okL_int {t : TypeId} {k : IntKind} {v : Value} (ht : P.underlying t = some (.int k)) (h : OkL enc P w base spare held t v) : ∃ n, v = .int k n ∧ (Lit.int k n).wf = true := by
  obtain ⟨_, _, h⟩ := h; obtain ⟨b, hb, _, hw⟩ := DataW.trod_int ht h; cases hb; exact ⟨b, rfl, hw⟩
/-- An argument that is a struct by value. -/
theorem okAll_of_trod {t : TypeId} {fs : Array Field} {n : Nat} {ks : List TypeId} {v : Value} {r : Reach} {b0 : Nat} {d : DataW H} {p : List MemPlace} (ht : P.underlying t = some (.struct fs)) (hf : flat P n t = some ks)
    (hv : Value.okWide P w r b0 t v) (h : DataW.Trod enc P w base spare held t v d p) : ∃ cs : List Value, v = .agg cs.toArray ∧ OkAll enc P w base spare held ks cs := by
  obtain ⟨⟨cs⟩, rfl, _⟩ := okWide_struct ht hv
  obtain ⟨fuel, hx⟩ := h
  exact ⟨cs, rfl, flat_sound _ _ _ _ _ _ hf (by simpa [Value.cells] using hx)⟩
end
end Go.Lap
/- How an Act is opened. -/
namespace Go.Proofs.YtlhlcdjkacglnaaGreatDoor
open Go.ChangeShapes Go.WideShapes Go.ChangeAt Go.RowKit Go.Lap
set_option maxRecDepth 100000
section
variable {H : Type} {enc : TypeId × Value → H} {w : World} {base : Nat} {spare : Nat → Bool} {held : Bool}
theorem okL_u64D {t : TypeId} {v : Value} (ht : Tryz.prog.underlying t = some (.int .u64)) (h : OkL enc Tryz.prog w base spare held t v) : ∃ n : Nat, v = .int .u64 (n : Int) ∧ n < big := by
  obtain ⟨n, rfl, wn⟩ := okL_int ht h
  have wn : 0 ≤ n ∧ n ≤ 18446744073709551615 := by simp [Lit.wf, IntKind.min, IntKind.max, IntKind.signed, IntKind.bits] at wn; omega
  obtain ⟨m, rfl⟩ := Int.eq_ofNat_of_zero_le wn.1
  exact ⟨m, rfl, by unfold big; omega⟩
theorem decAct {cs : List Value} (h : OkAll enc Tryz.prog w base spare held [3, 3, 3, 3, 3, 3, 22, 23] cs) : ∃ (kd cl nd ms at_ to_ : Int) (st : Nat) (wv : Value), cs = [.int .i64 kd, .int .i64 cl, .int .i64 nd, .int .i64 ms, .int .i64 at_, .int .i64 to_, .int .u64 (st : Int), wv] ∧ inI cl ∧ inI nd ∧ inI ms ∧ inI at_ ∧ st < big := by
  match cs, h with
  | [a, b, c, d, e, f, g, v], ⟨ha, hb, hc, hd, he, hf, hg, hv, _⟩ =>
    obtain ⟨a, rfl, _⟩ := okL_int Tryz.underlying3 ha
    obtain ⟨b, rfl, wb⟩ := okL_int Tryz.underlying3 hb
    obtain ⟨c, rfl, wc⟩ := okL_int Tryz.underlying3 hc
    obtain ⟨d, rfl, wd⟩ := okL_int Tryz.underlying3 hd
    obtain ⟨e, rfl, we⟩ := okL_int Tryz.underlying3 he
    obtain ⟨f, rfl, _⟩ := okL_int Tryz.underlying3 hf
    obtain ⟨g, rfl, wg⟩ := okL_u64D Tryz.underlying22 hg
    exact ⟨a, b, c, d, e, f, g, v, rfl, bounds_i64 wb, bounds_i64 wc, bounds_i64 wd, bounds_i64 we, wg⟩
end
end Go.Proofs.YtlhlcdjkacglnaaGreatDoor
/- Chapter 26 (cluster): what the listed package-level variables give the walks. -/
namespace Go.Proofs.YtlhlcdjkacglnaaGreatDoor
open Go.ChangeShapes Go.WideShapes Go.ChangeAt Go.RowKit Go.Lap C
set_option linter.unusedVariables false
set_option maxRecDepth 100000

def laidL : List (String × DataW Unit) := Rows.clusterRefusesRow.laid
theorem ownK : ownKnob Tryz.prog.godebug = none := by kernel_rfl
theorem plainL {w : World} (h : laidMet Tryz.prog laidL w) : laidMetH Tryz.prog laidL w := by rw [MakeChecks.laidMetH_plain _ _ _ (by kernel_rfl)]; exact h
theorem gTab : Tryz.prog.globalNamed "internal/strconv.uint64pow10" = some 0 := by kernel_rfl
theorem gSyn : Tryz.prog.globalNamed "strconv.ErrSyntax" = some 1 := by kernel_rfl
theorem gRng : Tryz.prog.globalNamed "strconv.ErrRange" = some 2 := by kernel_rfl
theorem tTab : (Tryz.prog.globals[0]?).map (·.type) = some 313 := by kernel_rfl
theorem tSyn : (Tryz.prog.globals[1]?).map (·.type) = some 243 := by kernel_rfl
theorem tRng : (Tryz.prog.globals[2]?).map (·.type) = some 243 := by kernel_rfl
theorem tabDatum : (Rows.laid_internal_strconv_uint64pow10 : DataW Unit) = Lib.tabData .u64 Lib.pow10Tab := by kernel_rfl

/-- WHAT THE CONDITION GIVES THE WALKS. -/
theorem env_of_laid {W : World} (h : laidMetH Tryz.prog laidL W) : Env W := by
  rw [MakeChecks.laidMetH_plain _ _ _ (by kernel_rfl)] at h
  obtain ⟨ps, h, _, _⟩ := h
  obtain ⟨_, _, _, _, _, _, _, _, _, _, h, _⟩ := h
  obtain ⟨_, _, _, _, _, _, _, _, _, _, h, _⟩ := h
  obtain ⟨g0, t0, cs0, f0, p0, q0, hg0, ht0, hv0, hd0, h, _⟩ := h
  obtain ⟨_, _, _, _, _, _, _, _, _, _, h, _⟩ := h
  obtain ⟨g1, t1, cs1, f1, p1, q1, hg1, ht1, hv1, hd1, h, _⟩ := h
  obtain ⟨g2, t2, cs2, f2, p2, q2, hg2, ht2, hv2, hd2, _, _⟩ := h
  obtain rfl := Option.some.inj (gTab.symm.trans hg0)
  obtain rfl := Option.some.inj (gRng.symm.trans hg1)
  obtain rfl := Option.some.inj (gSyn.symm.trans hg2)
  obtain rfl := Option.some.inj (tTab.symm.trans ht0)
  obtain rfl := Option.some.inj (tRng.symm.trans ht1)
  obtain rfl := Option.some.inj (tSyn.symm.trans ht2)
  refine ⟨?_, ?_, ?_⟩
  · unfold Lib.TabIs
    rw [tabDatum] at hd0
    rw [hv0, ← Lib.cells_of_tab Tryz.underlying313 Tryz.underlying22 (by kernel_rfl) (by kernel_rfl) hd0]
  · obtain ⟨_, u, v, hc, _, _⟩ := iface_of_trod (by exact Tryz.underlying243) hd2
    have := World.var?_cell hg2 hv2 0
    rw [Array.eq_one_of_toList hc] at this
    exact ⟨u, v, by simpa using this⟩
  · obtain ⟨_, u, v, hc, _, _⟩ := iface_of_trod (by exact Tryz.underlying243) hd1
    have := World.var?_cell hg1 hv1 0
    rw [Array.eq_one_of_toList hc] at this
    exact ⟨u, v, by simpa using this⟩
end Go.Proofs.YtlhlcdjkacglnaaGreatDoor
