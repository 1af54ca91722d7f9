/- The walk of the law CodeStays (chapter 3): for every input it answers true. -/
import Derived.Test.YtnjifcgomkdhdaaFld2
import Derived.Laws.IdiomStrings
import Derived.Deep.DeepCutAuto
namespace Go.Proofs.Ytnjifcgomkdhdaa
open Go.RowKit Go.Lap
set_option linter.unusedVariables false

theorem takeF_err (kind most : Int) (bs : List UInt8) (err : Int) (h : err ≠ 0) : takeF kind most bs err = (⟨kind, 0, str [], false, 0⟩, bs, err) := by
  have e1 : numR bs err = (0, bs, err) := by unfold numR; rw [if_neg h]
  have e2 : textR bs err = ([], bs, err) := by unfold textR; rw [if_neg (fun h1 => h h1.1)]; unfold belowErr; rw [if_neg h]
  have e3 : flagR bs err = (false, bs, err) := by unfold flagR; rw [if_neg h]
  have e4 : countR bs err most = (0, bs, err) := by unfold countR; rw [if_neg (fun h1 => h h1.1)]; unfold belowErr; rw [if_neg h]
  unfold takeF
  rw [e1, e2, e3, e4]
  split
  · rfl
  · split
    · rfl
    · split <;> rfl

/-- '[]byte(s)': a new row that reads as the string's bytes. -/
theorem run_bytes (s : ByteArray) (w : World) : ∃ v w', (convert 9 47 (.string s)).run Try.prog w = .ok v w' ∧ SlIn w' 1 bEnc v s.data.toList ∧ New w w' := by
  refine ⟨_, _, run_bytes_of_string w 9 47 5 s Try.underlying9 Try.underlying47 Try.underlying5, ?_, (New.refl w).drew.alloc _⟩
  have hge := grownCap_ge w s.size 0 5
  generalize grownCap w s.size 0 5 = cap at *
  have hlen : s.data.toList.length = s.size := Array.length_toList
  refine ⟨some ⟨w.heap.size, 0, none⟩, cap, by rw [hlen], by omega, .inr ⟨w.heap.size, 0, rfl, by simp, ?_⟩⟩
  intro k x hk j u hu
  have hj : j = 0 := by
    have := (List.getElem?_eq_some_iff.1 hu).1
    simp [bEnc] at this
    exact this
  subst hj
  simp [bEnc] at hu
  have hk2 := (List.getElem?_eq_some_iff.1 hk).1
  rw [hlen] at hk2
  have hb : (w.drew.alloc (.cells (bytesRow s cap) 5 ((bytesRow s cap).size, (bytesRow s cap).size + 1))).heap[w.heap.size]? = some (.cells (bytesRow s cap) 5 ((bytesRow s cap).size, (bytesRow s cap).size + 1)) := by
    show (w.heap.push _)[w.heap.size]? = _
    simp
  unfold World.cell?
  simp only [hb]
  rw [Array.getElem?_toList] at hk
  obtain ⟨hk3, hk4⟩ := Array.getElem?_eq_some_iff.1 hk
  simp [bytesRow, Array.getElem?_append, hk2, ← hu, hk4]

theorem getV_len (bs : List UInt8) : ∀ i acc, (getV i acc bs).2.2.length ≤ bs.length := by
  induction bs with
  | nil => intro i acc; simp [getV]
  | cons x xs ih =>
    intro i acc
    rw [getV]
    repeat' split
    · simp
    · simp
    · exact Nat.le_succ_of_le (ih (i + 1) (acc + (x.toNat - 128) * 128 ^ i))
theorem takeV_len (bs : List UInt8) : (takeV bs).2.2.length ≤ bs.length := getV_len bs 0 0

theorem takeF_len (kind most : Int) (bs : List UInt8) (err : Int) : (takeF kind most bs err).2.1.length ≤ bs.length := by
  have h := takeV_len bs
  unfold takeF numR textR flagR countR
  repeat' split
  all_goals first | exact Nat.le_refl _ | exact h | (simp; done) | (simp; omega)

theorem kinds_lt (n : Int) : -9223372036854775808 ≤ n % 4 ∧ n % 4 ≤ 9223372036854775807 := by omega

theorem Blk5 {w : World} {g t : Nat} {a b c d e : Value} (h : Blk w g t #[a, b, c, d, e]) : g < w.heap.size ∧ w.cell? ⟨g, 0, none⟩ = some a ∧ w.cell? ⟨g, 1, none⟩ = some b ∧ w.cell? ⟨g, 2, none⟩ = some c ∧ w.cell? ⟨g, 3, none⟩ = some d ∧ w.cell? ⟨g, 4, none⟩ = some e ∧ (∀ i, w.frozen? ⟨g, i, none⟩ = false) :=
  ⟨h.lt, h.cell 0, h.cell 1, h.cell 2, h.cell 3, h.cell 4, h.frozen⟩

theorem take_err (kind most : Int) (g : Nat) (v : Value) (bs : List UInt8) (err : Int) (w : World) (h : RdAt w g v bs err) (he : err ≠ 0) (hb : bs.length ≤ 1000000000) (hm0 : -9223372036854775808 ≤ most) (hm1 : most ≤ 9223372036854775807) :
    Calls Try.prog 34 #[.pointer (some ⟨g, 0, none⟩), .int .i64 kind, .int .i64 most] w (RdPost w g v (.agg #[.int .i64 kind, .int .u64 0, .string ⟨#[]⟩, .bool false, .int .i64 0]) bs err) := by
  have := take_any kind most g v bs err w h hb hm0 hm1
  rw [takeF_err _ _ _ _ he] at this
  exact this

/-- A reader in work: its place is new, what it holds is short. -/
def Rding (w wr : World) (g : Nat) : Prop := ∃ (v : Value) (bs : List UInt8) (err : Int), RdAt wr g v bs err ∧ bs.length ≤ 1000 ∧ New w wr

/-- What a take leaves that came too late: the field lies in a block of its own, the reader is as it was. -/
def TookErr (w : World) (g : Nat) (bs : List UInt8) (err kind : Int) (s12 : Value) (wx : World) : Prop :=
  ∃ (p : Nat) (v3 : Value), s12 = .pointer (some ⟨p, 0, none⟩) ∧ Blk wx p 55 #[.int .i64 kind, .int .u64 0, .string ⟨#[]⟩, .bool false, .int .i64 0] ∧ RdAt wx g v3 bs err ∧ New w wx

theorem tookErr_a {w wr w3 : World} {g : Nat} {bs : List UInt8} {err kind : Int} {v3 : Value} (hgw : w.heap.size ≤ g) (hn : New w wr) (hr3 : RdAt w3 g v3 bs err) (hu3 : Upd (· = g) wr.drew w3) :
    TookErr w g bs err kind (.pointer (some ⟨w3.heap.size, 0, none⟩)) (w3.alloc (.cells #[.int .i64 kind, .int .u64 0, .string ⟨#[]⟩, .bool false, .int .i64 0] 55)) :=
  ⟨_, v3, rfl, Blk.mk_new _ _ _, hr3.new ((New.refl _).alloc _), (RdAt.step hn.drew hgw hu3).alloc _⟩

theorem RdAt.keepN {S : Nat → Prop} {w W w2 w3 : World} {g : Nat} {v v2 : Value} {bs bs' : List UInt8} {err err' : Int} (h : RdAt w g v bs err) (h2 : RdAt w2 g v2 bs' err') (hf : Fr W v v2) (hne : bs = [] → bs' = []) (hS : ∀ k, S k → w.heap.size ≤ k ∧ k < W.heap.size)
    (hu : Upd S w2 w3) : RdAt w3 g v2 bs' err' := by
  have hg := h.1.lt
  refine ⟨h2.1.upd hu (fun hs => by have := hS _ hs; omega), ?_, h2.2.2⟩
  obtain ⟨A, c, hv, hc, hh⟩ := h2.2.1
  rcases hh with hh | ⟨b, off, rfl, hb, hh⟩
  · exact ⟨A, c, hv, hc, .inl hh⟩
  · by_cases hbs : bs' = []
    · exact ⟨_, c, hv, hc, .inl hbs⟩
    · refine h2.2.1.upd hu ?_
      intro k hk hs
      have h0 := hS _ hs
      rcases hf k hk with h1 | h1
      · obtain ⟨A1, c1, hv1, hc1, hh1⟩ := h.2.1
        rcases hh1 with hh1 | ⟨b1, off1, rfl, hb1, hh1⟩
        · exact hbs (hne hh1)
        · subst hv1
          simp [Value.ownBlock] at h1
          omega
      · omega

theorem Blk.set5 {w : World} {g t : Nat} {a b c d e a' b' c' d' e' : Value} (h : Blk w g t #[a, b, c, d, e]) :
    Blk (((((w.setCell ⟨g, 0, none⟩ a').setCell ⟨g, 1, none⟩ b').setCell ⟨g, 2, none⟩ c').setCell ⟨g, 3, none⟩ d').setCell ⟨g, 4, none⟩ e') g t #[a', b', c', d', e'] :=
  ((((h.set_ 0 a').set_ 1 b').set_ 2 c').set_ 3 d').set_ 4 e'

theorem tookErr_b {w wr w3 : World} {g : Nat} {bs : List UInt8} {err kind : Int} {v v3 : Value} {o : Obj} (hgw : w.heap.size ≤ g) (hn : New w wr) (hgr : g < wr.heap.size) (hr : RdAt wr g v bs err) (hr3 : RdAt w3 g v3 bs err) (hu3 : Upd (· = g) (wr.drew.alloc o) w3)
    (hf3 : Fr (wr.drew.alloc o) v v3) {a b c d e : Value} (hq : Blk w3 wr.heap.size 55 #[a, b, c, d, e]) :
    TookErr w g bs err kind (.pointer (some ⟨wr.heap.size, 0, none⟩)) (((((w3.setCell ⟨wr.heap.size, 0, none⟩ (.int .i64 kind)).setCell ⟨wr.heap.size, 1, none⟩ (.int .u64 0)).setCell ⟨wr.heap.size, 2, none⟩ (.string ⟨#[]⟩)).setCell ⟨wr.heap.size, 3, none⟩ (.bool false)).setCell ⟨wr.heap.size, 4, none⟩ (.int .i64 0)) := by
  have hu : Upd (· = wr.heap.size) w3 (((((w3.setCell ⟨wr.heap.size, 0, none⟩ (.int .i64 kind)).setCell ⟨wr.heap.size, 1, none⟩ (.int .u64 0)).setCell ⟨wr.heap.size, 2, none⟩ (.string ⟨#[]⟩)).setCell ⟨wr.heap.size, 3, none⟩ (.bool false)).setCell ⟨wr.heap.size, 4, none⟩ (.int .i64 0)) :=
    (((((Upd.refl _ w3).setIn 0 _).setIn 1 _).setIn 2 _).setIn 3 _).setIn 4 _
  refine ⟨_, v3, rfl, Blk.set5 hq, RdAt.keepN (S := (· = wr.heap.size)) hr hr3 hf3 id (fun k hk => by subst hk; simp) hu, (RdAt.step (hn.drew.alloc o) hgw hu3).upd hu (fun i hi => by have := hn.size; omega)⟩

set_option maxRecDepth 100000 in
set_option maxHeartbeats 4000000 in
theorem codeStays_walk (s : ByteArray) (l more : List Fld) (v0 v1 : Value) (w : World) (hss : s.size ≤ 140737488355328) (hl : l.length ≤ maxLen) (hs : SlIn w 5 Fld.enc v0 l) (hgood : ∀ a ∈ l, a.good) (hl2 : more.length ≤ maxLen) (hs2 : SlIn w 5 Fld.enc v1 more) (hgood2 : ∀ a ∈ more, a.good) :
    Calls Try.prog 10 #[.string s, v0, v1] w fun e w' => e = .returned (.bool true) ∧ New w w' := by
  unfold maxLen at hl hl2
  obtain ⟨A, c, rfl, hlc, hh⟩ := hs
  obtain ⟨A2, c2, rfl, hlc2, hh2⟩ := hs2
  go_enter Try.func10, Try.ntmps10
  obtain ⟨vb, wb, hrun, hslb, hnb⟩ := run_bytes s w
  have hlen : s.data.toList.length = s.size := Array.length_toList
  go_wp2_with fail
  refine (read_any s.data.toList vb wb (by omega) hslb).mono ?_
  rintro e w1 ⟨g, u1, rfl, hg1, _, hr1, hn1⟩
  have hgw : w.heap.size ≤ g := Nat.le_trans hnb.size hg1
  have hN1 := hnb.trans hn1
  clear hrun hslb hnb hn1 hg1
  go_wp2_with fail
  refine (awake03 _).mono ?_
  rintro e w2 ⟨rfl, hn2⟩
  have hr2 := hr1.new hn2
  have hN2 := hN1.trans hn2
  clear hr1 hN1 hn2
  by_cases ht : s.size ≤ 1000 ∧ l.length ≤ 50 ∧ more.length ≤ 50
  · obtain ⟨t1, t2, t3⟩ := ht
    have t1' : ¬ (1000 : Int) < (s.size : Int) := by omega
    have t2' : ¬ (50 : Int) < (l.length : Int) := by omega
    have t3' : ¬ (50 : Int) < (more.length : Int) := by omega
    have T1 := Lib.hid t1
    clear hl hl2 hss t1
    go_wp2_with fail
    go_loopw [8] (fun i wr => ∃ k : Nat, k ≤ l.length ∧ i = .int .i64 k ∧ Rding w wr g) (fun i _ => l.length - (intOf i).toNat)
    case atStart => exact ⟨0, by omega, rfl, _, _, _, hr2, by rw [hlen]; exact T1.out, hN2⟩
    case round =>
      obtain ⟨k, hk, rfl, v, bs, err, hr, hb, hn⟩ := hrel
      have HB := Lib.hid hb
      by_cases hlt : k < l.length
      · have hlt' : (k : Int) < (l.length : Int) := by omega
        have hk0 : (0 : Int) ≤ (k : Int) := by omega
        rcases hh with rfl | ⟨b, off, rfl, hbb, hc⟩
        · simp at hlt
        obtain ⟨x, hx⟩ : ∃ x, l[k]? = some x := ⟨_, List.getElem?_eq_getElem hlt⟩
        obtain ⟨_, _, _, _, x1, x2⟩ := hgood x (List.mem_of_getElem? hx)
        have hC := hn.cells.1
        have e0 : wr.cell? ⟨b, off + k * 5, none⟩ = some (.int .i64 x.kind) := (hC _ _ hbb).trans (hc k x hx 0 _ rfl)
        have e4 : wr.cell? ⟨b, off + k * 5 + 4, none⟩ = some (.int .i64 x.most) := (hC _ _ hbb).trans (hc k x hx 4 _ rfl)
        have a3 := and3 x.kind
        clear hC hc hx hb
        go_wp2_with fail
        go_region_with (go_at_call 34; refine (take_any (x.kind % 4) x.most g v bs err _ (hr.new (New.refl wr).drew) (by have := HB.out; omega) x1 x2).mono ?_; rintro e w3 ⟨v3, rfl, hr3, hu3, hf3⟩)
        all_goals
          have hN3 := RdAt.step (hn.trans (New.refl wr).drew) hgw hu3
          have hL3 := takeF_len (x.kind % 4) x.most bs err
          go_wp2_with fail
          go_roundw
          case rel => exact ⟨k + 1, by omega, by go_num, _, _, _, hr3, Nat.le_trans hL3 HB.out, hN3⟩
          case measure => simp [intOf]; omega
      · have hlt' : ¬ (k : Int) < (l.length : Int) := by omega
        clear hh hb
        have hrD : RdAt wr.drew g v bs err := hr.new (New.refl wr).drew
        go_wp2_with fail
        go_region_with (first
          | (go_at_call 35; refine (end_any g v bs err _ hrD (by have := HB.out; omega)).mono ?_; rintro e w3 ⟨rfl, rfl⟩)
          | (go_at_call 36; refine (rest_any g v bs err _ hrD (by have := HB.out; omega)).mono ?_; rintro e w4 ⟨u4, rfl, ho4, hn4⟩; have hcv := run_str w4 (Owns.slIn bEncOk ho4)))
        all_goals
          have hr4 := hrD.new hn4
          have hN4 := hn.trans ((New.refl wr).drew.trans hn4)
          clear hcv ho4 hrD hr hn
          by_cases he : endR bs err = 0 ∨ endR bs err = 31
          · have he' : (endR bs err == 0 || endR bs err == 31) = true := by rcases he with h | h <;> simp [h]
            rcases he with he | he
            · rw [he]
              go_wp2_with fail
              go_ret
              exact ⟨rfl, hN4⟩
            · rw [he]
              go_wp2_with fail
              go_ret
              exact ⟨rfl, hN4⟩
          · have he1 : (endR bs err == 0) = false := by simp; omega
            have he2 : (endR bs err == 31) = false := by simp; omega
            have he0 : err ≠ 0 := by
              intro h0
              apply he
              unfold endR
              rw [if_pos h0]
              split
              · exact .inl rfl
              · exact .inr rfl
            have HE := Lib.hid he0
            clear he he0
            generalize hEE : endR bs err = ee at he1 he2 ⊢
            go_wp2_with fail
            go_loopw [11, 12] (fun i _ wr => ∃ (k : Nat) (v : Value), k ≤ more.length ∧ i = .int .i64 k ∧ RdAt wr g v bs err ∧ New w wr) (fun i _ _ => more.length - (intOf i).toNat)
            case atStart => exact ⟨0, _, by omega, rfl, hr4, hN4⟩
            case round =>
              clear hr4 hN4
              obtain ⟨k, v, hk, rfl, hr, hn⟩ := hrel
              by_cases hlt : k < more.length
              · have hlt' : (k : Int) < (more.length : Int) := by omega
                have hk0 : (0 : Int) ≤ (k : Int) := by omega
                rcases hh2 with rfl | ⟨b, off, rfl, hbb, hc⟩
                · simp at hlt
                obtain ⟨x, hx⟩ : ∃ x, more[k]? = some x := ⟨_, List.getElem?_eq_getElem hlt⟩
                obtain ⟨_, _, _, _, x1, x2⟩ := hgood2 x (List.mem_of_getElem? hx)
                have hC := hn.cells.1
                have f0 : w.cell? ⟨b, off + k * 5, none⟩ = some (.int .i64 x.kind) := hc k x hx 0 _ rfl
                have e0 : wr.cell? ⟨b, off + k * 5, none⟩ = some (.int .i64 x.kind) := (hC _ _ hbb).trans f0
                have e4 : wr.cell? ⟨b, off + k * 5 + 4, none⟩ = some (.int .i64 x.most) := (hC _ _ hbb).trans (hc k x hx 4 _ rfl)
                have F0 := Lib.hid f0
                have a3 := and3 x.kind
                clear hC hc hx f0
                have hrD : RdAt wr.drew g v bs err := hr.new (New.refl wr).drew
                have hrA : RdAt (wr.drew.alloc (Obj.cells #[.int .i64 0, .int .u64 0, .string ⟨#[]⟩, .bool false, .int .i64 0] 55)) g v bs err := hr.new ((New.refl wr).drew.alloc _)
                have hgr := hr.1.lt
                have hbr : b < wr.heap.size := Nat.lt_of_lt_of_le hbb hn.size
                go_upto_region 14 with fail
                go_cut [12] (fun s12 wx => TookErr w g bs err (x.kind % 4) s12 wx)
                case first =>
                  go_region_with (first
                    | (go_at_call 34; refine (take_err (x.kind % 4) x.most g v bs err wr.drew hrD HE.out (Nat.le_trans HB.out (by decide)) x1 x2).mono ?_; rintro e w3 ⟨v3, rfl, hr3, hu3, hf3⟩)
                    | (go_at_call 34; refine (take_err (x.kind % 4) x.most g v bs err _ hrA HE.out (Nat.le_trans HB.out (by decide)) x1 x2).mono ?_; rintro e w3 ⟨v3, rfl, hr3, hu3, hf3⟩; have hq : Blk w3 wr.heap.size 55 #[.int .i64 0, .int .u64 0, .string ⟨#[]⟩, .bool false, .int .i64 0] := Blk.upd (Blk.mk_new wr.drew 55 #[.int .i64 0, .int .u64 0, .string ⟨#[]⟩, .bool false, .int .i64 0]) hu3 (fun e => absurd (e ▸ hgr) (Nat.lt_irrefl _)); obtain ⟨q0, q1, q2, q3, q4, q5, qz⟩ := Blk5 hq))
                  all_goals
                    go_wp2_with fail
                    go_meet
                    first
                    | (with_reducible exact tookErr_b hgw hn hgr hr hr3 hu3 hf3 hq)
                    | (with_reducible exact tookErr_a hgw hn hr3 hu3)
                case rest =>
                  obtain ⟨p, v3, rfl, hB, hr3, hn3⟩ := hcut
                  obtain ⟨q0, q1, q2, q3, q4, q5, qz⟩ := Blk5 hB
                  have hC := hn3.cells.1
                  have d0 : wc.cell? ⟨b, off + k * 5, none⟩ = some (.int .i64 x.kind) := (hC _ _ hbb).trans F0.out
                  have hrX : RdAt wc.drew g v3 bs err := hr3.new (New.refl wc).drew
                  have HEE := Lib.hid hEE
                  clear hC e0 e4 hr hrD hrA hgr hbr hEE hB
                  go_wp2_with fail
                  go_region_with (first
                    | (go_at_call 35; refine (end_any g v3 bs err _ hrX (by have := HB.out; omega)).mono ?_; rw [HEE.out]; rintro e w4 ⟨rfl, rfl⟩)
                    | (go_at_call 36; refine (rest_any g v3 bs err _ hrX (by have := HB.out; omega)).mono ?_; rintro e w4 ⟨u4, rfl, ho4, hn4⟩; have hcv := run_str w4 (Owns.slIn bEncOk ho4)))
                  all_goals
                    have hr5 := hrX.new hn4
                    have hN5 := hn3.trans ((New.refl wc).drew.trans hn4)
                    clear hcv ho4 hrX hr3 hn3 hn4
                    go_wp2_with fail
                    go_roundw
                    case rel => exact ⟨k + 1, _, by omega, by go_num, hr5, hN5⟩
                    case measure => simp [intOf]; omega
              · have hlt' : ¬ (k : Int) < (more.length : Int) := by omega
                go_wp2_with fail
                go_ret
                exact ⟨rfl, hn⟩
  · clear hr2 hh hh2 hgood hgood2
    have ht3 : 1000 < s.size ∨ (s.size ≤ 1000 ∧ 50 < l.length) ∨ (s.size ≤ 1000 ∧ l.length ≤ 50 ∧ 50 < more.length) := by omega
    clear ht
    rcases ht3 with t1 | ⟨t1, t2⟩ | ⟨t1, t2, t3⟩
    · have t1' : (1000 : Int) < (s.size : Int) := by omega
      go_wp2_with fail
      refine (awake03 _).mono ?_
      rintro e w3 ⟨rfl, hn3⟩
      go_wp2_with fail
      go_ret
      exact ⟨rfl, hN2.trans hn3⟩
    · have t1' : ¬ (1000 : Int) < (s.size : Int) := by omega
      have t2' : (50 : Int) < (l.length : Int) := by omega
      go_wp2_with fail
      refine (awake03 _).mono ?_
      rintro e w3 ⟨rfl, hn3⟩
      go_wp2_with fail
      go_ret
      exact ⟨rfl, hN2.trans hn3⟩
    · have t1' : ¬ (1000 : Int) < (s.size : Int) := by omega
      have t2' : ¬ (50 : Int) < (l.length : Int) := by omega
      have t3' : (50 : Int) < (more.length : Int) := by omega
      go_wp2_with fail
      refine (awake03 _).mono ?_
      rintro e w3 ⟨rfl, hn3⟩
      go_wp2_with fail
      go_ret
      exact ⟨rfl, hN2.trans hn3⟩
end Go.Proofs.Ytnjifcgomkdhdaa
