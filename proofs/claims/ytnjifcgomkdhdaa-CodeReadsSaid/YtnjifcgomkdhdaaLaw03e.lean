/- The walk of the law CodeReads (chapter 3): for every input it answers true. -/
import Derived.Test.YtnjifcgomkdhdaaRef03e
import Derived.Deep.DeepCutAuto
namespace Go.Proofs.Ytnjifcgomkdhdaa
open Go.RowKit Go.Lap
set_option linter.unusedVariables false

theorem takeF_errP (kind most : Int) (bs : List UInt8) (err : Int) (h : err ≠ 0) : takeF kind most bs err = (⟨kind, 0, str [], false, 0⟩, bs, err) := by
  have e1 : numR bs err = (0, bs, err) := by unfold numR; rw [if_neg h]
  have e2 : textR bs err = ([], bs, err) := by unfold textR; rw [if_neg (fun h1 => h h1.1)]; unfold belowErr; rw [if_neg h]
  have e3 : flagR bs err = (false, bs, err) := by unfold flagR; rw [if_neg h]
  have e4 : countR bs err most = (0, bs, err) := by unfold countR; rw [if_neg (fun h1 => h h1.1)]; unfold belowErr; rw [if_neg h]
  unfold takeF
  rw [e1, e2, e3, e4]
  split
  · rfl
  · split
    · rfl
    · split <;> rfl

theorem RdAt.updNew {S : Nat → Prop} {w w2 w3 : World} {g : Nat} {v : Value} {bs : List UInt8} {err : Int} (h : RdAt w g v bs err) (hn : New w w2) (hu : Upd S w2 w3) (hS : ∀ k, S k → w.heap.size ≤ k) : RdAt w3 g v bs err := by
  have h2 := h.new hn
  have hg := h.1.lt
  refine ⟨h2.1.upd hu (fun hs => by have := hS _ hs; omega), ?_, h2.2.2⟩
  by_cases hne : bs = []
  · subst hne
    obtain ⟨A, c, rfl, hc, _⟩ := h2.2.1
    exact ⟨A, c, rfl, hc, .inl rfl⟩
  · exact h2.2.1.upd hu (fun k hk hs => by have := hS _ hs; have := h.own_lt hne k hk; omega)

theorem Blk.set5P {w : World} {g t : Nat} {a b c d e a' b' c' d' e' : Value} (h : Blk w g t #[a, b, c, d, e]) :
    Blk (((((w.setCell ⟨g, 0, none⟩ a').setCell ⟨g, 1, none⟩ b').setCell ⟨g, 2, none⟩ c').setCell ⟨g, 3, none⟩ d').setCell ⟨g, 4, none⟩ e') g t #[a', b', c', d', e'] :=
  ((((h.set_ 0 a').set_ 1 b').set_ 2 c').set_ 3 d').set_ 4 e'
theorem Upd.set5P (w : World) (g : Nat) (a' b' c' d' e' : Value) : Upd (· = g) w (((((w.setCell ⟨g, 0, none⟩ a').setCell ⟨g, 1, none⟩ b').setCell ⟨g, 2, none⟩ c').setCell ⟨g, 3, none⟩ d').setCell ⟨g, 4, none⟩ e') :=
  (((((Upd.refl _ w).setIn 0 _).setIn 1 _).setIn 2 _).setIn 3 _).setIn 4 _

/-- A reader in work beside the document's: the same rest, and what went wrong. -/
def Same (w wr : World) (g : Nat) (s wrong : Value) : Prop := ∃ (v : Value) (bs : List UInt8) (err : Int), RdAt wr g v bs err ∧ bs.length ≤ 1000 ∧ s = .string (str bs) ∧ wrong = .int .i64 err ∧ err ≠ 31 ∧ New w wr

/-- Ahead of the take: the wanted field lies at p2. -/
def Ready (w : World) (g p1 p2 : Nat) (bs : List UInt8) (err err' : Int) (q f : Array Value) (s13 : Value) (wx : World) : Prop :=
  ∃ v, s13 = .int .i64 err' ∧ Blk wx p1 55 q ∧ Blk wx p2 55 f ∧ RdAt wx g v bs err ∧ New w wx

set_option maxRecDepth 100000 in
set_option maxHeartbeats 10000000 in
theorem codeReads_walk (s0 : ByteArray) (l : List Fld) (v0 : Value) (w : World) (hss : s0.size ≤ 140737488355328) (hl : l.length ≤ maxLen) (hs : SlIn w 5 Fld.enc v0 l) (hgood : ∀ a ∈ l, a.good) :
    Calls Try.prog 7 #[.string s0, v0] w fun e w' => e = .returned (.bool true) ∧ New w w' := by
  unfold maxLen at hl
  obtain ⟨A, c, rfl, hlc, hh⟩ := hs
  obtain ⟨b0, hb0⟩ : ∃ bs, s0 = str bs := ⟨s0.data.toList, (str_data s0).symm⟩
  subst hb0
  go_enter Try.func7, Try.ntmps7
  obtain ⟨vb, wb, hrun, hslb, hnb⟩ := run_bytesP (str b0) w
  rw [show (str b0).data.toList = b0 from by simp [str]] at hslb
  have hlen : (str b0).size = b0.length := str_size b0
  go_wp2_with fail
  refine (read_any b0 vb wb (by omega) hslb).mono ?_
  rintro e w1 ⟨g, u1, rfl, hg1, _, hr1, hn1⟩
  have hgw : w.heap.size ≤ g := Nat.le_trans hnb.size hg1
  have hN1 := hnb.trans hn1
  clear hrun hslb hnb hn1 hg1
  go_wp2_with fail
  refine (awake03 _).mono ?_
  rintro e w3 ⟨rfl, hn3⟩
  have hr3 := hr1.new hn3
  have hN3 := hN1.trans hn3
  clear hr1 hN1 hn3
  by_cases ht : b0.length ≤ 1000 ∧ l.length ≤ 50
  · obtain ⟨t1, t2⟩ := ht
    have t1' : ¬ (1000 : Int) < (b0.length : Int) := by omega
    have t2' : ¬ (50 : Int) < (l.length : Int) := by omega
    have T1 := Lib.hid t1
    clear hl hss t1
    go_wp2_with fail
    go_loopw [0, 6, 7, 8, 9, 10, 11, 12, 13] (fun s wrong i _ _ _ _ _ _ wr => ∃ k : Nat, k ≤ l.length ∧ i = .int .i64 k ∧ Same w wr g s wrong) (fun _ _ i _ _ _ _ _ _ _ => l.length - (intOf i).toNat)
    case atStart => exact ⟨0, by omega, rfl, _, b0, 0, hr3, T1.out, rfl, rfl, by decide, hN3⟩
    case round =>
      clear hr3 hN3
      obtain ⟨k, hk, rfl, v, bs, err, hr, hbl, rfl, rfl, h31, hn⟩ := hrel
      by_cases hlt : k < l.length
      · have hlt' : (k : Int) < (l.length : Int) := by omega
        have hk0 : (0 : Int) ≤ (k : Int) := by omega
        rcases hh with rfl | ⟨b, off, rfl, hbb, hc⟩
        · simp at hlt
        obtain ⟨x, hx⟩ : ∃ x, l[k]? = some x := ⟨_, List.getElem?_eq_getElem hlt⟩
        obtain ⟨_, _, _, _, x1, x2⟩ := hgood x (List.mem_of_getElem? hx)
        have hC := hn.cells.1
        have e0 : wr.cell? ⟨b, off + k * 5, none⟩ = some (.int .i64 x.kind) := (hC _ _ hbb).trans (hc k x hx 0 _ rfl)
        have e1 : wr.cell? ⟨b, off + k * 5 + 1, none⟩ = some (.int .u64 x.v) := (hC _ _ hbb).trans (hc k x hx 1 _ rfl)
        have e2 : wr.cell? ⟨b, off + k * 5 + 2, none⟩ = some (.string x.s) := (hC _ _ hbb).trans (hc k x hx 2 _ rfl)
        have e3 : wr.cell? ⟨b, off + k * 5 + 3, none⟩ = some (.bool x.yes) := (hC _ _ hbb).trans (hc k x hx 3 _ rfl)
        have e4 : wr.cell? ⟨b, off + k * 5 + 4, none⟩ = some (.int .i64 x.most) := (hC _ _ hbb).trans (hc k x hx 4 _ rfl)
        have HBL := Lib.hid hbl
        have H31 := Lib.hid h31
        have HX2 := Lib.hid x2
        have hK : ∀ wx u, RdAt wx g u bs err → _ := fun wx u hu => take_agg (x.kind % 4) x.most g u bs err wx hu (by omega) x1 x2
        clear hC hc hx hbl h31
        go_wp2_with fail
        refine (kinds_any x wr).mono ?_
        rintro e w3 ⟨rfl, hn3⟩
        have hN3 := hn.trans hn3
        have hr3 := hr.new hn3
        clear e0 e1 e2 e3 e4 hr hn hn3
        have hgr := hr3.1.lt
        by_cases he : err = 0
        · subst he
          have hT : ∀ wx, _ := fun wx => refTake_any (x.kind % 4) x.most bs wx (by omega) (Nat.le_trans HBL.out (by decide)) HX2.out
          have hkk := takeF_kind (x.kind % 4) x.most bs 0
          have hcode := takeF_code (x.kind % 4) x.most bs
          have hL := takeF_lenP (x.kind % 4) x.most bs 0
          generalize takeF (x.kind % 4) x.most bs 0 = r at hT hK hkk hcode hL
          obtain ⟨⟨fk, fv, fs, fy, fm⟩, bs', err'⟩ := r
          simp only at hT hK hkk hcode hL
          obtain ⟨rfl, rfl⟩ := hkk
          have HT := Lib.hid hT
          have HK := Lib.hid hK
          have HC := Lib.hid hcode
          have hbl' : bs'.length ≤ 1000 := Nat.le_trans hL HBL.out
          clear hT hK hcode hL
          go_wp2_with fail
          refine (HT.out _).mono ?_
          rintro e w4 ⟨rfl, hn4⟩
          have hB1 := ((Blk.mk_new w3 55 #[.int .i64 (x.kind % 4), .int .u64 (x.v : Int), .string x.s, .bool x.yes, .int .i64 x.most]).alloc (Obj.cells #[.int .i64 (x.kind % 4), .int .u64 0, .string ⟨#[]⟩, .bool false, .int .i64 0] 55)).new hn4
          have hB2 := Blk.mk_new (w3.alloc (Obj.cells #[.int .i64 (x.kind % 4), .int .u64 (x.v : Int), .string x.s, .bool x.yes, .int .i64 x.most] 55)) 55 #[.int .i64 (x.kind % 4), .int .u64 0, .string ⟨#[]⟩, .bool false, .int .i64 0]
          rw [World.size_alloc] at hB2
          have hB2' := hB2.new hn4
          have hn34 := (((New.refl w3).alloc (Obj.cells #[.int .i64 (x.kind % 4), .int .u64 (x.v : Int), .string x.s, .bool x.yes, .int .i64 x.most] 55)).alloc (Obj.cells #[.int .i64 (x.kind % 4), .int .u64 0, .string ⟨#[]⟩, .bool false, .int .i64 0] 55)).trans hn4
          obtain ⟨q0, q1, q2, q3, q4, q5, qz⟩ := Blk5F hB1
          obtain ⟨p0, p1, p2, p3, p4, p5, pz⟩ := Blk5F hB2'
          clear hB2 hn4
          go_upto_region 13 with fail
          go_cut [13] (fun s13 wx => Ready w g w3.heap.size (w3.heap.size + 1) bs 0 err' #[.int .i64 (x.kind % 4), .int .u64 (x.v : Int), .string x.s, .bool x.yes, .int .i64 x.most] #[.int .i64 (x.kind % 4), .int .u64 (fv : Int), .string fs, .bool fy, .int .i64 0] s13 wx)
          case first =>
            go_wp2_with fail
            go_meet
            have hN4 := hN3.trans hn34
            have hB3 := Blk.set5P (a' := .int .i64 (x.kind % 4)) (b' := .int .u64 (fv : Int)) (c' := .string fs) (d' := .bool fy) (e' := .int .i64 0) hB2'
            have hu := Upd.set5P w4 (w3.heap.size + 1) (.int .i64 (x.kind % 4)) (.int .u64 (fv : Int)) (.string fs) (.bool fy) (.int .i64 0)
            exact ⟨v, rfl, (hB1.upd hu (by omega)).alloc _, hB3.alloc _, (hr3.updNew hn34 hu (fun k hk => by omega)).new ((New.refl _).alloc _), (hN4.upd hu (fun k hk => by have := hN3.size; omega)).alloc _⟩
          case rest =>
            obtain ⟨vc, rfl, hB1, hB2, hrc, hNc⟩ := hcut
            obtain ⟨q0, q1, q2, q3, q4, q5, qz⟩ := Blk5F hB1
            obtain ⟨p0, p1, p2, p3, p4, p5, pz⟩ := Blk5F hB2
            have hrX : RdAt wc.drew g vc bs 0 := hrc.new (New.refl wc).drew
            have HB1 := Lib.hid hB1
            have HB2 := Lib.hid hB2
            have hg3 : g ≠ w3.heap.size := by omega
            have hg4 : g ≠ w3.heap.size + 1 := by omega
            clear hB1 hB2 hgr hr3 hN3
            go_wp2_with fail
            go_region_with (go_at_call 34; refine (HK.out _ _ hrX).mono ?_; rintro e w4 ⟨v4, rfl, hr4, hu4, hf4⟩; have hB2 := HB2.out.drew.upd hu4 (fun h => hg4 h.symm); obtain ⟨r0, r1, r2, r3, r4, r5, rz⟩ := Blk5F hB2)
            all_goals
              have hN4 := RdAt.step hNc.drew hgw hu4
              clear hu4 hf4 hrX hrc hNc q0 q1 q2 q3 q4 q5 qz p0 p1 p2 p3 p4 p5 pz r0 r1 r2 r3 r4 r5 rz hB2
              by_cases he2 : err' = 0
              · subst he2
                cases bs' with
                | nil =>
                  have hTL := str_toList []
                  go_wp2_with fail
                  refine (end_any g v4 _ _ w4 hr4 (by first | (simp; done) | omega | (have := HBL.out; omega))).mono ?_
                  rintro e w5 ⟨rfl, rfl⟩
                  rw [show endR [] 0 = 0 from by rfl]
                  go_wp2_with fail
                  refine (rest_any g v4 _ _ w4 hr4 (by first | (simp; done) | omega | (have := HBL.out; omega))).mono ?_
                  rintro e w6 ⟨u6, rfl, ho6, hn6⟩
                  have hcv := run_str w6 (Owns.slIn bEncOk ho6)
                  go_wp2_with fail
                  go_roundw
                  case rel => exact ⟨k + 1, by omega, by go_num, v4, _, _, hr4.new hn6, by first | exact hbl' | exact HBL.out, rfl, rfl, by first | decide | exact HC.out | exact H31.out, hN4.trans hn6⟩
                  case measure => simp [intOf]; omega
                | cons y ys =>
                  have hTL := str_toList (y :: ys)
                  have hbl2 : (y :: ys).length ≤ 1000000000 := Nat.le_trans hbl' (by decide)
                  go_wp2_with fail
                  refine (end_any g v4 _ _ w4 hr4 (by first | (simp; done) | omega | (have := HBL.out; omega))).mono ?_
                  rintro e w5 ⟨rfl, rfl⟩
                  rw [show endR (y :: ys) 0 = 31 from by rfl]
                  go_wp2_with fail
                  refine (rest_any g v4 _ _ w4 hr4 (by first | (simp; done) | omega | (have := HBL.out; omega))).mono ?_
                  rintro e w6 ⟨u6, rfl, ho6, hn6⟩
                  have hcv := run_str w6 (Owns.slIn bEncOk ho6)
                  go_wp2_with fail
                  go_roundw
                  case rel => exact ⟨k + 1, by omega, by go_num, v4, _, _, hr4.new hn6, by first | exact hbl' | exact HBL.out, rfl, rfl, by first | decide | exact HC.out | exact H31.out, hN4.trans hn6⟩
                  case measure => simp [intOf]; omega
              · have HNE := Lib.hid he2
                have hne2 : ((err' : Int) == 0) = false := by simpa using he2
                clear he2
                go_wp2_with fail
                refine (end_any g v4 _ _ w4 hr4 (by first | (simp; done) | omega | (have := HBL.out; omega))).mono ?_
                rintro e w5 ⟨rfl, rfl⟩
                rw [show endR bs' err' = err' from by unfold endR; exact if_neg HNE.out]
                go_wp2_with fail
                refine (rest_any g v4 _ _ w4 hr4 (by first | (simp; done) | omega | (have := HBL.out; omega))).mono ?_
                rintro e w6 ⟨u6, rfl, ho6, hn6⟩
                have hcv := run_str w6 (Owns.slIn bEncOk ho6)
                go_wp2_with fail
                go_roundw
                case rel => exact ⟨k + 1, by omega, by go_num, v4, _, _, hr4.new hn6, by first | exact hbl' | exact HBL.out, rfl, rfl, by first | decide | exact HC.out | exact H31.out, hN4.trans hn6⟩
                case measure => simp [intOf]; omega
        · have hTE := takeF_errP (x.kind % 4) x.most bs err he
          rw [hTE] at hK
          have hK' : ∀ wx u, RdAt wx g u bs err → Calls Try.prog 34 #[.pointer (some ⟨g, 0, none⟩), .int .i64 (x.kind % 4), .int .i64 x.most] wx (RdPost wx g u (.agg #[.int .i64 (x.kind % 4), .int .u64 0, .string ⟨#[]⟩, .bool false, .int .i64 0]) bs err) := hK
          have HK := Lib.hid hK'
          have hne : ((err : Int) == 0) = false := by simpa using he
          have HNE := Lib.hid he
          clear hTE hK hK' he
          go_upto_region 13 with fail
          go_cut [13] (fun s13 wx => Ready w g w3.heap.size (w3.heap.size + 1) bs err err #[.int .i64 (x.kind % 4), .int .u64 (x.v : Int), .string x.s, .bool x.yes, .int .i64 x.most] #[.int .i64 (x.kind % 4), .int .u64 0, .string ⟨#[]⟩, .bool false, .int .i64 0] s13 wx)
          case first =>
            go_wp2_with fail
            go_meet
            have hB2 := Blk.mk_new (w3.alloc (Obj.cells #[.int .i64 (x.kind % 4), .int .u64 (x.v : Int), .string x.s, .bool x.yes, .int .i64 x.most] 55)) 55 #[.int .i64 (x.kind % 4), .int .u64 0, .string ⟨#[]⟩, .bool false, .int .i64 0]
            rw [World.size_alloc] at hB2
            exact ⟨v, rfl, (Blk.mk_new w3 55 #[.int .i64 (x.kind % 4), .int .u64 (x.v : Int), .string x.s, .bool x.yes, .int .i64 x.most]).alloc _, hB2, (hr3.new ((New.refl w3).alloc _)).new ((New.refl _).alloc _), (hN3.alloc _).alloc _⟩
          case rest =>
            obtain ⟨vc, rfl, hB1, hB2, hrc, hNc⟩ := hcut
            obtain ⟨q0, q1, q2, q3, q4, q5, qz⟩ := Blk5F hB1
            obtain ⟨p0, p1, p2, p3, p4, p5, pz⟩ := Blk5F hB2
            have hrX : RdAt wc.drew g vc bs err := hrc.new (New.refl wc).drew
            have HB1 := Lib.hid hB1
            have HB2 := Lib.hid hB2
            have hg3 : g ≠ w3.heap.size := by omega
            have hg4 : g ≠ w3.heap.size + 1 := by omega
            clear hB1 hB2 hgr hr3 hN3
            go_wp2_with fail
            go_region_with (go_at_call 34; refine (HK.out _ _ hrX).mono ?_; rintro e w4 ⟨v4, rfl, hr4, hu4, hf4⟩; have hB2 := HB2.out.drew.upd hu4 (fun h => hg4 h.symm); obtain ⟨r0, r1, r2, r3, r4, r5, rz⟩ := Blk5F hB2)
            all_goals
              have hN4 := RdAt.step hNc.drew hgw hu4
              clear hu4 hf4 hrX hrc hNc q0 q1 q2 q3 q4 q5 qz p0 p1 p2 p3 p4 p5 pz r0 r1 r2 r3 r4 r5 rz hB2
              go_wp2_with fail
              refine (end_any g v4 _ _ w4 hr4 (by first | (simp; done) | omega | (have := HBL.out; omega))).mono ?_
              rintro e w5 ⟨rfl, rfl⟩
              rw [show endR bs err = err from by unfold endR; exact if_neg HNE.out]
              go_wp2_with fail
              refine (rest_any g v4 _ _ w4 hr4 (by first | (simp; done) | omega | (have := HBL.out; omega))).mono ?_
              rintro e w6 ⟨u6, rfl, ho6, hn6⟩
              have hcv := run_str w6 (Owns.slIn bEncOk ho6)
              go_wp2_with fail
              go_roundw
              case rel => exact ⟨k + 1, by omega, by go_num, v4, _, _, hr4.new hn6, by first | exact hbl' | exact HBL.out, rfl, rfl, by first | decide | exact HC.out | exact H31.out, hN4.trans hn6⟩
              case measure => simp [intOf]; omega
      · have hlt' : ¬ (k : Int) < (l.length : Int) := by omega
        go_wp2_with fail
        refine (rest_any g v bs err wr hr (by omega)).mono ?_
        rintro e w4 ⟨u4, rfl, ho4, hn4⟩
        have hcv := run_str w4 (Owns.slIn bEncOk ho4)
        go_wp2_with fail
        go_ret
        exact ⟨rfl, hn.trans hn4⟩
  · clear hr3 hh hgood
    have ht3 : 1000 < b0.length ∨ (b0.length ≤ 1000 ∧ 50 < l.length) := by omega
    clear ht
    rcases ht3 with t1 | ⟨t1, t2⟩
    · have t1' : (1000 : Int) < (b0.length : Int) := by omega
      go_wp2_with fail
      refine (awake03 _).mono ?_
      rintro e w4 ⟨rfl, hn4⟩
      go_wp2_with fail
      go_ret
      exact ⟨rfl, hN3.trans hn4⟩
    · have t1' : ¬ (1000 : Int) < (b0.length : Int) := by omega
      have t2' : (50 : Int) < (l.length : Int) := by omega
      go_wp2_with fail
      refine (awake03 _).mono ?_
      rintro e w4 ⟨rfl, hn4⟩
      go_wp2_with fail
      go_ret
      exact ⟨rfl, hN3.trans hn4⟩
end Go.Proofs.Ytnjifcgomkdhdaa
