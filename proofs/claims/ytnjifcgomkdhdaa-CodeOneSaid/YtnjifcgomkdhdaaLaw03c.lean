/- The walk of the law CodeOne (chapter 3): for every input it answers true. -/
import Derived.Test.YtnjifcgomkdhdaaCodeP2
namespace Go.Proofs.Ytnjifcgomkdhdaa
open Go.RowKit Go.Lap
set_option linter.unusedVariables false

/-- A reader and a writer in work: what was taken is put. -/
def Both (w wr : World) (g g2 : Nat) (s : ByteArray) : Prop := ∃ (v v2 : Value) (bs ws : List UInt8), RdAt wr g v bs 0 ∧ WrAt wr w.heap.size g2 v2 ws 0 ∧ Apart g2 v2 v bs ∧ ws ++ bs = s.data.toList ∧ New w wr

set_option maxRecDepth 100000 in
set_option maxHeartbeats 4000000 in
theorem codeOne_walk (s : ByteArray) (l : List Fld) (v0 : Value) (w : World) (hss : s.size ≤ 140737488355328) (hl : l.length ≤ maxLen) (hs : SlIn w 5 Fld.enc v0 l) (hgood : ∀ a ∈ l, a.good) :
    Calls Try.prog 9 #[.string s, v0] w fun e w' => e = .returned (.bool true) ∧ New w w' := by
  unfold maxLen at hl
  obtain ⟨A, c, rfl, hlc, hh⟩ := hs
  go_enter Try.func9, Try.ntmps9
  obtain ⟨vb, wb, hrun, hslb, hnb⟩ := run_bytesP s w
  have hlen : s.data.toList.length = s.size := Array.length_toList
  go_wp2_with fail
  refine (read_any s.data.toList vb wb (by omega) hslb).mono ?_
  rintro e w1 ⟨g, u1, rfl, hg1, _, hr1, hn1⟩
  have hgw : w.heap.size ≤ g := Nat.le_trans hnb.size hg1
  have hN1 := hnb.trans hn1
  clear hrun hslb hnb hn1 hg1
  go_wp2_with fail
  refine (write_any _).mono ?_
  rintro e w2 ⟨rfl, hw2, hn2⟩
  have hN2 := hN1.trans hn2
  have hap : Apart w1.heap.size (.slice none 0 0) u1 s.data.toList := by
    by_cases hne : s.data.toList = []
    · exact .inl hne
    · refine .inr fun k hk => ?_
      have := hr1.own_lt hne k hk
      rintro (h1 | h1)
      · omega
      · simp [Value.ownBlock] at h1
  have hr2 := hr1.new hn2
  have hw2' : WrAt w2 w.heap.size w1.heap.size (.slice none 0 0) [] 0 := ⟨hN1.size, hw2.2.1, hw2.2.2.lower hN1.size⟩
  generalize w1.heap.size = g2 at hw2' hap ⊢
  clear hr1 hN1 hn2 hw2
  go_wp2_with fail
  refine (awake03 _).mono ?_
  rintro e w3 ⟨rfl, hn3⟩
  have hr3 := hr2.new hn3
  have hw3 := hw2'.new hn3
  have hN3 := hN2.trans hn3
  clear hr2 hw2' hN2 hn3
  by_cases ht : s.size ≤ 1000 ∧ l.length ≤ 50
  · obtain ⟨t1, t2⟩ := ht
    have t1' : ¬ (1000 : Int) < (s.size : Int) := by omega
    have t2' : ¬ (50 : Int) < (l.length : Int) := by omega
    have T1 := Lib.hid t1
    clear hl hss t1
    go_wp2_with fail
    go_loopw [7, 8, 9, 10] (fun i _ _ _ wr => ∃ k : Nat, k ≤ l.length ∧ i = .int .i64 k ∧ Both w wr g g2 s) (fun i _ _ _ _ => l.length - (intOf i).toNat)
    case atStart => exact ⟨0, by omega, rfl, _, _, _, _, hr3, hw3, hap, rfl, hN3⟩
    case round =>
      clear hr3 hw3 hap hN3
      obtain ⟨k, hk, rfl, v, v2, bs, ws, hr, hw, hap, hsum, hn⟩ := hrel
      have hlen2 : ws.length + bs.length ≤ 1000 := by
        have := congrArg List.length hsum
        rw [List.length_append, hlen] at this
        have := T1.out
        omega
      by_cases hlt : k < l.length
      · have hlt' : (k : Int) < (l.length : Int) := by omega
        have hk0 : (0 : Int) ≤ (k : Int) := by omega
        rcases hh with rfl | ⟨b, off, rfl, hbb, hc⟩
        · simp at hlt
        obtain ⟨x, hx⟩ : ∃ x, l[k]? = some x := ⟨_, List.getElem?_eq_getElem hlt⟩
        obtain ⟨_, _, _, _, x1, x2⟩ := hgood x (List.mem_of_getElem? hx)
        have hC := hn.cells.1
        have e0 : wr.cell? ⟨b, off + k * 5, none⟩ = some (.int .i64 x.kind) := (hC _ _ hbb).trans (hc k x hx 0 _ rfl)
        have e1 : wr.cell? ⟨b, off + k * 5 + 1, none⟩ = some (.int .u64 x.v) := (hC _ _ hbb).trans (hc k x hx 1 _ rfl)
        have e2 : wr.cell? ⟨b, off + k * 5 + 2, none⟩ = some (.string x.s) := (hC _ _ hbb).trans (hc k x hx 2 _ rfl)
        have e3 : wr.cell? ⟨b, off + k * 5 + 3, none⟩ = some (.bool x.yes) := (hC _ _ hbb).trans (hc k x hx 3 _ rfl)
        have e4 : wr.cell? ⟨b, off + k * 5 + 4, none⟩ = some (.int .i64 x.most) := (hC _ _ hbb).trans (hc k x hx 4 _ rfl)
        have HS := Lib.hid hsum
        clear hC hc hx hsum
        go_wp2_with fail
        refine (kinds_any x wr).mono ?_
        rintro e w3 ⟨rfl, hn3⟩
        have hN3 := hn.trans hn3
        have hr3 := hr.new hn3
        have hw3 := hw.new hn3
        clear e0 e1 e2 e3 e4 hr hw hn hn3
        have hnA := (New.refl w3).alloc (Obj.cells #[.int .i64 (x.kind % 4), .int .u64 (x.v : Int), .string x.s, .bool x.yes, .int .i64 x.most] 55)
        have hrA := hr3.new hnA
        have hwA := hw3.new hnA
        have hNA := hN3.trans hnA
        clear hr3 hw3 hN3 hnA
        go_wp2_with fail
        refine (take_agg (x.kind % 4) x.most g v bs 0 _ hrA (by omega) x1 x2).mono ?_
        rintro e w4 ⟨v4, rfl, hr4, hu4, hf4⟩
        have hkk := (takeF_kind (x.kind % 4) x.most bs 0)
        have hcode := takeF_code (x.kind % 4) x.most bs
        have hback := takeF_back (x.kind % 4) x.most bs (by omega)
        have hL := takeF_lenP (x.kind % 4) x.most bs 0
        generalize takeF (x.kind % 4) x.most bs 0 = r at *
        obtain ⟨⟨fk, fv, fs, fy, fm⟩, bs', err'⟩ := r
        simp only at *
        obtain ⟨rfl, rfl⟩ := hkk
        have hN4 := RdAt.step hNA hgw hu4
        have hw4 := WrAt.take hrA hwA hu4
        have hap4 := Apart.take hwA hap hf4 hL
        have HBack := Lib.hid hback
        have HCode := Lib.hid hcode
        clear hback hcode hap hwA hrA hNA hu4 hf4
        have hnB := (New.refl w4).alloc (Obj.cells #[.int .i64 (x.kind % 4), .int .u64 (fv : Int), .string fs, .bool fy, .int .i64 0] 55)
        have hr5 := hr4.new hnB
        have hw5 := hw4.new hnB
        have hN5 := hN4.trans hnB
        clear hr4 hw4 hN4 hnB
        go_wp2_with fail
        refine (end_any g v4 bs' err' _ hr5 (by omega)).mono ?_
        rintro e w6 ⟨rfl, rfl⟩
        by_cases hend : endR bs' err' = 0 ∨ endR bs' err' = 31
        · have he0 := endR_ok HCode.out hend
          subst he0
          obtain ⟨b1, b2, b3⟩ := HBack.out rfl
          have B1 := Lib.hid b1
          have B2 := Lib.hid b2
          have B3 := Lib.hid b3
          clear b1 b2 b3
          have hE1 : (endR bs' 0 != 0 && endR bs' 0 != 31) = false := by rcases hend with h | h <;> simp [h]
          rcases hend with hend | hend
          all_goals
            rw [hend]
            clear hE1
            go_wp2_with fail
            refine (put_any w.heap.size g2 v2 ws 0 ⟨x.kind % 4, fv, fs, fy, 0⟩ _ hw5 (by omega) ⟨B1.out, Nat.le_trans B2.out (by decide), by show _ ≤ x.kind % 4 ∧ x.kind % 4 ≤ _ ∧ _; exact ⟨by omega, by omega, by show (-9223372036854775808 : Int) ≤ 0; decide, by show (0 : Int) ≤ 9223372036854775807; decide⟩⟩).mono ?_
            rintro e w7 ⟨v7, rfl, hw7, hu7, hf7⟩
            rw [putF_enc _ _ B2.out] at hw7
            have hr7 := hr5.put hw5 hap4 hu7
            have hap7 := Apart.put (base := 0) (ws := []) (e2 := 0) hr5 hap4 hf7
            have hN7 := hw5.step hN5 hu7
            go_wp2_with fail
            go_roundw
            case rel => exact ⟨k + 1, by omega, by go_num, v4, v7, bs', _, hr7, hw7, hap7, by rw [List.append_assoc, B3.out]; exact HS.out, hN7⟩
            case measure => simp [intOf]; omega
        · have h1 : (endR bs' err' != 0) = true := by simp; omega
          have h2 : (endR bs' err' != 31) = true := by simp; omega
          generalize endR bs' err' = ee at h1 h2 ⊢
          clear hend
          go_wp2_with fail
          go_ret
          exact ⟨rfl, hN5⟩
      · have hlt' : ¬ (k : Int) < (l.length : Int) := by omega
        go_wp2_with fail
        refine (wbytes_any w.heap.size g2 v2 ws 0 wr hw (by omega)).mono ?_
        rintro e w3 ⟨u3, rfl, ho3, hn3⟩
        rw [if_pos rfl] at ho3
        have hr3 := hr.new hn3
        have hN3 := hn.trans hn3
        have hsl3 := Owns.slIn bEncOk ho3
        have hEq : str ws ++ str bs = s := by rw [str_append, hsum, str_data]
        have hz1 : (str ws).size + (str bs).size ≤ 9223372036854775807 := by rw [str_size, str_size]; omega
        have hz2 : ¬ 9223372036854775807 < (str ws).size + (str bs).size := by omega
        clear hw hn hr hn3 ho3 hap hsum
        have hrD : RdAt w3.drew g v bs 0 := hr3.new (New.refl w3).drew
        have hcv3 := run_str w3.drew hsl3.drew
        obtain ⟨A3, n3, c3, hv3⟩ := hsl3.shape
        subst hv3
        go_wp2_with fail
        go_region_with (go_at_call 36; refine (rest_any g v bs 0 _ hrD (by omega)).mono ?_; rintro e w4 ⟨u4, rfl, ho4, hn4⟩; have hcv := run_str w4 (Owns.slIn bEncOk ho4); have hcv4 := run_str w4 (hsl3.drew.new hn4))
        all_goals
          go_wp2_with fail
          go_ret
          exact ⟨rfl, hN3.trans ((New.refl w3).drew.trans hn4)⟩
  · clear hr3 hw3 hap hh hgood
    have ht3 : 1000 < s.size ∨ (s.size ≤ 1000 ∧ 50 < l.length) := by omega
    clear ht
    rcases ht3 with t1 | ⟨t1, t2⟩
    · have t1' : (1000 : Int) < (s.size : Int) := by omega
      go_wp2_with fail
      refine (awake03 _).mono ?_
      rintro e w4 ⟨rfl, hn4⟩
      go_wp2_with fail
      go_ret
      exact ⟨rfl, hN3.trans hn4⟩
    · have t1' : ¬ (1000 : Int) < (s.size : Int) := by omega
      have t2' : (50 : Int) < (l.length : Int) := by omega
      go_wp2_with fail
      refine (awake03 _).mono ?_
      rintro e w4 ⟨rfl, hn4⟩
      go_wp2_with fail
      go_ret
      exact ⟨rfl, hN3.trans hn4⟩
end Go.Proofs.Ytnjifcgomkdhdaa
