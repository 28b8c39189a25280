/- Walks: the tokens of a text lie end to end and are the text. -/
import Derived.Test.YtidfhfcplcfcmaaDoorLexJoin
namespace Go.Proofs.YtidfhfcplcfcmaaDoor
open Go.RowKit OT

theorem consec_at : ∀ (ts : List Tok) (n k : Nat), Consec n ts → k < ts.length → (tokAt ts k).pos = n + (joinT (ts.take k)).length ∧ (tokAt ts k).text ≠ []
  | [], _, _, _, hk => by simp at hk
  | t :: r, n, 0, h, _ => ⟨by simp [tokAt, joinT, h.1], by simpa [tokAt] using h.2.1⟩
  | t :: r, n, k + 1, h, hk => by
    obtain ⟨h1, h2⟩ := consec_at r (n + t.text.length) k h.2.2 (by simpa using hk)
    have e : tokAt (t :: r) (k + 1) = tokAt r k := by simp [tokAt]
    rw [e, h1]
    exact ⟨by simp [joinT]; omega, h2⟩

theorem bs_ne {l : Str} (h : l ≠ []) : (bs l).toList.isEmpty = false := by
  rw [Lib.toList_data, bs_list]
  cases l with
  | nil => exact absurd rfl h
  | cons => rfl

set_option maxRecDepth 100000 in
set_option maxHeartbeats 2000000 in
theorem lexerJoins_walk (s : ByteArray) (hs : s.size ≤ 140737488351232) (w : World) (hT : SpaceTab w) :
    Calls Tryd.prog 8 #[.string s] w (AwakePost w) := by
  have HT := Lib.hid hT; clear hT
  obtain ⟨⟨ts, p, er⟩, hlx⟩ : ∃ x, x = lex s.data.toList := ⟨_, rfl⟩
  have hln := lex_len hlx.symm
  have hsl : s.data.toList.length = s.size := by simp
  by_cases hbig : s.size ≤ 600
  · rcases lex_cases (by omega) hlx.symm with ⟨rfl, rfl, hok⟩ | ⟨rfl, rfl, hp, herr⟩
    · obtain ⟨j1, j2, j3⟩ := lexP_ok hok
      have hjl : (joinT ts).length ≤ 600 := by rw [j1]; omega
      have HLX := Lib.hid hlx; have HJ := Lib.hid j1; have HC := Lib.hid (fun k hk => consec_at ts 0 k j2 hk)
      clear hlx hok j1 j2 j3 hsl
      go_enter Tryd.func8, Tryd.ntmps8
      go_wp2_with fail
      refine (awake11 w HT.out).mono ?_
      rintro e w1 ⟨rfl, hb1⟩
      have HT1 := Lib.hid (HT.out.keep hb1)
      have HB1 := Lib.hid hb1; clear hb1
      go_wp2_with fail
      refine (lex_at s hs ts 0 0 HLX.out.symm w1 HT1.out).mono ?_
      rintro e w2 ⟨A2, c2, rfl, ha2, hb2⟩
      have HA2 := Lib.hid ha2; clear ha2
      have HB2 := Lib.hid (HB1.out.trans (hb2.mono HB1.out.size)); clear hb2
      go_wp2_with fail
      go_loopw [40, 6] (fun i n wr => ∃ k : Nat, k ≤ ts.length ∧ i = .int .i64 k ∧ n = .int .i64 ((joinT (ts.take k)).length : Nat) ∧ Hid (Below w2.heap.size w2 wr)) (fun i _ _ => ts.length - (intOf i).toNat)
      case atStart => exact ⟨0, Nat.zero_le _, rfl, rfl, Lib.hid (Below.refl _ _)⟩
      case round =>
        obtain ⟨k, hk, rfl, rfl, HB⟩ := hrel
        by_cases hlt : k < ts.length
        · obtain ⟨b, o, rfl, hc⟩ := HA2.out.box (by omega)
          obtain ⟨m1, m2, m3⟩ := hc k hlt
          clear hc
          replace m1 := cell_keep HB.out m1; replace m2 := cell_keep HB.out m2; replace m3 := cell_keep HB.out m3
          have i0 : (0 : Int) ≤ (k : Int) := Int.natCast_nonneg _
          have i1 : (k : Int) < (ts.length : Int) := by omega
          obtain ⟨hp1, hp2⟩ := HC.out k hlt
          have hjt := joinT_take ts k hlt
          have hjl2 := joinT_take_le ts (k + 1)
          rw [Nat.zero_add] at hp1
          have hsum : (joinT (ts.take (k + 1))).length = (joinT (ts.take k)).length + (bs (tokAt ts k).text).size := by rw [hjt, List.length_append, bs_size]
          have hbn := bs_ne hp2
          rw [hp1] at m3
          clear hp1 hp2 hjt
          generalize hq1 : (joinT (ts.take (k + 1))).length = q1 at *
          generalize (joinT (ts.take k)).length = q0 at *
          generalize tokAt ts k = t at *
          have HB2' := Lib.hid (HB.out.trans (((Below.refl wr.heap.size wr).alloc (Nat.le_refl _) (.cells #[Value.int .u8 (t.kind : Int), .string (bs t.text), .int .i64 (q0 : Int)] 33)).mono HB.out.size))
          go_wp2_with fail
          exact ⟨⟨k + 1, by omega, by go_num, by rw [hq1, hsum]; simp, HB2'⟩, by simp only [intOf]; omega⟩
        · have hkk : k = ts.length := by omega
          subst hkk
          go_wp2_with fail
          refine (join_any _ ts (by omega) (by omega) wr (HA2.out.keep HB.out)).mono ?_
          rintro e w4 ⟨rfl, hb4⟩
          have HB4 := Lib.hid (HB2.out.trans ((HB.out.trans (hb4.mono HB.out.size)).mono HB2.out.size)); clear hb4
          rw [HJ.out, bs_of]
          go_wp2_with fail
          go_ret
          exact ⟨rfl, HB4.out⟩
    · have HLX := Lib.hid hlx
      have hp1 : (p : Int) < (s.size : Int) := by omega
      clear hlx herr hsl hp
      go_enter Tryd.func8, Tryd.ntmps8
      go_wp2_with fail
      refine (awake11 w HT.out).mono ?_
      rintro e w1 ⟨rfl, hb1⟩
      have HT1 := Lib.hid (HT.out.keep hb1)
      have HB1 := Lib.hid hb1; clear hb1
      go_wp2_with fail
      refine (lex_at s hs [] p 3 HLX.out.symm w1 HT1.out).mono ?_
      rintro e w2 ⟨A2, c2, rfl, _, hb2⟩
      have HB2 := Lib.hid (HB1.out.trans (hb2.mono HB1.out.size)); clear hb2
      go_wp2_with fail
      go_ret
      exact ⟨rfl, HB2.out⟩
  · clear hlx hsl
    have h6 : 600 < s.size := by omega
    go_enter Tryd.func8, Tryd.ntmps8
    go_wp2_with fail
    refine (awake11 w HT.out).mono ?_
    rintro e w1 ⟨rfl, hb1⟩
    have HT1 := Lib.hid (HT.out.keep hb1)
    have HB1 := Lib.hid hb1; clear hb1
    go_wp2_with fail
    refine (awake11 w1 HT1.out).mono ?_
    rintro e w2 ⟨rfl, hb2⟩
    have HB2 := Lib.hid (HB1.out.trans (hb2.mono HB1.out.size)); clear hb2
    go_wp2_with fail
    go_ret
    exact ⟨rfl, HB2.out⟩

end Go.Proofs.YtidfhfcplcfcmaaDoor
