/- Walks: an error's place: the text before it has tokens, the text from it on fails at once. -/
import Derived.Test.YtidfhfcplcfcmaaDoorLawJoins
import Derived.Deep.RegionHeld3
import Derived.Deep.DrawnRows
namespace Go.Proofs.YtidfhfcplcfcmaaDoor
open Go.RowKit OT

theorem error_pure {s : Str} {p : Nat} (hl : s.length ≤ 65536) (h : lexP 0 s = .error p) : (∃ ts, lex (s.take p) = (ts, 0, 0) ∧ joinT ts = s.take p) ∧ lex (s.drop p) = ([], 0, 3) := by
  obtain ⟨⟨ts, h1⟩, h2⟩ := lexP_before h
  rw [Nat.sub_zero] at h1 h2
  refine ⟨⟨ts, lex_of_ok (by simp only [List.length_take]; omega) h1, (lexP_ok h1).1⟩, ?_⟩
  rw [lex_eq (by simp only [List.length_drop]; omega)]
  rw [lexP_zero] at h2
  cases hx : lexP 0 (s.drop p) with
  | ok us => rw [hx] at h2; cases h2
  | error q =>
    rw [hx] at h2
    simp only [shiftR, Except.error.injEq] at h2
    obtain rfl : q = 0 := by omega
    rfl

theorem extract_take (s : ByteArray) (p : Nat) : s.extract 0 p = bs (s.data.toList.take p) := by
  rw [← bs_of (s.extract 0 p), bs_cut, List.drop_zero, Nat.sub_zero]

set_option maxRecDepth 100000 in
set_option maxHeartbeats 2000000 in
theorem lexerError_walk (s : ByteArray) (hs : s.size ≤ 140737488351232) (w : World) (hT : SpaceTab w) :
    Calls Tryd.prog 9 #[.string s] w (AwakePost w) := by
  have HT := Lib.hid hT; clear hT
  obtain ⟨⟨ts, p, er⟩, hlx⟩ : ∃ x, x = lex s.data.toList := ⟨_, rfl⟩
  have hln := lex_len hlx.symm
  have hsl : s.data.toList.length = s.size := by simp
  have HLX := Lib.hid hlx
  by_cases hgood : s.size ≤ 600 ∧ er ≠ 0
  · obtain ⟨h6, h0⟩ := hgood
    rcases lex_cases (by omega) hlx.symm with ⟨rfl, _, _⟩ | ⟨rfl, rfl, hp, herr⟩
    · exact absurd rfl h0
    obtain ⟨⟨t1, q1, q2⟩, q3⟩ := error_pure (by omega) herr
    rw [hsl] at hp
    have hp1 : (p : Int) < (s.size : Int) := by omega
    have hp2 : (0 : Int) ≤ (p : Int) := by omega
    have hp3 : (p : Int) ≤ (s.size : Int) := by omega
    rw [← bs_list (s.data.toList.take p), ← extract_take] at q1
    rw [← bs_drop] at q3
    have hz1 : (s.extract 0 p).size ≤ 140737488351232 := by rw [ByteArray.size_extract]; omega
    have hz2 : (s.extract p s.size).size ≤ 140737488351232 := by rw [ByteArray.size_extract]; omega
    have hjl : (joinT t1).length ≤ 600 := by rw [q2, List.length_take]; omega
    have hj : bs (joinT t1) = s.extract 0 p := by rw [q2, extract_take]
    have htl := lex_len q1
    have HQ1 := Lib.hid q1; have HQ3 := Lib.hid q3; have HZ1 := Lib.hid hz1; have HZ2 := Lib.hid hz2; have HJ := Lib.hid hj
    clear q1 q2 q3 hz1 hz2 hj hlx herr hsl hp
    go_enter Tryd.func9, Tryd.ntmps9
    go_wp2_with fail
    refine (lex_at s hs [] p 3 HLX.out.symm w HT.out).mono ?_
    rintro e w1 ⟨A1, c1, rfl, _, hb1⟩
    have HT1 := Lib.hid (HT.out.keep hb1)
    have HB1 := Lib.hid hb1; clear hb1
    go_wp2_with fail
    refine (awake11 w1 HT1.out).mono ?_
    rintro e w2 ⟨rfl, hb2⟩
    have HT2 := Lib.hid (HT1.out.keep hb2)
    have HB2 := Lib.hid (HB1.out.trans (hb2.mono HB1.out.size)); clear hb2
    go_wp2_with fail
    refine (lex_at (s.extract 0 p) HZ1.out t1 0 0 HQ1.out w2 HT2.out).mono ?_
    rintro e w3 ⟨A3, c3, rfl, ha3, hb3⟩
    have HA3 := Lib.hid ha3; clear ha3
    have HT3 := Lib.hid (HT2.out.keep hb3)
    have HB3 := Lib.hid (HB2.out.trans (hb3.mono HB2.out.size)); clear hb3
    go_wp2_with fail
    refine (lex_at (s.extract p s.size) HZ2.out [] 0 3 HQ3.out w3 HT3.out).mono ?_
    rintro e w4 ⟨A4, c4, rfl, _, hb4⟩
    have HA4 := Lib.hid (HA3.out.keep hb4)
    have HB4 := Lib.hid (HB3.out.trans (hb4.mono HB3.out.size)); clear hb4
    go_wp2_with fail
    have ha4 := HA4.out
    have hB4 := HB4.out
    have hj := HJ.out
    go_region_held3 (fun _ => True) (trivial)
      ((go_at_call 27; refine (join_any _ t1 (by omega) (by omega) _ (show ToksAt w4.drew _ t1 from ha4)).mono ?_; rintro en w5 ⟨rfl, hb5⟩; rw [hj]; have hB5 := hB4.drew.trans (hb5.mono hB4.size)))
    go_wp2_with fail
    go_ret
    exact ⟨rfl, hB5⟩
  · have hcase : 600 < s.size ∨ (s.size ≤ 600 ∧ er = 0) := by
      by_cases h6 : 600 < s.size
      · exact .inl h6
      · exact .inr ⟨by omega, by by_cases h0 : er = 0; exact h0; exact absurd ⟨by omega, h0⟩ hgood⟩
    clear hgood hlx hsl
    rcases hcase with h6 | ⟨h6, rfl⟩
    all_goals
      go_enter Tryd.func9, Tryd.ntmps9
      go_wp2_with fail
      refine (lex_at s hs ts p _ HLX.out.symm w HT.out).mono ?_
      rintro e w1 ⟨A1, c1, rfl, _, hb1⟩
      have HT1 := Lib.hid (HT.out.keep hb1)
      have HB1 := Lib.hid hb1; clear hb1
      go_wp2_with fail
      refine (awake11 w1 HT1.out).mono ?_
      rintro e w2 ⟨rfl, hb2⟩
      have HT2 := Lib.hid (HT1.out.keep hb2)
      have HB2 := Lib.hid (HB1.out.trans (hb2.mono HB1.out.size)); clear hb2
      go_wp2_with fail
      refine (awake11 w2 HT2.out).mono ?_
      rintro e w3 ⟨rfl, hb3⟩
      have HB3 := Lib.hid (HB2.out.trans (hb3.mono HB2.out.size)); clear hb3
      go_wp2_with fail
      go_ret
      exact ⟨rfl, HB3.out⟩

end Go.Proofs.YtidfhfcplcfcmaaDoor
