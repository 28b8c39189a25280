/- Walks: the statement on names and keywords. -/
import Derived.Test.YtidfhfcplcfcmaaDoorLawTokens
import Derived.Test.YtidfhfcplcfcmaaDoorNames
namespace Go.Proofs.YtidfhfcplcfcmaaDoor
open Go.RowKit OT

theorem refName_flag (s : Str) : isName s = (kindR s == 1 && decide (s.length ≤ 12) && !keywords.contains s) := (refName_eq s).symm

set_option maxHeartbeats 800000 in
theorem rname_any (s : ByteArray) (hs : s.size ≤ 140737488351232) (w : World) :
    Calls Tryd.prog 24 #[.string s] w fun e w' => e = .returned (.bool (isName s.data.toList)) ∧ Below w.heap.size w w' := by
  rw [refName_flag]
  have hsl : s.data.toList.length = s.size := by simp
  rw [hsl]; clear hsl
  obtain ⟨k, hk⟩ : ∃ k, k = kindR s.data.toList := ⟨_, rfl⟩
  rw [← hk]
  have HK := Lib.hid hk; clear hk
  have hb : (k == 1) = ((k : Int) == 1) := by rw [Bool.eq_iff_iff]; simp; omega
  rw [hb]; clear hb
  cases h1 : ((k : Int) == 1)
  · go_enter Tryd.func24, Tryd.ntmps24
    go_wp2_with (first | (go_at_call 46; refine (kind_any s hs _).mono ?_; rintro e w1 ⟨rfl, hb1⟩; rw [← HK.out]))
    go_ret
    exact ⟨ret_bool (by simp), hb1⟩
  · by_cases h2 : s.size ≤ 12
    · cases h3 : keywords.contains s.data.toList
      all_goals
        have H3 := Lib.hid h3; clear h3
        go_enter Tryd.func24, Tryd.ntmps24
        go_wp2_with (first
          | (go_at_call 46; refine (kind_any s hs _).mono ?_; rintro e w1 ⟨rfl, hb1⟩; rw [← HK.out]; have HB1 := Lib.hid hb1; clear hb1)
          | (go_at_call 26; refine (keywords_call _).mono ?_; rintro e w2 ⟨v, rfl, hsa, hb2⟩; have HB2 := Lib.hid hb2; clear hb2; have HSA := Lib.hid hsa; clear hsa)
          | (go_at_call 25; refine (in_bytes _ keywords s (by decide) _ HSA.out).mono ?_; rintro e w3 ⟨rfl, rfl⟩; rw [H3.out]))
        go_ret
        exact ⟨ret_bool (by simp <;> omega), HB1.out.trans (HB2.out.mono HB1.out.size)⟩
    · go_enter Tryd.func24, Tryd.ntmps24
      go_wp2_with (first | (go_at_call 46; refine (kind_any s hs _).mono ?_; rintro e w1 ⟨rfl, hb1⟩; rw [← HK.out]))
      go_ret
      exact ⟨ret_bool (by simp <;> omega), hb1⟩

theorem lex_word {s : Str} (hl : s.length ≤ 65536) (h : token s = (1, s.length)) : lex s = ([⟨1, s, 0⟩], 0, 0) := by
  rw [lex_eq hl, lexP_one (by decide) h 0]
theorem own_one {w : World} {base : Nat} {T : TypeId} {v : Value} {t : Tok} (h : w.ownsRow base T 3 v 1 (toksCells [t])) : ∃ g c, v = .slice (some ⟨g, 0, none⟩) 1 c ∧ w.cell? ⟨g, 0, none⟩ = some (.int .u8 (t.kind : Int)) ∧ w.cell? ⟨g, 1, none⟩ = some (.string (bs t.text)) ∧ w.cell? ⟨g, 2, none⟩ = some (.int .i64 (t.pos : Int)) := by
  rcases h.2 with ⟨rfl, h0⟩ | ⟨g, cap, cur, rfl, _⟩
  · simp at h0
  · exact ⟨g, cap, rfl, (h.cellAt _ (by decide)).trans rfl, (h.cellAt _ (by decide)).trans rfl, (h.cellAt _ (by decide)).trans rfl⟩

theorem lex_one (s : ByteArray) (hs : s.size ≤ 60) (h : token s.data.toList = (1, s.data.toList.length)) (w : World) (hT : SpaceTab w) : Calls Tryd.prog 18 #[.string s] w fun e w' =>
    ∃ g c, e = .returned (.tuple #[.slice (some ⟨g, 0, none⟩) 1 c, .int .i64 0, .int .i64 0]) ∧ Below w.heap.size w w' ∧ w'.cell? ⟨g, 0, none⟩ = some (.int .u8 1) := by
  have hl : s.data.toList.length = s.size := by simp
  refine (lex_any s (by omega) w hT).mono ?_
  rintro e w' ⟨v, rfl, ho, hb⟩
  rw [lex_word (by omega) h] at ho ⊢
  obtain ⟨g, c, rfl, c0, _, _⟩ := own_one ho
  exact ⟨g, c, rfl, hb, c0⟩
theorem lex_some (s : ByteArray) (hs : s.size ≤ 140737488351232) (w : World) (hT : SpaceTab w) : Calls Tryd.prog 18 #[.string s] w fun e w' =>
    ∃ A n c p q, e = .returned (.tuple #[.slice A n c, .int .i64 p, .int .i64 q]) ∧ Below w.heap.size w w' := by
  refine (lex_any s hs w hT).mono ?_
  rintro e w' ⟨v, rfl, ho, hb⟩
  obtain ⟨A, c, rfl⟩ := (toksAt_of_own ho).slice
  exact ⟨_, _, _, _, _, rfl, hb⟩

set_option maxRecDepth 100000 in
set_option maxHeartbeats 2000000 in
theorem lexerNames_walk (s : ByteArray) (hs : s.size ≤ 140737488351232) (w : World) (hT : SpaceTab w) :
    Calls Tryd.prog 7 #[.string s] w (AwakePost w) := by
  have HT := Lib.hid hT; clear hT
  by_cases hbig : 60 < s.size
  · go_enter Tryd.func7, Tryd.ntmps7
    go_wp2_with fail
    refine (awake11 w HT.out).mono ?_
    rintro e w1 ⟨rfl, hb1⟩
    have HT1 := Lib.hid (HT.out.keep hb1)
    have HB1 := Lib.hid hb1; clear hb1
    go_wp2_with fail
    refine (awake11 w1 HT1.out).mono ?_
    rintro e w2 ⟨rfl, hb2⟩
    have HB2 := Lib.hid hb2; clear hb2
    go_wp2_with fail
    go_ret
    exact ⟨rfl, HB1.out.trans (HB2.out.mono HB1.out.size)⟩
  · have hle : s.size ≤ 60 := by omega
    obtain ⟨nb, hnb⟩ : ∃ b, b = isName s.data.toList := ⟨_, rfl⟩
    obtain ⟨kb, hkb⟩ : ∃ b, b = isKeyword s.data.toList := ⟨_, rfl⟩
    have hxy : nb = true → kb = false := fun h => by rw [hkb]; exact (isName_token (by rw [← hnb]; exact h)).2.2.1
    have htk : nb = true ∨ kb = true → token s.data.toList = (1, s.data.toList.length) := fun h => by
      rcases h with h | h
      · exact (isName_token (by rw [← hnb]; exact h)).1
      · exact isKeyword_token (by rw [← hkb]; exact h)
    have HNB := Lib.hid hnb; have HKB := Lib.hid hkb; have HXY := Lib.hid hxy; have HTK := Lib.hid htk
    clear hnb hkb hxy htk hbig
    cases nb
    · cases kb
      · go_enter Tryd.func7, Tryd.ntmps7
        go_wp2_with (first
          | (go_at_call 17; refine (awake11 w HT.out).mono ?_; rintro e w1 ⟨rfl, hb1⟩; have HT1 := Lib.hid (HT.out.keep hb1); have HB1 := Lib.hid hb1; clear hb1)
          | (go_at_call 22; refine (name_any s _ HT1.out).mono ?_; rintro e w2 ⟨rfl, hb2⟩; rw [← HNB.out]; have HT2 := Lib.hid (HT1.out.keep hb2); have HB2 := Lib.hid (HB1.out.trans (hb2.mono HB1.out.size)); clear hb2)
          | (go_at_call 23; refine (keyword_any s _ HT2.out).mono ?_; rintro e w3 ⟨rfl, hb3⟩; rw [← HKB.out]; have HT3 := Lib.hid (HT2.out.keep hb3); have HB3 := Lib.hid (HB2.out.trans (hb3.mono HB2.out.size)); clear hb3)
          | (go_at_call 24; refine (rname_any s hs _).mono ?_; rintro e w4 ⟨rfl, hb4⟩; rw [← HNB.out]; have HT4 := Lib.hid (HT3.out.keep hb4); have HB4 := Lib.hid (HB3.out.trans (hb4.mono HB3.out.size)); clear hb4)
          | (go_at_call 26; refine (keywords_call _).mono ?_; rintro e w5 ⟨v, rfl, hsa, hb5⟩; have HSA := Lib.hid hsa; have HT5 := Lib.hid (HT4.out.keep hb5); have HB5 := Lib.hid (HB4.out.trans (hb5.mono HB4.out.size)); clear hb5 hsa)
          | (go_at_call 25; refine (in_bytes _ keywords s (by decide) _ HSA.out).mono ?_; rintro e w6 ⟨rfl, rfl⟩; rw [show keywords.contains s.data.toList = false from HKB.out.symm])
          | (go_at_call 18; refine (lex_some s hs _ HT5.out).mono ?_; rintro e w7 ⟨A7, n7, c7, p7, q7, rfl, hb7⟩; have HB7 := Lib.hid (HB5.out.trans (hb7.mono HB5.out.size)); clear hb7))
        go_ret
        exact ⟨rfl, HB7.out⟩
      · have HTW := Lib.hid (HTK.out (.inr rfl))
        go_enter Tryd.func7, Tryd.ntmps7
        go_wp2_with (first
          | (go_at_call 17; refine (awake11 w HT.out).mono ?_; rintro e w1 ⟨rfl, hb1⟩; have HT1 := Lib.hid (HT.out.keep hb1); have HB1 := Lib.hid hb1; clear hb1)
          | (go_at_call 22; refine (name_any s _ HT1.out).mono ?_; rintro e w2 ⟨rfl, hb2⟩; rw [← HNB.out]; have HT2 := Lib.hid (HT1.out.keep hb2); have HB2 := Lib.hid (HB1.out.trans (hb2.mono HB1.out.size)); clear hb2)
          | (go_at_call 23; refine (keyword_any s _ HT2.out).mono ?_; rintro e w3 ⟨rfl, hb3⟩; rw [← HKB.out]; have HT3 := Lib.hid (HT2.out.keep hb3); have HB3 := Lib.hid (HB2.out.trans (hb3.mono HB2.out.size)); clear hb3)
          | (go_at_call 24; refine (rname_any s hs _).mono ?_; rintro e w4 ⟨rfl, hb4⟩; rw [← HNB.out]; have HT4 := Lib.hid (HT3.out.keep hb4); have HB4 := Lib.hid (HB3.out.trans (hb4.mono HB3.out.size)); clear hb4)
          | (go_at_call 26; refine (keywords_call _).mono ?_; rintro e w5 ⟨v, rfl, hsa, hb5⟩; have HSA := Lib.hid hsa; have HT5 := Lib.hid (HT4.out.keep hb5); have HB5 := Lib.hid (HB4.out.trans (hb5.mono HB4.out.size)); clear hb5 hsa)
          | (go_at_call 25; refine (in_bytes _ keywords s (by decide) _ HSA.out).mono ?_; rintro e w6 ⟨rfl, rfl⟩; rw [show keywords.contains s.data.toList = true from HKB.out.symm])
          | (go_at_call 18; refine (lex_one s hle HTW.out _ HT5.out).mono ?_; rintro e w7 ⟨g7, c7, rfl, hb7, cell7⟩; have HB7 := Lib.hid (HB5.out.trans (hb7.mono HB5.out.size)); clear hb7))
        go_ret
        exact ⟨rfl, HB7.out⟩
    · have hk := HXY.out rfl
      subst hk
      have HTW := Lib.hid (HTK.out (.inl rfl))
      go_enter Tryd.func7, Tryd.ntmps7
      go_wp2_with (first
        | (go_at_call 17; refine (awake11 w HT.out).mono ?_; rintro e w1 ⟨rfl, hb1⟩; have HT1 := Lib.hid (HT.out.keep hb1); have HB1 := Lib.hid hb1; clear hb1)
        | (go_at_call 22; refine (name_any s _ HT1.out).mono ?_; rintro e w2 ⟨rfl, hb2⟩; rw [← HNB.out]; have HT2 := Lib.hid (HT1.out.keep hb2); have HB2 := Lib.hid (HB1.out.trans (hb2.mono HB1.out.size)); clear hb2)
        | (go_at_call 23; refine (keyword_any s _ HT2.out).mono ?_; rintro e w3 ⟨rfl, hb3⟩; rw [← HKB.out]; have HT3 := Lib.hid (HT2.out.keep hb3); have HB3 := Lib.hid (HB2.out.trans (hb3.mono HB2.out.size)); clear hb3)
        | (go_at_call 24; refine (rname_any s hs _).mono ?_; rintro e w4 ⟨rfl, hb4⟩; rw [← HNB.out]; have HT4 := Lib.hid (HT3.out.keep hb4); have HB4 := Lib.hid (HB3.out.trans (hb4.mono HB3.out.size)); clear hb4)
        | (go_at_call 26; refine (keywords_call _).mono ?_; rintro e w5 ⟨v, rfl, hsa, hb5⟩; have HSA := Lib.hid hsa; have HT5 := Lib.hid (HT4.out.keep hb5); have HB5 := Lib.hid (HB4.out.trans (hb5.mono HB4.out.size)); clear hb5 hsa)
        | (go_at_call 25; refine (in_bytes _ keywords s (by decide) _ HSA.out).mono ?_; rintro e w6 ⟨rfl, rfl⟩; rw [show keywords.contains s.data.toList = false from HKB.out.symm])
        | (go_at_call 18; refine (lex_one s hle HTW.out _ HT5.out).mono ?_; rintro e w7 ⟨g7, c7, rfl, hb7, cell7⟩; have HB7 := Lib.hid (HB5.out.trans (hb7.mono HB5.out.size)); clear hb7))
      go_ret
      exact ⟨rfl, HB7.out⟩

end Go.Proofs.YtidfhfcplcfcmaaDoor
