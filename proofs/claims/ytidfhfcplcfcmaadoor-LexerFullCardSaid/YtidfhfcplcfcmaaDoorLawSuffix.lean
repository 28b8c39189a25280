/- Walks: the text from the start of a token on has the remaining tokens. -/
import Derived.Test.YtidfhfcplcfcmaaDoorLawAlone
namespace Go.Proofs.YtidfhfcplcfcmaaDoor
open Go.RowKit OT

theorem suffix_pure {s : Str} {ts : List Tok} (hl : s.length ≤ 65536) (h : lexP 0 s = .ok ts) (i : Nat) (hi : i < ts.length) :
    (tokAt ts i).pos ≤ s.length ∧ ∃ m, lex (s.drop (tokAt ts i).pos) = (m, 0, 0) ∧ m.length = ts.length - i ∧ ∀ j, j < m.length →
      (tokAt m j).kind = (tokAt ts (i + j)).kind ∧ (tokAt m j).text = (tokAt ts (i + j)).text ∧ (tokAt m j).pos + (tokAt ts i).pos = (tokAt ts (i + j)).pos ∧ (tokAt m j).pos ≤ s.length := by
  have ht : tokAt ts i = ts[i] := by simp [tokAt, List.getD_eq_getElem?_getD, List.getElem?_eq_getElem hi]
  obtain ⟨_, h2, h3⟩ := lexP_suffix i hi h
  rw [Nat.zero_add] at h2
  rw [Nat.sub_zero] at h3
  rw [← ht] at h2 h3
  refine ⟨h2, ?_⟩
  rw [lexP_zero] at h3
  cases hx : lexP 0 (s.drop (tokAt ts i).pos) with
  | error q => rw [hx] at h3; cases h3
  | ok m =>
    rw [hx] at h3
    simp only [shiftR, Except.ok.injEq] at h3
    refine ⟨m, ?_, ?_, ?_⟩
    · exact lex_of_ok (by simp only [List.length_drop]; omega) hx
    · have := congrArg List.length h3; simpa using this
    · intro j hj
      have e1 : (m.map (Tok.shift (tokAt ts i).pos))[j]? = (ts.drop i)[j]? := by rw [h3]
      have hm : tokAt m j = m[j] := by simp [tokAt, List.getD_eq_getElem?_getD, List.getElem?_eq_getElem hj]
      have hlen : m.length = ts.length - i := by have := congrArg List.length h3; simpa using this
      have hts : tokAt ts (i + j) = ts[i + j] := by simp [tokAt, List.getD_eq_getElem?_getD, List.getElem?_eq_getElem (show i + j < ts.length by omega)]
      rw [List.getElem?_map, List.getElem?_eq_getElem hj, List.getElem?_drop, List.getElem?_eq_getElem (show i + j < ts.length by omega)] at e1
      simp only [Option.map_some, Option.some.injEq] at e1
      have hle := (((lexP_ok hx).2.2 m[j] (List.getElem_mem hj)).2.2.2.2.2)
      simp only [List.length_drop] at hle
      rw [hm, hts, ← e1]
      exact ⟨rfl, rfl, rfl, by omega⟩

set_option maxRecDepth 100000 in
set_option maxHeartbeats 4000000 in
theorem lexerSuffix_walk (s : ByteArray) (hs : s.size ≤ 140737488351232) (k : Int) (hk0 : 0 ≤ k ∧ k ≤ 255) (w : World) (hT : SpaceTab w) :
    Calls Tryd.prog 5 #[.string s, .int .u8 k] w (AwakePost w) := by
  obtain ⟨k, rfl⟩ := Int.eq_ofNat_of_zero_le hk0.1
  have hk : k ≤ 255 := by omega
  clear hk0
  have HT := Lib.hid hT; clear hT
  obtain ⟨⟨ts, p, er⟩, hlx⟩ : ∃ x, x = lex s.data.toList := ⟨_, rfl⟩
  have hln := lex_len hlx.symm
  have hsl : s.data.toList.length = s.size := by simp
  by_cases hgood : s.size ≤ 600 ∧ er = 0 ∧ ts ≠ []
  · obtain ⟨h6, h0, hne⟩ := hgood
    subst h0
    obtain ⟨hok, rfl⟩ := lex_ok (by omega) hlx.symm
    have hpos := List.length_pos_iff.2 hne
    have hmod : k % ts.length < ts.length := Nat.mod_lt _ hpos
    obtain ⟨i, hi⟩ : ∃ i, i = k % ts.length := ⟨_, rfl⟩
    have hcast : ((k : Int) % (ts.length : Int)) = (i : Int) := by rw [hi]; simp
    rw [← hi] at hmod
    obtain ⟨hfrom, m, hm, hml, hmj⟩ := suffix_pure (by omega) hok i hmod
    rw [hsl] at hfrom
    obtain ⟨f, hf⟩ : ∃ f, f = (tokAt ts i).pos := ⟨_, rfl⟩
    rw [← hf] at hfrom hm hmj
    have hm' : lex (s.extract f s.size).data.toList = (m, 0, 0) := by rw [bs_drop]; exact hm
    have hsz2 : (s.extract f s.size).size ≤ 140737488351232 := by rw [ByteArray.size_extract]; omega
    have HLX := Lib.hid hlx; have HM := Lib.hid hm'; have HSZ2 := Lib.hid hsz2; have HMJ := Lib.hid hmj; have HI := Lib.hid hi; have HF := Lib.hid hf; have HC := Lib.hid hcast
    have hpz : ((ts.length : Int) == 0) = false := by simp; omega
    have hpi : (0 : Int) < (ts.length : Int) := by omega
    have hm1 : m.length + i ≤ ts.length := by omega
    have hm2 : ts.length ≤ m.length + i := by omega
    clear hlx hm hm' hml hsz2 hmj hok hne hcast hi hf
    go_enter Tryd.func5, Tryd.ntmps5
    go_wp2_with fail
    refine (lex_at s hs ts 0 0 HLX.out.symm w HT.out).mono ?_
    rintro e w1 ⟨A1, c1, rfl, ha1, hb1⟩
    have HT1 := Lib.hid (HT.out.keep hb1)
    have HB1 := Lib.hid hb1; clear hb1
    rcases ha1 with ⟨h0, _⟩ | ⟨b, off, c, hv, hcell⟩
    · rw [h0] at hpos; simp at hpos
    simp only [Value.slice.injEq] at hv
    obtain ⟨rfl, _, rfl⟩ := hv
    have d3 := (hcell i hmod).2.2
    rw [← HF.out] at d3
    have HCELL := Lib.hid hcell; clear hcell
    go_wp2_with fail
    refine (awake11 w1 HT1.out).mono ?_
    rintro e w2 ⟨rfl, hb2⟩
    replace d3 := cell_keep hb2 d3
    have HW2 := Lib.hid hb2
    have HT2 := Lib.hid (HT1.out.keep hb2)
    have HB2 := Lib.hid (HB1.out.trans (hb2.mono HB1.out.size)); clear hb2
    have hcast := HC.out
    go_wp2_with fail
    refine (lex_at (s.extract f s.size) HSZ2.out m 0 0 HM.out _ HT2.out).mono ?_
    rintro e w3 ⟨A3, c3, rfl, ha3, hb3⟩
    have HB3 := Lib.hid (HB2.out.trans (hb3.mono HB2.out.size))
    have HW3 := Lib.hid (HW2.out.trans (hb3.mono HW2.out.size)); clear hb3
    have hmpos : 0 < m.length := by omega
    rcases ha3 with ⟨h0, _⟩ | ⟨b3, off3, c3', hv, hcell3⟩
    · rw [h0] at hmpos; simp at hmpos
    simp only [Value.slice.injEq] at hv
    obtain ⟨rfl, _, rfl⟩ := hv
    have HC3 := Lib.hid hcell3; clear hcell3
    have hne : ((m.length : Int) != ((ts.length : Int) - (i : Int))) = false := by
      have : (m.length : Int) = (ts.length : Int) - (i : Int) := by omega
      rw [this]; simp
    clear hcast d3
    go_wp2_with fail
    go_loopw [78] (fun j wr => ∃ k : Nat, k ≤ m.length ∧ j = .int .i64 k ∧ Below w3.heap.size w3 wr) (fun j _ => m.length - (intOf j).toNat)
    case atStart => exact ⟨0, Nat.zero_le _, rfl, Below.refl _ _⟩
    case round =>
      obtain ⟨j, hj, rfl, hB⟩ := hrel
      have HB := Lib.hid hB; clear hB
      by_cases hlt : j < m.length
      · have hlt2 : i + j < ts.length := by omega
        obtain ⟨m1, m2, m3⟩ := HC3.out j hlt
        obtain ⟨t1, t2, t3⟩ := HCELL.out (i + j) hlt2
        obtain ⟨q1, q2, q3, q4⟩ := HMJ.out j hlt
        replace m1 := cell_keep HB.out m1; replace m2 := cell_keep HB.out m2; replace m3 := cell_keep HB.out m3
        replace t1 := cell_keep (HW3.out.trans (HB.out.mono HW3.out.size)) t1
        replace t2 := cell_keep (HW3.out.trans (HB.out.mono HW3.out.size)) t2
        replace t3 := cell_keep (HW3.out.trans (HB.out.mono HW3.out.size)) t3
        have i0 : (0 : Int) ≤ (i : Int) + (j : Int) := by omega
        have i1 : (i : Int) + (j : Int) < (ts.length : Int) := by omega
        have i5 : (i : Int) + (j : Int) ≤ 65536 := by omega
        have i2 : (0 : Int) ≤ (j : Int) := Int.natCast_nonneg _
        have i3 : (j : Int) < (m.length : Int) := by omega
        have i4 : ((i : Int) + (j : Int)).toNat = i + j := by omega
        rw [← q1, ← q2, ← q3] at *
        clear q1 q2 q3
        replace q4 : (tokAt m j).pos ≤ 600 := by rw [hsl] at q4; omega
        generalize tokAt m j = t at m1 m2 m3 t1 t2 t3 q4
        have hps : ((t.pos : Int) != wrap64 (t.pos : Int)) = false := by
          have : wrap64 (t.pos : Int) = t.pos := by unfold wrap64; omega
          rw [this]; simp
        obtain ⟨wa, hwa⟩ : ∃ x, x = wr.alloc (.cells #[Value.int .u8 (t.kind : Int), .string (bs t.text), .int .i64 (t.pos : Int)] 33) := ⟨_, rfl⟩
        have hBa : Below wr.heap.size wr wa := by rw [hwa]; exact (Below.refl _ _).alloc (Nat.le_refl _) _
        replace t1 := cell_keep hBa t1; replace t2 := cell_keep hBa t2; replace t3 := cell_keep hBa t3
        have hBb : Below wa.heap.size wa (wa.alloc (.cells #[Value.int .u8 (t.kind : Int), .string (bs t.text), .int .i64 ((t.pos + f : Nat) : Int)] 33)) := (Below.refl _ _).alloc (Nat.le_refl _) _
        have e0 : wa.cell? ⟨wr.heap.size, 0, none⟩ = some (.int .u8 (t.kind : Int)) := by rw [hwa, World.cell?_alloc_at _ _ _ _ rfl]; rfl
        have e1 : wa.cell? ⟨wr.heap.size, 1, none⟩ = some (.string (bs t.text)) := by rw [hwa, World.cell?_alloc_at _ _ _ _ rfl]; rfl
        have e2 : wa.cell? ⟨wr.heap.size, 2, none⟩ = some (.int .i64 (t.pos : Int)) := by rw [hwa, World.cell?_alloc_at _ _ _ _ rfl]; rfl
        replace e0 := cell_keep hBb e0; replace e1 := cell_keep hBb e1; replace e2 := cell_keep hBb e2
        have HB4 := Lib.hid (HB.out.trans ((hBa.trans (hBb.mono hBa.size)).mono HB.out.size))
        clear hBa hBb
        subst hwa
        go_wp2_with fail
        have hb4 := HB4.out
        rw [Int.natCast_add] at hb4
        exact ⟨⟨j + 1, by omega, by go_num, hb4⟩, by simp only [intOf]; omega⟩
      · go_wp2_with fail
        go_ret
        exact ⟨rfl, HB3.out.trans (HB.out.mono HB3.out.size)⟩
  · have hcase : 600 < s.size ∨ (s.size ≤ 600 ∧ ((er : Int) != 0) = true) ∨ (s.size ≤ 600 ∧ ((er : Int) != 0) = false ∧ ts.length = 0) := by
      by_cases h6 : 600 < s.size
      · exact .inl h6
      · by_cases h0 : er = 0
        · refine .inr (.inr ⟨by omega, by simp [h0], ?_⟩)
          by_cases hne : ts = []
          · simp [hne]
          · exact absurd ⟨by omega, h0, hne⟩ hgood
        · exact .inr (.inl ⟨by omega, by simp [h0]⟩)
    have HLX := Lib.hid hlx
    clear hgood hlx hsl
    rcases hcase with h6 | ⟨h6, h0⟩ | ⟨h6, h0, hl0⟩
    all_goals
      first | (have hz0 : ((ts.length : Int) == 0) = true := by simpa using hl0) | skip
      go_enter Tryd.func5, Tryd.ntmps5
      go_wp2_with fail
      refine (lex_at s hs ts p er HLX.out.symm w HT.out).mono ?_
      rintro e w1 ⟨A1, c1, rfl, ha1, hb1⟩
      have HT1 := Lib.hid (HT.out.keep hb1)
      have HB1 := Lib.hid hb1; clear hb1 ha1
      go_wp2_with fail
      refine (awake11 w1 HT1.out).mono ?_
      rintro e w2 ⟨rfl, hb2⟩
      have HT2 := Lib.hid (HT1.out.keep hb2)
      have HB2 := Lib.hid (HB1.out.trans (hb2.mono HB1.out.size)); clear hb2
      go_wp2_with fail
      refine (awake11 w2 HT2.out).mono ?_
      rintro e w3 ⟨rfl, hb3⟩
      have HB3 := Lib.hid (HB2.out.trans (hb3.mono HB2.out.size)); clear hb3
      go_wp2_with fail
      go_ret
      exact ⟨rfl, HB3.out⟩

end Go.Proofs.YtidfhfcplcfcmaaDoor
