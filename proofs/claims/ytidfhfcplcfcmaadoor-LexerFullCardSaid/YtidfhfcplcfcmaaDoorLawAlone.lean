/- Walks: the text of a token consists of that token alone. -/
import Derived.Test.YtidfhfcplcfcmaaDoorLawNames
namespace Go.Proofs.YtidfhfcplcfcmaaDoor
open Go.RowKit OT

theorem tokEq (a a' : Int) (s s' : ByteArray) (p p' : Int) (w : World) :
    (binOp .eql 33 (.agg #[.int .u8 a, .string s, .int .i64 p]) (.agg #[.int .u8 a', .string s', .int .i64 p'])).run Tryd.prog w = .ok (.bool (a == a' && (s.toList == s'.toList && p == p'))) w := by
  have u1 := Tryd.underlying5
  have u2 := Tryd.underlying9
  have u3 := Tryd.underlying3
  have a1 := Tryd.isAgg5
  have a2 := Tryd.isAgg9
  have a3 := Tryd.isAgg3
  have z1 := Tryd.sizeOf5
  have z2 := Tryd.sizeOf9
  have z3 := Tryd.sizeOf3
  have hS : Tryd.prog.underlying 33 = some (.struct (Tryd.prog.fieldsOf 33)) := by kernel_rfl
  have hp : Tryd.prog.stoodInHeld 33 = false := by kernel_rfl
  rw [run_eql_struct, show (10000 : Nat) = 9999 + 1 from rfl, run_equalIn_agg w 9999 33 _ _ hS hp]
  simp only [Program.fieldsOf, Tryd.underlying33]
  go_simp
  by_cases h1 : a = a' <;> by_cases h2 : s.toList = s'.toList <;> by_cases h3 : p = p' <;> simp [h1, h2, h3]
theorem tokNeq (a a' : Int) (s s' : ByteArray) (p p' : Int) (w : World) :
    (binOp .neq 33 (.agg #[.int .u8 a, .string s, .int .i64 p]) (.agg #[.int .u8 a', .string s', .int .i64 p'])).run Tryd.prog w = .ok (.bool (!(a == a' && (s.toList == s'.toList && p == p')))) w := by
  have u1 := Tryd.underlying5
  have u2 := Tryd.underlying9
  have u3 := Tryd.underlying3
  have a1 := Tryd.isAgg5
  have a2 := Tryd.isAgg9
  have a3 := Tryd.isAgg3
  have z1 := Tryd.sizeOf5
  have z2 := Tryd.sizeOf9
  have z3 := Tryd.sizeOf3
  have hS : Tryd.prog.underlying 33 = some (.struct (Tryd.prog.fieldsOf 33)) := by kernel_rfl
  have hp : Tryd.prog.stoodInHeld 33 = false := by kernel_rfl
  rw [run_neq_struct, show (10000 : Nat) = 9999 + 1 from rfl, run_equalIn_agg w 9999 33 _ _ hS hp]
  simp only [Program.fieldsOf, Tryd.underlying33]
  go_simp
  by_cases h1 : a = a' <;> by_cases h2 : s.toList = s'.toList <;> by_cases h3 : p = p' <;> simp [h1, h2, h3]
theorem Tryd.guardTok : Tryd.prog.eqGuardType Tryd.prog.depth 33 = false := by kernel_rfl

theorem lex_ok {s : Str} {ts : List Tok} {p : Nat} (hl : s.length ≤ 65536) (h : lex s = (ts, p, 0)) : lexP 0 s = .ok ts ∧ p = 0 := by
  rw [lex_eq hl] at h
  cases hx : lexP 0 s with
  | error q => rw [hx] at h; simp at h
  | ok us => rw [hx] at h; simp only [Prod.mk.injEq] at h; exact ⟨by rw [h.1], h.2.1.symm⟩
theorem lex_of_ok {s : Str} {ts : List Tok} (hl : s.length ≤ 65536) (h : lexP 0 s = .ok ts) : lex s = (ts, 0, 0) := by rw [lex_eq hl, h]
/-- Lex's result as the walk meets it. -/
theorem lex_at (s : ByteArray) (hs : s.size ≤ 140737488351232) (ts : List Tok) (p er : Nat) (h : lex s.data.toList = (ts, p, er)) (w : World) (hT : SpaceTab w) :
    Calls Tryd.prog 18 #[.string s] w fun e w' => ∃ A c, e = .returned (.tuple #[.slice A ts.length c, .int .i64 (p : Int), .int .i64 (er : Int)]) ∧ ToksAt w' (.slice A ts.length c) ts ∧ Below w.heap.size w w' := by
  refine (lex_any s hs w hT).mono ?_
  rintro e w' ⟨v, rfl, ho, hb⟩
  rw [h] at ho ⊢
  have hA := toksAt_of_own ho
  obtain ⟨A, c, rfl⟩ := hA.slice
  exact ⟨A, c, rfl, hA, hb⟩

theorem lex_len {s : Str} {ts : List Tok} {p er : Nat} (h : lex s = (ts, p, er)) : ts.length ≤ 65536 := by
  have hcons : ∀ (n : Nat) (l : List Tok), Consec n l → l.length ≤ (joinT l).length := by
    intro n l
    induction l generalizing n with
    | nil => intro _; simp
    | cons t r ih =>
      intro h
      obtain ⟨_, h2, h3⟩ := h
      have := ih _ h3
      have h4 := List.length_pos_iff.2 h2
      simp only [joinT, List.map_cons, List.flatten_cons, List.length_append, List.length_cons] at this ⊢
      omega
  by_cases hl : 65536 < s.length
  · rw [lex_full hl] at h; simp only [Prod.mk.injEq] at h; rw [← h.1]; simp
  · rw [lex_eq (by omega)] at h
    cases hx : lexP 0 s with
    | error q => rw [hx] at h; simp only [Prod.mk.injEq] at h; rw [← h.1]; simp
    | ok us =>
      rw [hx] at h; simp only [Prod.mk.injEq] at h
      rw [← h.1]
      obtain ⟨j1, j2, _⟩ := lexP_ok hx
      have := hcons _ _ j2
      rw [j1] at this
      omega

set_option maxRecDepth 100000 in
set_option maxHeartbeats 2000000 in
theorem lexerAlone_walk (s : ByteArray) (hs : s.size ≤ 140737488351232) (k : Int) (hk0 : 0 ≤ k ∧ k ≤ 255) (w : World) (hT : SpaceTab w) :
    Calls Tryd.prog 4 #[.string s, .int .u8 k] w (AwakePost w) := by
  obtain ⟨k, rfl⟩ := Int.eq_ofNat_of_zero_le hk0.1
  have hk : k ≤ 255 := by omega
  clear hk0
  have HT := Lib.hid hT; clear hT
  obtain ⟨⟨ts, p, er⟩, hlx⟩ : ∃ x, x = lex s.data.toList := ⟨_, rfl⟩
  have hln := lex_len hlx.symm
  have hsl : s.data.toList.length = s.size := by simp
  by_cases hgood : s.size ≤ 600 ∧ er = 0 ∧ ts ≠ []
  · obtain ⟨h6, h0, hne⟩ := hgood
    subst h0
    have hok := lex_ok (by omega) hlx.symm
    obtain ⟨hok, rfl⟩ := hok
    have hpos := List.length_pos_iff.2 hne
    have hmod : k % ts.length < ts.length := Nat.mod_lt _ hpos
    obtain ⟨t, ht⟩ : ∃ t, t = tokAt ts (k % ts.length) := ⟨_, rfl⟩
    have hmem : t ∈ ts := by
      rw [ht]; simp only [tokAt, List.getD_eq_getElem?_getD, List.getElem?_eq_getElem hmod, Option.getD_some]
      exact List.getElem_mem hmod
    obtain ⟨_, _, j3⟩ := lexP_ok hok
    obtain ⟨k1, k2, k3, k4, _, _⟩ := j3 t hmem
    have hlx2 : lex (bs t.text).data.toList = ([⟨t.kind, t.text, 0⟩], 0, 0) := by
      rw [bs_list]
      exact lex_of_ok (by omega) (lexP_one (by omega) k3 0)
    have hsz2 : (bs t.text).size ≤ 140737488351232 := by rw [bs_size]; omega
    have HLX := Lib.hid hlx; have HLX2 := Lib.hid hlx2; have HSZ2 := Lib.hid hsz2; have HTK := Lib.hid ht
    have hpz : ((ts.length : Int) == 0) = false := by simp; omega
    have hpi : (0 : Int) < (ts.length : Int) := by omega
    clear hlx hlx2 hsz2 ht hok hmem j3 k1 k2 k3 k4 hsl hne
    go_enter Tryd.func4, Tryd.ntmps4
    go_wp2_with fail
    refine (lex_at s hs ts 0 0 HLX.out.symm w HT.out).mono ?_
    rintro e w1 ⟨A1, c1, rfl, ha1, hb1⟩
    have HT1 := Lib.hid (HT.out.keep hb1)
    have HB1 := Lib.hid hb1; clear hb1
    rcases ha1 with ⟨h0, _⟩ | ⟨b, off, c, hv, hcell⟩
    · rw [h0] at hpos; simp at hpos
    simp only [Value.slice.injEq] at hv
    obtain ⟨rfl, _, rfl⟩ := hv
    obtain ⟨d1, d2, d3⟩ := hcell _ hmod
    rw [← HTK.out] at d1 d2 d3
    clear hcell
    go_wp2_with fail
    refine (awake11 w1 HT1.out).mono ?_
    rintro e w2 ⟨rfl, hb2⟩
    replace d1 := cell_keep hb2 d1; replace d2 := cell_keep hb2 d2; replace d3 := cell_keep hb2 d3
    have HT2 := Lib.hid (HT1.out.keep hb2)
    have HB2 := Lib.hid (HB1.out.trans (hb2.mono HB1.out.size)); clear hb2
    go_wp2_with fail
    have e0 : (w2.alloc (.cells #[Value.int .u8 (t.kind : Int), .string (bs t.text), .int .i64 (t.pos : Int)] 33)).cell? ⟨w2.heap.size, 0, none⟩ = some (.int .u8 (t.kind : Int)) := by rw [World.cell?_alloc_at _ _ _ _ rfl]; rfl
    have e1 : (w2.alloc (.cells #[Value.int .u8 (t.kind : Int), .string (bs t.text), .int .i64 (t.pos : Int)] 33)).cell? ⟨w2.heap.size, 1, none⟩ = some (.string (bs t.text)) := by rw [World.cell?_alloc_at _ _ _ _ rfl]; rfl
    have hBa : Below w2.heap.size w2 (w2.alloc (.cells #[Value.int .u8 (t.kind : Int), .string (bs t.text), .int .i64 (t.pos : Int)] 33)) := (Below.refl _ _).alloc (Nat.le_refl _) _
    have HT3 := Lib.hid (HT2.out.keep hBa)
    have HB3 := Lib.hid (HB2.out.trans (hBa.mono HB2.out.size)); clear hBa
    refine (lex_at (bs t.text) HSZ2.out [⟨t.kind, t.text, 0⟩] 0 0 HLX2.out _ HT3.out).mono ?_
    rintro e w4 ⟨A4, c4, rfl, ha4, hb4⟩
    replace e0 := cell_keep hb4 e0; replace e1 := cell_keep hb4 e1
    have HB4 := Lib.hid (HB3.out.trans (hb4.mono HB3.out.size)); clear hb4
    rcases ha4 with ⟨h0, _⟩ | ⟨b4, off4, c4', hv, hcell⟩
    · cases h0
    simp only [Value.slice.injEq] at hv
    obtain ⟨rfl, _, rfl⟩ := hv
    obtain ⟨f1, f2, f3⟩ := hcell 0 Nat.one_pos
    simp only [tokAt, List.getD_cons_zero, Nat.zero_mul, Nat.add_zero] at f1 f2 f3
    clear hcell d1 d2 d3
    have heq := tokEq
    have hgd := Tryd.guardTok
    go_wp2_with fail
    go_quiet (fail)
    go_wp2_with fail
    go_ret
    exact ⟨rfl, HB4.out.trans ⟨rfl, rfl, rfl, Nat.le_refl _, fun _ _ => rfl⟩⟩
  · have hcase : 600 < s.size ∨ (s.size ≤ 600 ∧ ((er : Int) != 0) = true) ∨ (s.size ≤ 600 ∧ ((er : Int) != 0) = false ∧ ts.length = 0) := by
      by_cases h6 : 600 < s.size
      · exact .inl h6
      · by_cases h0 : er = 0
        · refine .inr (.inr ⟨by omega, by simp [h0], ?_⟩)
          by_cases hne : ts = []
          · simp [hne]
          · exact absurd ⟨by omega, h0, hne⟩ hgood
        · exact .inr (.inl ⟨by omega, by simp [h0]⟩)
    have HLX := Lib.hid hlx
    clear hgood hlx hsl
    rcases hcase with h6 | ⟨h6, h0⟩ | ⟨h6, h0, hl0⟩
    all_goals
      first | (have hz0 : ((ts.length : Int) == 0) = true := by simpa using hl0) | skip
      go_enter Tryd.func4, Tryd.ntmps4
      go_wp2_with fail
      refine (lex_at s hs ts p er HLX.out.symm w HT.out).mono ?_
      rintro e w1 ⟨A1, c1, rfl, ha1, hb1⟩
      have HT1 := Lib.hid (HT.out.keep hb1)
      have HB1 := Lib.hid hb1; clear hb1 ha1
      go_wp2_with fail
      refine (awake11 w1 HT1.out).mono ?_
      rintro e w2 ⟨rfl, hb2⟩
      have HT2 := Lib.hid (HT1.out.keep hb2)
      have HB2 := Lib.hid (HB1.out.trans (hb2.mono HB1.out.size)); clear hb2
      go_wp2_with fail
      refine (awake11 w2 HT2.out).mono ?_
      rintro e w3 ⟨rfl, hb3⟩
      have HB3 := Lib.hid (HB2.out.trans (hb3.mono HB2.out.size)); clear hb3
      go_wp2_with fail
      go_ret
      exact ⟨rfl, HB3.out⟩

end Go.Proofs.YtidfhfcplcfcmaaDoor
