/- Walks: the tokens of two lines are the tokens of each. -/
import Derived.Test.YtidfhfcplcfcmaaDoorLawSuffix
namespace Go.Proofs.YtidfhfcplcfcmaaDoor
open Go.RowKit OT

theorem lex_cases {s : Str} {ts : List Tok} {p er : Nat} (hl : s.length ≤ 65536) (h : lex s = (ts, p, er)) :
    (er = 0 ∧ p = 0 ∧ lexP 0 s = .ok ts) ∨ (er = 3 ∧ ts = [] ∧ p < s.length ∧ lexP 0 s = .error p) := by
  rw [lex_eq hl] at h
  cases hx : lexP 0 s with
  | error q =>
    rw [hx] at h; simp only [Prod.mk.injEq] at h
    obtain ⟨h1, h2, h3⟩ := h
    have := (lexP_error hx).2
    exact .inr ⟨h3.symm, h1.symm, by omega, by rw [h2]⟩
  | ok us => rw [hx] at h; simp only [Prod.mk.injEq] at h; exact .inl ⟨h.2.2.symm, h.2.1.symm, by rw [h.1]⟩

theorem solid_shift (d : Nat) (l : List Tok) : solid (l.map (Tok.shift d)) = (solid l).map (Tok.shift d) := by
  induction l with
  | nil => rfl
  | cons t r ih =>
    simp only [solid, List.map_cons, List.filter_cons] at ih ⊢
    have : (Tok.shift d t).kind = t.kind := rfl
    rw [this]
    split
    · simp only [List.map_cons, ih]
    · exact ih

theorem lines_pure {a b : Str} {ta tb : List Tok} {pa ea pb eb : Nat} (ha : a.length ≤ 600) (hb : b.length ≤ 600) (h1 : lex a = (ta, pa, ea)) (h2 : lex b = (tb, pb, eb)) :
    (ea ≠ 0 → lex (a ++ 10 :: b) = ([], pa, ea)) ∧ (ea = 0 → eb ≠ 0 → lex (a ++ 10 :: b) = ([], pb + (a.length + 1), eb)) ∧
      (ea = 0 → eb = 0 → ∃ tc, lex (a ++ 10 :: b) = (tc, 0, 0) ∧ solid tc = solid ta ++ (solid tb).map (Tok.shift (a.length + 1))) := by
  have hl : (a ++ 10 :: b).length ≤ 65536 := by simp only [List.length_append, List.length_cons]; omega
  have hj := lexP_lines b a 0
  rw [Nat.zero_add, lexP_zero b] at hj
  rw [lex_eq hl]
  rcases lex_cases (by omega) h1 with ⟨rfl, rfl, e1⟩ | ⟨rfl, rfl, _, e1⟩
  · rcases lex_cases (by omega) h2 with ⟨rfl, rfl, e2⟩ | ⟨rfl, rfl, _, e2⟩
    · refine ⟨fun h => absurd rfl h, fun _ h => absurd rfl h, fun _ _ => ?_⟩
      rw [e1, e2] at hj
      cases hx : lexP 0 (a ++ 10 :: b) with
      | error q => rw [hx] at hj; cases hj
      | ok tc =>
        rw [hx] at hj
        simp only [solidR, shiftR, appR, Except.ok.injEq] at hj
        refine ⟨tc, rfl, ?_⟩
        rw [hj]
        rw [solid_shift]
    · refine ⟨fun h => absurd rfl h, fun _ _ => ?_, fun _ h => absurd h (by decide)⟩
      rw [e1, e2] at hj
      cases hx : lexP 0 (a ++ 10 :: b) with
      | error q => rw [hx] at hj; simp only [solidR, shiftR, appR, Except.error.injEq] at hj; rw [hj]
      | ok tc => rw [hx] at hj; cases hj
  · refine ⟨fun _ => ?_, fun h => absurd h (by decide), fun h => absurd h (by decide)⟩
    rw [e1] at hj
    cases hx : lexP 0 (a ++ 10 :: b) with
    | error q => rw [hx] at hj; simp only [solidR, appR, Except.error.injEq] at hj; rw [hj]
    | ok tc => rw [hx] at hj; cases hj

/-- Solid's result as the walk meets it. -/
theorem solid_at (v : Value) (l : List Tok) (w : World) (h : ToksAt w v l) (hl : l.length ≤ 4000000000000) :
    Calls Tryd.prog 21 #[v] w fun e w' => ∃ A c, e = .returned (.slice A (solid l).length c) ∧ ToksAt w' (.slice A (solid l).length c) (solid l) ∧ Below w.heap.size w w' := by
  refine (solid_any v l w h hl).mono ?_
  rintro e w' ⟨v', rfl, ho, hb⟩
  have hA := toksAt_of_own ho
  obtain ⟨A, c, rfl⟩ := hA.slice
  exact ⟨A, c, rfl, hA, hb⟩

theorem tokNeq_same (a : Int) (s : ByteArray) (p : Int) (w : World) :
    (binOp .neq 33 (.agg #[.int .u8 a, .string s, .int .i64 p]) (.agg #[.int .u8 a, .string s, .int .i64 p])).run Tryd.prog w = .ok (.bool false) w := by
  rw [tokNeq]; simp

theorem tokAt_left {x y : List Tok} {i : Nat} (h : i < x.length) : tokAt (x ++ y) i = tokAt x i := by
  simp [tokAt, List.getD_eq_getElem?_getD, List.getElem?_append_left h]
theorem tokAt_right {x y : List Tok} {d i : Nat} (h : x.length ≤ i) (hi : i < (x ++ y.map (Tok.shift d)).length) : tokAt (x ++ y.map (Tok.shift d)) i = Tok.shift d (tokAt y (i - x.length)) := by
  simp only [List.length_append, List.length_map] at hi
  simp only [tokAt, List.getD_eq_getElem?_getD, List.getElem?_append_right h, List.getElem?_map, List.getElem?_eq_getElem (show i - x.length < y.length by omega), Option.map_some, Option.getD_some]
theorem solid_len (l : List Tok) : (solid l).length ≤ l.length := List.length_filter_le _ _

theorem solid_pos {s : Str} {ts : List Tok} (h : lexP 0 s = .ok ts) (j : Nat) (hj : j < (solid ts).length) : (tokAt (solid ts) j).pos ≤ s.length := by
  have e : tokAt (solid ts) j = (solid ts)[j] := by simp [tokAt, List.getD_eq_getElem?_getD, List.getElem?_eq_getElem hj]
  have hm : (solid ts)[j] ∈ ts := (List.mem_filter.1 (List.getElem_mem hj)).1
  have := ((lexP_ok h).2.2 _ hm).2.2.2.2.2
  rw [e]; omega
theorem ToksAt.box {w : World} {A : Option Addr} {n c : Nat} {l : List Tok} (h : ToksAt w (.slice A n c) l) (hp : 0 < l.length) : ∃ b off, A = some ⟨b, off, none⟩ ∧ ∀ k, k < l.length →
    w.cell? ⟨b, off + k * 3, none⟩ = some (.int .u8 ((tokAt l k).kind : Int)) ∧ w.cell? ⟨b, off + k * 3 + 1, none⟩ = some (.string (bs (tokAt l k).text)) ∧ w.cell? ⟨b, off + k * 3 + 2, none⟩ = some (.int .i64 ((tokAt l k).pos : Int)) := by
  rcases h with ⟨rfl, _⟩ | ⟨b, off, c', hv, hc⟩
  · simp at hp
  · simp only [Value.slice.injEq] at hv
    exact ⟨b, off, hv.1, hc⟩

def lineCat (a b : ByteArray) : ByteArray := a ++ ⟨#[10]⟩ ++ b
theorem lineCat_list (a b : ByteArray) : (lineCat a b).data.toList = a.data.toList ++ 10 :: b.data.toList := by
  simp [lineCat]
theorem lineCat_size (a b : ByteArray) : (lineCat a b).size = a.size + 1 + b.size := by
  unfold lineCat; rw [ByteArray.size_append, ByteArray.size_append]; rfl

set_option maxRecDepth 100000 in
set_option maxHeartbeats 4000000 in
theorem lexerLines_walk (a : ByteArray) (has : a.size ≤ 140737488351232) (b : ByteArray) (hbs : b.size ≤ 140737488351232) (w : World) (hT : SpaceTab w) :
    Calls Tryd.prog 6 #[.string a, .string b] w (AwakePost w) := by
  have HT := Lib.hid hT; clear hT
  by_cases hbig : a.size ≤ 600 ∧ b.size ≤ 600
  · obtain ⟨ha6, hb6⟩ := hbig
    obtain ⟨⟨ta, pa, ea⟩, hla⟩ : ∃ x, x = lex a.data.toList := ⟨_, rfl⟩
    obtain ⟨⟨tb, pb, eb⟩, hlb⟩ : ∃ x, x = lex b.data.toList := ⟨_, rfl⟩
    obtain ⟨q1, q2, q3⟩ := lines_pure (by simpa using ha6) (by simpa using hb6) hla.symm hlb.symm
    rw [← lineCat_list] at q1 q2 q3
    have hal : a.data.toList.length = a.size := by simp
    have hsc : (lineCat a b).size ≤ 140737488351232 := by rw [lineCat_size]; omega
    rw [hal] at q2 q3
    have HSC := Lib.hid hsc; clear hsc
    have HLA := Lib.hid hla; have HLB := Lib.hid hlb
    have hlta := lex_len hla.symm; have hltb := lex_len hlb.symm
    clear hla hlb hal
    by_cases hea : ea = 0
    · by_cases heb : eb = 0
      · obtain ⟨tc, hlc, hsol⟩ := q3 hea heb
        have hltc := lex_len hlc
        subst hea heb
        clear q1 q2 q3
        have HLC := Lib.hid hlc; clear hlc
        have HPB := Lib.hid (fun j hj => solid_pos (lex_ok (by simpa using (by omega : b.size ≤ 65536)) HLB.out.symm).1 j hj)
        have HS := Lib.hid hsol; clear hsol
        go_enter Tryd.func6, Tryd.ntmps6
        go_wp2_with fail
        refine (awake11 w HT.out).mono ?_
        rintro e w1 ⟨rfl, hb1⟩
        have HT1 := Lib.hid (HT.out.keep hb1)
        have HB1 := Lib.hid hb1; clear hb1
        go_wp2_with fail
        refine (lex_at a has ta pa 0 HLA.out.symm w1 HT1.out).mono ?_
        rintro e w2 ⟨A2, c2, rfl, ha2, hb2⟩
        have HA2 := Lib.hid ha2; clear ha2
        have HT2 := Lib.hid (HT1.out.keep hb2)
        have HB2 := Lib.hid (HB1.out.trans (hb2.mono HB1.out.size)); clear hb2
        go_wp2_with fail
        refine (lex_at b hbs tb pb 0 HLB.out.symm w2 HT2.out).mono ?_
        rintro e w3 ⟨A3, c3, rfl, ha3, hb3⟩
        have HA2 := Lib.hid (HA2.out.keep hb3)
        have HA3 := Lib.hid ha3; clear ha3
        have HT3 := Lib.hid (HT2.out.keep hb3)
        have HB3 := Lib.hid (HB2.out.trans (hb3.mono HB2.out.size)); clear hb3
        go_wp2_with fail
        refine (lex_at (lineCat a b) HSC.out tc 0 0 HLC.out w3 HT3.out).mono ?_
        rintro e w4 ⟨A4, c4, rfl, ha4, hb4⟩
        have HA2 := Lib.hid (HA2.out.keep hb4)
        have HA3 := Lib.hid (HA3.out.keep hb4)
        have HA4 := Lib.hid ha4; clear ha4
        have HB4 := Lib.hid (HB3.out.trans (hb4.mono HB3.out.size)); clear hb4
        go_wp2_with fail
        refine (solid_at _ ta w4 HA2.out (by omega)).mono ?_
        rintro e w5 ⟨A5, c5, rfl, ha5, hb5⟩
        have HA3 := Lib.hid (HA3.out.keep hb5)
        have HA4 := Lib.hid (HA4.out.keep hb5)
        have HA5 := Lib.hid ha5; clear ha5
        have HB5 := Lib.hid (HB4.out.trans (hb5.mono HB4.out.size)); clear hb5
        go_wp2_with fail
        refine (solid_at _ tb w5 HA3.out (by omega)).mono ?_
        rintro e w6 ⟨A6, c6, rfl, ha6', hb6'⟩
        have HA4 := Lib.hid (HA4.out.keep hb6')
        have HA5 := Lib.hid (HA5.out.keep hb6')
        have HA6 := Lib.hid ha6'; clear ha6'
        have HB6 := Lib.hid (HB5.out.trans (hb6'.mono HB5.out.size)); clear hb6'
        go_wp2_with fail
        refine (solid_at _ tc w6 HA4.out (by omega)).mono ?_
        rintro e w7 ⟨A7, c7, rfl, ha7, hb7⟩
        have HA5 := Lib.hid (HA5.out.keep hb7)
        have HA6 := Lib.hid (HA6.out.keep hb7)
        have HA7 := Lib.hid ha7; clear ha7
        have HB7 := Lib.hid (HB6.out.trans (hb7.mono HB6.out.size)); clear hb7
        have hl1 := solid_len ta; have hl2 := solid_len tb; have hl3 := solid_len tc
        have hlen : (solid tc).length = (solid ta).length + (solid tb).length := by rw [HS.out]; simp
        obtain ⟨sa, hsa⟩ : ∃ x, x = solid ta := ⟨_, rfl⟩
        obtain ⟨sb, hsb⟩ : ∃ x, x = solid tb := ⟨_, rfl⟩
        obtain ⟨sc, hsc⟩ : ∃ x, x = solid tc := ⟨_, rfl⟩
        rw [← hsa] at HA5 HS hl1 hlen ⊢
        rw [← hsb] at HA6 HS hl2 hlen HPB ⊢
        rw [← hsc] at HA7 HS hl3 hlen ⊢
        clear hsa hsb hsc
        have hne : ((sc.length : Int) != (sa.length : Int) + (sb.length : Int)) = false := by
          have : (sc.length : Int) = (sa.length : Int) + (sb.length : Int) := by omega
          rw [this]; simp
        go_wp2_with fail
        go_loopw [108] (fun j wr => ∃ k : Nat, k ≤ sc.length ∧ j = .int .i64 k ∧ Below w7.heap.size w7 wr) (fun j _ => sc.length - (intOf j).toNat)
        case atStart => exact ⟨0, Nat.zero_le _, rfl, Below.refl _ _⟩
        case round =>
          obtain ⟨i, hi, rfl, hB⟩ := hrel
          have HB := Lib.hid hB; clear hB
          by_cases hlt : i < sc.length
          · obtain ⟨b7, o7, rfl, hc7⟩ := HA7.out.box (by omega)
            obtain ⟨m1, m2, m3⟩ := hc7 i hlt
            clear hc7
            replace m1 := cell_keep HB.out m1; replace m2 := cell_keep HB.out m2; replace m3 := cell_keep HB.out m3
            have i2 : (0 : Int) ≤ (i : Int) := Int.natCast_nonneg _
            have i3 : (i : Int) < (sc.length : Int) := by omega
            by_cases hsa : i < sa.length
            · obtain ⟨b5, o5, rfl, hc5⟩ := HA5.out.box (by omega)
              obtain ⟨t1, t2, t3⟩ := hc5 i hsa
              clear hc5
              replace t1 := cell_keep HB.out t1; replace t2 := cell_keep HB.out t2; replace t3 := cell_keep HB.out t3
              have hq : tokAt sc i = tokAt sa i := by rw [HS.out]; exact tokAt_left hsa
              rw [hq] at m1 m2 m3
              clear hq
              generalize tokAt sa i = t at m1 m2 m3 t1 t2 t3
              have i4 : (i : Int) < (sa.length : Int) := by omega
              obtain ⟨wa, hwa⟩ : ∃ x, x = wr.alloc (.cells #[Value.int .u8 (t.kind : Int), .string (bs t.text), .int .i64 (t.pos : Int)] 33) := ⟨_, rfl⟩
              have hBa : Below wr.heap.size wr wa := by rw [hwa]; exact (Below.refl _ _).alloc (Nat.le_refl _) _
              replace t1 := cell_keep hBa t1; replace t2 := cell_keep hBa t2; replace t3 := cell_keep hBa t3
              have HB8 := Lib.hid (HB.out.trans (hBa.mono HB.out.size)); clear hBa
              subst hwa
              have heq := tokNeq_same
              have hgd := Tryd.guardTok
              go_wp2_with fail
              go_quiet (fail)
              go_wp2_with fail
              exact ⟨⟨i + 1, by omega, by go_num, HB8.out.trans ⟨rfl, rfl, rfl, Nat.le_refl _, fun _ _ => rfl⟩⟩, by simp only [intOf]; omega⟩
            · have hj : i - sa.length < sb.length := by omega
              obtain ⟨b6, o6, rfl, hc6⟩ := HA6.out.box (by omega)
              obtain ⟨t1, t2, t3⟩ := hc6 _ hj
              clear hc6
              replace t1 := cell_keep HB.out t1; replace t2 := cell_keep HB.out t2; replace t3 := cell_keep HB.out t3
              have hq : tokAt sc i = Tok.shift (a.size + 1) (tokAt sb (i - sa.length)) := by
                have h1 := HS.out
                rw [h1] at hlt
                rw [h1]; exact tokAt_right (by omega) hlt
              have hps : (tokAt sb (i - sa.length)).pos ≤ 600 := by have := HPB.out _ hj; simp only [Array.length_toList] at this; exact Nat.le_trans this hb6
              rw [hq] at m1 m2 m3
              clear hq
              generalize tokAt sb (i - sa.length) = t at m1 m2 m3 t1 t2 t3 hps
              simp only [Tok.shift] at m1 m2 m3
              rw [show ((t.pos + (a.size + 1) : Nat) : Int) = (t.pos : Int) + ((a.size : Int) + 1) by omega] at m3
              have i4 : ((i : Int) < (sa.length : Int)) = False := by simp; omega
              have i5 : (0 : Int) ≤ (i : Int) - (sa.length : Int) := by omega
              have i6 : (i : Int) - (sa.length : Int) < (sb.length : Int) := by omega
              obtain ⟨wa, hwa⟩ : ∃ x, x = wr.alloc (.cells #[Value.int .u8 (t.kind : Int), .string (bs t.text), .int .i64 ((t.pos : Int) + ((a.size : Int) + 1))] 33) := ⟨_, rfl⟩
              have hBa : Below wr.heap.size wr wa := by rw [hwa]; exact (Below.refl _ _).alloc (Nat.le_refl _) _
              replace t1 := cell_keep hBa t1; replace t2 := cell_keep hBa t2; replace t3 := cell_keep hBa t3
              have hBb : Below wa.heap.size wa (wa.alloc (.cells #[Value.int .u8 (t.kind : Int), .string (bs t.text), .int .i64 ((t.pos : Int) + ((a.size : Int) + 1))] 33)) := (Below.refl _ _).alloc (Nat.le_refl _) _
              have e0 : wa.cell? ⟨wr.heap.size, 0, none⟩ = some (.int .u8 (t.kind : Int)) := by rw [hwa, World.cell?_alloc_at _ _ _ _ rfl]; rfl
              have e1 : wa.cell? ⟨wr.heap.size, 1, none⟩ = some (.string (bs t.text)) := by rw [hwa, World.cell?_alloc_at _ _ _ _ rfl]; rfl
              have e2 : wa.cell? ⟨wr.heap.size, 2, none⟩ = some (.int .i64 ((t.pos : Int) + ((a.size : Int) + 1))) := by rw [hwa, World.cell?_alloc_at _ _ _ _ rfl]; rfl
              replace e0 := cell_keep hBb e0; replace e1 := cell_keep hBb e1; replace e2 := cell_keep hBb e2
              have HB8 := Lib.hid (HB.out.trans ((hBa.trans (hBb.mono hBa.size)).mono HB.out.size)); clear hBa hBb
              subst hwa
              have heq := tokNeq_same
              have hgd := Tryd.guardTok
              go_wp2_with fail
              exact ⟨⟨i + 1, by omega, by go_num, HB8.out⟩, by simp only [intOf]; omega⟩
          · go_wp2_with fail
            go_ret
            exact ⟨rfl, HB7.out.trans (HB.out.mono HB7.out.size)⟩
      · clear q1 q3
        have Q2 := Lib.hid (q2 hea heb); clear q2
        subst hea
        have hz : ((eb : Int) != 0) = true := by simp [heb]
        go_enter Tryd.func6, Tryd.ntmps6
        go_wp2_with fail
        refine (awake11 w HT.out).mono ?_
        rintro e w1 ⟨rfl, hb1⟩
        have HT1 := Lib.hid (HT.out.keep hb1)
        have HB1 := Lib.hid hb1; clear hb1
        go_wp2_with fail
        refine (lex_at a has ta pa 0 HLA.out.symm w1 HT1.out).mono ?_
        rintro e w2 ⟨A2, c2, rfl, _, hb2⟩
        have HT2 := Lib.hid (HT1.out.keep hb2)
        have HB2 := Lib.hid (HB1.out.trans (hb2.mono HB1.out.size)); clear hb2
        go_wp2_with fail
        refine (lex_at b hbs tb pb eb HLB.out.symm w2 HT2.out).mono ?_
        rintro e w3 ⟨A3, c3, rfl, _, hb3⟩
        have HT3 := Lib.hid (HT2.out.keep hb3)
        have HB3 := Lib.hid (HB2.out.trans (hb3.mono HB2.out.size)); clear hb3
        have hpb : pb ≤ 600 := by
          rcases lex_cases (by simp; omega) HLB.out.symm with ⟨h, _⟩ | ⟨_, _, h, _⟩
          · exact absurd h heb
          · simp at h; omega
        go_wp2_with fail
        refine (lex_at (lineCat a b) HSC.out [] (pb + (a.size + 1)) eb Q2.out w3 HT3.out).mono ?_
        rintro e w4 ⟨A4, c4, rfl, _, hb4⟩
        have HB4 := Lib.hid (HB3.out.trans (hb4.mono HB3.out.size)); clear hb4
        have hsum : ((pb : Int) + ((a.size : Int) + 1) == (pb : Int) + (a.size : Int) + 1) = true := by simp; omega
        go_wp2_with fail
        go_ret
        exact ⟨rfl, HB4.out⟩
    · clear q2 q3
      have Q1 := Lib.hid (q1 hea); clear q1
      have hz : ((ea : Int) != 0) = true := by simp [hea]
      go_enter Tryd.func6, Tryd.ntmps6
      go_wp2_with fail
      refine (awake11 w HT.out).mono ?_
      rintro e w1 ⟨rfl, hb1⟩
      have HT1 := Lib.hid (HT.out.keep hb1)
      have HB1 := Lib.hid hb1; clear hb1
      go_wp2_with fail
      refine (lex_at a has ta pa ea HLA.out.symm w1 HT1.out).mono ?_
      rintro e w2 ⟨A2, c2, rfl, _, hb2⟩
      have HT2 := Lib.hid (HT1.out.keep hb2)
      have HB2 := Lib.hid (HB1.out.trans (hb2.mono HB1.out.size)); clear hb2
      go_wp2_with fail
      refine (lex_at b hbs tb pb eb HLB.out.symm w2 HT2.out).mono ?_
      rintro e w3 ⟨A3, c3, rfl, _, hb3⟩
      have HT3 := Lib.hid (HT2.out.keep hb3)
      have HB3 := Lib.hid (HB2.out.trans (hb3.mono HB2.out.size)); clear hb3
      go_wp2_with fail
      refine (lex_at (lineCat a b) HSC.out [] pa ea Q1.out w3 HT3.out).mono ?_
      rintro e w4 ⟨A4, c4, rfl, _, hb4⟩
      have HB4 := Lib.hid (HB3.out.trans (hb4.mono HB3.out.size)); clear hb4
      go_wp2_with fail
      go_ret
      exact ⟨rfl, HB4.out⟩
  · have hcase : 600 < a.size ∨ (a.size ≤ 600 ∧ 600 < b.size) := by omega
    clear hbig
    rcases hcase with h6 | ⟨h6, h7⟩
    all_goals
      go_enter Tryd.func6, Tryd.ntmps6
      go_wp2_with fail
      refine (awake11 w HT.out).mono ?_
      rintro e w1 ⟨rfl, hb1⟩
      have HT1 := Lib.hid (HT.out.keep hb1)
      have HB1 := Lib.hid hb1; clear hb1
      go_wp2_with fail
      refine (awake11 w1 HT1.out).mono ?_
      rintro e w2 ⟨rfl, hb2⟩
      have HB2 := Lib.hid (HB1.out.trans (hb2.mono HB1.out.size)); clear hb2
      go_wp2_with fail
      go_ret
      exact ⟨rfl, HB2.out⟩

end Go.Proofs.YtidfhfcplcfcmaaDoor
