/- Walks: Solid leaves out spaces and comments, and shares nothing with its input. -/
import Derived.Test.YtidfhfcplcfcmaaDoorLexInput
import Derived.Test.YtidfhfcplcfcmaaDoorLawError
namespace Go.Proofs.YtidfhfcplcfcmaaDoor.TI
open Go.RowKit OT

/-- the row that Solid has made: from index k on as it was made -/
def MRow (w : World) (g : Nat) (l : List Tok) (k : Nat) : Prop :=
  ∃ cur, w.heap[g]? = some (.cells cur 33 (0, 0)) ∧ l.length * 3 ≤ cur.size ∧ ∀ j, k ≤ j → j < l.length → cur[j * 3]? = some (.int .u8 ((tokAt l j).kind : Int)) ∧ cur[j * 3 + 1]? = some (.string (bs (tokAt l j).text)) ∧ cur[j * 3 + 2]? = some (.int .i64 (tokAt l j).pos)

theorem MRow.keep {w w1 : World} {g : Nat} {l : List Tok} {k : Nat} (h : MRow w g l k) (hb : Below w.heap.size w w1) : MRow w1 g l k := by
  obtain ⟨cur, h1, h2⟩ := h
  have hlt : g < w.heap.size := by
    rcases Nat.lt_or_ge g w.heap.size with h' | h'
    · exact h'
    · simp [Array.getElem?_eq_none h'] at h1
  exact ⟨cur, (hb.block g hlt).trans h1, h2⟩
theorem MRow.cells {w : World} {g : Nat} {l : List Tok} {k : Nat} (h : MRow w g l k) (j : Nat) (h1 : k ≤ j) (h2 : j < l.length) :
    w.cell? ⟨g, j * 3, none⟩ = some (.int .u8 ((tokAt l j).kind : Int)) ∧ w.cell? ⟨g, j * 3 + 1, none⟩ = some (.string (bs (tokAt l j).text)) ∧ w.cell? ⟨g, j * 3 + 2, none⟩ = some (.int .i64 (tokAt l j).pos) := by
  obtain ⟨cur, e1, _, e2⟩ := h
  obtain ⟨a, b, c⟩ := e2 j h1 h2
  exact ⟨by rw [Lib.cell_of_heap e1, a], by rw [Lib.cell_of_heap e1, b], by rw [Lib.cell_of_heap e1, c]⟩
theorem MRow.frozen {w : World} {g : Nat} {l : List Tok} {k : Nat} (h : MRow w g l k) (j : Nat) : w.frozen? ⟨g, j, none⟩ = false := by
  obtain ⟨cur, e1, _⟩ := h
  exact Lib.frozen_of_heap e1 j
theorem MRow.store {w : World} {g : Nat} {l : List Tok} {k : Nat} (h : MRow w g l k) (v : Value) : MRow (w.setCell ⟨g, k * 3 + 1, none⟩ v) g l (k + 1) := by
  obtain ⟨cur, e1, e2, e3⟩ := h
  refine ⟨cur.setIfInBounds (k * 3 + 1) v, ?_, by simpa using e2, fun j h1 h2 => ?_⟩
  · simp [World.setCell, Array.getElem?_modify, e1]
  · obtain ⟨a, b, c⟩ := e3 j (by omega) h2
    refine ⟨?_, ?_, ?_⟩
    · rw [Array.getElem?_setIfInBounds_ne (by omega)]; exact a
    · rw [Array.getElem?_setIfInBounds_ne (by omega)]; exact b
    · rw [Array.getElem?_setIfInBounds_ne (by omega)]; exact c
theorem mrow_of_own {w : World} {base : Nat} {v : Value} {l : List Tok} (h : w.ownsRow base 33 3 v l.length (toksCells l)) :
    (l = [] ∧ v = .slice none 0 0) ∨ ∃ g cap, v = .slice (some ⟨g, 0, none⟩) l.length cap ∧ base ≤ g ∧ MRow w g l 0 := by
  rcases h.2 with ⟨rfl, h0⟩ | ⟨g, cap, cur, rfl, hb, hh, hc, hm, hs, ht⟩
  · exact .inl ⟨List.eq_nil_of_length_eq_zero h0, rfl⟩
  · refine .inr ⟨g, cap, rfl, hb, cur, hh, by rw [hs]; exact Nat.mul_le_mul_right _ hc, fun j _ hj => ?_⟩
    obtain ⟨a, b, c⟩ := toksCells_at l j hj
    have hx : ∀ (i : Nat) (u : Value), (toksCells l)[i]? = some u → cur[i]? = some u := by
      intro i u hu
      rw [← ht, List.getElem?_take] at hu
      split at hu
      · simpa using hu
      · cases hu
    exact ⟨hx _ _ a, hx _ _ b, hx _ _ c⟩

theorem below_drewN {B : Nat} {a w : World} (h : Below B a w) (n : Nat) : Below B a (w.drewN n) := h.trans ⟨rfl, rfl, rfl, Nat.le_refl _, fun _ _ => rfl⟩
theorem bs_cat (a b : Str) : bs a ++ bs b = bs (a ++ b) := by
  apply ByteArray.ext
  simp [bs]
theorem joinT_le (l : List Tok) (m : Nat) (h : ∀ k, k < l.length → (tokAt l k).text.length ≤ m) : (joinT l).length ≤ l.length * m := by
  induction l with
  | nil => simp [joinT]
  | cons t r ih =>
    have h0 := h 0 (by simp)
    have hr := ih fun k hk => by have := h (k + 1) (by simpa using hk); simpa [tokAt] using this
    simp only [tokAt, List.getD_cons_zero] at h0
    simp only [joinT, List.map_cons, List.flatten_cons, List.length_append, List.length_cons] at hr ⊢
    rw [Nat.add_mul]; omega
theorem joinT_bound (l : List Tok) (k : Nat) (h : ∀ j, j < k → (tokAt l j).text.length ≤ 60) : (joinT (l.take k)).length ≤ k * 60 := by
  induction k with
  | zero => simp [joinT]
  | succ k ih =>
    have h1 := ih fun j hj => h j (by omega)
    by_cases hk : k < l.length
    · rw [joinT_take l k hk, List.length_append]
      have := h k (by omega)
      omega
    · rw [List.take_of_length_le (by omega)] at h1 ⊢
      omega
theorem solid_count (l : List Tok) (k : Nat) (hk : k < l.length) (h : ((tokAt l k).kind != 4 && (tokAt l k).kind != 5) = true) : (solid (l.take k)).length < (solid l).length ∧ tokAt (solid l) (solid (l.take k)).length = tokAt l k := by
  have e : solid l = solid (l.take (k + 1)) ++ solid (l.drop (k + 1)) := by
    unfold solid; rw [← List.filter_append, List.take_append_drop]
  rw [solid_keep l k hk h] at e
  refine ⟨by rw [e]; simp, ?_⟩
  rw [e]
  simp [tokAt, List.getD_eq_getElem?_getD]

set_option maxRecDepth 100000 in
set_option maxHeartbeats 4000000 in
theorem lexerSolid_walk (v : Value) (l : List Tok) (w : World) (hT : SpaceTab w) (hin : ToksAt w v l) :
    Calls Tryd.prog 10 #[v] w (AwakePost w) := by
  have HT := Lib.hid hT; clear hT
  obtain ⟨A, c, rfl⟩ := hin.slice
  have HIN := Lib.hid hin; clear hin
  by_cases hbig : l.length ≤ 60
  · go_enter Tryd.func10, Tryd.ntmps10
    go_wp2_with fail
    refine (awake11 w HT.out).mono ?_
    rintro e w1 ⟨rfl, hb1⟩
    have HT1 := Lib.hid (HT.out.keep hb1)
    have HIN1 := Lib.hid (HIN.out.keep hb1)
    have HB1 := Lib.hid hb1; clear hb1
    go_wp2_with fail
    go_loopw [20, 3] (fun i s wr => ∃ k : Nat, k ≤ l.length ∧ i = .int .i64 k ∧ s = .string (bs (joinT (l.take k))) ∧ Hid (∀ j, j < k → (tokAt l j).text.length ≤ 60) ∧ Hid (Below w1.heap.size w1 wr)) (fun i _ _ => l.length - (intOf i).toNat)
    case atStart => exact ⟨0, Nat.zero_le _, rfl, rfl, Lib.hid (fun j hj => by omega), Lib.hid (Below.refl _ _)⟩
    case round =>
      obtain ⟨k, hk, rfl, rfl, HS, HB⟩ := hrel
      by_cases hlt : k < l.length
      · obtain ⟨b, o, rfl, hc⟩ := HIN1.out.box (by omega)
        obtain ⟨m1, m2, m3⟩ := hc k hlt
        clear hc
        replace m1 := cell_keep HB.out m1; replace m2 := cell_keep HB.out m2; replace m3 := cell_keep HB.out m3
        have i0 : (0 : Int) ≤ (k : Int) := Int.natCast_nonneg _
        have i1 : (k : Int) < (l.length : Int) := by omega
        have HJT := Lib.hid (joinT_take l k hlt)
        obtain ⟨t, ht⟩ : ∃ t, t = tokAt l k := ⟨_, rfl⟩
        rw [← ht] at m1 m2 m3 HJT
        have HTK := Lib.hid ht; clear ht
        have HB2 := Lib.hid (HB.out.trans (((Below.refl wr.heap.size wr).alloc (Nat.le_refl _) (.cells #[Value.int .u8 (t.kind : Int), .string (bs t.text), .int .i64 t.pos] 33)).mono HB.out.size))
        by_cases h60 : (bs t.text).size ≤ 60
        · have HS2 := Lib.hid (show ∀ j, j < k + 1 → (tokAt l j).text.length ≤ 60 from fun j hj => by
            rcases Nat.lt_or_eq_of_le (Nat.le_of_lt_succ hj) with h | rfl
            · exact HS.out j h
            · rw [← HTK.out, ← bs_size]; exact h60)
          have hcz : (bs (joinT (l.take k))).size ≤ 3600 := by rw [bs_size]; have := joinT_bound l k HS.out; omega
          have h60i : ((bs t.text).size : Int) ≤ 60 := by omega
          have hcat : bs (joinT (l.take k)) ++ bs t.text = bs (joinT (l.take (k + 1))) := by rw [HJT.out, bs_cat]
          go_wp2_with fail
          exact ⟨⟨k + 1, by omega, by go_num, rfl, HS2, HB2⟩, by simp only [intOf]; omega⟩
        · have h61 : 60 < (bs t.text).size := by omega
          clear h60
          go_wp2_with fail
          go_ret
          exact ⟨rfl, HB1.out.trans (HB2.out.mono HB1.out.size)⟩
      · have hkk : k = l.length := by omega
        subst hkk
        rw [List.take_length]
        have hjl : (joinT l).length ≤ 3600 := by have := joinT_le l 60 HS.out; omega
        have HIN2 := Lib.hid (HIN1.out.keep HB.out)
        have HB2 := Lib.hid (HB1.out.trans (HB.out.mono HB1.out.size))
        go_wp2_with fail
        refine (join_any _ l (by omega) (by omega) wr HIN2.out).mono ?_
        rintro e w3 ⟨rfl, hb3⟩
        have HIN3 := Lib.hid (HIN2.out.keep hb3)
        have HB3 := Lib.hid (HB2.out.trans (hb3.mono HB2.out.size)); clear hb3
        go_wp2_with fail
        refine (solid_any _ l w3 HIN3.out (by omega)).mono ?_
        rintro e w4 ⟨v4, rfl, ho4, hb4⟩
        have HIN4 := Lib.hid (HIN3.out.keep hb4)
        have HB34 := Lib.hid hb4; clear hb4
        have hm := mrow_of_own ho4
        clear ho4
        have HJL := Lib.hid hjl
        clear hjl
        rcases hm with ⟨h0, rfl⟩ | ⟨g, cap, rfl, hg, hm⟩
        · have H0 := Lib.hid h0; clear h0
          go_wp2_with fail
          go_loopw [41, 7] (fun i n wr => ∃ k : Nat, k ≤ l.length ∧ i = .int .i64 k ∧ n = .int .i64 0 ∧ Hid (Below w4.heap.size w4 wr)) (fun i _ _ => l.length - (intOf i).toNat)
          case atStart => exact ⟨0, Nat.zero_le _, rfl, rfl, Lib.hid (Below.refl _ _)⟩
          case round =>
            obtain ⟨k, hk, rfl, rfl, HB⟩ := hrel
            by_cases hlt : k < l.length
            · obtain ⟨b, o, rfl, hc⟩ := HIN4.out.box (by omega)
              obtain ⟨m1, m2, m3⟩ := hc k hlt
              clear hc
              replace m1 := cell_keep HB.out m1; replace m2 := cell_keep HB.out m2; replace m3 := cell_keep HB.out m3
              have i0 : (0 : Int) ≤ (k : Int) := Int.natCast_nonneg _
              have i1 : (k : Int) < (l.length : Int) := by omega
              have hno : ((tokAt l k).kind != 4 && (tokAt l k).kind != 5) = false := by
                cases hx : ((tokAt l k).kind != 4 && (tokAt l k).kind != 5) with
                | false => rfl
                | true => have := (solid_count l k hlt hx).1; rw [H0.out] at this; simp at this
              generalize tokAt l k = t at m1 m2 m3 hno
              have HB2 := Lib.hid (HB.out.trans (((Below.refl wr.heap.size wr).alloc (Nat.le_refl _) (.cells #[Value.int .u8 (t.kind : Int), .string (bs t.text), .int .i64 t.pos] 33)).mono HB.out.size))
              cases h4 : ((t.kind : Int) == 4)
              · have h5 : ((t.kind : Int) == 5) = true := by
                  have h4' : ((t.kind : Int) != 4) = true := by simpa [bne] using h4
                  have := kinds45 t.kind h4' (fun _ => rfl)
                  rw [hno] at this
                  simpa [bne] using this
                go_wp2_with fail
                exact ⟨⟨k + 1, by omega, by go_num, rfl, HB2⟩, by simp only [intOf]; omega⟩
              · go_wp2_with fail
                exact ⟨⟨k + 1, by omega, by go_num, rfl, HB2⟩, by simp only [intOf]; omega⟩
            · have hkk : k = l.length := by omega
              subst hkk
              have HB2 := Lib.hid (HB3.out.trans ((HB34.out.trans (HB.out.mono HB34.out.size)).mono HB3.out.size))
              go_wp2_with fail
              refine (join_any _ l (by omega) (by have := HJL.out; omega) wr (HIN4.out.keep HB.out)).mono ?_
              rintro e w6 ⟨rfl, hb6⟩
              have HB6 := Lib.hid (HB2.out.trans (hb6.mono HB2.out.size)); clear hb6
              go_wp2_with fail
              go_ret
              exact ⟨rfl, HB6.out⟩
        · have HM := Lib.hid hm; clear hm
          have HSL := Lib.hid (List.length_filter_le (fun t : Tok => t.kind != 4 && t.kind != 5) l)
          have hsl : (solid l).length ≤ l.length := HSL.out
          go_wp2_with fail
          go_loopw [41, 7] (fun i n wr => ∃ k : Nat, k ≤ l.length ∧ i = .int .i64 k ∧ n = .int .i64 ((solid (l.take k)).length : Nat) ∧ Hid (Below w3.heap.size w3 wr) ∧ Hid (MRow wr g (solid l) (solid (l.take k)).length)) (fun i _ _ => l.length - (intOf i).toNat)
          case atStart => exact ⟨0, Nat.zero_le _, rfl, rfl, HB34, HM⟩
          case round =>
            obtain ⟨k, hk, rfl, rfl, HB, HM⟩ := hrel
            by_cases hlt : k < l.length
            · obtain ⟨b, o, rfl, hc⟩ := HIN3.out.box (by omega)
              obtain ⟨m1, m2, m3⟩ := hc k hlt
              clear hc
              replace m1 := cell_keep HB.out m1; replace m2 := cell_keep HB.out m2; replace m3 := cell_keep HB.out m3
              have i0 : (0 : Int) ≤ (k : Int) := Int.natCast_nonneg _
              have i1 : (k : Int) < (l.length : Int) := by omega
              obtain ⟨t, ht⟩ : ∃ t, t = tokAt l k := ⟨_, rfl⟩
              rw [← ht] at m1 m2 m3
              have HTK := Lib.hid ht; clear ht
              have HBa := Lib.hid ((Below.refl wr.heap.size wr).alloc (Nat.le_refl _) (.cells #[Value.int .u8 (t.kind : Int), .string (bs t.text), .int .i64 t.pos] 33))
              have HB2 := Lib.hid (HB.out.trans (HBa.out.mono HB.out.size))
              have HM2 := Lib.hid (HM.out.keep HBa.out)
              cases h4 : ((t.kind : Int) == 4)
              · have h4' : ((t.kind : Int) != 4) = true := by simpa [bne] using h4
                cases h5 : ((t.kind : Int) == 5)
                · have h5' : ((t.kind : Int) != 5) = true := by simpa [bne] using h5
                  have hyes : ((tokAt l k).kind != 4 && (tokAt l k).kind != 5) = true := by rw [← HTK.out, kinds45 t.kind h4' (fun _ => h5')]; rfl
                  obtain ⟨s1, s2⟩ := solid_count l k hlt hyes
                  have HSK := Lib.hid (solid_keep l k hlt hyes)
                  obtain ⟨n1, n2, n3⟩ := HM2.out.cells _ (Nat.le_refl _) s1
                  rw [s2, ← HTK.out] at n1 n2 n3
                  have f1 := HM2.out.frozen ((solid (l.take k)).length * 3 + 1)
                  have HM3 := Lib.hid (HM2.out.store (.string ⟨#[63]⟩))
                  have HB3' := Lib.hid (HB2.out.setCell (p := ⟨g, (solid (l.take k)).length * 3 + 1, none⟩) hg (.string ⟨#[63]⟩))
                  have hlen1 : (solid (l.take (k + 1))).length = (solid (l.take k)).length + 1 := by rw [HSK.out]; simp
                  rw [← hlen1] at HM3
                  have HL1 := Lib.hid hlen1
                  clear s2 h4' h5' hyes hlen1
                  generalize (solid (l.take k)).length = q at *
                  have j0 : (0 : Int) ≤ (q : Int) := Int.natCast_nonneg _
                  have j1 : (q : Int) < ((solid l).length : Int) := by omega
                  have heq := tokNeq_same
                  have hgd := Tryd.guardTok
                  go_wp2_with fail
                  go_quiet (fail)
                  go_wp2_with fail
                  exact ⟨⟨k + 1, by omega, by go_num, by rw [HL1.out]; simp, Lib.hid ((below_drewN HB2.out nq).setCell (p := ⟨g, q * 3 + 1, none⟩) hg _), Lib.hid HM3.out⟩, by simp only [intOf]; omega⟩
                · have HSK := Lib.hid (solid_skip l k hlt (by rw [← HTK.out, kinds45 t.kind h4' (b := false) (fun _ => by simpa [bne] using h5)]; rfl))
                  go_wp2_with fail
                  exact ⟨⟨k + 1, by omega, by go_num, by rw [HSK.out], HB2, by rw [HSK.out]; exact HM2⟩, by simp only [intOf]; omega⟩
              · have HSK := Lib.hid (solid_skip l k hlt (by rw [← HTK.out, kinds45 t.kind (a := false) (b := false) (by simpa [bne] using h4) (fun h => by cases h)]; rfl))
                go_wp2_with fail
                exact ⟨⟨k + 1, by omega, by go_num, by rw [HSK.out], HB2, by rw [HSK.out]; exact HM2⟩, by simp only [intOf]; omega⟩
            · have hkk : k = l.length := by omega
              subst hkk
              rw [List.take_length]
              have HB2 := Lib.hid (HB3.out.trans (HB.out.mono HB3.out.size))
              go_wp2_with fail
              refine (join_any _ l (by omega) (by have := HJL.out; omega) wr (HIN3.out.keep HB.out)).mono ?_
              rintro e w6 ⟨rfl, hb6⟩
              have HB6 := Lib.hid (HB2.out.trans (hb6.mono HB2.out.size)); clear hb6
              go_wp2_with fail
              go_ret
              exact ⟨rfl, HB6.out⟩
  · have h6 : 60 < l.length := by omega
    go_enter Tryd.func10, Tryd.ntmps10
    go_wp2_with fail
    refine (awake11 w HT.out).mono ?_
    rintro e w1 ⟨rfl, hb1⟩
    have HT1 := Lib.hid (HT.out.keep hb1)
    have HB1 := Lib.hid hb1; clear hb1
    go_wp2_with fail
    refine (awake11 w1 HT1.out).mono ?_
    rintro e w2 ⟨rfl, hb2⟩
    have HB2 := Lib.hid (HB1.out.trans (hb2.mono HB1.out.size)); clear hb2
    go_wp2_with fail
    go_ret
    exact ⟨rfl, HB2.out⟩

end Go.Proofs.YtidfhfcplcfcmaaDoor.TI
