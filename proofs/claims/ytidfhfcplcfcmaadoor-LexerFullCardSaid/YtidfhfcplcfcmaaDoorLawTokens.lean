/- Walks: the statement on the tokens of any text. -/
import Derived.Test.YtidfhfcplcfcmaaDoorRef11c
namespace Go.Proofs.YtidfhfcplcfcmaaDoor
open Go.RowKit OT

set_option maxRecDepth 100000 in
set_option maxHeartbeats 2000000 in
theorem same_eq (v1 v2 : Value) (l : List Tok) (hl : l.length ≤ 4000000000000) (w : World) (h1 : ToksAt w v1 l) (h2 : ToksAt w v2 l) :
    Calls Tryd.prog 20 #[v1, v2] w (AwakePost w) := by
  have HE := Lib.hid (fun (w' : World) (hb : Below w.heap.size w w') => show AwakePost w (.returned (.bool true)) w' from ⟨rfl, hb⟩)
  by_cases h0 : l = []
  · subst h0
    obtain ⟨A1, c1, rfl⟩ := h1.slice
    obtain ⟨A2, c2, rfl⟩ := h2.slice
    clear h1 h2
    go_enter Tryd.func20, Tryd.ntmps20
    go_wp2_with fail
    refine wp_loop_rounds 1 ?_
    rw [rounds_succ]
    go_wp2_with fail
    go_ret
    exact HE.out _ (Below.refl _ _)
  · rcases h1 with ⟨rfl, _⟩ | ⟨b1, o1, c1, rfl, hc1⟩
    · exact absurd rfl h0
    rcases h2 with ⟨rfl, _⟩ | ⟨b2, o2, c2, rfl, hc2⟩
    · exact absurd rfl h0
    go_enter Tryd.func20, Tryd.ntmps20
    go_wp2_with fail
    go_loopw [13] (fun i wr => ∃ k : Nat, k ≤ l.length ∧ i = .int .i64 k ∧ Below w.heap.size w wr) (fun i _ => l.length - (intOf i).toNat)
    case atStart => exact ⟨0, Nat.zero_le _, rfl, Below.refl _ _⟩
    case round =>
      obtain ⟨k, hk, rfl, hB⟩ := hrel
      by_cases hlt : k < l.length
      · obtain ⟨a1, a2, a3⟩ := hc1 k hlt
        obtain ⟨d1, d2, d3⟩ := hc2 k hlt
        replace a1 := cell_keep hB a1; replace a2 := cell_keep hB a2; replace a3 := cell_keep hB a3
        replace d1 := cell_keep hB d1; replace d2 := cell_keep hB d2; replace d3 := cell_keep hB d3
        have i0 : (0 : Int) ≤ (k : Int) := Int.natCast_nonneg _
        have i1 : (k : Int) < (l.length : Int) := by omega
        clear hc1 hc2
        generalize tokAt l k = t at a1 a2 a3 d1 d2 d3
        go_wp2_with fail
        go_quiet (fail)
        go_wp2_with fail
        go_roundw
        case rel => exact ⟨k + 1, by omega, by go_num, hB.trans ⟨rfl, rfl, rfl, Nat.le_refl _, fun _ _ => rfl⟩⟩
        case measure => simp [intOf]; omega
      · clear hc1 hc2
        go_wp2_with fail
        go_ret
        exact HE.out _ hB

set_option maxRecDepth 100000 in
set_option maxHeartbeats 2000000 in
theorem lexerTokens_walk (s : ByteArray) (hs : s.size ≤ 140737488351232) (w : World) (hT : SpaceTab w) :
    Calls Tryd.prog 3 #[.string s] w (AwakePost w) := by
  have HT := Lib.hid hT; clear hT
  by_cases hbig : 150 < s.size
  · go_enter Tryd.func3, Tryd.ntmps3
    go_wp2_with fail
    refine (awake11 w HT.out).mono ?_
    rintro e w1 ⟨rfl, hb1⟩
    have HT1 := Lib.hid (HT.out.keep hb1)
    have HB1 := Lib.hid hb1; clear hb1
    go_wp2_with fail
    refine (awake11 w1 HT1.out).mono ?_
    rintro e w2 ⟨rfl, hb2⟩
    have HB2 := Lib.hid hb2; clear hb2
    go_wp2_with fail
    go_ret
    exact ⟨rfl, HB1.out.trans (HB2.out.mono HB1.out.size)⟩
  · have hle : s.size ≤ 150 := by omega
    have hll : s.data.toList.length = s.size := by simp
    have hln : (lex s.data.toList).1.length ≤ 4000000000000 := by
      have hcons : ∀ (n : Nat) (l : List Tok), Consec n l → l.length ≤ (joinT l).length := by
        intro n l
        induction l generalizing n with
        | nil => intro _; simp
        | cons t r ih =>
          intro h
          obtain ⟨_, h2, h3⟩ := h
          have := ih _ h3
          have h4 := List.length_pos_iff.2 h2
          simp only [joinT, List.map_cons, List.flatten_cons, List.length_append, List.length_cons] at this ⊢
          omega
      rw [lex_eq (by omega)]
      cases h : lexP 0 s.data.toList with
      | error p => simp
      | ok ts =>
        obtain ⟨j1, j2, _⟩ := lexP_ok h
        have := hcons _ _ j2
        rw [j1] at this
        simp only []
        omega
    have HLN := Lib.hid hln
    clear hbig hll hln
    obtain ⟨⟨ts, p, er⟩, hlx⟩ : ∃ x, x = lex s.data.toList := ⟨_, rfl⟩
    have HLX := Lib.hid hlx; clear hlx
    go_enter Tryd.func3, Tryd.ntmps3
    go_wp2_with fail
    refine (awake11 w HT.out).mono ?_
    rintro e w1 ⟨rfl, hb1⟩
    have HT1 := Lib.hid (HT.out.keep hb1)
    have HB1 := Lib.hid hb1; clear hb1
    go_wp2_with fail
    refine (lex_any s hs w1 HT1.out).mono ?_
    rintro e w2 ⟨v1, rfl, ho1, hb2⟩
    rw [← HLX.out] at ho1 ⊢
    have HA1 := Lib.hid (toksAt_of_own ho1)
    have HB2 := Lib.hid hb2; clear hb2 ho1
    go_wp2_with fail
    refine (rlex_any s hs w2).mono ?_
    rintro e w3 ⟨v2, rfl, ho2, hb3⟩
    rw [← HLX.out] at ho2 ⊢
    have HA2 := Lib.hid (toksAt_of_own ho2)
    have HA1' := Lib.hid (HA1.out.keep hb3)
    have HB3 := Lib.hid hb3; clear hb3 ho2
    go_wp2_with fail
    refine (same_eq v1 v2 ts (by have := HLN.out; rw [← HLX.out] at this; exact this) w3 HA1'.out HA2.out).mono ?_
    rintro e w4 ⟨rfl, hb4⟩
    have HB4 := Lib.hid hb4; clear hb4
    go_wp2_with fail
    go_ret
    exact ⟨rfl, HB1.out.trans ((HB2.out.trans ((HB3.out.trans (HB4.out.mono HB3.out.size)).mono HB2.out.size)).mono HB1.out.size)⟩

end Go.Proofs.YtidfhfcplcfcmaaDoor
