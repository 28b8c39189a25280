/- Walks: the lexer's byte classes, the run closure, the sign at the beginning of a text, the token. -/
import Derived.Test.YtidfhfcplcfcmaaDoorProg
import Derived.Test.YtidfhfcplcfcmaaDoorLexDefs
import Derived.WalkKit
import Derived.WalkSpells
namespace Go.Proofs.YtidfhfcplcfcmaaDoor
open Go.RowKit OT

theorem ret_bool {a b : Bool} (h : a = b) : Ending.returned (.bool a) = .returned (.bool b) := by rw [h]
theorem ret_int {k : IntKind} {a b : Int} (h : a = b) : Ending.returned (.int k a) = .returned (.int k b) := by rw [h]

theorem u8_beq (c d : UInt8) : (c == d) = ((c.toNat : Int) == (d.toNat : Int)) := by
  rw [Bool.eq_iff_iff, beq_iff_eq, beq_iff_eq]
  constructor
  · rintro rfl; rfl
  · intro e; exact UInt8.toNat_inj.1 (by omega)

theorem letter_any (c : UInt8) (w : World) : Calls Tryd.prog 47 #[.int .u8 (c.toNat : Int)] w fun e w' => e = .returned (.bool (letter c)) ∧ w = w' := by
  have hb := c.toNat_lt
  have hl : letter c = (decide (97 ≤ (c.toNat : Int)) && decide ((c.toNat : Int) ≤ 122)) := by unfold letter; congr 1 <;> (rw [decide_eq_decide]; omega)
  rw [hl]; clear hl
  by_cases h1 : (97 : Int) ≤ (c.toNat : Int)
  all_goals
    go_enter Tryd.func47, Tryd.ntmps47
    go_wp2
    go_ret
    exact ⟨ret_bool (by simp <;> omega), rfl⟩

theorem digit_any (c : UInt8) (w : World) : Calls Tryd.prog 83 #[.int .u8 (c.toNat : Int)] w fun e w' => e = .returned (.bool (digit c)) ∧ w = w' := by
  have hb := c.toNat_lt
  have hl : digit c = (decide (48 ≤ (c.toNat : Int)) && decide ((c.toNat : Int) ≤ 57)) := by unfold digit; congr 1 <;> (rw [decide_eq_decide]; omega)
  rw [hl]; clear hl
  by_cases h1 : (48 : Int) ≤ (c.toNat : Int)
  all_goals
    go_enter Tryd.func83, Tryd.ntmps83
    go_wp2
    go_ret
    exact ⟨ret_bool (by simp <;> omega), rfl⟩

theorem space_any (c : UInt8) (w : World) : Calls Tryd.prog 84 #[.int .u8 (c.toNat : Int)] w fun e w' => e = .returned (.bool (space c)) ∧ w = w' := by
  have hl : space c = ((c.toNat : Int) == 32 || ((c.toNat : Int) == 9 || ((c.toNat : Int) == 13 || (c.toNat : Int) == 10))) := by
    unfold space
    rw [u8_beq, u8_beq, u8_beq, u8_beq, Bool.or_assoc, Bool.or_assoc]; rfl
  rw [hl]; clear hl
  have hb := c.toNat_lt
  cases h1 : ((c.toNat : Int) == 32)
  · cases h2 : ((c.toNat : Int) == 9)
    · cases h3 : ((c.toNat : Int) == 13)
      all_goals
        go_enter Tryd.func84, Tryd.ntmps84
        go_wp2
        go_ret
        exact ⟨ret_bool (by simp <;> omega), rfl⟩
    · go_enter Tryd.func84, Tryd.ntmps84
      go_wp2
      go_ret
      exact ⟨ret_bool (by simp), rfl⟩
  · go_enter Tryd.func84, Tryd.ntmps84
    go_wp2
    go_ret
    exact ⟨ret_bool (by simp), rfl⟩

/-- letter or digit -/
theorem alnum_any (c : UInt8) (w : World) : Calls Tryd.prog 82 #[.int .u8 (c.toNat : Int)] w fun e w' => e = .returned (.bool (alnum c)) ∧ w = w' := by
  unfold alnum
  cases h1 : letter c
  · go_enter Tryd.func82, Tryd.ntmps82
    go_wp2_with (first
      | (go_at_call 47; refine (letter_any c _).mono ?_; rintro e w' ⟨rfl, rfl⟩; rw [h1])
      | (go_at_call 83; refine (digit_any c _).mono ?_; rintro e w' ⟨rfl, rfl⟩))
    go_ret
    exact ⟨ret_bool (by simp), rfl⟩
  · go_enter Tryd.func82, Tryd.ntmps82
    go_wp2_with (first
      | (go_at_call 47; refine (letter_any c _).mono ?_; rintro e w' ⟨rfl, rfl⟩; rw [h1]))
    go_ret
    exact ⟨ret_bool (by simp), rfl⟩

theorem notlf_any (c : UInt8) (w : World) : Calls Tryd.prog 85 #[.int .u8 (c.toNat : Int)] w fun e w' => e = .returned (.bool (notlf c)) ∧ w = w' := by
  have hl : notlf c = ((c.toNat : Int) != 10) := by unfold notlf; simp only [bne]; rw [u8_beq]; rfl
  rw [hl]; clear hl
  go_enter Tryd.func85, Tryd.ntmps85
  go_wp2
  go_ret
  exact ⟨ret_bool (by simp), rfl⟩

end Go.Proofs.YtidfhfcplcfcmaaDoor
