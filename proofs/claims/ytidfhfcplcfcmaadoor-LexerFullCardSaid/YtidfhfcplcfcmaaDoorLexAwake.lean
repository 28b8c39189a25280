/- Walks: the examples of the chapter on the lexer. -/
import Derived.Test.YtidfhfcplcfcmaaDoorLexSolid
namespace Go.Proofs.YtidfhfcplcfcmaaDoor
open Go.RowKit OT

theorem ex1 : lex [120, 49, 60, 60, 61, 50, 35, 99] = ([⟨1, [120, 49], 0⟩, ⟨3, [60, 60], 2⟩, ⟨3, [61], 4⟩, ⟨2, [50], 5⟩, ⟨5, [35, 99], 6⟩], 0, 0) := by kernel_rfl
theorem ex2 : lex [97, 66] = ([], 1, 3) := by kernel_rfl

def AwakePost (w : World) (e : Ending) (w' : World) : Prop := e = .returned (.bool true) ∧ Below w.heap.size w w'

theorem lex_ex1 (w : World) (hT : SpaceTab w) : Calls Tryd.prog 18 #[.string ⟨#[120, 49, 60, 60, 61, 50, 35, 99]⟩] w fun e w' =>
    ∃ g c, e = .returned (.tuple #[.slice (some ⟨g, 0, none⟩) 5 c, .int .i64 0, .int .i64 0]) ∧ Below w.heap.size w w' ∧ w'.cell? ⟨g, 1, none⟩ = some (.string ⟨#[120, 49]⟩) ∧ w'.cell? ⟨g, 4, none⟩ = some (.string ⟨#[60, 60]⟩) ∧
      w'.cell? ⟨g, 7, none⟩ = some (.string ⟨#[61]⟩) ∧ w'.cell? ⟨g, 9, none⟩ = some (.int .u8 2) ∧ w'.cell? ⟨g, 12, none⟩ = some (.int .u8 5) ∧ w'.cell? ⟨g, 14, none⟩ = some (.int .i64 6) := by
  refine (lex_any ⟨#[120, 49, 60, 60, 61, 50, 35, 99]⟩ (by decide) w hT).mono ?_
  rintro e w' ⟨v, rfl, ho, hb⟩
  have e1 : lex (⟨#[120, 49, 60, 60, 61, 50, 35, 99]⟩ : ByteArray).data.toList = ([⟨1, [120, 49], 0⟩, ⟨3, [60, 60], 2⟩, ⟨3, [61], 4⟩, ⟨2, [50], 5⟩, ⟨5, [35, 99], 6⟩], 0, 0) := ex1
  rw [e1] at ho ⊢
  rcases ho.2 with ⟨rfl, h0⟩ | ⟨g, cap, cur, rfl, _⟩
  · simp at h0
  · refine ⟨g, cap, rfl, hb, ?_, ?_, ?_, ?_, ?_, ?_⟩ <;> exact (ho.cellAt _ (by decide)).trans rfl
theorem lex_ex2 (w : World) (hT : SpaceTab w) : Calls Tryd.prog 18 #[.string ⟨#[97, 66]⟩] w fun e w' =>
    ∃ v, e = .returned (.tuple #[v, .int .i64 1, .int .i64 3]) ∧ Below w.heap.size w w' := by
  refine (lex_any ⟨#[97, 66]⟩ (by decide) w hT).mono ?_
  rintro e w' ⟨v, rfl, ho, hb⟩
  have e1 : lex (⟨#[97, 66]⟩ : ByteArray).data.toList = ([], 1, 3) := ex2
  rw [e1]
  exact ⟨v, rfl, hb⟩

set_option maxHeartbeats 1000000 in
theorem awake11 (w : World) (hT : SpaceTab w) : Calls Tryd.prog 17 #[] w (AwakePost w) := by
  have HT := Lib.hid hT; clear hT
  go_enter Tryd.func17, Tryd.ntmps17
  go_wp2_with fail
  refine (lex_ex1 w HT.out).mono ?_
  rintro e w1 ⟨g, c, rfl, hb1, c1, c2, c3, c4, c5, c6⟩
  have HB1 := Lib.hid hb1
  have HT1 := Lib.hid (HT.out.keep hb1); clear hb1
  go_wp2_with fail
  refine (lex_ex2 w1 HT1.out).mono ?_
  rintro e w2 ⟨v, rfl, hb2⟩
  replace c1 := cell_keep hb2 c1
  replace c2 := cell_keep hb2 c2
  replace c3 := cell_keep hb2 c3
  replace c4 := cell_keep hb2 c4
  replace c5 := cell_keep hb2 c5
  replace c6 := cell_keep hb2 c6
  have HB2 := Lib.hid hb2; clear hb2
  go_wp2_with fail
  go_ret
  exact ⟨rfl, HB1.out.trans (HB2.out.mono HB1.out.size)⟩

end Go.Proofs.YtidfhfcplcfcmaaDoor
