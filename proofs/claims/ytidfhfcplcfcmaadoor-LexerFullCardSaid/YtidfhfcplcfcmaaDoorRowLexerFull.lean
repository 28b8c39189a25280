/- 'LexerFull' holds: a text of the greatest length has tokens; a longer one is refused whole. Conditions: none beyond the row's own (the tables of Go's library and of the program as their initialisers lay them, tied by the card). -/
import Derived.Test.YtidfhfcplcfcmaaDoorRowKit
import Derived.Test.YtidfhfcplcfcmaaDoorLawFull
namespace Go.Proofs.YtidfhfcplcfcmaaDoor
open Go.ChangeShapes Go.WideShapes Go.ChangeAt Go.WideMaps Go.WideElems Go.RowKit
open Go.ChangeMaps (open_string)

set_option maxRecDepth 100000 in
theorem lexerFull_lifted (os : Os) (started : os.Started) (H : Type) (enc : TypeId × Value → H) :
    ReturnsInHanded {} Tryd.checked os 11 .any (fun w args => (Rows.lexerFullSpec.pre enc Tryd.prog Tryd.f11 [] false w args ∧ laidMetH Tryd.prog laidA w) ∧ sizedMet enc Tryd.prog Tryd.f11 (OpenSpec.ofChange Rows.lexerFullSpec) false w args)
      (Rows.lexerFullSpec.post enc Tryd.prog Tryd.f11 false true false false) := by
  refine returnsInHanded_of_change_and (C := Tryd.checked) (X := fun w _ => laidMetH Tryd.prog laidA w) (fun _ _ _ hh h => h.of_heap hh) own started (by kernel_rfl) Tryd.func11
    (ChangeSpec.witness_shaped (enc := enc) (C := Tryd.checked) (os := os) (X := fun w _ => laidMetH Tryd.prog laidA w) false (World.doorLaid Tryd.prog 111 os) #[.int .u8 0, .int .u8 0] 8 rfl (door_shaped os _) (by kernel_rfl) (by kernel_rfl) (by kernel_rfl) (door_metA os _)) ?_
  intro W base args ds gs before hval0 hW hcnd0 hsz0 hL _
  have hval : ∀ (j : Nat) t v, Tryd.f11.params[j]? = some t → args[j]? = some v → Value.okWide Tryd.prog W .any base t v := hval0
  have hlt := hW.lt
  obtain ⟨p, q, hA, hV, rfl, hfz, hnd⟩ := hW
  have hA' : DataW.TrodAll enc Tryd.prog W 0 (fun _ => true) true Tryd.f11.params.toList args.toList ds p := hA
  have hsz : (DataW.weightsEach Tryd.prog (Tryd.f11.params.toList ++ Rows.lexerFullSpec.plain.varTypes Tryd.prog) (ds ++ gs)).all (· ≤ reachBytes) = true := hsz0
  have hpost : ∀ W', Below W.heap.size W W' → Rows.lexerFullSpec.fn H (ds ++ []) = { results := [.lit (.bool true)], args := ds } → Rows.lexerFullSpec.post enc Tryd.prog Tryd.f11 false true false false W args (.bool true) W' := fun W' hb hfn =>
    law_post hA' hV rfl hfz (by rfl) hfn (by rw [Tryd.params11]; intro t ht; simp only [List.mem_cons, List.not_mem_nil, or_false] at ht; rcases ht with rfl | rfl <;> exact ⟨by kernel_rfl, of_decide_eq_true (by kernel_rfl)⟩) hlt hb
  rw [Tryd.params11] at hA' hval hsz
  obtain ⟨v0, v1, d0, d1, p0, p1, rfl, rfl, rfl, h0, h1⟩ := trodAll_two hA'
  obtain ⟨s0, rfl, rfl, rfl, wx0⟩ := open_int Tryd.underlying5 (hval 0 5 v0 rfl rfl) h0
  have hz0 : 0 ≤ s0 ∧ s0 ≤ 255 := by simpa [Lit.wf, IntKind.min, IntKind.max, IntKind.signed, IntKind.bits] using wx0
  obtain ⟨s1, rfl, rfl, rfl, wx1⟩ := open_int Tryd.underlying5 (hval 1 5 v1 rfl rfl) h1
  have hz1 : 0 ≤ s1 ∧ s1 ≤ 255 := by simpa [Lit.wf, IntKind.min, IntKind.max, IntKind.signed, IntKind.bits] using wx1
  refine (lexerFull_walk s0 hz0 s1 hz1 W (space_of_laidA hL)).mono fun e W' ⟨he, hb⟩ => ?_
  subst he
  exact ⟨_, rfl, hpost W' hb rfl⟩

theorem lexerFull_holds : Rows.LexerFullSaid :=
  OpenClaim.holds_of_wide 11 Tryd.f11 rfl rfl rfl rfl rfl rfl rfl ⟨rfl, rfl, rfl, rfl, rfl⟩ rfl rfl rfl rfl rfl (by kernel_rfl) Tryd.func11 (by kernel_rfl)
    (of_decide_eq_true (by kernel_rfl)) (by unfold Func.isWrapper; rw [if_neg (of_decide_eq_false (by kernel_rfl))]; exact ⟨rfl, rfl⟩)
    (fun os started H enc _ => lexerFull_lifted os started H enc)

theorem lexerFull_card : Rows.LexerFullCardSaid :=
  Claim7.holds_tied_plain_at .later [] [.listed, .data] true Rows.lexerFullCard.stood.harness Rows.lexerFullCard.stood.looks
    lexerFull_holds (fun _ h => by cases h) (by kernel_rfl) (fun _ h => by cases h) lexerFull_row_tie rfl ⟨rfl, rfl⟩ (by kernel_rfl) rfl
    (fun f fn hf hfn => by
      obtain rfl : f = 11 := Option.some.inj ((show Tryd.prog.funcNamed "ontime/ontimelaw11.LexerFull" = some 11 by kernel_rfl).symm.trans hf) |>.symm
      obtain rfl : fn = Tryd.f11 := (Option.some.inj (Tryd.func11.symm.trans hfn)).symm
      exact ⟨by kernel_rfl, fun j t ht => by
        rw [Tryd.params11] at ht
        have hm := Array.mem_of_getElem? ht
        simp only [List.mem_toArray, List.mem_cons, List.not_mem_nil, or_false] at hm
        rcases hm with rfl | rfl
        · exact (show Tryd.prog.wantsStandIn 5 = false by kernel_rfl)
        · exact (show Tryd.prog.wantsStandIn 5 = false by kernel_rfl)⟩)
    (by kernel_rfl)
#print axioms lexerFull_card

end Go.Proofs.YtidfhfcplcfcmaaDoor
