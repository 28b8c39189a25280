/- 'LexerSolid' holds: Solid leaves out spaces and comments and shares nothing with its input. Conditions: none beyond the row's own (the tables of Go's library and of the program as their initialisers lay them, tied by the card). -/
import Derived.Test.YtidfhfcplcfcmaaDoorRowKit
import Derived.Test.YtidfhfcplcfcmaaDoorLawSolid
import Derived.Test.YtidfhfcplcfcmaaDoorInputToks
namespace Go.Proofs.YtidfhfcplcfcmaaDoor
open Go.ChangeShapes Go.WideShapes Go.ChangeAt Go.WideMaps Go.WideElems Go.RowKit
open Go.ChangeMaps (open_string)

set_option maxRecDepth 100000 in
theorem lexerSolid_lifted (os : Os) (started : os.Started) (H : Type) (enc : TypeId × Value → H) :
    ReturnsInHanded {} Tryd.checked os 10 .any (fun w args => (Rows.lexerSolidSpec.pre enc Tryd.prog Tryd.f10 [] false w args ∧ laidMetH Tryd.prog laidA w) ∧ sizedMet enc Tryd.prog Tryd.f10 (OpenSpec.ofChange Rows.lexerSolidSpec) false w args)
      (Rows.lexerSolidSpec.post enc Tryd.prog Tryd.f10 false true false false) := by
  refine returnsInHanded_of_change_and (C := Tryd.checked) (X := fun w _ => laidMetH Tryd.prog laidA w) (fun _ _ _ hh h => h.of_heap hh) own started (by kernel_rfl) Tryd.func10
    (ChangeSpec.witness_shaped (enc := enc) (C := Tryd.checked) (os := os) (X := fun w _ => laidMetH Tryd.prog laidA w) false (World.doorLaid Tryd.prog 111 os) #[.slice none 0 0] 8 rfl (door_shaped os _) (by kernel_rfl) (by kernel_rfl) (by kernel_rfl) (door_metA os _)) ?_
  intro W base args ds gs before hval0 hW hcnd0 hsz0 hL _
  have hval : ∀ (j : Nat) t v, Tryd.f10.params[j]? = some t → args[j]? = some v → Value.okWide Tryd.prog W .any base t v := hval0
  have hlt := hW.lt
  obtain ⟨p, q, hA, hV, rfl, hfz, hnd⟩ := hW
  have hA' : DataW.TrodAll enc Tryd.prog W 0 (fun _ => true) true Tryd.f10.params.toList args.toList ds p := hA
  have hsz : (DataW.weightsEach Tryd.prog (Tryd.f10.params.toList ++ Rows.lexerSolidSpec.plain.varTypes Tryd.prog) (ds ++ gs)).all (· ≤ reachBytes) = true := hsz0
  have hpost : ∀ W', Below W.heap.size W W' → Rows.lexerSolidSpec.fn H (ds ++ []) = { results := [.lit (.bool true)], args := ds } → Rows.lexerSolidSpec.post enc Tryd.prog Tryd.f10 false true false false W args (.bool true) W' := fun W' hb hfn =>
    law_post hA' hV rfl hfz (by rfl) hfn (by rw [Tryd.params10]; intro t ht; simp only [List.mem_cons, List.not_mem_nil, or_false] at ht; subst ht; exact ⟨by kernel_rfl, of_decide_eq_true (by kernel_rfl)⟩) hlt hb
  rw [Tryd.params10] at hA' hval hsz
  obtain ⟨v0, d0, rfl, rfl, h0⟩ := trodAll_one hA'
  have hv0 := hval 0 23 v0 rfl rfl
  refine (Exists.elim (TI.toks_of_trod hv0 h0) fun l hl => TI.lexerSolid_walk v0 l W (space_of_laidA hL) hl).mono fun e W' ⟨he, hb⟩ => ?_
  subst he
  exact ⟨_, rfl, hpost W' hb rfl⟩

theorem lexerSolid_holds : Rows.LexerSolidSaid :=
  OpenClaim.holds_of_wide 10 Tryd.f10 rfl rfl rfl rfl rfl rfl rfl ⟨rfl, rfl, rfl, rfl, rfl⟩ rfl rfl rfl rfl rfl (by kernel_rfl) Tryd.func10 (by kernel_rfl)
    (of_decide_eq_true (by kernel_rfl)) (by unfold Func.isWrapper; rw [if_neg (of_decide_eq_false (by kernel_rfl))]; exact ⟨rfl, rfl⟩)
    (fun os started H enc _ => lexerSolid_lifted os started H enc)

theorem lexerSolid_card : Rows.LexerSolidCardSaid :=
  Claim7.holds_tied_plain_at .later [] [.listed, .data] true Rows.lexerSolidCard.stood.harness Rows.lexerSolidCard.stood.looks
    lexerSolid_holds (fun _ h => by cases h) (by kernel_rfl) (fun _ h => by cases h) lexerSolid_row_tie rfl ⟨rfl, rfl⟩ (by kernel_rfl) rfl
    (fun f fn hf hfn => by
      obtain rfl : f = 10 := Option.some.inj ((show Tryd.prog.funcNamed "ontime/ontimelaw11.LexerSolid" = some 10 by kernel_rfl).symm.trans hf) |>.symm
      obtain rfl : fn = Tryd.f10 := (Option.some.inj (Tryd.func10.symm.trans hfn)).symm
      exact ⟨by kernel_rfl, fun j t ht => by
        rw [Tryd.params10] at ht
        have hm := Array.mem_of_getElem? ht
        simp only [List.mem_toArray, List.mem_cons, List.not_mem_nil, or_false] at hm
        subst hm
        exact (show Tryd.prog.wantsStandIn 23 = false by kernel_rfl)⟩)
    (by kernel_rfl)
#print axioms lexerSolid_card

end Go.Proofs.YtidfhfcplcfcmaaDoor
