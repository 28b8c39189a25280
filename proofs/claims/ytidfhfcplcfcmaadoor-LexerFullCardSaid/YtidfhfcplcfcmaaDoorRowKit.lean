/- From the rows' conditions to the walks' facts, and from a walk's end to a row's: of all statements of this seat. -/
import Derived.Test.YtidfhfcplcfcmaaDoorRows
import Derived.Test.YtidfhfcplcfcmaaDoorTie
import Derived.Test.YtidfhfcplcfcmaaDoorCards
import Derived.Test.YtidfhfcplcfcmaaDoorLexToken
import Derived.ProofKit
import Derived.LaidMore
import Derived.OpenShut
import Derived.Stop.Joined
import Derived.Carry
import Derived.SizedLaws
import Derived.Lib.LaidU8
import Derived.SevenTiedAt
namespace Go.Proofs.YtidfhfcplcfcmaaDoor
open Go.ChangeShapes Go.WideShapes Go.ChangeAt Go.WideMaps Go.WideElems Go.RowKit
open Go.ChangeMaps (open_string)

theorem own : ownKnob Tryd.prog.godebug = none := by kernel_rfl
theorem laidOut : laidOutB Tryd.prog = true := by kernel_rfl

theorem laidAscii_eq {H : Type} : (Rows.laid_strings_asciiSpace : DataW H) = Lib.tabData .u8 Lib.asciiSpaceTab := by kernel_rfl
theorem spaceTab_of_reads {W : World} (h : Lib.VarReads Tryd.prog W "strings.asciiSpace" Rows.laid_strings_asciiSpace) : SpaceTab W := by
  obtain ⟨g', t', cs, fuel, p, hg', ht', hvar, hd⟩ := h
  have hg : Tryd.prog.globalNamed "strings.asciiSpace" = some 0 := by kernel_rfl
  have hty : (Tryd.prog.globals[0]?).map (·.type) = some 126 := by kernel_rfl
  obtain rfl := Option.some.inj (hg.symm.trans hg')
  obtain rfl := Option.some.inj (hty.symm.trans ht')
  rw [laidAscii_eq] at hd
  unfold SpaceTab Lib.TabIs
  rw [hvar, ← Lib.cells_of_tab (n := 256) (e := 5) Tryd.underlying126 Tryd.underlying5 (by kernel_rfl) (by kernel_rfl) hd]

section
variable {H : Type} {enc : TypeId × Value → H}
/-- Arguments read behind a call that has turned nothing of what was there. -/
theorem trodAll_stays {W W' : World} (hb : Below W.heap.size W W') : ∀ (ts : List TypeId) (vs : List Value) (ds : List (DataW H)) (ps : List MemPlace),
    (∀ t ∈ ts, Tryd.prog.readableRec t = true ∧ t < Tryd.prog.types.size) → DataW.TrodAll enc Tryd.prog W 0 (fun _ => true) true ts vs ds ps → (∀ x ∈ ps, x.block < W.heap.size) →
    DataW.TrodAll enc Tryd.prog W' 0 (fun b => decide (b < W.heap.size)) true ts vs ds ps
  | [], vs, ds, ps, _, h, _ => by
    obtain ⟨rfl, rfl, rfl⟩ := trodAll_nil h
    exact trodAll_mk0
  | t :: ts, vs, ds, ps, ht, h, hlt => by
    obtain ⟨v, vs', d, ds', p, q, rfl, rfl, rfl, hd, hr⟩ := trodAll_cons h
    have h1 := ht t List.mem_cons_self
    exact trodAll_cons_mk (Below.trod laidOut h1.1 h1.2 hd hb fun x hx => hlt x (List.mem_append_left _ hx))
      (trodAll_stays hb ts vs' ds' q (fun u hu => ht u (List.mem_cons_of_mem _ hu)) hr fun x hx => hlt x (List.mem_append_right _ hx))

/-- The end of a law's row: it has returned true, and nothing of what was there has turned. -/
theorem law_post {f : Func} {s : ChangeSpec} {W W' : World} {args : Array Value} {ds gs : List (DataW H)} {p q : List MemPlace}
    (hA : DataW.TrodAll enc Tryd.prog W 0 (fun _ => true) true f.params.toList args.toList ds p) (hV : DataW.TrodVars enc Tryd.prog W (fun _ => true) s.vars gs q) (hvars : s.vars = [])
    (hfz : W.noneFrozen (p ++ q)) (hr : f.resultTypes = #[4]) (hfn : s.fn H (ds ++ []) = { results := [.lit (.bool true)], args := ds })
    (hts : ∀ t ∈ f.params.toList, Tryd.prog.readableRec t = true ∧ t < Tryd.prog.types.size) (hlt : ∀ x ∈ p ++ q, x.block < W.heap.size) (hb : Below W.heap.size W W') :
    s.post enc Tryd.prog f false true false false W args (.bool true) W' := by
  have hgs : gs = [] ∧ q = [] := by rw [hvars] at hV; exact trodVars_none hV
  obtain ⟨rfl, rfl⟩ := hgs
  refine ⟨ds, [], p ++ [], [], p, [], ⟨p, [], hA, hV, rfl, hfz, fun h => by cases h⟩, ?_, ?_, ?_, hb.frame _, fun h => by cases h⟩
  · rw [hr, hfn]
    exact trodAll_mk1 (shut_bool Tryd.underlying4 true)
  · rw [hfn]
    exact trodAll_stays hb _ _ _ _ hts hA fun x hx => hlt x (List.mem_append_left _ hx)
  · rw [hfn, hvars]; rfl
end

def laidA {H : Type} : List (String × DataW H) := [("unicode.White_Space", Rows.laid_unicode_White_Space), ("strings.asciiSpace", Rows.laid_strings_asciiSpace)]
/-- The door's own heap meets the condition. -/
theorem door_metA (os : Os) (args : Array Value) : laidMetH Tryd.prog laidA ((World.doorLaid Tryd.prog 111 os).forCall (fun _ _ => 0) ⟨#[], args, []⟩).memory :=
  laidMetH_of_parts3 (fuel := 8) (laidMet_of_run' 8 (by kernel_rfl) (by kernel_rfl)) (by kernel_rfl) (by kernel_rfl)
theorem door_shaped (os : Os) (args : Array Value) : World.Shaped Tryd.checked.prog ((World.doorLaid Tryd.prog 111 os).forCall (fun _ _ => 0) { blocks := #[], args := args }) := World.shaped_of_RefB (by kernel_rfl) (by kernel_rfl)
theorem space_of_laidA {W : World} (h : laidMetH Tryd.prog laidA W) : SpaceTab W := by
  rw [MakeChecks.laidMetH_plain _ _ _ (by kernel_rfl)] at h
  exact spaceTab_of_reads (Lib.laidMet.reads h (by simp [laidA]))

end Go.Proofs.YtidfhfcplcfcmaaDoor
