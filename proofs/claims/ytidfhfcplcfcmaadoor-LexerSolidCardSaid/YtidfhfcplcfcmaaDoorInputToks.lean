/- From an input's reading to cells in memory: slices of structs of one-cell fields. -/
import Derived.Test.YtidfhfcplcfcmaaDoorLexInput
import Derived.Deep.Fields
import Derived.ChangeArms
import Derived.ChangeSame
namespace Go.Proofs.YtidfhfcplcfcmaaDoor
open Go.ChangeShapes Go.WideShapes Go.Deep OT

section
variable {H : Type} {enc : TypeId × Value → H} {P : Program} {W : World} {sp : Nat → Bool} {hd : Bool} {base : Nat}

/-- A slice, opened into its elements' cells. -/
theorem open_elems {t e : TypeId} {fuel : Nat} {cs : List Value} {x : DataW H × List MemPlace} (ht : P.underlying t = some (.slice e)) (hpos : 0 < P.cellsOf e) (h : DataW.trod enc P W base sp hd fuel t cs = some x) :
    ∃ a len cap, cs = [.slice a len cap] ∧ (len = 0 ∨ ∃ b off n, a = some ⟨b, off, none⟩ ∧ ∀ i, i < len → ∃ cs' y, cs'.length = P.cellsOf e ∧ (∀ j, j < P.cellsOf e → W.cell? ⟨b, off + i * P.cellsOf e + j, none⟩ = cs'[j]?) ∧ DataW.trod enc P W base sp hd n e cs' = some y) := by
  rcases open_slice ht h with ⟨rfl, _⟩ | ⟨⟨b, off, spot⟩, len, cap, m, n, D, Pl, rfl, _, hl, _, hm, _, hx⟩
  · exact ⟨none, 0, 0, rfl, .inl rfl⟩
  · refine ⟨_, len, cap, rfl, ?_⟩
    by_cases h0 : len = 0
    · exact .inl h0
    right
    have hlm : len ≤ m := by rw [hm]; split <;> omega
    have hspot : spot = none := by
      obtain ⟨cs, h1, _⟩ := hx 0 (by omega)
      obtain ⟨_, hcl, hcell⟩ := World.cells?_some h1
      have := hcell 0 hpos
      rw [List.getElem?_eq_getElem (by omega)] at this
      simpa [Addr.add] using World.cell?_spot this
    subst hspot
    refine ⟨b, off, n, rfl, fun i hi => ?_⟩
    obtain ⟨cs, h1, h2⟩ := hx i (by omega)
    obtain ⟨_, hcl, hcell⟩ := World.cells?_some h1
    refine ⟨cs, _, hcl, fun j hj => ?_, h2⟩
    have := hcell j hj
    rwa [add_plain, add_plain] at this

/-- A struct of one-cell fields, opened into its fields' readings. -/
theorem open_fields {t : TypeId} {fs : Array Field} {n : Nat} {cs : List Value} {y : DataW H × List MemPlace} (hs : P.underlying t = some (.struct fs)) (hone : oneCellFields P fs = true)
    (h : DataW.trod enc P W base sp hd n t cs = some y) : ∃ m, m + 1 = n ∧ ∀ (i : Nat) (f : Field), fs[i]? = some f → ∀ v, cs[i]? = some v → ∃ z, DataW.trod enc P W base sp hd m f.type [v] = some z := by
  obtain ⟨xs, k, hk, _, _, hxl, hf⟩ := DataW.trod_struct hs h
  refine ⟨k, by omega, fun i f hi v hv => ?_⟩
  obtain ⟨ho, hc⟩ := hone_of hone i f hi
  have g := hf i f hi
  have hlt : i < xs.length := by rw [hxl]; exact (Array.getElem?_eq_some_iff.1 hi).1
  rw [ho, hc, List.getElem?_eq_getElem hlt] at g
  have hl : i < cs.length := (List.getElem?_eq_some_iff.1 hv).1
  have hd' : (cs.drop i).take 1 = [v] := by
    rw [List.drop_eq_getElem_cons hl, List.getElem?_eq_getElem hl] at *
    simp only [Option.some.injEq] at hv
    rw [List.take_succ_cons, List.take_zero, hv]
  rw [hd'] at g
  exact ⟨_, g⟩
end

namespace TI
section
variable {H : Type} {enc : TypeId × Value → H} {W : World} {sp : Nat → Bool} {hd : Bool}
theorem cellsTok : Tryd.prog.cellsOf 33 = 3 := by kernel_rfl
theorem oneTok : ∃ f0 f1 f2 : Field, Tryd.prog.underlying 33 = some (.struct #[f0, f1, f2]) ∧ oneCellFields Tryd.prog #[f0, f1, f2] = true ∧ f0.type = 5 ∧ f1.type = 9 ∧ f2.type = 3 :=
  ⟨_, _, _, Tryd.underlying33, by kernel_rfl, rfl, rfl, rfl⟩

set_option maxRecDepth 100000 in
theorem toks_of_trod {base : Nat} {r : Reach} {v : Value} {d : DataW H} {p : List MemPlace} (hv : Value.okWide Tryd.prog W r base 23 v) (h : DataW.Trod enc Tryd.prog W 0 sp hd 23 v d p) :
    ∃ l : List Tok, ToksAt W v l := by
  obtain ⟨a, len, cap, rfl⟩ := okWide_slice Tryd.underlying23 hv
  obtain ⟨fuel, hf⟩ := h
  obtain ⟨f0, f1, f2, hS, hone, ty0, ty1, ty2⟩ := oneTok
  obtain ⟨a', len', cap', h0, hr⟩ := open_elems Tryd.underlying23 (by rw [cellsTok]; decide) hf
  simp only [Value.cells, List.cons.injEq, Value.slice.injEq, and_true] at h0
  obtain ⟨rfl, rfl, rfl⟩ := h0
  rcases hr with rfl | ⟨b, off, n, rfl, hx⟩
  · exact ⟨[], .inl ⟨rfl, a, cap, rfl⟩⟩
  · have each : ∀ i, i < len → ∃ t : Tok, W.cell? ⟨b, off + i * 3, none⟩ = some (.int .u8 (t.kind : Int)) ∧ W.cell? ⟨b, off + i * 3 + 1, none⟩ = some (.string (bs t.text)) ∧ W.cell? ⟨b, off + i * 3 + 2, none⟩ = some (.int .i64 t.pos) := by
      intro i hi
      obtain ⟨cs, y, hcl, hcell, hy⟩ := hx i hi
      rw [cellsTok] at hcl hcell
      obtain ⟨m, _, hfs⟩ := open_fields hS hone hy
      match cs, hcl with
      | [v0, v1, v2], _ =>
        obtain ⟨z0, g0⟩ := hfs 0 f0 rfl v0 rfl
        obtain ⟨z1, g1⟩ := hfs 1 f1 rfl v1 rfl
        obtain ⟨z2, g2⟩ := hfs 2 f2 rfl v2 rfl
        rw [ty0] at g0; rw [ty1] at g1; rw [ty2] at g2
        obtain ⟨x0, e0, _, w0⟩ := DataW.trod_int Tryd.underlying5 g0
        obtain ⟨x1, e1, _⟩ := DataW.trod_string Tryd.underlying9 g1
        obtain ⟨x2, e2, _, _⟩ := DataW.trod_int Tryd.underlying3 g2
        simp only [List.cons.injEq, and_true] at e0 e1 e2
        subst e0 e1 e2
        have hx0 : 0 ≤ x0 := by have := w0; simp [Lit.wf, IntKind.min, IntKind.max, IntKind.signed, IntKind.bits] at this; omega
        refine ⟨⟨x0.toNat, x1.data.toList, x2⟩, ?_, ?_, ?_⟩
        · have := hcell 0 (by decide); rw [Int.toNat_of_nonneg hx0]; exact this
        · have := hcell 1 (by decide); rw [bs_of]; exact this
        · exact hcell 2 (by decide)
    have : Inhabited Tok := ⟨⟨0, [], 0⟩⟩
    obtain ⟨f, hf⟩ := choose_lt (α := Tok) each
    refine ⟨(List.range len).map f, .inr ⟨b, off, cap, by simp, fun k hk => ?_⟩⟩
    have hk' : k < len := by simpa using hk
    have e : tokAt ((List.range len).map f) k = f k := by simp [tokAt, List.getD_eq_getElem?_getD, hk']
    rw [e]
    exact hf k hk'
end
end TI
end Go.Proofs.YtidfhfcplcfcmaaDoor
