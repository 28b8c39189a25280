/- Walks: tokens in memory; Solid; the examples of the chapter. -/
import Derived.Test.YtidfhfcplcfcmaaDoorLexLex
namespace Go.Proofs.YtidfhfcplcfcmaaDoor
open Go.RowKit OT

/-- The token k of a list. -/
def tokAt (l : List Tok) (k : Nat) : Tok := l.getD k ⟨0, [], 0⟩
/-- A slice value whose cells are the tokens l. -/
def ToksAt (w : World) (v : Value) (l : List Tok) : Prop :=
  (l = [] ∧ ∃ A c, v = .slice A 0 c) ∨ ∃ b off c, v = .slice (some ⟨b, off, none⟩) l.length c ∧ ∀ k, k < l.length →
    w.cell? ⟨b, off + k * 3, none⟩ = some (.int .u8 ((tokAt l k).kind : Int)) ∧ w.cell? ⟨b, off + k * 3 + 1, none⟩ = some (.string (bs (tokAt l k).text)) ∧ w.cell? ⟨b, off + k * 3 + 2, none⟩ = some (.int .i64 ((tokAt l k).pos : Int))

theorem toksCells_at (l : List Tok) : ∀ k, k < l.length → (toksCells l)[k * 3]? = some (.int .u8 ((tokAt l k).kind : Int)) ∧ (toksCells l)[k * 3 + 1]? = some (.string (bs (tokAt l k).text)) ∧ (toksCells l)[k * 3 + 2]? = some (.int .i64 ((tokAt l k).pos : Int)) := by
  induction l with
  | nil => intro k hk; simp at hk
  | cons t r ih =>
    intro k hk
    have e : toksCells (t :: r) = tokCells t ++ toksCells r := rfl
    have hl : (tokCells t).length = 3 := rfl
    match k with
    | 0 => rw [e]; refine ⟨?_, ?_, ?_⟩ <;> simp [tokCells, tokAt]
    | k + 1 =>
      obtain ⟨h1, h2, h3⟩ := ih k (by simpa using hk)
      have ht : tokAt (t :: r) (k + 1) = tokAt r k := rfl
      rw [e, ht]
      refine ⟨?_, ?_, ?_⟩
      · rw [List.getElem?_append_right (by omega), hl, show (k + 1) * 3 - 3 = k * 3 from by omega]; exact h1
      · rw [List.getElem?_append_right (by omega), hl, show (k + 1) * 3 + 1 - 3 = k * 3 + 1 from by omega]; exact h2
      · rw [List.getElem?_append_right (by omega), hl, show (k + 1) * 3 + 2 - 3 = k * 3 + 2 from by omega]; exact h3

theorem toksAt_of_own {w : World} {base : Nat} {T : TypeId} {v : Value} {l : List Tok} (h : w.ownsRow base T 3 v l.length (toksCells l)) : ToksAt w v l := by
  rcases h.2 with ⟨rfl, h0⟩ | ⟨g, cap, cur, rfl, hb, hh, _⟩
  · exact .inl ⟨List.eq_nil_of_length_eq_zero h0, none, 0, by rw []⟩
  · refine .inr ⟨g, 0, cap, rfl, fun k hk => ?_⟩
    obtain ⟨h1, h2, h3⟩ := toksCells_at l k hk
    have hc : ∀ j u, (toksCells l)[j]? = some u → w.cell? ⟨g, j, none⟩ = some u := by
      intro j u hu
      have := h.cells (g := g) rfl j u hu
      have hadd : (⟨g, 0, none⟩ : Addr).add j = ⟨g, j, none⟩ := by unfold Addr.add; split <;> simp_all
      rwa [hadd] at this
    simp only [Nat.zero_add]
    exact ⟨hc _ _ h1, hc _ _ h2, hc _ _ h3⟩

theorem cell_keep {w w1 : World} (h : Below w.heap.size w w1) {a : Addr} {v : Value} (hc : w.cell? a = some v) : w1.cell? a = some v := (h.cell (World.block_lt_of_cell? w a hc)).trans hc
theorem ToksAt.keep {w w1 : World} {v : Value} {l : List Tok} (h : ToksAt w v l) (hb : Below w.heap.size w w1) : ToksAt w1 v l := by
  rcases h with ⟨h0, A, c, hv⟩ | ⟨b, off, c, hv, hc⟩
  · exact .inl ⟨h0, A, c, hv⟩
  · exact .inr ⟨b, off, c, hv, fun k hk => ⟨cell_keep hb (hc k hk).1, cell_keep hb (hc k hk).2.1, cell_keep hb (hc k hk).2.2⟩⟩
theorem ToksAt.slice {w : World} {v : Value} {l : List Tok} (h : ToksAt w v l) : ∃ A c, v = .slice A l.length c := by
  rcases h with ⟨rfl, A, c, hv⟩ | ⟨b, off, c, hv, _⟩
  · exact ⟨A, c, hv⟩
  · exact ⟨_, c, hv⟩

def SolidPost (l : List Tok) (w : World) (e : Ending) (w' : World) : Prop :=
  ∃ v, e = .returned v ∧ w'.ownsRow w.heap.size 33 3 v (solid l).length (toksCells (solid l)) ∧ Below w.heap.size w w'

theorem solid_take (l : List Tok) (k : Nat) (hk : k < l.length) : solid (l.take (k + 1)) = solid (l.take k) ++ if (tokAt l k).kind != 4 && (tokAt l k).kind != 5 then [tokAt l k] else [] := by
  have : tokAt l k = l[k] := by simp [tokAt, List.getD_eq_getElem?_getD, List.getElem?_eq_getElem hk]
  rw [this, List.take_succ_eq_append_getElem hk, solid, List.filter_append]
  simp only [List.filter_cons, List.filter_nil]
  rfl

theorem solid_skip (l : List Tok) (k : Nat) (hk : k < l.length) (h : ((tokAt l k).kind != 4 && (tokAt l k).kind != 5) = false) : solid (l.take (k + 1)) = solid (l.take k) := by
  rw [solid_take l k hk, if_neg (by rw [h]; exact Bool.false_ne_true), List.append_nil]
theorem solid_keep (l : List Tok) (k : Nat) (hk : k < l.length) (h : ((tokAt l k).kind != 4 && (tokAt l k).kind != 5) = true) : solid (l.take (k + 1)) = solid (l.take k) ++ [tokAt l k] := by
  rw [solid_take l k hk, if_pos h]
theorem kind_ne (k n : Nat) : ((k : Int) != (n : Int)) = (k != n) := by
  rw [Bool.eq_iff_iff, bne_iff_ne, bne_iff_ne]
  constructor <;> intro h e <;> exact h (by omega)
theorem kinds45 (k : Nat) {a b : Bool} (h4 : ((k : Int) != 4) = a) (h5 : a = true → ((k : Int) != 5) = b) : (k != 4 && k != 5) = (a && b) := by
  have e4 := kind_ne k 4
  have e5 := kind_ne k 5
  rw [← e4, ← e5]
  cases a with
  | false => rw [show ((k : Int) != ((4 : Nat) : Int)) = false from h4]; rfl
  | true => rw [show ((k : Int) != ((4 : Nat) : Int)) = true from h4, show ((k : Int) != ((5 : Nat) : Int)) = b from h5 rfl]
theorem own_tok2 {w3 : World} {base : Nat} {T : TypeId} {v1 : Value} {ts : List Tok} {t : Tok}
    (h : w3.ownsRow base T 3 v1 (ts.length + 1) (toksCells ts ++ #[Value.int .u8 (t.kind : Int), .string (bs t.text), .int .i64 (t.pos : Int)].toList)) :
    w3.ownsRow base T 3 v1 (ts ++ [t]).length (toksCells (ts ++ [t])) := by
  rw [toksCells_append]
  simpa [toksCells, tokCells] using h

set_option maxHeartbeats 1000000 in
theorem solid_any (v : Value) (l : List Tok) (w : World) (h : ToksAt w v l) (hl : l.length ≤ 4000000000000) :
    Calls Tryd.prog 21 #[v] w (SolidPost l w) := by
  rcases h with ⟨rfl, A, c, rfl⟩ | ⟨b, off, c, rfl, hc⟩
  · have HF := Lib.hid (show SolidPost [] w (.returned (.slice none 0 0)) w from ⟨_, rfl, World.ownsRow_nil _ _ _ _, Below.refl _ _⟩)
    go_enter Tryd.func21, Tryd.ntmps21
    go_wp2_with fail
    refine wp_loop_rounds 1 ?_
    rw [rounds_succ]
    go_wp2_with fail
    go_ret
    exact HF.out
  · go_enter Tryd.func21, Tryd.ntmps21
    go_wp2_with fail
    go_loopw [3, 8] (fun v i wr => ∃ (k : Nat), k ≤ l.length ∧ i = .int .i64 k ∧ wr.ownsRow w.heap.size 33 3 v (solid (l.take k)).length (toksCells (solid (l.take k))) ∧ Below w.heap.size w wr)
      (fun _ i _ => l.length - (intOf i).toNat)
    case atStart => exact ⟨0, Nat.zero_le _, rfl, World.ownsRow_nil _ _ _ _, Below.refl _ _⟩
    case round =>
      obtain ⟨k, hk, rfl, hown, hB⟩ := hrel
      by_cases hlt : k < l.length
      · obtain ⟨c1, c2, c3⟩ := hc k hlt
        have hbw := World.block_lt_of_cell? w _ c1
        have c1' := cell_keep hB c1
        have c2' := cell_keep hB c2
        have c3' := cell_keep hB c3
        have hle : (solid (l.take k)).length ≤ l.length := Nat.le_trans (List.length_filter_le _ _) (by simp; omega)
        clear hc c1 c2 c3
        obtain ⟨t, ht⟩ : ∃ t, t = tokAt l k := ⟨_, rfl⟩
        rw [← ht] at c1' c2' c3'
        have HTK := Lib.hid ht; clear ht
        cases h4 : ((t.kind : Int) != 4)
        · have HSK := Lib.hid (solid_skip l k hlt (by rw [← HTK.out, kinds45 t.kind (b := false) h4 (fun h => by cases h)]; rfl))
          go_wp2_with fail
          go_roundw
          case rel => exact ⟨k + 1, by omega, by go_num, by rw [HSK.out]; exact hown.alloc _, hB.alloc hB.size _⟩
          case measure => simp [intOf]; omega
        · cases h5 : ((t.kind : Int) != 5)
          · have HSK := Lib.hid (solid_skip l k hlt (by rw [← HTK.out, kinds45 t.kind h4 (fun _ => h5)]; rfl))
            go_wp2_with fail
            go_roundw
            case rel => exact ⟨k + 1, by omega, by go_num, by rw [HSK.out]; exact hown.alloc _, hB.alloc hB.size _⟩
            case measure => simp [intOf]; omega
          · have HSK := Lib.hid (solid_keep l k hlt (by rw [← HTK.out, kinds45 t.kind h4 (fun _ => h5)]; rfl))
            have ho1 := hown.alloc (.cells #[Value.int .u8 (t.kind : Int), .string (bs t.text), .int .i64 (t.pos : Int)] 33)
            have hB1 := hB.alloc hB.size (.cells #[Value.int .u8 (t.kind : Int), .string (bs t.text), .int .i64 (t.pos : Int)] 33)
            go_wp2_with (first
              | (at_builtin; refine append_cells (w0 := w) w.heap.size rfl (.tmp 20) (.tmp 22) 23 33 _ 3 32 rfl Tryd.underlying23 Tryd.infoTok rfl (by decide) (by decide) _ (solid (l.take k)).length (toksCells (solid (l.take k))) _ rfl rfl rfl (by first | rfl | simp) (by simp [Value.oneCell']) ho1 hB1 hB1.size (by omega) ?_; intro v1 w3 ho3 hB3 _ _))
            go_roundw
            case rel => exact ⟨k + 1, by omega, by go_num, by rw [HSK.out, ← HTK.out]; exact own_tok2 ho3, hB3⟩
            case measure => simp [intOf]; omega
      · have e1 : k = l.length := by omega
        subst e1
        have HF := Lib.hid (show SolidPost l w (.returned u3) wr from ⟨_, rfl, by rw [List.take_length] at hown; exact hown, hB⟩)
        clear hown hB hc
        go_wp2_with fail
        go_ret
        exact HF.out

end Go.Proofs.YtidfhfcplcfcmaaDoor
