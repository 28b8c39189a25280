/- Walks: the sign at the beginning of a text, keywords, the token. -/
import Derived.Test.YtidfhfcplcfcmaaDoorLexRun
import Derived.Test.YtidfhfcplcfcmaaDoorShelf
namespace Go.Proofs.YtidfhfcplcfcmaaDoor
open Go.RowKit OT

/-- A text in memory. -/
def bs (l : Str) : ByteArray := ⟨l.toArray⟩
theorem bs_list (l : Str) : (bs l).data.toList = l := by simp [bs]
theorem bs_size (l : Str) : (bs l).size = l.length := by simp [bs, ByteArray.size]
theorem bs_of (s : ByteArray) : bs s.data.toList = s := by simp [bs]

/-- What start-up code has laid in strings.asciiSpace. -/
def SpaceTab (w : World) : Prop := Lib.TabIs Tryd.prog w "strings.asciiSpace" .u8 Lib.asciiSpaceTab

def strVals (l : List Str) : Array Value := (l.map fun x => Value.string (bs x)).toArray
theorem strVals_at (l : List Str) (k : Nat) (h : k < l.length) : (strVals l)[k]? = some (.string (bs (l.getD k []))) := by
  simp [strVals, List.getElem?_eq_getElem h, List.getD_eq_getElem?_getD]

def signsText : Str := #[60, 60, 32, 62, 62, 32, 60, 61, 32, 62, 61, 32, 61, 61, 32, 33, 61, 32, 38, 38, 32, 124, 124, 32, 43, 32, 45, 32, 42, 32, 47, 32, 37, 32, 38, 32, 124, 32, 94, 32, 60, 32, 62, 32, 33, 32, 61, 32, 91, 32, 93, 32, 123, 32, 125, 32, 40, 32, 41, 32, 59, 32, 44].toList
def keywordsText : Str := #[97, 114, 114, 97, 121, 32, 98, 111, 117, 110, 100, 32, 101, 108, 115, 101, 32, 102, 111, 114, 32, 105, 102, 32, 105, 110, 32, 108, 111, 99, 107, 32, 111, 117, 116, 32, 112, 101, 114, 105, 111, 100, 32, 115, 104, 97, 114, 101, 100, 32, 116, 97, 115, 107, 32, 118, 97, 114, 32, 119, 104, 105, 108, 101].toList
theorem fields_signs : Lib.fields signsText = signs := by decide
theorem fields_keywords : Lib.fields keywordsText = keywords := by decide
theorem ascii_signs : ∀ (j : Nat) b, signsText[j]? = some b → b.toNat < 128 := by
  intro j b h
  have := List.mem_of_getElem? h
  revert b
  intro b _ hb
  have hall : signsText.all (fun b => decide (b.toNat < 128)) = true := by decide
  simpa using List.all_eq_true.1 hall b hb
theorem ascii_keywords : ∀ (j : Nat) b, keywordsText[j]? = some b → b.toNat < 128 := by
  intro j b h
  have := List.mem_of_getElem? h
  revert b
  intro b _ hb
  have hall : keywordsText.all (fun b => decide (b.toNat < 128)) = true := by decide
  simpa using List.all_eq_true.1 hall b hb

theorem fields_of_signs (w : World) (hT : SpaceTab w) : Calls Tryd.prog 49 #[.string ⟨#[60, 60, 32, 62, 62, 32, 60, 61, 32, 62, 61, 32, 61, 61, 32, 33, 61, 32, 38, 38, 32, 124, 124, 32, 43, 32, 45, 32, 42, 32, 47, 32, 37, 32, 38, 32, 124, 32, 94, 32, 60, 32, 62, 32, 33, 32, 61, 32, 91, 32, 93, 32, 123, 32, 125, 32, 40, 32, 41, 32, 59, 32, 44]⟩] w fun e w' =>
    e = .returned (.slice (some ⟨w.heap.size, 0, none⟩) 28 28) ∧ w.alloc (.cells (strVals signs) 9) = w' := by
  refine (Tryd.strings_Fields ⟨#[60, 60, 32, 62, 62, 32, 60, 61, 32, 62, 61, 32, 61, 61, 32, 33, 61, 32, 38, 38, 32, 124, 124, 32, 43, 32, 45, 32, 42, 32, 47, 32, 37, 32, 38, 32, 124, 32, 94, 32, 60, 32, 62, 32, 33, 32, 61, 32, 91, 32, 93, 32, 123, 32, 125, 32, 40, 32, 41, 32, 59, 32, 44]⟩ w (by decide) ascii_signs hT).mono ?_
  rintro e w' ⟨rfl, rfl⟩
  have e1 : Lib.fields (⟨#[60, 60, 32, 62, 62, 32, 60, 61, 32, 62, 61, 32, 61, 61, 32, 33, 61, 32, 38, 38, 32, 124, 124, 32, 43, 32, 45, 32, 42, 32, 47, 32, 37, 32, 38, 32, 124, 32, 94, 32, 60, 32, 62, 32, 33, 32, 61, 32, 91, 32, 93, 32, 123, 32, 125, 32, 40, 32, 41, 32, 59, 32, 44]⟩ : ByteArray).data.toList = signs := fields_signs
  rw [e1]
  exact ⟨rfl, rfl⟩
theorem fields_of_keywords (w : World) (hT : SpaceTab w) : Calls Tryd.prog 49 #[.string ⟨#[97, 114, 114, 97, 121, 32, 98, 111, 117, 110, 100, 32, 101, 108, 115, 101, 32, 102, 111, 114, 32, 105, 102, 32, 105, 110, 32, 108, 111, 99, 107, 32, 111, 117, 116, 32, 112, 101, 114, 105, 111, 100, 32, 115, 104, 97, 114, 101, 100, 32, 116, 97, 115, 107, 32, 118, 97, 114, 32, 119, 104, 105, 108, 101]⟩] w fun e w' =>
    e = .returned (.slice (some ⟨w.heap.size, 0, none⟩) 13 13) ∧ w.alloc (.cells (strVals keywords) 9) = w' := by
  refine (Tryd.strings_Fields ⟨#[97, 114, 114, 97, 121, 32, 98, 111, 117, 110, 100, 32, 101, 108, 115, 101, 32, 102, 111, 114, 32, 105, 102, 32, 105, 110, 32, 108, 111, 99, 107, 32, 111, 117, 116, 32, 112, 101, 114, 105, 111, 100, 32, 115, 104, 97, 114, 101, 100, 32, 116, 97, 115, 107, 32, 118, 97, 114, 32, 119, 104, 105, 108, 101]⟩ w (by decide) ascii_keywords hT).mono ?_
  rintro e w' ⟨rfl, rfl⟩
  have e1 : Lib.fields (⟨#[97, 114, 114, 97, 121, 32, 98, 111, 117, 110, 100, 32, 101, 108, 115, 101, 32, 102, 111, 114, 32, 105, 102, 32, 105, 110, 32, 108, 111, 99, 107, 32, 111, 117, 116, 32, 112, 101, 114, 105, 111, 100, 32, 115, 104, 97, 114, 101, 100, 32, 116, 97, 115, 107, 32, 118, 97, 114, 32, 119, 104, 105, 108, 101]⟩ : ByteArray).data.toList = keywords := fields_keywords
  rw [e1]
  exact ⟨rfl, rfl⟩

/-- A sign found: none of the earlier ones begins the text. -/
theorem signOf_found (l : Str) (k : Nat) (h : k < 28) (h0 : ∀ j, j < k → Lib.hasPrefix l (signs.getD j []) = false) (h1 : Lib.hasPrefix l (signs.getD k []) = true) : signOf l = signs.getD k [] := by
  have hlen : signs.length = 28 := rfl
  unfold signOf
  have : signs.find? (fun x => x.isPrefixOf l) = some (signs.getD k []) := by
    rw [List.find?_eq_some_iff_getElem]
    refine ⟨h1, k, by omega, by simp [List.getD_eq_getElem?_getD, List.getElem?_eq_getElem (show k < signs.length by omega)], fun j hj => ?_⟩
    have := h0 j hj
    simp only [Lib.hasPrefix, List.getD_eq_getElem?_getD, List.getElem?_eq_getElem (show j < signs.length by omega), Option.getD_some] at this
    simp [this]
  rw [this]; rfl
theorem signOf_nothing (l : Str) (h0 : ∀ j, j < 28 → Lib.hasPrefix l (signs.getD j []) = false) : signOf l = [] := by
  have hlen : signs.length = 28 := rfl
  unfold signOf
  have : signs.find? (fun x => x.isPrefixOf l) = none := by
    rw [List.find?_eq_none]
    intro x hx
    obtain ⟨j, hj, rfl⟩ := List.getElem_of_mem hx
    have := h0 j (by omega)
    simp only [Lib.hasPrefix, List.getD_eq_getElem?_getD, List.getElem?_eq_getElem hj, Option.getD_some] at this
    simp [this]
  rw [this]; rfl

set_option maxHeartbeats 400000 in
theorem sign_any (s : ByteArray) (w : World) (hT : SpaceTab w) :
    Calls Tryd.prog 86 #[.string s] w fun e w' => e = .returned (.string (bs (signOf s.data.toList))) ∧ Below w.heap.size w w' := by
  have hcell : ∀ k : Nat, k < 28 → (w.alloc (.cells (strVals signs) 9)).cell? ⟨w.heap.size, k, none⟩ = some (.string (bs (signs.getD k []))) := by
    intro k hk
    rw [World.cell?_alloc_at _ _ _ _ rfl]
    exact strVals_at signs k hk
  have hB : Below w.heap.size w (w.alloc (.cells (strVals signs) 9)) := (Below.refl _ _).alloc (Nat.le_refl _) _
  have HT := Lib.hid hT; clear hT
  go_enter Tryd.func86, Tryd.ntmps86
  go_wp2_with (first | (go_at_call 49; refine (fields_of_signs _ HT.out).mono ?_; rintro e w' ⟨rfl, rfl⟩))
  generalize w.alloc (.cells (strVals signs) 9) = W at hcell hB ⊢
  go_loop [7] (fun n => ∃ k : Nat, k ≤ 28 ∧ (∀ j, j < k → Lib.hasPrefix s.data.toList (signs.getD j []) = false) ∧ n = .int .i64 k) (fun n => 28 - (intOf n).toNat)
  case atStart => exact ⟨0, Nat.zero_le _, fun j hj => by omega, rfl⟩
  case round =>
    obtain ⟨k, hk, h0, rfl⟩ := hrel
    have H0 := Lib.hid h0; clear h0
    by_cases hlt : k < 28
    · have hc := hcell k hlt
      clear hcell
      obtain ⟨x, hx⟩ : ∃ x, x = signs.getD k [] := ⟨_, rfl⟩
      rw [← hx] at hc
      have HX := Lib.hid hx; clear hx
      cases hp : Lib.hasPrefix s.data.toList x
      · have HP := Lib.hid hp; clear hp
        go_wp2_with (first | (go_at_call 53; refine (Tryd.strings_HasPrefix _ _ _).mono ?_; rintro e w' ⟨rfl, rfl⟩; rw [bs_list, HP.out]))
        go_round
        case rel => exact ⟨k + 1, by omega, fun j hj => by
          by_cases e : j = k
          · subst e; rw [← HX.out]; exact HP.out
          · exact H0.out j (by omega), by go_num⟩
        case measure => simp [intOf]; omega
      · have HP := Lib.hid hp; clear hp
        have HR := Lib.hid (signOf_found s.data.toList k hlt H0.out (by rw [← HX.out]; exact HP.out))
        go_wp2_with (first | (go_at_call 53; refine (Tryd.strings_HasPrefix _ _ _).mono ?_; rintro e w' ⟨rfl, rfl⟩; rw [bs_list, HP.out]))
        go_ret
        exact ⟨by rw [HR.out, ← HX.out]; rfl, hB⟩
    · clear hcell
      have HR := Lib.hid (signOf_nothing s.data.toList fun j hj => H0.out j (by omega))
      go_wp2_with fail
      go_ret
      exact ⟨by rw [HR.out]; rfl, hB⟩

end Go.Proofs.YtidfhfcplcfcmaaDoor
