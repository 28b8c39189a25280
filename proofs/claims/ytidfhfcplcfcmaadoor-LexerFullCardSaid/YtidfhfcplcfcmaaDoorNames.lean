/- Walks: keywords and names. -/
import Derived.Test.YtidfhfcplcfcmaaDoorLexToken
import Derived.Test.YtidfhfcplcfcmaaDoorLexText
namespace Go.Proofs.YtidfhfcplcfcmaaDoor
open Go.RowKit OT

theorem bs_inj {a b : Str} (h : bs a = bs b) : a = b := by
  have := congrArg (fun x : ByteArray => x.data.toList) h
  simpa [bs] using this
theorem containsS_keywords (s : ByteArray) : Lib.containsS ((keywords.map bs).take 13) s = isKeyword s.data.toList := by
  have e : (keywords.map bs).take 13 = keywords.map bs := rfl
  rw [e, Bool.eq_iff_iff, Lib.containsS_iff]
  unfold isKeyword
  rw [List.contains_eq_mem, decide_eq_true_eq, List.mem_map]
  constructor
  · rintro ⟨a, ha, rfl⟩; rwa [bs_list]
  · intro h; exact ⟨_, h, bs_of s⟩

set_option maxHeartbeats 400000 in
theorem keyword_any (s : ByteArray) (w : World) (hT : SpaceTab w) :
    Calls Tryd.prog 23 #[.string s] w fun e w' => e = .returned (.bool (isKeyword s.data.toList)) ∧ Below w.heap.size w w' := by
  have hcell : ∀ j, j < (keywords.map bs).length → (w.alloc (.cells (strVals keywords) 9)).cell? ⟨w.heap.size, 0 + j, none⟩ = some (.string ((keywords.map bs).getD j ByteArray.empty)) := by
    intro k hk
    have hk' : k < keywords.length := by simpa using hk
    rw [World.cell?_alloc_at _ _ _ _ rfl, Nat.zero_add, strVals_at keywords k hk']
    simp [List.getD_eq_getElem?_getD, List.getElem?_eq_getElem hk']
  have hB : Below w.heap.size w (w.alloc (.cells (strVals keywords) 9)) := (Below.refl _ _).alloc (Nat.le_refl _) _
  have HT := Lib.hid hT; clear hT
  have HC := Lib.hid hcell; clear hcell
  go_enter Tryd.func23, Tryd.ntmps23
  go_wp2_with (first
    | (go_at_call 49; refine (fields_of_keywords _ HT.out).mono ?_; rintro e w' ⟨rfl, rfl⟩)
    | (go_at_call 48; refine (Tryd.slices_Contains_string w.heap.size 0 13 13 (keywords.map bs) s _ (by decide) (by decide) HC.out).mono ?_; rintro e w' ⟨rfl, rfl⟩; rw [containsS_keywords]))
  go_ret
  exact ⟨rfl, hB⟩

theorem isName_nil : isName [] = false := rfl
theorem isName_cons (c : UInt8) (r : Str) : isName (c :: r) = (decide ((c :: r).length ≤ 12) && letter c && !isKeyword (c :: r) && (token (c :: r) == (1, (c :: r).length))) := rfl

theorem str_cons (s : ByteArray) (hp : 0 < s.size) : s.data.toList = s[0] :: s.data.toList.tail := by
  have : s.data.toList.length = s.size := by simp
  match hl : s.data.toList, this with
  | [], h => exact absurd h (by simp; omega)
  | c :: r, _ =>
    have : s[0] = s.data.toList[0]'(by rw [hl]; simp) := rfl
    rw [this]; simp [hl]

set_option maxHeartbeats 800000 in
theorem name_any (s : ByteArray) (w : World) (hT : SpaceTab w) :
    Calls Tryd.prog 22 #[.string s] w fun e w' => e = .returned (.bool (isName s.data.toList)) ∧ Below w.heap.size w w' := by
  by_cases h0 : s.size = 0
  · have hnil : s.data.toList = [] := List.eq_nil_of_length_eq_zero (by simpa using h0)
    rw [hnil, isName_nil]
    have he : s.toList.isEmpty = true := by rw [Lib.toList_data, hnil]; rfl
    clear hnil h0
    go_enter Tryd.func22, Tryd.ntmps22
    go_wp2_with fail
    go_ret
    exact ⟨rfl, Below.refl _ _⟩
  · have hp : 0 < s.size := by omega
    have hl := str_cons s hp
    have hlen : s.data.toList.length = s.size := by simp
    have he : s.toList.isEmpty = false := by rw [Lib.toList_data, hl]; rfl
    have hn : isName s.data.toList = (decide (s.size ≤ 12) && letter s[0] && !isKeyword s.data.toList && (token s.data.toList == (1, s.size))) := by
      have := isName_cons s[0] s.data.toList.tail
      rw [← hl, hlen] at this; exact this
    rw [hn]
    clear hl hn h0 hlen
    have HT := Lib.hid hT
    have hp' : (0 : Int) < (s.size : Int) := by omega
    by_cases h12 : s.size ≤ 12
    · cases h1 : letter s[0]
      · have H1 := Lib.hid h1; clear h1
        go_enter Tryd.func22, Tryd.ntmps22
        go_wp2_with (first | (go_at_call 47; refine (letter_any s[0] _).mono ?_; rintro e w' ⟨rfl, rfl⟩; rw [H1.out]))
        go_ret
        exact ⟨ret_bool (by simp), Below.refl _ _⟩
      · have H1 := Lib.hid h1; clear h1
        cases hk : isKeyword s.data.toList
        · have HK := Lib.hid hk; clear hk
          obtain ⟨⟨kd, n⟩, hkn⟩ : ∃ x, x = token s.data.toList := ⟨_, rfl⟩
          rw [← hkn]
          have HKN := Lib.hid hkn; clear hkn
          have hb : ((kd, n) == (1, s.size)) = (((kd : Int) == 1) && ((n : Int) == (s.size : Int))) := by
            rw [Bool.eq_iff_iff]; simp; omega
          rw [hb]; clear hb
          cases hk1 : ((kd : Int) == 1)
          all_goals
            go_enter Tryd.func22, Tryd.ntmps22
            go_wp2_with (first
              | (go_at_call 47; refine (letter_any s[0] _).mono ?_; rintro e w' ⟨rfl, rfl⟩; rw [H1.out])
              | (go_at_call 23; refine (keyword_any s _ HT.out).mono ?_; rintro e w1 ⟨rfl, hb1⟩; rw [HK.out]; have HT1 := Lib.hid (HT.out.keep hb1); have HB1 := Lib.hid hb1; clear hb1)
              | (go_at_call 45; refine (token_any s (by omega) hp _ HT1.out).mono ?_; rintro e w2 ⟨rfl, hb2⟩; rw [← HKN.out]; have HB2 := Lib.hid hb2; clear hb2))
            go_ret
            exact ⟨ret_bool (by simp <;> omega), HB1.out.trans (HB2.out.mono HB1.out.size)⟩
        · have HK := Lib.hid hk; clear hk
          go_enter Tryd.func22, Tryd.ntmps22
          go_wp2_with (first
            | (go_at_call 47; refine (letter_any s[0] _).mono ?_; rintro e w' ⟨rfl, rfl⟩; rw [H1.out])
            | (go_at_call 23; refine (keyword_any s _ HT.out).mono ?_; rintro e w1 ⟨rfl, hb1⟩; rw [HK.out]))
          go_ret
          exact ⟨ret_bool (by simp), hb1⟩
    · go_enter Tryd.func22, Tryd.ntmps22
      go_wp2_with fail
      go_ret
      exact ⟨ret_bool (by simp <;> omega), Below.refl _ _⟩

end Go.Proofs.YtidfhfcplcfcmaaDoor
