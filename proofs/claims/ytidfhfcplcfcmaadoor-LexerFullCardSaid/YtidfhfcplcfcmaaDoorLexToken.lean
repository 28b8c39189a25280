/- Walks: the token at the beginning of a text. -/
import Derived.Test.YtidfhfcplcfcmaaDoorLexSign
import Derived.WalkSmall
namespace Go.Proofs.YtidfhfcplcfcmaaDoor
open Go.RowKit OT

theorem var_keep {P : Program} {W W' : World} {n : String} {cs : Array Value} (hb : Below W.heap.size W W') (hv : W.var? P n = some cs) : W'.var? P n = some cs := by
  cases hg : P.globalNamed n with
  | none => unfold World.var? at hv; rw [hg] at hv; simp at hv
  | some g =>
    refine var?_below hb hg ?_ hv
    unfold World.var? at hv
    simp only [hg, Option.bind_some] at hv
    rcases Nat.lt_or_ge g W.heap.size with h | h
    · exact h
    · rw [Array.getElem?_eq_none h] at hv; simp at hv
theorem SpaceTab.keep {w w' : World} (h : SpaceTab w) (hb : Below w.heap.size w w') : SpaceTab w' := var_keep hb h

theorem ret_kn {k n : Nat} {p : Nat × Nat} (h : p = (k, n)) : Ending.returned (.tuple #[.int .u8 (k : Int), .int .i64 (n : Int)]) = .returned (.tuple #[.int .u8 (p.1 : Int), .int .i64 (p.2 : Int)]) := by rw [h]
theorem bs_empty_iff (l : Str) : ((bs l).toList.isEmpty) = l.isEmpty := by
  have : (bs l).toList = l := by rw [Lib.toList_data, bs_list]
  rw [this]

set_option maxHeartbeats 800000 in
theorem token_any (s : ByteArray) (hs : s.size ≤ 140737488351232) (h0 : 0 < s.size) (w : World) (hT : SpaceTab w) :
    Calls Tryd.prog 45 #[.string s] w fun e w' => e = .returned (.tuple #[.int .u8 ((token s.data.toList).1 : Int), .int .i64 ((token s.data.toList).2 : Int)]) ∧ Below w.heap.size w w' := by
  have hB1 : Below w.heap.size w (w.alloc (.cells #[.string s] 9)) := (Below.refl _ _).alloc (Nat.le_refl _) _
  have hT1 : SpaceTab (w.alloc (.cells #[.string s] 9)) := hT.keep hB1
  have hc1 : (w.alloc (.cells #[.string s] 9)).cell? ⟨w.heap.size, 0, none⟩ = some (.string s) := by rw [World.cell?_alloc_at _ _ _ _ rfl]; rfl
  have hlist : s.data.toList = s[0] :: s.data.toList.tail := by
    have : s.data.toList.length = s.size := by simp
    match hl : s.data.toList, this with
    | [], h => exact absurd h (by simp; omega)
    | c :: r, _ =>
      have : s[0] = s.data.toList[0]'(by rw [hl]; simp) := rfl
      rw [this]; simp [hl]
  have hcs := token_cases s[0] s.data.toList.tail
  rw [← hlist] at hcs
  have HT := Lib.hid hT1
  have HB := Lib.hid hB1
  clear hT1 hB1 hlist hT
  have hmf : ∀ (fn : Fn) (first cap : Array Value) (w : World), (Instr.makeFunc fn first cap).run Tryd.prog w = .ok (.func fn first cap) w := fun _ _ _ _ => rfl
  rcases hcs with ⟨h1, ht⟩ | ⟨h1, h2, ht⟩ | ⟨h1, h2, h3, ht⟩ | ⟨h1, h2, h3, h4, ht⟩ | ⟨h1, h2, h3, h4, h5, ht⟩ | ⟨h1, h2, h3, h4, h5, ht⟩
  · have Ht := Lib.hid ht; clear ht
    have H1 := Lib.hid h1; clear h1
    go_enter Tryd.func45, Tryd.ntmps45
    go_wp2_with (first
      | (go_at_call 47; refine (letter_any s[0] _).mono ?_; rintro e w' ⟨rfl, rfl⟩; rw [H1.out])
      | (go_at_call 81; refine (run_alnum s hs _ _ hc1).mono ?_; rintro e w' ⟨rfl, rfl⟩))
    go_ret2
    exact ⟨ret_kn Ht.out, HB.out⟩
  · have Ht := Lib.hid ht; clear ht
    have H1 := Lib.hid h1; clear h1
    have H2 := Lib.hid h2; clear h2
    go_enter Tryd.func45, Tryd.ntmps45
    go_wp2_with (first
      | (go_at_call 47; refine (letter_any s[0] _).mono ?_; rintro e w' ⟨rfl, rfl⟩; rw [H1.out])
      | (go_at_call 83; refine (digit_any s[0] _).mono ?_; rintro e w' ⟨rfl, rfl⟩; rw [H2.out])
      | (go_at_call 81; refine (run_digit s hs _ _ hc1).mono ?_; rintro e w' ⟨rfl, rfl⟩))
    go_ret2
    exact ⟨ret_kn Ht.out, HB.out⟩
  · have Ht := Lib.hid ht; clear ht
    have H1 := Lib.hid h1; clear h1
    have H2 := Lib.hid h2; clear h2
    have H3 := Lib.hid h3; clear h3
    go_enter Tryd.func45, Tryd.ntmps45
    go_wp2_with (first
      | (go_at_call 47; refine (letter_any s[0] _).mono ?_; rintro e w' ⟨rfl, rfl⟩; rw [H1.out])
      | (go_at_call 83; refine (digit_any s[0] _).mono ?_; rintro e w' ⟨rfl, rfl⟩; rw [H2.out])
      | (go_at_call 84; refine (space_any s[0] _).mono ?_; rintro e w' ⟨rfl, rfl⟩; rw [H3.out])
      | (go_at_call 81; refine (run_space s hs _ _ hc1).mono ?_; rintro e w' ⟨rfl, rfl⟩))
    go_ret2
    exact ⟨ret_kn Ht.out, HB.out⟩
  · have Ht := Lib.hid ht; clear ht
    have H1 := Lib.hid h1; clear h1
    have H2 := Lib.hid h2; clear h2
    have H3 := Lib.hid h3; clear h3
    have h4' : ((s[0].toNat : Int) == 35) = true := by rw [u8_beq] at h4; exact h4
    clear h4
    go_enter Tryd.func45, Tryd.ntmps45
    go_wp2_with (first
      | (go_at_call 47; refine (letter_any s[0] _).mono ?_; rintro e w' ⟨rfl, rfl⟩; rw [H1.out])
      | (go_at_call 83; refine (digit_any s[0] _).mono ?_; rintro e w' ⟨rfl, rfl⟩; rw [H2.out])
      | (go_at_call 84; refine (space_any s[0] _).mono ?_; rintro e w' ⟨rfl, rfl⟩; rw [H3.out])
      | (go_at_call 81; refine (run_notlf s hs _ _ hc1).mono ?_; rintro e w' ⟨rfl, rfl⟩))
    go_ret2
    exact ⟨ret_kn Ht.out, HB.out⟩
  · have Ht := Lib.hid ht; clear ht
    have H1 := Lib.hid h1; clear h1
    have H2 := Lib.hid h2; clear h2
    have H3 := Lib.hid h3; clear h3
    have h4' : ((s[0].toNat : Int) == 35) = false := by rw [u8_beq] at h4; exact h4
    clear h4
    obtain ⟨x, hx⟩ : ∃ x, x = signOf s.data.toList := ⟨_, rfl⟩
    rw [← hx] at h5
    have he : (bs x).toList.isEmpty = false := by rw [bs_empty_iff]; cases x with | nil => exact absurd rfl h5 | cons _ _ => rfl
    have HX := Lib.hid hx; clear hx h5
    go_enter Tryd.func45, Tryd.ntmps45
    go_wp2_with (first
      | (go_at_call 47; refine (letter_any s[0] _).mono ?_; rintro e w' ⟨rfl, rfl⟩; rw [H1.out])
      | (go_at_call 83; refine (digit_any s[0] _).mono ?_; rintro e w' ⟨rfl, rfl⟩; rw [H2.out])
      | (go_at_call 84; refine (space_any s[0] _).mono ?_; rintro e w' ⟨rfl, rfl⟩; rw [H3.out])
      | (go_at_call 86; refine (sign_any s _ HT.out).mono ?_; rintro e w' ⟨rfl, hb2⟩; rw [← HX.out]; have HB2 := Lib.hid hb2; clear hb2))
    go_ret2
    exact ⟨ret_kn (by rw [Ht.out, ← HX.out, bs_size]), HB.out.trans (HB2.out.mono (by simp))⟩
  · have Ht := Lib.hid ht; clear ht
    have H1 := Lib.hid h1; clear h1
    have H2 := Lib.hid h2; clear h2
    have H3 := Lib.hid h3; clear h3
    have h4' : ((s[0].toNat : Int) == 35) = false := by rw [u8_beq] at h4; exact h4
    clear h4
    obtain ⟨x, hx⟩ : ∃ x, x = signOf s.data.toList := ⟨_, rfl⟩
    rw [← hx] at h5
    have he : (bs x).toList.isEmpty = true := by rw [bs_empty_iff, h5]; rfl
    have HX := Lib.hid hx; clear hx h5
    go_enter Tryd.func45, Tryd.ntmps45
    go_wp2_with (first
      | (go_at_call 47; refine (letter_any s[0] _).mono ?_; rintro e w' ⟨rfl, rfl⟩; rw [H1.out])
      | (go_at_call 83; refine (digit_any s[0] _).mono ?_; rintro e w' ⟨rfl, rfl⟩; rw [H2.out])
      | (go_at_call 84; refine (space_any s[0] _).mono ?_; rintro e w' ⟨rfl, rfl⟩; rw [H3.out])
      | (go_at_call 86; refine (sign_any s _ HT.out).mono ?_; rintro e w' ⟨rfl, hb2⟩; rw [← HX.out]; have HB2 := Lib.hid hb2; clear hb2))
    go_ret2
    exact ⟨ret_kn Ht.out, HB.out.trans (HB2.out.mono (by simp))⟩

end Go.Proofs.YtidfhfcplcfcmaaDoor
