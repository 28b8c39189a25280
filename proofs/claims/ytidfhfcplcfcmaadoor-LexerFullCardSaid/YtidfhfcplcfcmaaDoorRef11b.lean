/- Walks: the kind of a whole text. -/
import Derived.Test.YtidfhfcplcfcmaaDoorRef11a
namespace Go.Proofs.YtidfhfcplcfcmaaDoor
open Go.RowKit OT

theorem run_step (p : UInt8 → Bool) (s : ByteArray) (k : Nat) (h : k < s.size) : decide (k + 1 ≤ runLen p s.data.toList) = (decide (k ≤ runLen p s.data.toList) && p s[k]) := by
  have hl : k < s.data.toList.length := by simpa using h
  by_cases hk : k ≤ runLen p s.data.toList
  · cases hp : p s[k] with
    | true => have := runLen_go p s.data.toList k hl hk hp; simp [hk, this]
    | false => have := runLen_halt p s.data.toList k hl hk hp; simp [this]
  · simp [hk]; omega

/-- the four flags behind k bytes -/
def Flags (s : Str) (l0 c0 : Bool) (k : Nat) (wd nm bl cm : Bool) : Prop :=
  wd = (l0 && decide (k ≤ runLen alnum s)) ∧ nm = decide (k ≤ runLen digit s) ∧ bl = decide (k ≤ runLen space s) ∧ cm = (c0 && decide (k ≤ runLen notlf s))
theorem Flags.step {s : ByteArray} {l0 c0 : Bool} {k : Nat} {wd nm bl cm : Bool} (h : Flags s.data.toList l0 c0 k wd nm bl cm) (hk : k < s.size) :
    Flags s.data.toList l0 c0 (k + 1) (wd && alnum s[k]) (nm && digit s[k]) (bl && space s[k]) (cm && notlf s[k]) := by
  obtain ⟨rfl, rfl, rfl, rfl⟩ := h
  refine ⟨?_, ?_, ?_, ?_⟩
  · rw [run_step alnum s k hk, Bool.and_assoc]
  · rw [run_step digit s k hk]
  · rw [run_step space s k hk]
  · rw [run_step notlf s k hk, Bool.and_assoc]

theorem kindR_flags (c : UInt8) (r : Str) {wd nm bl cm : Bool} (h : Flags (c :: r) (letter c) (c == 35) (c :: r).length wd nm bl cm) :
    kindR (c :: r) = if wd then 1 else if nm then 2 else if signs.contains (c :: r) then 3 else if bl then 4 else if cm then 5 else 0 := by
  have e : ∀ p : UInt8 → Bool, decide ((c :: r).length ≤ runLen p (c :: r)) = (c :: r).all p := by
    intro p
    rw [all_iff, decide_eq_decide]
    have := runLen_le p (c :: r)
    omega
  obtain ⟨rfl, rfl, rfl, rfl⟩ := h
  rw [e, e, e, e]; rfl

theorem rletter_at (c : UInt8) (b : Bool) (h : b = letter c) (w : World) : Calls Tryd.prog 87 #[.int .u8 (c.toNat : Int)] w fun e w' => e = .returned (.bool b) ∧ w' = w :=
  (rletter_any c w).mono fun _ _ ⟨h1, h2⟩ => ⟨by rw [h]; exact h1, h2.symm⟩

theorem in_bytes (v : Value) (l : List Str) (s : ByteArray) (hl : l.length ≤ 4000000000000) (w : World) (h : StrsAt w v l) :
    Calls Tryd.prog 25 #[v, .string s] w fun e w' => e = .returned (.bool (l.contains s.data.toList)) ∧ w = w' := by
  have := in_any v l s.data.toList hl w h
  rwa [bs_of] at this
theorem rdigit_at (c : UInt8) (b : Bool) (h : b = digit c) (w : World) : Calls Tryd.prog 88 #[.int .u8 (c.toNat : Int)] w fun e w' => e = .returned (.bool b) ∧ w' = w :=
  (rdigit_any c w).mono fun _ _ ⟨h1, h2⟩ => ⟨by rw [h]; exact h1, h2.symm⟩
theorem rspace_at (c : UInt8) (b : Bool) (h : b = space c) (w : World) : Calls Tryd.prog 89 #[.int .u8 (c.toNat : Int)] w fun e w' => e = .returned (.bool b) ∧ w' = w :=
  (rspace_any c w).mono fun _ _ ⟨h1, h2⟩ => ⟨by rw [h]; exact h1, h2.symm⟩

set_option maxRecDepth 100000 in
set_option maxHeartbeats 4000000 in
theorem kind_any (s : ByteArray) (hs : s.size ≤ 140737488351232) (w : World) :
    Calls Tryd.prog 46 #[.string s] w fun e w' => e = .returned (.int .u8 (kindR s.data.toList : Int)) ∧ Below w.heap.size w w' := by
  by_cases h0 : s.size = 0
  · have hk : kindR s.data.toList = 0 := by
      have : s.data.toList = [] := List.eq_nil_of_length_eq_zero (by simpa using h0)
      rw [this]; rfl
    rw [hk]
    clear hk
    have h0' : ((s.size : Int) == 0) = true := by simpa using h0
    clear h0
    go_enter Tryd.func46, Tryd.ntmps46
    go_wp2_with fail
    go_ret
    exact ⟨rfl, Below.refl _ _⟩
  · have h0' : ((s.size : Int) == 0) = false := by simpa using h0
    have hp : 0 < s.size := by omega
    have hlist : s.data.toList = s[0] :: s.data.toList.tail := by
      have : s.data.toList.length = s.size := by simp
      match hl : s.data.toList, this with
      | [], h => exact absurd h (by simp; omega)
      | c :: r, _ =>
        have : s[0] = s.data.toList[0]'(by rw [hl]; simp) := rfl
        rw [this]; simp [hl]
    obtain ⟨l0, hl0⟩ : ∃ b, b = letter s[0] := ⟨_, rfl⟩
    obtain ⟨c0, hc0⟩ : ∃ b, b = (s[0] == 35) := ⟨_, rfl⟩
    have hc0' : ((s[0].toNat : Int) == 35) = c0 := by rw [hc0, u8_beq]; rfl
    have HL0 := Lib.hid hl0; clear hl0
    have HC0 := Lib.hid hc0; clear hc0
    have HLI := Lib.hid hlist; clear hlist
    have hp' : (0 : Int) < (s.size : Int) := by omega
    clear h0
    go_enter Tryd.func46, Tryd.ntmps46
    go_wp2_with fail
    go_quiet ((go_at_call 87; exact Calls.quiet_of_same (rletter_at s[0] l0 HL0.out _)))
    obtain ⟨wq, hwq⟩ : ∃ x, x = w.drewN nq := ⟨_, rfl⟩
    rw [← hwq]
    have HW := Lib.hid (show Below w.heap.size w wq by rw [hwq]; exact ⟨rfl, rfl, rfl, Nat.le_refl _, fun _ _ => rfl⟩)
    clear hwq
    go_wp2_with fail
    go_loop [3, 4, 5, 6, 7] (fun v3 v4 v5 v6 v7 => ∃ (k : Nat) (wd nm bl cm : Bool), k ≤ s.size ∧ v3 = .bool wd ∧ v4 = .bool nm ∧ v5 = .bool bl ∧ v6 = .bool cm ∧ v7 = .int .i64 k ∧ Flags s.data.toList l0 c0 k wd nm bl cm) (fun _ _ _ _ v7 => s.size - (intOf v7).toNat)
    case atStart => exact ⟨0, l0, true, true, c0, Nat.zero_le _, rfl, rfl, rfl, rfl, rfl, by simp [Flags]⟩
    case round =>
      obtain ⟨k, wd, nm, bl, cm, hk, rfl, rfl, rfl, rfl, rfl, hfl⟩ := hrel
      by_cases hlt : k < s.size
      · have hst := hfl.step hlt
        have hnl : notlf s[k] = ((s[k].toNat : Int) != 10) := by unfold notlf; simp only [bne]; rw [u8_beq]; rfl
        rw [hnl] at hst
        unfold alnum at hst
        obtain ⟨bL, hbL⟩ : ∃ b, b = letter s[k] := ⟨_, rfl⟩
        obtain ⟨bD, hbD⟩ : ∃ b, b = digit s[k] := ⟨_, rfl⟩
        obtain ⟨bS, hbS⟩ : ∃ b, b = space s[k] := ⟨_, rfl⟩
        rw [← hbL, ← hbD, ← hbS] at hst
        have HST := Lib.hid hst
        have HL := Lib.hid hbL
        have HD := Lib.hid hbD
        have HS := Lib.hid hbS
        clear hst hbL hbD hbS hfl hnl
        cases wd <;> cases nm <;> cases bl <;> cases cm <;> cases bL
        all_goals
          go_wp2_with (first
            | (go_at_call 87; refine (rletter_at s[k] _ HL.out _).mono ?_; rintro e w' ⟨rfl, rfl⟩)
            | (go_at_call 88; refine (rdigit_at s[k] bD HD.out _).mono ?_; rintro e w' ⟨rfl, rfl⟩)
            | (go_at_call 89; refine (rspace_at s[k] bS HS.out _).mono ?_; rintro e w' ⟨rfl, rfl⟩))
          go_round
          case rel => exact ⟨k + 1, _, _, _, _, by omega, rfl, rfl, rfl, rfl, by go_num, HST.out⟩
          case measure => simp [intOf]; omega
      · have e1 : k = s.size := by omega
        have hsl : s.data.toList.length = s.size := by simp
        have hkr : kindR s.data.toList = if wd then 1 else if nm then 2 else if signs.contains s.data.toList then 3 else if bl then 4 else if cm then 5 else 0 := by
          have h1 := HLI.out
          rw [e1, ← hsl, HL0.out, HC0.out] at hfl
          rw [h1] at hfl ⊢
          exact kindR_flags _ _ hfl
        have HK := Lib.hid hkr
        clear hkr hfl e1 hsl
        cases wd
        · cases nm
          · cases hin : signs.contains s.data.toList
            · have HIN := Lib.hid hin; clear hin
              cases bl <;> cases cm
              all_goals
                go_wp2_with fail
                refine (signs_call _).mono ?_
                rintro e w1 ⟨v, rfl, hsa, hb1⟩
                have HB1 := Lib.hid hb1; clear hb1
                go_wp2_with fail
                refine (in_bytes v signs s (by decide) _ hsa).mono ?_
                rintro e w2 ⟨rfl, rfl⟩
                rw [HIN.out]
                go_wp2_with fail
                go_ret
                exact ⟨by rw [HK.out, HIN.out]; rfl, HW.out.trans (HB1.out.mono HW.out.size)⟩
            · have HIN := Lib.hid hin; clear hin
              go_wp2_with fail
              refine (signs_call _).mono ?_
              rintro e w1 ⟨v, rfl, hsa, hb1⟩
              have HB1 := Lib.hid hb1; clear hb1
              go_wp2_with fail
              refine (in_bytes v signs s (by decide) _ hsa).mono ?_
              rintro e w2 ⟨rfl, rfl⟩
              rw [HIN.out]
              go_wp2_with fail
              go_ret
              exact ⟨by rw [HK.out, HIN.out]; rfl, HW.out.trans (HB1.out.mono HW.out.size)⟩
          · go_wp2_with fail
            go_ret
            exact ⟨by rw [HK.out]; rfl, HW.out⟩
        · go_wp2_with fail
          go_ret
          exact ⟨by rw [HK.out]; rfl, HW.out⟩

end Go.Proofs.YtidfhfcplcfcmaaDoor
