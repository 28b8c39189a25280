/- Walks: the run closure at each of its four classes. -/
import Derived.Test.YtidfhfcplcfcmaaDoorLexWalk
import Derived.Test.YtidfhfcplcfcmaaDoorLexLaws
import Derived.Lib.Hide
namespace Go.Proofs.YtidfhfcplcfcmaaDoor
open Go.RowKit OT

theorem byte_at (s : ByteArray) (k : Nat) (h : k < s.size) : s.data.toList[k]'(by simpa using h) = s[k] := rfl

set_option maxHeartbeats 400000 in
theorem run_digit (s : ByteArray) (hs : s.size ≤ 140737488351232) (B : Nat) (w : World) (hc : w.cell? ⟨B, 0, none⟩ = some (.string s)) :
    Calls Tryd.prog 81 #[.func (.func 83) #[] #[], .pointer (some ⟨B, 0, none⟩)] w fun e w' => e = .returned (.int .i64 (runLen digit s.data.toList)) ∧ w = w' := by
  have hl := runLen_le digit s.data.toList
  have hsz : s.data.toList.length = s.size := by simp
  have Hz := Lib.hid hsz; clear hsz
  go_enter Tryd.func81, Tryd.ntmps81
  go_wp2
  go_loop [4] (fun n => ∃ k : Nat, k ≤ s.size ∧ k ≤ runLen digit s.data.toList ∧ n = .int .i64 k) (fun n => s.size - (intOf n).toNat)
  case atStart => exact ⟨0, Nat.zero_le _, Nat.zero_le _, rfl⟩
  case round =>
    obtain ⟨k, hk, hr, rfl⟩ := hrel
    by_cases hlt : k < s.size
    · cases hp : digit s[k]
      · have Hp := Lib.hid hp; clear hp
        go_wp2_with (go_at_call 83; refine (digit_any s[k] _).mono ?_; rintro e w' ⟨rfl, rfl⟩; rw [Hp.out])
        go_ret
        exact ⟨ret_int (by rw [runLen_halt digit s.data.toList k (by rw [Hz.out]; exact hlt) hr Hp.out]), rfl⟩
      · have Hp := Lib.hid hp; clear hp
        have h1 := runLen_go digit s.data.toList k (by rw [Hz.out]; exact hlt) hr Hp.out
        go_wp2_with (go_at_call 83; refine (digit_any s[k] _).mono ?_; rintro e w' ⟨rfl, rfl⟩; rw [Hp.out])
        go_round
        case rel => exact ⟨k + 1, by omega, h1, by go_num⟩
        case measure => simp [intOf]; omega
    · go_wp2_with fail
      go_ret
      exact ⟨ret_int (by have := Hz.out; omega), rfl⟩

set_option maxHeartbeats 400000 in
theorem run_space (s : ByteArray) (hs : s.size ≤ 140737488351232) (B : Nat) (w : World) (hc : w.cell? ⟨B, 0, none⟩ = some (.string s)) :
    Calls Tryd.prog 81 #[.func (.func 84) #[] #[], .pointer (some ⟨B, 0, none⟩)] w fun e w' => e = .returned (.int .i64 (runLen space s.data.toList)) ∧ w = w' := by
  have hl := runLen_le space s.data.toList
  have hsz : s.data.toList.length = s.size := by simp
  have Hz := Lib.hid hsz; clear hsz
  go_enter Tryd.func81, Tryd.ntmps81
  go_wp2
  go_loop [4] (fun n => ∃ k : Nat, k ≤ s.size ∧ k ≤ runLen space s.data.toList ∧ n = .int .i64 k) (fun n => s.size - (intOf n).toNat)
  case atStart => exact ⟨0, Nat.zero_le _, Nat.zero_le _, rfl⟩
  case round =>
    obtain ⟨k, hk, hr, rfl⟩ := hrel
    by_cases hlt : k < s.size
    · cases hp : space s[k]
      · have Hp := Lib.hid hp; clear hp
        go_wp2_with (go_at_call 84; refine (space_any s[k] _).mono ?_; rintro e w' ⟨rfl, rfl⟩; rw [Hp.out])
        go_ret
        exact ⟨ret_int (by rw [runLen_halt space s.data.toList k (by rw [Hz.out]; exact hlt) hr Hp.out]), rfl⟩
      · have Hp := Lib.hid hp; clear hp
        have h1 := runLen_go space s.data.toList k (by rw [Hz.out]; exact hlt) hr Hp.out
        go_wp2_with (go_at_call 84; refine (space_any s[k] _).mono ?_; rintro e w' ⟨rfl, rfl⟩; rw [Hp.out])
        go_round
        case rel => exact ⟨k + 1, by omega, h1, by go_num⟩
        case measure => simp [intOf]; omega
    · go_wp2_with fail
      go_ret
      exact ⟨ret_int (by have := Hz.out; omega), rfl⟩

set_option maxHeartbeats 400000 in
theorem run_alnum (s : ByteArray) (hs : s.size ≤ 140737488351232) (B : Nat) (w : World) (hc : w.cell? ⟨B, 0, none⟩ = some (.string s)) :
    Calls Tryd.prog 81 #[.func (.func 82) #[] #[], .pointer (some ⟨B, 0, none⟩)] w fun e w' => e = .returned (.int .i64 (runLen alnum s.data.toList)) ∧ w = w' := by
  have hl := runLen_le alnum s.data.toList
  have hsz : s.data.toList.length = s.size := by simp
  have Hz := Lib.hid hsz; clear hsz
  go_enter Tryd.func81, Tryd.ntmps81
  go_wp2
  go_loop [4] (fun n => ∃ k : Nat, k ≤ s.size ∧ k ≤ runLen alnum s.data.toList ∧ n = .int .i64 k) (fun n => s.size - (intOf n).toNat)
  case atStart => exact ⟨0, Nat.zero_le _, Nat.zero_le _, rfl⟩
  case round =>
    obtain ⟨k, hk, hr, rfl⟩ := hrel
    by_cases hlt : k < s.size
    · cases hp : alnum s[k]
      · have Hp := Lib.hid hp; clear hp
        go_wp2_with (go_at_call 82; refine (alnum_any s[k] _).mono ?_; rintro e w' ⟨rfl, rfl⟩; rw [Hp.out])
        go_ret
        exact ⟨ret_int (by rw [runLen_halt alnum s.data.toList k (by rw [Hz.out]; exact hlt) hr Hp.out]), rfl⟩
      · have Hp := Lib.hid hp; clear hp
        have h1 := runLen_go alnum s.data.toList k (by rw [Hz.out]; exact hlt) hr Hp.out
        go_wp2_with (go_at_call 82; refine (alnum_any s[k] _).mono ?_; rintro e w' ⟨rfl, rfl⟩; rw [Hp.out])
        go_round
        case rel => exact ⟨k + 1, by omega, h1, by go_num⟩
        case measure => simp [intOf]; omega
    · go_wp2_with fail
      go_ret
      exact ⟨ret_int (by have := Hz.out; omega), rfl⟩

set_option maxHeartbeats 400000 in
theorem run_notlf (s : ByteArray) (hs : s.size ≤ 140737488351232) (B : Nat) (w : World) (hc : w.cell? ⟨B, 0, none⟩ = some (.string s)) :
    Calls Tryd.prog 81 #[.func (.func 85) #[] #[], .pointer (some ⟨B, 0, none⟩)] w fun e w' => e = .returned (.int .i64 (runLen notlf s.data.toList)) ∧ w = w' := by
  have hl := runLen_le notlf s.data.toList
  have hsz : s.data.toList.length = s.size := by simp
  have Hz := Lib.hid hsz; clear hsz
  go_enter Tryd.func81, Tryd.ntmps81
  go_wp2
  go_loop [4] (fun n => ∃ k : Nat, k ≤ s.size ∧ k ≤ runLen notlf s.data.toList ∧ n = .int .i64 k) (fun n => s.size - (intOf n).toNat)
  case atStart => exact ⟨0, Nat.zero_le _, Nat.zero_le _, rfl⟩
  case round =>
    obtain ⟨k, hk, hr, rfl⟩ := hrel
    by_cases hlt : k < s.size
    · cases hp : notlf s[k]
      · have Hp := Lib.hid hp; clear hp
        go_wp2_with (go_at_call 85; refine (notlf_any s[k] _).mono ?_; rintro e w' ⟨rfl, rfl⟩; rw [Hp.out])
        go_ret
        exact ⟨ret_int (by rw [runLen_halt notlf s.data.toList k (by rw [Hz.out]; exact hlt) hr Hp.out]), rfl⟩
      · have Hp := Lib.hid hp; clear hp
        have h1 := runLen_go notlf s.data.toList k (by rw [Hz.out]; exact hlt) hr Hp.out
        go_wp2_with (go_at_call 85; refine (notlf_any s[k] _).mono ?_; rintro e w' ⟨rfl, rfl⟩; rw [Hp.out])
        go_round
        case rel => exact ⟨k + 1, by omega, h1, by go_num⟩
        case measure => simp [intOf]; omega
    · go_wp2_with fail
      go_ret
      exact ⟨ret_int (by have := Hz.out; omega), rfl⟩

end Go.Proofs.YtidfhfcplcfcmaaDoor
