/- Walks: the reference's byte classes, tables, membership, and the kind of a whole text. -/
import Derived.Test.YtidfhfcplcfcmaaDoorLexAwake
import Derived.Deep.QuietTactic
import Derived.BigQuiet
namespace Go.Proofs.YtidfhfcplcfcmaaDoor
open Go.RowKit OT

theorem rletter_any (c : UInt8) (w : World) : Calls Tryd.prog 87 #[.int .u8 (c.toNat : Int)] w fun e w' => e = .returned (.bool (letter c)) ∧ w = w' := by
  have hb := c.toNat_lt
  have hl : letter c = (decide (97 ≤ (c.toNat : Int)) && decide ((c.toNat : Int) ≤ 122)) := by unfold letter; congr 1 <;> (rw [decide_eq_decide]; omega)
  rw [hl]; clear hl
  by_cases h1 : (97 : Int) ≤ (c.toNat : Int)
  all_goals
    go_enter Tryd.func87, Tryd.ntmps87
    go_wp2
    go_ret
    exact ⟨ret_bool (by simp <;> omega), rfl⟩

theorem rdigit_any (c : UInt8) (w : World) : Calls Tryd.prog 88 #[.int .u8 (c.toNat : Int)] w fun e w' => e = .returned (.bool (digit c)) ∧ w = w' := by
  have hb := c.toNat_lt
  have hl : digit c = (decide (48 ≤ (c.toNat : Int)) && decide ((c.toNat : Int) ≤ 57)) := by unfold digit; congr 1 <;> (rw [decide_eq_decide]; omega)
  rw [hl]; clear hl
  by_cases h1 : (48 : Int) ≤ (c.toNat : Int)
  all_goals
    go_enter Tryd.func88, Tryd.ntmps88
    go_wp2
    go_ret
    exact ⟨ret_bool (by simp <;> omega), rfl⟩

theorem rspace_any (c : UInt8) (w : World) : Calls Tryd.prog 89 #[.int .u8 (c.toNat : Int)] w fun e w' => e = .returned (.bool (space c)) ∧ w = w' := by
  have hl : space c = ((c.toNat : Int) == 32 || ((c.toNat : Int) == 9 || ((c.toNat : Int) == 10 || (c.toNat : Int) == 13))) := by
    unfold space
    rw [u8_beq, u8_beq, u8_beq, u8_beq, Bool.or_assoc, Bool.or_assoc]
    congr 2
    rw [Bool.or_comm]; rfl
  rw [hl]; clear hl
  have hb := c.toNat_lt
  cases h1 : ((c.toNat : Int) == 32)
  · cases h2 : ((c.toNat : Int) == 9)
    · cases h3 : ((c.toNat : Int) == 10)
      all_goals
        go_enter Tryd.func89, Tryd.ntmps89
        go_wp2
        go_ret
        exact ⟨ret_bool (by simp <;> omega), rfl⟩
    · go_enter Tryd.func89, Tryd.ntmps89
      go_wp2
      go_ret
      exact ⟨ret_bool (by simp), rfl⟩
  · go_enter Tryd.func89, Tryd.ntmps89
    go_wp2
    go_ret
    exact ⟨ret_bool (by simp), rfl⟩

/-- A slice value whose cells are the texts l. -/
def StrsAt (w : World) (v : Value) (l : List Str) : Prop :=
  (l = [] ∧ ∃ A c, v = .slice A 0 c) ∨ ∃ b off c, v = .slice (some ⟨b, off, none⟩) l.length c ∧ ∀ k, k < l.length → w.cell? ⟨b, off + k, none⟩ = some (.string (bs (l.getD k [])))
theorem StrsAt.keep {w w1 : World} {v : Value} {l : List Str} (h : StrsAt w v l) (hb : Below w.heap.size w w1) : StrsAt w1 v l := by
  rcases h with ⟨h0, A, c, hv⟩ | ⟨b, off, c, hv, hc⟩
  · exact .inl ⟨h0, A, c, hv⟩
  · exact .inr ⟨b, off, c, hv, fun k hk => cell_keep hb (hc k hk)⟩

theorem signs_call (w : World) : Calls Tryd.prog 90 #[] w fun e w' => ∃ v, e = .returned v ∧ StrsAt w' v signs ∧ Below w.heap.size w w' := by
  have HF := Lib.hid (show ∃ v, Ending.returned (.slice (some ⟨w.heap.size, 0, none⟩) 28 28) = .returned v ∧ StrsAt (w.alloc (.cells #[Value.string ⟨#[60, 60]⟩, Value.string ⟨#[62, 62]⟩, Value.string ⟨#[60, 61]⟩, Value.string ⟨#[62, 61]⟩, Value.string ⟨#[61, 61]⟩, Value.string ⟨#[33, 61]⟩, Value.string ⟨#[38, 38]⟩, Value.string ⟨#[124, 124]⟩, Value.string ⟨#[43]⟩, Value.string ⟨#[45]⟩, Value.string ⟨#[42]⟩, Value.string ⟨#[47]⟩, Value.string ⟨#[37]⟩, Value.string ⟨#[38]⟩, Value.string ⟨#[124]⟩, Value.string ⟨#[94]⟩, Value.string ⟨#[60]⟩, Value.string ⟨#[62]⟩, Value.string ⟨#[33]⟩, Value.string ⟨#[61]⟩, Value.string ⟨#[91]⟩, Value.string ⟨#[93]⟩, Value.string ⟨#[123]⟩, Value.string ⟨#[125]⟩, Value.string ⟨#[40]⟩, Value.string ⟨#[41]⟩, Value.string ⟨#[59]⟩, Value.string ⟨#[44]⟩] 9)) v signs ∧ Below w.heap.size w (w.alloc (.cells #[Value.string ⟨#[60, 60]⟩, Value.string ⟨#[62, 62]⟩, Value.string ⟨#[60, 61]⟩, Value.string ⟨#[62, 61]⟩, Value.string ⟨#[61, 61]⟩, Value.string ⟨#[33, 61]⟩, Value.string ⟨#[38, 38]⟩, Value.string ⟨#[124, 124]⟩, Value.string ⟨#[43]⟩, Value.string ⟨#[45]⟩, Value.string ⟨#[42]⟩, Value.string ⟨#[47]⟩, Value.string ⟨#[37]⟩, Value.string ⟨#[38]⟩, Value.string ⟨#[124]⟩, Value.string ⟨#[94]⟩, Value.string ⟨#[60]⟩, Value.string ⟨#[62]⟩, Value.string ⟨#[33]⟩, Value.string ⟨#[61]⟩, Value.string ⟨#[91]⟩, Value.string ⟨#[93]⟩, Value.string ⟨#[123]⟩, Value.string ⟨#[125]⟩, Value.string ⟨#[40]⟩, Value.string ⟨#[41]⟩, Value.string ⟨#[59]⟩, Value.string ⟨#[44]⟩] 9)) from
    ⟨_, rfl, .inr ⟨w.heap.size, 0, 28, rfl, fun k hk => by
      rw [World.cell?_alloc_at _ _ _ _ rfl]
      have e : #[Value.string ⟨#[60, 60]⟩, Value.string ⟨#[62, 62]⟩, Value.string ⟨#[60, 61]⟩, Value.string ⟨#[62, 61]⟩, Value.string ⟨#[61, 61]⟩, Value.string ⟨#[33, 61]⟩, Value.string ⟨#[38, 38]⟩, Value.string ⟨#[124, 124]⟩, Value.string ⟨#[43]⟩, Value.string ⟨#[45]⟩, Value.string ⟨#[42]⟩, Value.string ⟨#[47]⟩, Value.string ⟨#[37]⟩, Value.string ⟨#[38]⟩, Value.string ⟨#[124]⟩, Value.string ⟨#[94]⟩, Value.string ⟨#[60]⟩, Value.string ⟨#[62]⟩, Value.string ⟨#[33]⟩, Value.string ⟨#[61]⟩, Value.string ⟨#[91]⟩, Value.string ⟨#[93]⟩, Value.string ⟨#[123]⟩, Value.string ⟨#[125]⟩, Value.string ⟨#[40]⟩, Value.string ⟨#[41]⟩, Value.string ⟨#[59]⟩, Value.string ⟨#[44]⟩] = strVals signs := rfl
      rw [Nat.zero_add, e]
      exact strVals_at signs k hk⟩, (Below.refl _ _).alloc (Nat.le_refl _) _⟩)
  go_enter Tryd.func90, Tryd.ntmps90
  go_wp2
  go_ret
  exact HF.out

theorem keywords_call (w : World) : Calls Tryd.prog 26 #[] w fun e w' => ∃ v, e = .returned v ∧ StrsAt w' v keywords ∧ Below w.heap.size w w' := by
  have HF := Lib.hid (show ∃ v, Ending.returned (.slice (some ⟨w.heap.size, 0, none⟩) 13 13) = .returned v ∧ StrsAt (w.alloc (.cells #[Value.string ⟨#[97, 114, 114, 97, 121]⟩, Value.string ⟨#[98, 111, 117, 110, 100]⟩, Value.string ⟨#[101, 108, 115, 101]⟩, Value.string ⟨#[102, 111, 114]⟩, Value.string ⟨#[105, 102]⟩, Value.string ⟨#[105, 110]⟩, Value.string ⟨#[108, 111, 99, 107]⟩, Value.string ⟨#[111, 117, 116]⟩, Value.string ⟨#[112, 101, 114, 105, 111, 100]⟩, Value.string ⟨#[115, 104, 97, 114, 101, 100]⟩, Value.string ⟨#[116, 97, 115, 107]⟩, Value.string ⟨#[118, 97, 114]⟩, Value.string ⟨#[119, 104, 105, 108, 101]⟩] 9)) v keywords ∧ Below w.heap.size w (w.alloc (.cells #[Value.string ⟨#[97, 114, 114, 97, 121]⟩, Value.string ⟨#[98, 111, 117, 110, 100]⟩, Value.string ⟨#[101, 108, 115, 101]⟩, Value.string ⟨#[102, 111, 114]⟩, Value.string ⟨#[105, 102]⟩, Value.string ⟨#[105, 110]⟩, Value.string ⟨#[108, 111, 99, 107]⟩, Value.string ⟨#[111, 117, 116]⟩, Value.string ⟨#[112, 101, 114, 105, 111, 100]⟩, Value.string ⟨#[115, 104, 97, 114, 101, 100]⟩, Value.string ⟨#[116, 97, 115, 107]⟩, Value.string ⟨#[118, 97, 114]⟩, Value.string ⟨#[119, 104, 105, 108, 101]⟩] 9)) from
    ⟨_, rfl, .inr ⟨w.heap.size, 0, 13, rfl, fun k hk => by
      rw [World.cell?_alloc_at _ _ _ _ rfl]
      have e : #[Value.string ⟨#[97, 114, 114, 97, 121]⟩, Value.string ⟨#[98, 111, 117, 110, 100]⟩, Value.string ⟨#[101, 108, 115, 101]⟩, Value.string ⟨#[102, 111, 114]⟩, Value.string ⟨#[105, 102]⟩, Value.string ⟨#[105, 110]⟩, Value.string ⟨#[108, 111, 99, 107]⟩, Value.string ⟨#[111, 117, 116]⟩, Value.string ⟨#[112, 101, 114, 105, 111, 100]⟩, Value.string ⟨#[115, 104, 97, 114, 101, 100]⟩, Value.string ⟨#[116, 97, 115, 107]⟩, Value.string ⟨#[118, 97, 114]⟩, Value.string ⟨#[119, 104, 105, 108, 101]⟩] = strVals keywords := rfl
      rw [Nat.zero_add, e]
      exact strVals_at keywords k hk⟩, (Below.refl _ _).alloc (Nat.le_refl _) _⟩)
  go_enter Tryd.func26, Tryd.ntmps26
  go_wp2
  go_ret
  exact HF.out

theorem str_beq (a b : Str) : ((bs a).toList == (bs b).toList) = (a == b) := by
  rw [Lib.toList_data, Lib.toList_data, bs_list, bs_list]

theorem contains_step {l : List Str} {x : Str} {k : Nat} (hk : k < l.length) (h : (l.take k).contains x = false) (hx : (l.getD k [] == x) = false) : (l.take (k + 1)).contains x = false := by
  rw [List.take_succ_eq_append_getElem hk, List.contains_eq_mem] 
  rw [List.contains_eq_mem] at h
  simp only [decide_eq_false_iff_not, List.mem_append, List.mem_singleton, not_or] at h ⊢
  refine ⟨h, fun e => ?_⟩
  rw [List.getD_eq_getElem?_getD, List.getElem?_eq_getElem hk, Option.getD_some, ← e] at hx
  simp at hx
theorem contains_found {l : List Str} {x : Str} {k : Nat} (hk : k < l.length) (hx : (l.getD k [] == x) = true) : l.contains x = true := by
  rw [List.getD_eq_getElem?_getD, List.getElem?_eq_getElem hk, Option.getD_some, beq_iff_eq] at hx
  rw [List.contains_eq_mem, ← hx]
  simp

set_option maxHeartbeats 400000 in
theorem in_any (v : Value) (l : List Str) (x : Str) (hl : l.length ≤ 4000000000000) (w : World) (h : StrsAt w v l) :
    Calls Tryd.prog 25 #[v, .string (bs x)] w fun e w' => e = .returned (.bool (l.contains x)) ∧ w = w' := by
  rcases h with ⟨rfl, A, c, rfl⟩ | ⟨b, off, c, rfl, hc⟩
  · go_enter Tryd.func25, Tryd.ntmps25
    go_wp2_with fail
    refine wp_loop_rounds 1 ?_
    rw [rounds_succ]
    go_wp2_with fail
    go_ret
    exact ⟨rfl, rfl⟩
  · go_enter Tryd.func25, Tryd.ntmps25
    go_wp2_with fail
    go_loop [5] (fun i => ∃ k : Nat, k ≤ l.length ∧ i = .int .i64 k ∧ Hid ((l.take k).contains x = false)) (fun i => l.length - (intOf i).toNat)
    case atStart => exact ⟨0, Nat.zero_le _, rfl, rfl⟩
    case round =>
      obtain ⟨k, hk, rfl, hh⟩ := hrel
      by_cases hlt : k < l.length
      · have hcell := hc k hlt
        clear hc
        cases hq : ((l.getD k []) == x)
        · have HN := Lib.hid (contains_step hlt hh.out hq)
          have hq' : ((bs (l.getD k [])).toList == (bs x).toList) = false := by rw [str_beq]; exact hq
          obtain ⟨y, hy⟩ : ∃ y, y = l.getD k [] := ⟨_, rfl⟩
          rw [← hy] at hcell hq'
          clear hy hq
          go_wp2_with fail
          go_round
          case rel => exact ⟨k + 1, by omega, by go_num, HN⟩
          case measure => simp [intOf]; omega
        · have HN := Lib.hid (contains_found hlt hq)
          have hq' : ((bs (l.getD k [])).toList == (bs x).toList) = true := by rw [str_beq]; exact hq
          obtain ⟨y, hy⟩ : ∃ y, y = l.getD k [] := ⟨_, rfl⟩
          rw [← hy] at hcell hq'
          clear hy hq
          go_wp2_with fail
          go_ret
          exact ⟨ret_bool (by have h := HN.out; rw [List.contains_eq_mem] at h; exact h.symm), rfl⟩
      · have e1 : k = l.length := by omega
        have HN := Lib.hid (show l.contains x = false by have := hh.out; rw [e1, List.take_length] at this; exact this)
        clear hc e1
        go_wp2_with fail
        go_ret
        exact ⟨ret_bool (by have h := HN.out; rw [List.contains_eq_mem] at h; exact h.symm), rfl⟩

end Go.Proofs.YtidfhfcplcfcmaaDoor
