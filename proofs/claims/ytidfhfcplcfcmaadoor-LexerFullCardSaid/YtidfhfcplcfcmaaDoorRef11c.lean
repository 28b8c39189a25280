/- Walks: the reference's Lex: the longest prefix that is a token. -/
import Derived.Test.YtidfhfcplcfcmaaDoorRef11b
import Derived.Deep.RegionHeld3
import Derived.Deep.DrawnRows
namespace Go.Proofs.YtidfhfcplcfcmaaDoor
open Go.RowKit OT
attribute [local go_sem ↓] Go.wp_at_zero Go.wp_at_succ

theorem Tryd.infoRTok : (Tryd.prog.info? 75).map (fun i => (i.zero, i.size, i.bytes)) = some (some (.agg #[.int .u8 0, .string ⟨#[]⟩, .int .i64 0]), 3, 32) := by kernel_rfl

theorem bs_cut (s : ByteArray) (a b : Nat) : (s.extract a b).data.toList = (s.data.toList.drop a).take (b - a) := by
  rw [Lib.extract_data]

theorem kind_at (s : ByteArray) (hs : s.size ≤ 140737488351232) (k e : Nat) (q : Nat) (he : e ≤ s.size) (h : kindR ((s.data.toList.drop k).take (e - k)) = q) (w : World) :
    Calls Tryd.prog 46 #[.string (s.extract k e)] w fun en w' => en = .returned (.int .u8 (q : Int)) ∧ Below w.heap.size w w' := by
  have hsz : (s.extract k e).size ≤ s.size := by rw [ByteArray.size_extract]; omega
  refine (kind_any (s.extract k e) (by omega) w).mono ?_
  rintro en w' ⟨rfl, hb⟩
  rw [bs_cut, h]
  exact ⟨rfl, hb⟩

theorem tok3_one (a : Int) (b : ByteArray) (c : Int) : ∀ y ∈ (#[Value.int .u8 a, .string b, .int .i64 c] : Array Value).toList, y.oneCell' = true := by simp [Value.oneCell']
theorem three_pos : 0 < 3 := by decide
theorem bytes_pos : 0 < 32 := by decide
/-- The reference's result: as Lex's. -/
def RLexPost (s : Str) (w : World) (e : Ending) (w' : World) : Prop :=
  ∃ v, e = .returned (.tuple #[v, .int .i64 ((lex s).2.1 : Int), .int .i64 ((lex s).2.2 : Int)]) ∧ w'.ownsRow w.heap.size 75 3 v (lex s).1.length (toksCells (lex s).1) ∧ Below w.heap.size w w'
theorem rlexPost_err {s : Str} {w w' : World} {p e : Nat} (h : lex s = ([], p, e)) (hb : Below w.heap.size w w') : RLexPost s w (.returned (.tuple #[.slice none 0 0, .int .i64 (p : Int), .int .i64 (e : Int)])) w' := by
  refine ⟨.slice none 0 0, by rw [h], ?_, hb⟩
  rw [h]
  exact World.ownsRow_nil _ _ _ _
theorem rlexPost_ok {s : Str} {w w' : World} {ts : List Tok} {v : Value} (h : lex s = (ts, 0, 0)) (ho : w'.ownsRow w.heap.size 75 3 v ts.length (toksCells ts)) (hb : Below w.heap.size w w') :
    RLexPost s w (.returned (.tuple #[v, .int .i64 0, .int .i64 0])) w' := by
  refine ⟨v, by rw [h]; rfl, ?_, hb⟩
  rw [h]; exact ho

set_option maxRecDepth 100000 in
set_option maxHeartbeats 4000000 in
theorem rlex_any (s : ByteArray) (hs : s.size ≤ 140737488351232) (w : World) :
    Calls Tryd.prog 19 #[.string s] w (RLexPost s.data.toList w) := by
  have hlen : s.data.toList.length = s.size := by simp
  by_cases hfull : 65536 < s.size
  · have HE := Lib.hid (rlexPost_err (w := w) (w' := w) (lex_full (s := s.data.toList) (by omega)) (Below.refl _ _))
    clear hlen
    go_enter Tryd.func19, Tryd.ntmps19
    go_wp2_with fail
    go_ret3
    exact HE.out
  · have hle : s.size ≤ 65536 := by omega
    have HL := Lib.hid (lex_eq (s := s.data.toList) (by omega))
    have HLen := Lib.hid hlen
    clear hlen hfull
    go_enter Tryd.func19, Tryd.ntmps19
    go_wp2_with fail
    go_loopw [5, 6] (fun v i wr => ∃ (k : Nat) (ts : List Tok), k ≤ s.size ∧ ts.length ≤ k ∧ i = .int .i64 k ∧ wr.ownsRow w.heap.size 75 3 v ts.length (toksCells ts) ∧ Below w.heap.size w wr ∧ Hid (lexP 0 s.data.toList = consE ts (lexP k (s.data.toList.drop k))))
      (fun _ i _ => s.size - (intOf i).toNat)
    case atStart => exact ⟨0, [], Nat.zero_le _, Nat.zero_le _, rfl, World.ownsRow_nil _ _ _ _, Below.refl _ _, by show lexP 0 _ = _; cases h : lexP 0 s.data.toList <;> simp [consE, h]⟩
    case round =>
      obtain ⟨k, ts, hk, htk, rfl, hown, hB, hL⟩ := hrel
      by_cases hlt : k < s.size
      · obtain ⟨⟨kd, n⟩, hkn⟩ : ∃ p, p = token (s.data.toList.drop k) := ⟨_, rfl⟩
        have hne : s.data.toList.drop k ≠ [] := by intro e; have := congrArg List.length e; simp at this; omega
        have hdl : (s.data.toList.drop k).length = s.size - k := by simp
        have hn : n ≤ s.size - k := by have := token_le (s.data.toList.drop k); rw [← hkn] at this; simpa using this
        have hlong : ∀ m, n < m → m ≤ s.size - k → kindR ((s.data.toList.drop k).take m) = 0 := by
          intro m h1 h2
          exact kindR_longer m (by rw [← hkn]; exact h1) (by omega)
        have hat : kd ≠ 0 → kindR ((s.data.toList.drop k).take n) = kd := by
          intro h
          have := kindR_token (l := s.data.toList.drop k) (by rw [← hkn]; exact h)
          rw [← hkn] at this; exact this
        have hnil : kd = 0 → n = 0 := by
          intro h
          match hd : s.data.toList.drop k, hne with
          | c :: r, _ =>
            rw [hd] at hkn
            rcases token_cases c r with ⟨_, h'⟩ | ⟨_, _, h'⟩ | ⟨_, _, _, h'⟩ | ⟨_, _, _, _, h'⟩ | ⟨_, _, _, _, _, h'⟩ | ⟨_, _, _, _, _, h'⟩ <;> rw [h'] at hkn <;> simp only [Prod.mk.injEq] at hkn <;> omega
        have hpos : kd ≠ 0 → 0 < n := by
          intro h
          have := token_pos (l := s.data.toList.drop k) (by rw [← hkn]; exact h)
          rw [← hkn] at this; exact this
        have HN := Lib.hid hne; have HD := Lib.hid hdl; have HLO := Lib.hid hlong; have HAT := Lib.hid hat; have HNI := Lib.hid hnil; have HPO := Lib.hid hpos; have HKN := Lib.hid hkn
        clear hne hdl hlong hat hnil hpos hkn
        obtain ⟨wo, rfl⟩ : ∃ wo : World, wo = wr := ⟨_, rfl⟩
        go_wp2_with fail
        go_loopw [7] (fun x wr => ∃ e : Nat, k + n ≤ e ∧ e ≤ s.size ∧ x = .int .i64 e ∧ Below wo.heap.size wo wr) (fun x _ => (intOf x).toNat)
        case atStart => exact ⟨s.size, by omega, Nat.le_refl _, rfl, Below.refl _ _⟩
        case round =>
          obtain ⟨e, he1, he2, rfl, hBi⟩ := hrel
          by_cases hgt : k + n < e
          · have hq := HLO.out (e - k) (by omega) (by omega)
            have HQ := Lib.hid hq; clear hq
            go_wp2_with (first | (go_at_call 46; refine (kind_at s hs k e 0 he2 HQ.out _).mono ?_; rintro en w2 ⟨rfl, hb2⟩; have hB2 := hBi.trans (hb2.mono hBi.size); clear hb2))
            go_roundw
            case rel => exact ⟨e - 1, by omega, by omega, by go_num, hB2⟩
            case measure => simp [intOf]; omega
          · have e1 : e = k + n := by omega
            subst e1
            by_cases hk0 : kd = 0
            · have hn0 := HNI.out hk0
              subst hn0
              subst hk0
              have HE := Lib.hid (fun (w' : World) (hb : Below w.heap.size w w') => rlexPost_err (s := s.data.toList) (w := w) (w' := w') (p := k) (e := 3) (by
                rw [HL.out, hL.out, lexP_none k HN.out (by rw [← HKN.out])]; rfl) hb)
              have HBB := Lib.hid (hB.trans (hBi.mono hB.size))
              clear hown hB hBi
              go_wp2_with fail
              go_ret3
              exact HE.out _ HBB.out
            · have hq := HAT.out hk0
              have hp := HPO.out hk0
              have hstep : lexP 0 s.data.toList = consE (ts ++ [⟨kd, (s.data.toList.drop k).take n, k⟩]) (lexP (k + n) (s.data.toList.drop (k + n))) := by
                rw [hL.out, lexP_some k (by rw [← HKN.out]; exact hk0), ← HKN.out, List.drop_drop]
                exact consE_step ts ⟨kd, (s.data.toList.drop k).take n, k⟩ _
              have HS := Lib.hid hstep; clear hstep
              have HQ := Lib.hid (show kindR ((s.data.toList.drop k).take (k + n - k)) = kd by rw [Nat.add_sub_cancel_left]; exact hq)
              clear hq
              have hL1 : (ts.length + 1) * 32 ≤ 140737488355328 := by omega
              have hkd : ((kd : Int) == 0) = false := by simpa using hk0
              have b1 : (0 : Int) ≤ (k : Int) := Int.natCast_nonneg _
              have b2 : (k : Int) ≤ (k : Int) + (n : Int) := by omega
              have b3 : (k : Int) + (n : Int) ≤ (s.size : Int) := by omega
              have ho1 := own_keep hown hBi
              have hB1 := hB.trans (hBi.mono hB.size)
              clear hown hB hBi
              go_wp2_with (first | (go_at_call 46; refine (kind_at s hs k (k + n) kd he2 HQ.out _).mono ?_; rintro en w2 ⟨rfl, hb2⟩; have ho2 := own_keep ho1 hb2; have hB2 := hB1.trans (hb2.mono hB1.size); clear hb2 ho1 hB1))
              go_region_held3 (fun _ => True) (trivial)
                (first
                  | (go_at_call 46; refine (kind_at s hs k (k + n) kd he2 HQ.out _).mono ?_; rintro en w3 ⟨rfl, hb3⟩; have ho3 := own_keep ho2.drew hb3; have hB3 := hB2.drew.trans (hb3.mono hB2.size))
                  | (refine step_append_cells (w0 := w) w.heap.size ?a1 (.tmp 34) (.tmp 46) 27 75 _ 3 32 ?a2 Tryd.underlying27 Tryd.infoRTok rfl three_pos bytes_pos _ ts.length (toksCells ts) _ ?a3 ?a4 ?a5 rfl (tok3_one _ _ _) ho3 hB3 hB3.size hL1 ?_; (case a1 => rfl); (case a2 => rfl); (case a3 => rfl); (case a4 => rfl); (case a5 => rfl); intro gg cap w4 ho4 hB4 _ _))
              go_wp2_with fail
              go_roundw
              case rel => exact ⟨k + n, ts ++ [⟨kd, (s.data.toList.drop k).take n, k⟩], by omega, by simp; omega, by go_num, own_tok ho4, hB4, HS⟩
              case measure => simp [intOf]; omega
      · have e1 : k = s.size := by omega
        subst e1
        have hfin : lex s.data.toList = (ts, 0, 0) := by
          rw [HL.out, hL.out, show List.drop s.size s.data.toList = [] from List.drop_of_length_le (by rw [HLen.out]; exact Nat.le_refl _), lexP_nil]
          simp [consE]
        have HF := Lib.hid (rlexPost_ok hfin hown hB)
        clear hfin hown hB
        go_wp2_with fail
        go_ret3
        exact HF.out

end Go.Proofs.YtidfhfcplcfcmaaDoor
