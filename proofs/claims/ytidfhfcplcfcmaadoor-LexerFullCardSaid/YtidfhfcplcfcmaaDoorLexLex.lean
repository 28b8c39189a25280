/- Walks: Lex, Solid. -/
import Derived.Test.YtidfhfcplcfcmaaDoorLexToken
import Derived.Test.YtidfhfcplcfcmaaDoorLexText
import Derived.Test.YtidfhfcplcfcmaaDoorMem
namespace Go.Proofs.YtidfhfcplcfcmaaDoor
open Go.RowKit OT

def tokCells (t : Tok) : List Value := [.int .u8 (t.kind : Int), .string (bs t.text), .int .i64 (t.pos : Int)]
def toksCells (l : List Tok) : List Value := (l.map tokCells).flatten
theorem toksCells_append (a b : List Tok) : toksCells (a ++ b) = toksCells a ++ toksCells b := by simp [toksCells]
theorem toksCells_length (l : List Tok) : (toksCells l).length = l.length * 3 := by
  induction l with
  | nil => rfl
  | cons t r ih => simp only [toksCells, List.map_cons, List.flatten_cons, List.length_append, List.length_cons] at ih ⊢; rw [ih]; simp [tokCells]; omega

theorem Tryd.infoTok : (Tryd.prog.info? 33).map (fun i => (i.zero, i.size, i.bytes)) = some (some (.agg #[.int .u8 0, .string ⟨#[]⟩, .int .i64 0]), 3, 32) := by kernel_rfl

theorem bs_drop (s : ByteArray) (k : Nat) : (s.extract k s.size).data.toList = s.data.toList.drop k := by
  rw [Lib.extract_data]
  simp [List.take_of_length_le]
theorem bs_take (s : ByteArray) (a n : Nat) : s.extract a (a + n) = bs ((s.data.toList.drop a).take n) := by
  rw [← bs_of (s.extract a (a + n)), Lib.extract_data]
  congr 1
  simp

/-- what the tokens so far and those to come make -/
def consE (ts : List Tok) : Except Nat (List Tok) → Except Nat (List Tok)
  | .error p => .error p
  | .ok us => .ok (ts ++ us)
theorem consE_step (ts : List Tok) (t : Tok) (r : Except Nat (List Tok)) : consE ts (match r with | .error p => .error p | .ok us => .ok (t :: us)) = consE (ts ++ [t]) r := by
  cases r <;> simp [consE]

/-- Lex's result: a slice of the call's own that holds the tokens. -/
def LexPost (s : Str) (w : World) (e : Ending) (w' : World) : Prop :=
  ∃ v, e = .returned (.tuple #[v, .int .i64 ((lex s).2.1 : Int), .int .i64 ((lex s).2.2 : Int)]) ∧ w'.ownsRow w.heap.size 33 3 v (lex s).1.length (toksCells (lex s).1) ∧ Below w.heap.size w w'

theorem lexPost_err {s : Str} {w w' : World} {p e : Nat} (h : lex s = ([], p, e)) (hb : Below w.heap.size w w') : LexPost s w (.returned (.tuple #[.slice none 0 0, .int .i64 (p : Int), .int .i64 (e : Int)])) w' := by
  refine ⟨.slice none 0 0, by rw [h], ?_, hb⟩
  rw [h]
  exact World.ownsRow_nil _ _ _ _

theorem token_at (s : ByteArray) (hs : s.size ≤ 140737488351232) (k : Nat) (hk : k < s.size) (kd n : Nat) (h : token (s.data.toList.drop k) = (kd, n)) (w : World) (hT : SpaceTab w) :
    Calls Tryd.prog 45 #[.string (s.extract k s.size)] w fun e w' => e = .returned (.tuple #[.int .u8 (kd : Int), .int .i64 (n : Int)]) ∧ Below w.heap.size w w' := by
  have hsz : (s.extract k s.size).size = s.size - k := by rw [ByteArray.size_extract]; omega
  refine (token_any (s.extract k s.size) (by omega) (by omega) w hT).mono ?_
  rintro e w' ⟨rfl, hb⟩
  rw [bs_drop, h]
  exact ⟨rfl, hb⟩

theorem tok_oneCell (t : Tok) : ∀ y ∈ tokCells t, y.oneCell' = true := by
  intro y hy
  simp only [tokCells, List.mem_cons, List.not_mem_nil, or_false] at hy
  rcases hy with rfl | rfl | rfl <;> rfl

theorem own_tok {w3 : World} {base : Nat} {T : TypeId} {v1 : Value} {ts : List Tok} {s : ByteArray} {k n kd : Nat}
    (h : w3.ownsRow base T 3 v1 (ts.length + 1) (toksCells ts ++ #[Value.int .u8 (kd : Int), .string (s.extract k (k + n)), .int .i64 (k : Int)].toList)) :
    w3.ownsRow base T 3 v1 (ts ++ [(⟨kd, (s.data.toList.drop k).take n, k⟩ : Tok)]).length (toksCells (ts ++ [(⟨kd, (s.data.toList.drop k).take n, k⟩ : Tok)])) := by
  rw [bs_take] at h
  rw [toksCells_append]
  simpa [toksCells, tokCells] using h
theorem lexPost_ok {s : Str} {w w' : World} {ts : List Tok} {v : Value} (h : lex s = (ts, 0, 0)) (ho : w'.ownsRow w.heap.size 33 3 v ts.length (toksCells ts)) (hb : Below w.heap.size w w') :
    LexPost s w (.returned (.tuple #[v, .int .i64 0, .int .i64 0])) w' := by
  refine ⟨v, by rw [h]; rfl, ?_, hb⟩
  rw [h]; exact ho

set_option maxHeartbeats 1000000 in
theorem lex_any (s : ByteArray) (hs : s.size ≤ 140737488351232) (w : World) (hT : SpaceTab w) :
    Calls Tryd.prog 18 #[.string s] w (LexPost s.data.toList w) := by
  have hlen : s.data.toList.length = s.size := by simp
  by_cases hfull : 65536 < s.size
  · have HE := Lib.hid (lexPost_err (w := w) (w' := w) (lex_full (s := s.data.toList) (by omega)) (Below.refl _ _))
    clear hlen
    go_enter Tryd.func18, Tryd.ntmps18
    go_wp2_with fail
    go_ret3
    exact HE.out
  · have hle : s.size ≤ 65536 := by omega
    have HL := Lib.hid (lex_eq (s := s.data.toList) (by omega))
    have HLen := Lib.hid hlen
    clear hlen hfull
    have HT := Lib.hid hT; clear hT
    go_enter Tryd.func18, Tryd.ntmps18
    go_wp2_with fail
    go_loopw [5, 6] (fun v i wr => ∃ (k : Nat) (ts : List Tok), k ≤ s.size ∧ ts.length ≤ k ∧ i = .int .i64 k ∧ wr.ownsRow w.heap.size 33 3 v ts.length (toksCells ts) ∧ Below w.heap.size w wr ∧ Hid (lexP 0 s.data.toList = consE ts (lexP k (s.data.toList.drop k))))
      (fun _ i _ => s.size - (intOf i).toNat)
    case atStart => exact ⟨0, [], Nat.zero_le _, Nat.zero_le _, rfl, World.ownsRow_nil _ _ _ _, Below.refl _ _, by show lexP 0 _ = _; cases h : lexP 0 s.data.toList <;> simp [consE, h]⟩
    case round =>
      obtain ⟨k, ts, hk, htk, rfl, hown, hB, hL⟩ := hrel
      by_cases hlt : k < s.size
      · obtain ⟨⟨kd, n⟩, hkn⟩ : ∃ p, p = token (s.data.toList.drop k) := ⟨_, rfl⟩
        have hne : s.data.toList.drop k ≠ [] := by intro e; have := congrArg List.length e; simp at this; omega
        have hn : n ≤ s.size - k := by have := token_le (s.data.toList.drop k); rw [← hkn] at this; simpa using this
        by_cases hk0 : kd = 0
        · subst hk0
          have HE := Lib.hid (fun (w' : World) (hb : Below w.heap.size w w') => lexPost_err (s := s.data.toList) (w := w) (w' := w') (p := k) (e := 3) (by
            rw [HL.out, hL.out, lexP_none k hne (by rw [← hkn])]; rfl) hb)
          have HB := Lib.hid hB
          have HKN := Lib.hid hkn; clear hkn hne hown
          go_wp2_with (first | (go_at_call 45; refine (token_at s hs k hlt 0 n HKN.out.symm _ (HT.out.keep hB)).mono ?_; rintro e w2 ⟨rfl, hb2⟩; have HB2 := Lib.hid (hB.trans (hb2.mono hB.size)); clear hb2 hB))
          go_ret3
          exact HE.out _ HB2.out
        · have hkd : ((kd : Int) == 0) = false := by simpa using hk0
          have hstep : lexP 0 s.data.toList = consE (ts ++ [⟨kd, (s.data.toList.drop k).take n, k⟩]) (lexP (k + n) (s.data.toList.drop (k + n))) := by
            rw [hL.out, lexP_some k (by rw [← hkn]; exact hk0), ← hkn, List.drop_drop]
            exact consE_step ts ⟨kd, (s.data.toList.drop k).take n, k⟩ _
          have HS := Lib.hid hstep; clear hstep
          have hpos : 0 < n := by have := token_pos (l := s.data.toList.drop k) (by rw [← hkn]; exact hk0); rw [← hkn] at this; exact this
          have HKN := Lib.hid hkn; clear hkn hne
          go_wp2_with (first
            | (go_at_call 45; refine (token_at s hs k hlt kd n HKN.out.symm _ (HT.out.keep hB)).mono ?_; rintro e w2 ⟨rfl, hb2⟩; have ho2 := own_keep hown hb2; have hB2 := hB.trans (hb2.mono hB.size); clear hb2)
            | (at_builtin; refine append_cells (w0 := w) w.heap.size rfl (.tmp 26) (.tmp 36) 23 33 _ 3 32 rfl Tryd.underlying23 Tryd.infoTok rfl (by decide) (by decide) _ ts.length (toksCells ts) _ rfl rfl rfl (by first | rfl | simp) (by simp [Value.oneCell']) ho2 hB2 hB2.size (by omega) ?_; intro v1 w3 ho3 hB3 _ _))
          go_roundw
          case rel => exact ⟨k + n, ts ++ [⟨kd, (s.data.toList.drop k).take n, k⟩], by omega, by simp; omega, by go_num, own_tok ho3, hB3, HS⟩
          case measure => simp [intOf]; omega
      · have e1 : k = s.size := by omega
        subst e1
        have hfin : lex s.data.toList = (ts, 0, 0) := by
          rw [HL.out, hL.out, show List.drop s.size s.data.toList = [] from List.drop_of_length_le (by rw [HLen.out]; exact Nat.le_refl _), lexP_nil]
          simp [consE]
        have HF := Lib.hid (lexPost_ok hfin hown hB)
        clear hfin hown hB
        go_wp2_with fail
        go_ret3
        exact HF.out

end Go.Proofs.YtidfhfcplcfcmaaDoor
