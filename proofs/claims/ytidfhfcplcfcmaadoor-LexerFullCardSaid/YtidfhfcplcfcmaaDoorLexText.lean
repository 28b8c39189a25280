/- Plain laws on the tokens of a whole text: fuel, shifts, joins, suffixes, prefixes, lines, names. No program. -/
import Derived.Test.YtidfhfcplcfcmaaDoorLexLaws
namespace Go.Proofs.YtidfhfcplcfcmaaDoor.OT

theorem lexF_fuel : ∀ (f pos : Nat) (l : Str), l.length ≤ f → lexF f pos l = lexF l.length pos l
  | 0, pos, l, h => by
    have : l = [] := List.eq_nil_of_length_eq_zero (by omega)
    subst this; rfl
  | f + 1, pos, [], h => rfl
  | f + 1, pos, c :: r, h => by
    simp only [List.length_cons] at h ⊢
    by_cases hk : (token (c :: r)).1 = 0
    · simp only [lexF, if_pos hk]
    · have hp := token_pos hk
      have hl := token_le (c :: r)
      have hd : ((c :: r).drop (token (c :: r)).2).length ≤ r.length := by simp only [List.length_drop, List.length_cons]; omega
      simp only [lexF, if_neg hk]
      rw [lexF_fuel f _ _ (by omega), lexF_fuel r.length _ _ hd]

/-- the tokens of a text that begins at an offset -/
def lexP (pos : Nat) (l : Str) : Except Nat (List Tok) := lexF l.length pos l
theorem lexP_nil (pos : Nat) : lexP pos [] = .ok [] := rfl
theorem lexP_none {l : Str} (pos : Nat) (hl : l ≠ []) (h : (token l).1 = 0) : lexP pos l = .error pos := by
  match l, hl with
  | c :: r, _ => simp only [lexP, List.length_cons, lexF, if_pos h]
theorem lexP_some {l : Str} (pos : Nat) (h : (token l).1 ≠ 0) : lexP pos l = match lexP (pos + (token l).2) (l.drop (token l).2) with
      | .error p => .error p
      | .ok ts => .ok (⟨(token l).1, l.take (token l).2, pos⟩ :: ts) := by
  match l, h with
  | [], h => exact absurd rfl h
  | c :: r, h =>
    have hp := token_pos h
    have hl := token_le (c :: r)
    have hd : ((c :: r).drop (token (c :: r)).2).length ≤ r.length := by simp only [List.length_drop, List.length_cons]; omega
    simp only [lexP, List.length_cons, lexF, if_neg h]
    rw [lexF_fuel r.length _ _ hd]
    cases lexF ((c :: r).drop (token (c :: r)).2).length (pos + (token (c :: r)).2) ((c :: r).drop (token (c :: r)).2) <;> rfl

theorem drop_len {l : Str} (h : (token l).1 ≠ 0) : (l.drop (token l).2).length < l.length := by
  have := token_pos h
  have := token_le l
  simp only [List.length_drop]; omega

/-- induction along the tokens -/
theorem lex_induct {P : Str → Prop} (h0 : P []) (h1 : ∀ l, l ≠ [] → (token l).1 = 0 → P l) (h2 : ∀ l, l ≠ [] → (token l).1 ≠ 0 → P (l.drop (token l).2) → P l) : ∀ l, P l := by
  intro l
  have : ∀ n (l : Str), l.length ≤ n → P l := by
    intro n
    induction n with
    | zero => intro l hl; have : l = [] := List.eq_nil_of_length_eq_zero (by omega); subst this; exact h0
    | succ n ih =>
      intro l hl
      by_cases he : l = []
      · subst he; exact h0
      · by_cases hk : (token l).1 = 0
        · exact h1 l he hk
        · exact h2 l he hk (ih _ (by have := drop_len hk; omega))
  exact this l.length l (Nat.le_refl _)

def Tok.shift (d : Nat) (t : Tok) : Tok := { t with pos := t.pos + d }
def shiftR (d : Nat) : Except Nat (List Tok) → Except Nat (List Tok)
  | .error p => .error (p + d)
  | .ok ts => .ok (ts.map (Tok.shift d))

theorem lexP_shift (d : Nat) : ∀ (l : Str) (pos : Nat), lexP (pos + d) l = shiftR d (lexP pos l) := by
  intro l
  refine lex_induct (P := fun l => ∀ pos, lexP (pos + d) l = shiftR d (lexP pos l)) ?_ ?_ ?_ l
  · intro pos; rfl
  · intro l hl hk pos; rw [lexP_none _ hl hk, lexP_none _ hl hk]; rfl
  · intro l hl hk ih pos
    rw [lexP_some _ hk, lexP_some _ hk, show pos + d + (token l).2 = pos + (token l).2 + d from by omega, ih]
    cases lexP (pos + (token l).2) (l.drop (token l).2) <;> rfl
theorem lexP_zero (l : Str) (pos : Nat) : lexP pos l = shiftR pos (lexP 0 l) := by
  have := lexP_shift pos l 0
  rwa [Nat.zero_add] at this

/-- one starts where the one before ends; none is empty -/
def Consec : Nat → List Tok → Prop
  | _, [] => True
  | n, t :: r => t.pos = n ∧ t.text ≠ [] ∧ Consec (n + t.text.length) r

theorem lexP_ok {l : Str} : ∀ {pos : Nat} {ts : List Tok}, lexP pos l = .ok ts → joinT ts = l ∧ Consec pos ts ∧ ∀ t ∈ ts, 1 ≤ t.kind ∧ t.kind ≤ 5 ∧ token t.text = (t.kind, t.text.length) ∧ t.text.length ≤ l.length ∧ pos ≤ t.pos ∧ t.pos + t.text.length ≤ pos + l.length := by
  refine lex_induct (P := fun l => ∀ {pos : Nat} {ts : List Tok}, lexP pos l = .ok ts → joinT ts = l ∧ Consec pos ts ∧ ∀ t ∈ ts, 1 ≤ t.kind ∧ t.kind ≤ 5 ∧ token t.text = (t.kind, t.text.length) ∧ t.text.length ≤ l.length ∧ pos ≤ t.pos ∧ t.pos + t.text.length ≤ pos + l.length) ?_ ?_ ?_ l
  · intro pos ts h; cases h; exact ⟨rfl, trivial, fun t ht => by cases ht⟩
  · intro l hl hk pos ts h; rw [lexP_none _ hl hk] at h; cases h
  · intro l hl hk ih pos ts h
    rw [lexP_some _ hk] at h
    cases hr : lexP (pos + (token l).2) (l.drop (token l).2) with
    | error p => rw [hr] at h; cases h
    | ok us =>
      rw [hr] at h
      simp only [Except.ok.injEq] at h
      subst h
      obtain ⟨i1, i2, i3⟩ := ih hr
      have hp := token_pos hk
      have hle := token_le l
      have hlen : (l.take (token l).2).length = (token l).2 := by rw [List.length_take, Nat.min_eq_left hle]
      refine ⟨?_, ⟨rfl, ?_, ?_⟩, ?_⟩
      · simp only [joinT, List.map_cons, List.flatten_cons] at i1 ⊢
        rw [i1, List.take_append_drop]
      · intro e; have e' : l.take (token l).2 = [] := e; rw [e'] at hlen; simp at hlen; omega
      · simp only [hlen]; exact i2
      · intro t ht
        rcases List.mem_cons.1 ht with rfl | ht
        · simp only [hlen]
          exact ⟨by omega, token_kind_le l, by rw [token_take _ hk (Nat.le_refl _)], hle, Nat.le_refl _, by omega⟩
        · obtain ⟨j1, j2, j3, j4, j5, j6⟩ := i3 t ht
          simp only [List.length_drop] at j4 j6
          exact ⟨j1, j2, j3, by omega, by omega, by omega⟩

theorem lexP_error {l : Str} : ∀ {pos p : Nat}, lexP pos l = .error p → pos ≤ p ∧ p < pos + l.length := by
  refine lex_induct (P := fun l => ∀ {pos p : Nat}, lexP pos l = .error p → pos ≤ p ∧ p < pos + l.length) ?_ ?_ ?_ l
  · intro pos p h; cases h
  · intro l hl hk pos p h; rw [lexP_none _ hl hk] at h; cases h
    have := List.length_pos_iff.2 hl; omega
  · intro l hl hk ih pos p h
    rw [lexP_some _ hk] at h
    have hle := token_le l
    cases hr : lexP (pos + (token l).2) (l.drop (token l).2) with
    | error q =>
      rw [hr] at h; cases h
      have := ih hr
      simp only [List.length_drop] at this; omega
    | ok us => rw [hr] at h; cases h

/-- one token alone -/
theorem lexP_one {s : Str} {k : Nat} (hk : k ≠ 0) (h : token s = (k, s.length)) (pos : Nat) : lexP pos s = .ok [⟨k, s, pos⟩] := by
  have hk' : (token s).1 ≠ 0 := by rw [h]; exact hk
  rw [lexP_some _ hk', h]
  simp only [List.drop_length, lexP_nil, List.take_length]

/-- the suffix from a token on -/
theorem lexP_suffix {l : Str} : ∀ {pos : Nat} {ts : List Tok} (i : Nat) (hi : i < ts.length), lexP pos l = .ok ts →
    pos ≤ (ts[i]).pos ∧ (ts[i]).pos ≤ pos + l.length ∧ lexP (ts[i]).pos (l.drop ((ts[i]).pos - pos)) = .ok (ts.drop i) := by
  refine lex_induct (P := fun l => ∀ {pos : Nat} {ts : List Tok} (i : Nat) (hi : i < ts.length), lexP pos l = .ok ts →
    pos ≤ (ts[i]).pos ∧ (ts[i]).pos ≤ pos + l.length ∧ lexP (ts[i]).pos (l.drop ((ts[i]).pos - pos)) = .ok (ts.drop i)) ?_ ?_ ?_ l
  · intro pos ts i hi h; cases h; simp at hi
  · intro l hl hk pos ts i hi h; rw [lexP_none _ hl hk] at h; cases h
  · intro l hl hk ih pos ts i hi h
    have h' := h
    rw [lexP_some _ hk] at h
    have hle := token_le l
    cases hr : lexP (pos + (token l).2) (l.drop (token l).2) with
    | error q => rw [hr] at h; cases h
    | ok us =>
      rw [hr] at h
      simp only [Except.ok.injEq] at h
      subst h
      match i, hi with
      | 0, _ => simp only [List.getElem_cons_zero, List.drop_zero, Nat.sub_self]; exact ⟨Nat.le_refl _, by omega, h'⟩
      | i + 1, hi =>
        simp only [List.getElem_cons_succ, List.drop_succ_cons]
        have hi' : i < us.length := by simpa using hi
        obtain ⟨a1, a2, a3⟩ := ih i hi' hr
        simp only [List.length_drop] at a2
        refine ⟨by omega, by omega, ?_⟩
        rw [List.drop_drop] at a3
        rw [show (us[i]).pos - pos = (token l).2 + ((us[i]).pos - (pos + (token l).2)) from by omega]
        exact a3

/-- before an error: tokens; from it on: none -/
theorem lexP_before {l : Str} : ∀ {pos p : Nat}, lexP pos l = .error p → (∃ ts, lexP pos (l.take (p - pos)) = .ok ts) ∧ lexP p (l.drop (p - pos)) = .error p := by
  refine lex_induct (P := fun l => ∀ {pos p : Nat}, lexP pos l = .error p → (∃ ts, lexP pos (l.take (p - pos)) = .ok ts) ∧ lexP p (l.drop (p - pos)) = .error p) ?_ ?_ ?_ l
  · intro pos p h; cases h
  · intro l hl hk pos p h
    rw [lexP_none _ hl hk] at h; cases h
    simp only [Nat.sub_self, List.take_zero, List.drop_zero]
    exact ⟨⟨[], rfl⟩, lexP_none _ hl hk⟩
  · intro l hl hk ih pos p h
    have he := lexP_error h
    rw [lexP_some _ hk] at h
    have hle := token_le l
    cases hr : lexP (pos + (token l).2) (l.drop (token l).2) with
    | ok us => rw [hr] at h; cases h
    | error q =>
      rw [hr] at h; cases h
      have hb := lexP_error hr
      obtain ⟨⟨ts, h1⟩, h2⟩ := ih hr
      have e1 : token (l.take (p - pos)) = token l := token_take _ hk (by omega)
      have hk2 : (token (l.take (p - pos))).1 ≠ 0 := by rw [e1]; exact hk
      refine ⟨⟨⟨(token l).1, l.take (token l).2, pos⟩ :: ts, ?_⟩, ?_⟩
      · rw [lexP_some _ hk2, e1]
        rw [List.drop_take, show p - pos - (token l).2 = p - (pos + (token l).2) from by omega, h1]
        simp only [List.take_take]
        rw [Nat.min_eq_left (by omega)]
      · rw [List.drop_drop] at h2
        rwa [show (token l).2 + (p - (pos + (token l).2)) = p - pos from by omega] at h2

/-! ### two texts with a line feed between them -/
theorem lf_signs : ∀ x ∈ signs, (10 : UInt8) ∉ x := by decide

/-- the first token of 'l ++ lf ++ r' is that of l, but where l is all spaces -/
theorem token_lf {l : Str} (hl : l ≠ []) (r : Str) (h : ¬((token l).1 = 4 ∧ (token l).2 = l.length)) : token (l ++ 10 :: r) = token l := by
  match l, hl with
  | c :: q, _ =>
    have e : (c :: q) ++ 10 :: r = c :: (q ++ 10 :: r) := rfl
    have hrun : ∀ p : UInt8 → Bool, p 10 = false → runLen p (c :: (q ++ 10 :: r)) = runLen p (c :: q) := by
      intro p hp
      rw [← e, runLen_append]
      split
      · rename_i hh; rw [hh]; simp [runLen, hp]
      · rfl
    have hsg : signOf (c :: (q ++ 10 :: r)) = signOf (c :: q) := by rw [← e]; exact signOf_append 10 lf_signs
    rw [e]
    rcases token_cases c q with ⟨h1, ht⟩ | ⟨h1, h2, ht⟩ | ⟨h1, h2, h3, ht⟩ | ⟨h1, h2, h3, h4, ht⟩ | ⟨h1, h2, h3, h4, hs, ht⟩ | ⟨h1, h2, h3, h4, hs, ht⟩
    · simp only [token, h1, if_true]; rw [hrun alnum (by decide)]
    · simp only [token, h1, h2, if_true]; rw [hrun digit (by decide)]; simp
    · rw [ht] at h
      simp only [true_and] at h
      have : runLen space (c :: (q ++ 10 :: r)) = runLen space (c :: q) := by
        rw [← e, runLen_append, if_neg h]
      simp only [token, h1, h2, h3, if_true]; rw [this]; simp
    · simp only [token, h1, h2, h3, h4, if_true]; rw [hrun notlf (by decide)]; simp
    · simp only [token, h1, h2, h3, h4, hsg]; simp
    · simp only [token, h1, h2, h3, h4, hsg]; simp

def solidR : Except Nat (List Tok) → Except Nat (List Tok)
  | .error p => .error p
  | .ok ts => .ok (solid ts)

theorem solid_space (t : Tok) (h : t.kind = 4) (ts : List Tok) : solid (t :: ts) = solid ts := by
  simp [solid, h]
/-- leading spaces do not count -/
theorem lexP_spaces : ∀ (l : Str) (pos : Nat), solidR (lexP pos l) = solidR (lexP (pos + runLen space l) (l.drop (runLen space l)))
  | [], pos => rfl
  | c :: r, pos => by
    cases hs : space c with
    | false => simp [runLen, hs]
    | true =>
      obtain ⟨h1, h2, h3⟩ := space_not hs
      have ht : token (c :: r) = (4, runLen space (c :: r)) := by simp [token, h1, h2, hs]
      have hk : (token (c :: r)).1 ≠ 0 := by rw [ht]; simp
      rw [lexP_some _ hk, ht]
      cases lexP (pos + runLen space (c :: r)) ((c :: r).drop (runLen space (c :: r))) with
      | error p => rfl
      | ok ts => simp only [solidR]; rw [solid_space _ rfl]

/-- all spaces, a line feed, and a text -/
theorem lexP_blank_lf (l r : Str) (hl : runLen space l = l.length) (pos : Nat) : solidR (lexP pos (l ++ 10 :: r)) = solidR (lexP (pos + l.length + 1) r) := by
  have h1 : runLen space (l ++ 10 :: r) = l.length + (runLen space r + 1) := by
    rw [runLen_append, if_pos hl]; simp [runLen, show space 10 = true from rfl]
  rw [lexP_spaces, h1, lexP_spaces r]
  rw [show pos + (l.length + (runLen space r + 1)) = pos + l.length + 1 + runLen space r from by omega]
  congr 2
  rw [List.drop_append, List.drop_of_length_le (by omega), List.nil_append, show l.length + (runLen space r + 1) - l.length = runLen space r + 1 from by omega, List.drop_succ_cons]

def appR (a b : Except Nat (List Tok)) : Except Nat (List Tok) :=
  match a with
  | .error p => .error p
  | .ok ts => match b with | .error p => .error p | .ok us => .ok (ts ++ us)

theorem lexP_lines (b : Str) : ∀ (a : Str) (pos : Nat), solidR (lexP pos (a ++ 10 :: b)) = appR (solidR (lexP pos a)) (solidR (lexP (pos + a.length + 1) b)) := by
  intro a
  refine lex_induct (P := fun a => ∀ pos, solidR (lexP pos (a ++ 10 :: b)) = appR (solidR (lexP pos a)) (solidR (lexP (pos + a.length + 1) b))) ?_ ?_ ?_ a
  · intro pos
    rw [lexP_blank_lf [] b rfl pos]
    simp only [lexP_nil, solidR]
    cases lexP (pos + [].length + 1) b <;> simp [appR, solid]
  · intro a ha hk pos
    have ht := token_lf ha b (by rw [hk]; simp)
    rw [lexP_none pos ha hk, lexP_none pos (by simp) (by rw [ht]; exact hk)]
    rfl
  · intro a ha hk ih pos
    by_cases hsp : (token a).1 = 4 ∧ (token a).2 = a.length
    · have hrun : runLen space a = a.length := by
        match a, ha with
        | c :: q, _ =>
          rcases token_cases c q with ⟨_, ht⟩ | ⟨_, _, ht⟩ | ⟨_, _, _, ht⟩ | ⟨_, _, _, _, ht⟩ | ⟨_, _, _, _, _, ht⟩ | ⟨_, _, _, _, _, ht⟩ <;> rw [ht] at hsp <;> simp at hsp
          exact hsp
      rw [lexP_blank_lf a b hrun pos, lexP_some _ hk, hsp.2, List.drop_length, lexP_nil]
      simp only [solidR]
      rw [solid_space _ hsp.1]
      cases lexP (pos + a.length + 1) b <;> simp [appR, solid]
    · have ht := token_lf ha b hsp
      have hle := token_le a
      rw [lexP_some _ hk, lexP_some _ (show (token (a ++ 10 :: b)).1 ≠ 0 by rw [ht]; exact hk), ht]
      have e1 : (a ++ 10 :: b).drop (token a).2 = a.drop (token a).2 ++ 10 :: b := by rw [List.drop_append, show (token a).2 - a.length = 0 from by omega, List.drop_zero]
      have e2 : (a ++ 10 :: b).take (token a).2 = a.take (token a).2 := by rw [List.take_append, show (token a).2 - a.length = 0 from by omega]; simp
      have h3 := ih (pos + (token a).2)
      rw [show pos + (token a).2 + (a.drop (token a).2).length + 1 = pos + a.length + 1 from by simp only [List.length_drop]; omega] at h3
      rw [e1, e2]
      cases hx : lexP (pos + (token a).2) (a.drop (token a).2 ++ 10 :: b) with
      | error p =>
        rw [hx] at h3
        cases hy : lexP (pos + (token a).2) (a.drop (token a).2) with
        | error q => rw [hy] at h3; simp only [solidR, appR] at h3 ⊢; exact h3
        | ok us =>
          rw [hy] at h3
          cases hz : lexP (pos + a.length + 1) b with
          | error q => rw [hz] at h3; simp only [solidR, appR] at h3 ⊢; exact h3
          | ok vs => rw [hz] at h3; simp [solidR, appR] at h3
      | ok ts =>
        rw [hx] at h3
        cases hy : lexP (pos + (token a).2) (a.drop (token a).2) with
        | error q => rw [hy] at h3; simp [solidR, appR] at h3
        | ok us =>
          rw [hy] at h3
          cases hz : lexP (pos + a.length + 1) b with
          | error q => rw [hz] at h3; simp [solidR, appR] at h3
          | ok vs =>
            rw [hz] at h3
            simp only [solidR, appR, Except.ok.injEq] at h3 ⊢
            simp only [solid, List.filter_cons] at h3 ⊢
            split
            · rw [h3]; rfl
            · exact h3

/-! ### names -/
theorem keywords_word : ∀ x ∈ keywords, token x = (1, x.length) ∧ x.length ≤ 12 := by decide

def refName (s : Str) : Bool := kindR s == 1 && decide (s.length ≤ 12) && !keywords.contains s

theorem kindR_word (c : UInt8) (r : Str) : (kindR (c :: r) == 1) = (letter c && (token (c :: r) == (1, (c :: r).length))) := by
  have hal := all_iff alnum (c :: r)
  rcases token_cases c r with ⟨h1, ht⟩ | ⟨h1, h2, ht⟩ | ⟨h1, h2, h3, ht⟩ | ⟨h1, h2, h3, h4, ht⟩ | ⟨h1, h2, h3, h4, hs, ht⟩ | ⟨h1, h2, h3, h4, hs, ht⟩
  · obtain ⟨n2, n3, n4⟩ := letter_not h1
    rw [ht, h1]
    have a2 : (c :: r).all digit = false := not_all_of n2
    have a3 : (c :: r).all space = false := not_all_of n3
    have a4 := signs_not (t := c :: r) rfl (.inl h1)
    simp only [kindR, h1, hal, a2, a3, a4, n4, Bool.true_and, Bool.false_and]
    by_cases h : runLen alnum (c :: r) = (c :: r).length
    · simp [h]
    · have hb : ((1, runLen alnum (c :: r)) == (1, (c :: r).length)) = false := by
        rw [beq_eq_false_iff_ne]; intro e; exact h (Prod.mk.inj e).2
      rw [hb, decide_eq_false h]; rfl
  all_goals
    rw [h1, Bool.false_and]
    simp only [kindR, h1, Bool.false_and, Bool.false_eq_true, if_false]
    repeat (split; · rfl)
    rfl

theorem refName_eq (s : Str) : refName s = isName s := by
  match s with
  | [] => rfl
  | c :: r =>
    unfold refName isName
    rw [kindR_word]
    simp only [isKeyword]
    cases decide ((c :: r).length ≤ 12) <;> cases letter c <;> cases keywords.contains (c :: r) <;> cases (token (c :: r) == (1, (c :: r).length)) <;> rfl

theorem isName_token {s : Str} (h : isName s = true) : token s = (1, s.length) ∧ s.length ≤ 12 ∧ isKeyword s = false ∧ s ≠ [] := by
  match s, h with
  | c :: r, h =>
    simp only [isName, Bool.and_eq_true, decide_eq_true_eq, Bool.not_eq_true', beq_iff_eq] at h
    exact ⟨h.2, h.1.1.1, h.1.2, by simp⟩
theorem isKeyword_token {s : Str} (h : isKeyword s = true) : token s = (1, s.length) := by
  unfold isKeyword at h
  rw [List.contains_eq_mem, decide_eq_true_eq] at h
  exact (keywords_word s h).1

theorem lex_eq {s : Str} (h : s.length ≤ 65536) : lex s = match lexP 0 s with
    | .error p => ([], p, 3)
    | .ok ts => (ts, 0, 0) := by
  unfold lex lexP
  rw [if_neg (by omega)]
  cases lexF s.length 0 s <;> rfl
theorem lex_full {s : Str} (h : 65536 < s.length) : lex s = ([], 0, 5) := by unfold lex; rw [if_pos h]

end Go.Proofs.YtidfhfcplcfcmaaDoor.OT
