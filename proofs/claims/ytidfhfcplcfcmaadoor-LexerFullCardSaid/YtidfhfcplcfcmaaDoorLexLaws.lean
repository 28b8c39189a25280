/- Plain laws of the lexer: the longest token, prefixes, suffixes, joins. No program. -/
import Derived.Test.YtidfhfcplcfcmaaDoorLexDefs
namespace Go.Proofs.YtidfhfcplcfcmaaDoor.OT

theorem runLen_le (p : UInt8 → Bool) : ∀ l : Str, runLen p l ≤ l.length
  | [] => Nat.le_refl _
  | c :: r => by
    have := runLen_le p r
    simp only [runLen]
    split <;> simp <;> omega

theorem runLen_take_ge (p : UInt8 → Bool) : ∀ (l : Str) (m : Nat), runLen p l ≤ m → runLen p (l.take m) = runLen p l
  | [], m, _ => by simp
  | c :: r, 0, h => by
    simp only [runLen] at h ⊢
    split at h
    · omega
    · rename_i hc; simp [runLen]; simpa using hc
  | c :: r, m + 1, h => by
    simp only [List.take_succ_cons, runLen] at h ⊢
    split
    · rename_i hc
      rw [if_pos hc] at h
      rw [runLen_take_ge p r m (by omega)]
    · rfl

theorem runLen_take_le (p : UInt8 → Bool) : ∀ (l : Str) (m : Nat), m ≤ runLen p l → runLen p (l.take m) = m
  | [], m, h => by simp [runLen] at h ⊢; omega
  | c :: r, 0, _ => by simp [runLen]
  | c :: r, m + 1, h => by
    simp only [List.take_succ_cons, runLen] at h ⊢
    split at h
    · rename_i hc
      rw [if_pos hc, runLen_take_le p r m (by omega)]
    · omega

theorem runLen_append (p : UInt8 → Bool) : ∀ (a b : Str), runLen p (a ++ b) = if runLen p a = a.length then a.length + runLen p b else runLen p a
  | [], b => by simp [runLen]
  | c :: r, b => by
    simp only [List.cons_append, runLen, List.length_cons]
    rw [runLen_append p r b]
    split
    · by_cases h : runLen p r = r.length
      · rw [if_pos h, if_pos (by omega)]; omega
      · rw [if_neg h, if_neg (by omega)]
    · have := runLen_le p r
      rw [if_neg (by omega)]

/-- all of a text is in a class just where the run is the text -/
theorem all_iff (p : UInt8 → Bool) : ∀ l : Str, l.all p = decide (runLen p l = l.length)
  | [] => by simp [runLen]
  | c :: r => by
    have h := all_iff p r
    have := runLen_le p r
    cases hc : p c with
    | true => simp [runLen, h, hc]
    | false => simp [runLen, hc]

theorem all_take (p : UInt8 → Bool) (l : Str) (m : Nat) (hm : m ≤ l.length) : (l.take m).all p = decide (m ≤ runLen p l) := by
  rw [all_iff, List.length_take, Nat.min_eq_left hm]
  by_cases h : m ≤ runLen p l
  · rw [runLen_take_le p l m h]; simp [h]
  · rw [runLen_take_ge p l m (by omega)]; simp [h]; omega

/-- one byte more in the class -/
theorem runLen_go (p : UInt8 → Bool) : ∀ (l : Str) (k : Nat) (h : k < l.length), k ≤ runLen p l → p l[k] = true → k + 1 ≤ runLen p l
  | c :: r, 0, _, _, hp => by simp only [List.getElem_cons_zero] at hp; simp only [runLen]; rw [if_pos hp]; omega
  | c :: r, k + 1, h, hk, hp => by
    simp only [runLen] at hk ⊢
    split at hk
    · rename_i hc
      rw [if_pos hc]
      have := runLen_go p r k (by simpa using h) (by omega) (by simpa using hp)
      omega
    · omega
theorem runLen_halt (p : UInt8 → Bool) : ∀ (l : Str) (k : Nat) (h : k < l.length), k ≤ runLen p l → p l[k] = false → runLen p l = k
  | c :: r, 0, _, _, hp => by simp only [List.getElem_cons_zero] at hp; simp [runLen, hp]
  | c :: r, k + 1, h, hk, hp => by
    simp only [runLen] at hk ⊢
    split at hk
    · rename_i hc
      rw [if_pos hc, runLen_halt p r k (by simpa using h) (by omega) (by simpa using hp)]
    · omega

/-! ### signs -/
theorem signs_first : ∀ x ∈ signs, x ≠ [] ∧ (∀ c ∈ x, letter c = false ∧ digit c = false ∧ space c = false ∧ (c == 35) = false ∧ c ≠ 10) := by decide
theorem signs_len : ∀ x ∈ signs, x.length = 1 ∨ x.length = 2 := by decide
theorem signs_self : ∀ x ∈ signs, signOf x = x := by decide
/-- the longer ones first -/
theorem signs_order : ∀ x ∈ signs, ∀ y ∈ signs, x.isPrefixOf y = true → x ≠ y → signs.idxOf y < signs.idxOf x := by decide

theorem signOf_mem {l : Str} (h : signOf l ≠ []) : signOf l ∈ signs ∧ (signOf l) <+: l := by
  unfold signOf at h ⊢
  cases hf : signs.find? (fun x => x.isPrefixOf l) with
  | none => rw [hf] at h; simp at h
  | some x =>
    simp only [Option.getD_some]
    exact ⟨List.mem_of_find?_eq_some hf, by have := List.find?_some hf; simpa using this⟩
theorem signOf_none {l : Str} (h : signOf l = []) : ∀ x ∈ signs, ¬ x <+: l := by
  intro x hx hp
  unfold signOf at h
  cases hf : signs.find? (fun x => x.isPrefixOf l) with
  | none =>
    have := List.find?_eq_none.1 hf x hx
    simp at this
    exact this hp
  | some y =>
    rw [hf] at h
    simp only [Option.getD_some] at h
    exact (signs_first y (List.mem_of_find?_eq_some hf)).1 h

theorem find_mono {α : Type} (p q : α → Bool) (hpq : ∀ x, q x = true → p x = true) : ∀ (l : List α) (x : α), l.find? p = some x → q x = true → l.find? q = some x
  | [], x, h, _ => by simp at h
  | y :: r, x, h, hq => by
    rw [List.find?_cons] at h ⊢
    cases hp : p y with
    | true =>
      rw [hp] at h
      simp only [Option.some.injEq] at h
      subst h
      rw [hq]
    | false =>
      rw [hp] at h
      cases hqy : q y with
      | true => rw [hpq y hqy] at hp; cases hp
      | false => exact find_mono p q hpq r x h hq

theorem signOf_take {l : Str} (h : signOf l ≠ []) (m : Nat) (hm : (signOf l).length ≤ m) : signOf (l.take m) = signOf l := by
  have hmem := signOf_mem h
  cases hf : signs.find? (fun x => x.isPrefixOf l) with
  | none => unfold signOf at h; rw [hf] at h; simp at h
  | some x =>
    have hx : signOf l = x := by unfold signOf; rw [hf]; rfl
    rw [hx] at hmem hm ⊢
    have h2 : signs.find? (fun x => x.isPrefixOf (l.take m)) = some x := by
      refine find_mono _ _ (fun y hy => ?_) _ x hf ?_
      · simp only [List.isPrefixOf_iff_prefix] at hy ⊢
        exact hy.trans (List.take_prefix m l)
      · simp only [List.isPrefixOf_iff_prefix]
        obtain ⟨t, ht⟩ := hmem.2
        rw [← ht, List.take_append, List.take_of_length_le hm]
        exact List.prefix_append _ _
    unfold signOf
    rw [h2]; rfl

/-- a byte that no sign has ends it -/
theorem signOf_append {l r : Str} (c : UInt8) (hc : ∀ x ∈ signs, c ∉ x) : signOf (l ++ c :: r) = signOf l := by
  have : (fun x : Str => x ∈ signs → x.isPrefixOf (l ++ c :: r) = x.isPrefixOf l) = fun _ => True := by
    funext x
    simp only [eq_iff_iff, iff_true]
    intro hx
    have h1 : ∀ (x l : Str), c ∉ x → x.isPrefixOf (l ++ c :: r) = x.isPrefixOf l := by
      intro x
      induction x with
      | nil => intro l _; simp
      | cons a x ih =>
        intro l hn
        simp only [List.mem_cons, not_or] at hn
        cases l with
        | nil =>
          simp only [List.nil_append, List.isPrefixOf_cons_cons]
          have : (a == c) = false := by simp; exact fun e => hn.1 e.symm
          rw [this]; simp [List.isPrefixOf]
        | cons b l => simp only [List.cons_append, List.isPrefixOf_cons_cons]; rw [ih l hn.2]
    exact h1 x l (hc x hx)
  have h2 : ∀ x ∈ signs, x.isPrefixOf (l ++ c :: r) = x.isPrefixOf l := fun x => (congrFun this x).mpr trivial
  unfold signOf
  congr 1
  revert h2
  generalize signs = sg
  induction sg with
  | nil => intro _; rfl
  | cons y sg ih =>
    intro h2
    rw [List.find?_cons, List.find?_cons, h2 y List.mem_cons_self, ih fun x hx => h2 x (List.mem_cons_of_mem _ hx)]

/-! ### classes do not overlap -/
theorem letter_not {c : UInt8} (h : letter c = true) : digit c = false ∧ space c = false ∧ (c == 35) = false := by
  simp only [letter, digit, space, Bool.and_eq_true, decide_eq_true_eq] at h ⊢
  refine ⟨?_, ?_, ?_⟩
  · simp; omega
  · simp only [Bool.or_eq_false_iff, beq_eq_false_iff_ne, ne_eq]
    refine ⟨⟨⟨?_, ?_⟩, ?_⟩, ?_⟩ <;> (intro e; subst e; simp at h)
  · simp only [beq_eq_false_iff_ne, ne_eq]; intro e; subst e; simp at h
theorem digit_not {c : UInt8} (h : digit c = true) : letter c = false ∧ space c = false ∧ (c == 35) = false := by
  simp only [letter, digit, space, Bool.and_eq_true, decide_eq_true_eq] at h ⊢
  refine ⟨?_, ?_, ?_⟩
  · simp; omega
  · simp only [Bool.or_eq_false_iff, beq_eq_false_iff_ne, ne_eq]
    refine ⟨⟨⟨?_, ?_⟩, ?_⟩, ?_⟩ <;> (intro e; subst e; simp at h)
  · simp only [beq_eq_false_iff_ne, ne_eq]; intro e; subst e; simp at h
theorem space_not {c : UInt8} (h : space c = true) : letter c = false ∧ digit c = false ∧ (c == 35) = false := by
  simp only [space, Bool.or_eq_true, beq_iff_eq] at h
  rcases h with ((rfl | rfl) | rfl) | rfl <;> decide

/-! ### the token at the beginning -/
/-- the five ways of a token, with what tells them apart -/
theorem token_cases (c : UInt8) (r : Str) :
    (letter c = true ∧ token (c :: r) = (1, runLen alnum (c :: r))) ∨
    (letter c = false ∧ digit c = true ∧ token (c :: r) = (2, runLen digit (c :: r))) ∨
    (letter c = false ∧ digit c = false ∧ space c = true ∧ token (c :: r) = (4, runLen space (c :: r))) ∨
    (letter c = false ∧ digit c = false ∧ space c = false ∧ (c == 35) = true ∧ token (c :: r) = (5, runLen notlf (c :: r))) ∨
    (letter c = false ∧ digit c = false ∧ space c = false ∧ (c == 35) = false ∧ signOf (c :: r) ≠ [] ∧ token (c :: r) = (3, (signOf (c :: r)).length)) ∨
    (letter c = false ∧ digit c = false ∧ space c = false ∧ (c == 35) = false ∧ signOf (c :: r) = [] ∧ token (c :: r) = (0, 0)) := by
  cases h1 : letter c
  · cases h2 : digit c
    · cases h3 : space c
      · cases h4 : (c == 35)
        · cases h5 : (signOf (c :: r)).isEmpty
          · have h5' : signOf (c :: r) ≠ [] := by intro e; rw [e] at h5; simp at h5
            refine .inr (.inr (.inr (.inr (.inl ⟨rfl, rfl, rfl, rfl, h5', ?_⟩)))); simp [token, h1, h2, h3, h4, h5]
          · have h5' : signOf (c :: r) = [] := by simpa using h5
            refine .inr (.inr (.inr (.inr (.inr ⟨rfl, rfl, rfl, rfl, h5', ?_⟩)))); simp [token, h1, h2, h3, h4, h5']
        · refine .inr (.inr (.inr (.inl ⟨rfl, rfl, rfl, rfl, ?_⟩))); simp only [token, h1, h2, h3, h4]; simp
      · refine .inr (.inr (.inl ⟨rfl, rfl, rfl, ?_⟩)); simp [token, h1, h2, h3]
    · refine .inr (.inl ⟨rfl, rfl, ?_⟩); simp [token, h1, h2]
  · refine .inl ⟨rfl, ?_⟩; simp [token, h1]

theorem alnum_letter {c : UInt8} (h : letter c = true) : alnum c = true := by simp [alnum, h]
theorem notlf_hash {c : UInt8} (h : (c == 35) = true) : notlf c = true := by
  simp only [beq_iff_eq] at h; subst h; decide

theorem runLen_pos (p : UInt8 → Bool) (c : UInt8) (r : Str) (h : p c = true) : 0 < runLen p (c :: r) := by
  simp only [runLen]; rw [if_pos h]; omega

theorem token_le : ∀ l : Str, (token l).2 ≤ l.length
  | [] => Nat.le_refl _
  | c :: r => by
    rcases token_cases c r with ⟨_, h⟩ | ⟨_, _, h⟩ | ⟨_, _, _, h⟩ | ⟨_, _, _, _, h⟩ | ⟨_, _, _, _, hs, h⟩ | ⟨_, _, _, _, hs, h⟩ <;> rw [h]
    · exact runLen_le _ _
    · exact runLen_le _ _
    · exact runLen_le _ _
    · exact runLen_le _ _
    · exact (signOf_mem hs).2.length_le
    · exact Nat.zero_le _

theorem token_pos : ∀ {l : Str}, (token l).1 ≠ 0 → 0 < (token l).2
  | [], h => absurd rfl h
  | c :: r, h0 => by
    rcases token_cases c r with ⟨h1, h⟩ | ⟨_, h1, h⟩ | ⟨_, _, h1, h⟩ | ⟨_, _, _, h1, h⟩ | ⟨_, _, _, _, hs, h⟩ | ⟨_, _, _, _, hs, h⟩ <;> rw [h] at h0 ⊢
    · exact runLen_pos _ _ _ (alnum_letter h1)
    · exact runLen_pos _ _ _ h1
    · exact runLen_pos _ _ _ h1
    · exact runLen_pos _ _ _ (notlf_hash h1)
    · exact List.length_pos_iff.2 hs
    · exact absurd rfl h0

theorem token_kind_le : ∀ l : Str, (token l).1 ≤ 5
  | [] => by simp [token]
  | c :: r => by
    rcases token_cases c r with ⟨_, h⟩ | ⟨_, _, h⟩ | ⟨_, _, _, h⟩ | ⟨_, _, _, _, h⟩ | ⟨_, _, _, _, hs, h⟩ | ⟨_, _, _, _, hs, h⟩ <;> rw [h] <;> simp

/-- what comes behind the token does not count -/
theorem token_take : ∀ {l : Str} (m : Nat), (token l).1 ≠ 0 → (token l).2 ≤ m → token (l.take m) = token l
  | [], m, h, _ => absurd rfl h
  | c :: r, 0, h0, hm => by have := token_pos h0; omega
  | c :: r, m + 1, h0, hm => by
    have e : (c :: r).take (m + 1) = c :: r.take m := rfl
    rcases token_cases c r with ⟨h1, h⟩ | ⟨h1, h2, h⟩ | ⟨h1, h2, h3, h⟩ | ⟨h1, h2, h3, h4, h⟩ | ⟨h1, h2, h3, h4, hs, h⟩ | ⟨_, _, _, _, hs, h⟩
    · rw [h] at hm ⊢
      have := runLen_take_ge alnum (c :: r) (m + 1) hm
      rw [e] at this ⊢
      simp only [token, h1, if_true, this]
    · rw [h] at hm ⊢
      have := runLen_take_ge digit (c :: r) (m + 1) hm
      rw [e] at this ⊢
      simp [token, h1, h2, this]
    · rw [h] at hm ⊢
      have := runLen_take_ge space (c :: r) (m + 1) hm
      rw [e] at this ⊢
      simp [token, h1, h2, h3, this]
    · rw [h] at hm ⊢
      have := runLen_take_ge notlf (c :: r) (m + 1) hm
      rw [e] at this ⊢
      simp only [token, h1, h2, h3, h4, this]
      simp
    · rw [h] at hm ⊢
      have := signOf_take hs (m + 1) hm
      rw [e] at this ⊢
      have he : (signOf (c :: r)).isEmpty = false := by cases hq : signOf (c :: r) with | nil => exact absurd hq hs | cons _ _ => rfl
      simp only [token, h1, h2, h3, h4, this, he]
      simp
    · rw [h] at h0; exact absurd rfl h0

/-! ### the reference's longest prefix -/
theorem not_all_of {p : UInt8 → Bool} {c : UInt8} {r : Str} (h : p c = false) : (c :: r).all p = false := by simp [h]
theorem signs_not {t : Str} {c : UInt8} {r : Str} (e : t = c :: r) (h : letter c = true ∨ digit c = true ∨ space c = true ∨ (c == 35) = true) : signs.contains t = false := by
  rw [List.contains_eq_mem]
  simp only [decide_eq_false_iff_not]
  intro hm
  have := (signs_first t hm).2 c (by rw [e]; exact List.mem_cons_self)
  rcases h with h | h | h | h <;> simp [h] at this

/-- the kind of the prefix of length m -/
theorem kindR_take (c : UInt8) (r : Str) (m : Nat) (hm : m + 1 ≤ (c :: r).length) :
    kindR ((c :: r).take (m + 1)) = if m + 1 ≤ (token (c :: r)).2 ∧ ((token (c :: r)).1 = 3 → m + 1 = (token (c :: r)).2 ∨ signs.contains ((c :: r).take (m + 1)) = true) then (token (c :: r)).1 else
      if (token (c :: r)).1 = 3 ∨ (token (c :: r)).1 = 0 then (if signs.contains ((c :: r).take (m + 1)) then 3 else 0) else 0 := by
  have e : (c :: r).take (m + 1) = c :: r.take m := rfl
  have hal := all_take alnum (c :: r) (m + 1) hm
  have hdg := all_take digit (c :: r) (m + 1) hm
  have hsp := all_take space (c :: r) (m + 1) hm
  have hlf := all_take notlf (c :: r) (m + 1) hm
  have hk : kindR ((c :: r).take (m + 1)) = if letter c && ((c :: r).take (m + 1)).all alnum then 1 else if ((c :: r).take (m + 1)).all digit then 2 else if signs.contains ((c :: r).take (m + 1)) then 3 else if ((c :: r).take (m + 1)).all space then 4 else if c == 35 && ((c :: r).take (m + 1)).all notlf then 5 else 0 := by
    rw [e]; rfl
  rw [hk]
  rcases token_cases c r with ⟨h1, h⟩ | ⟨h1, h2, h⟩ | ⟨h1, h2, h3, h⟩ | ⟨h1, h2, h3, h4, h⟩ | ⟨h1, h2, h3, h4, hs, h⟩ | ⟨h1, h2, h3, h4, hs, h⟩
  · have ⟨n2, n3, n4⟩ := letter_not h1
    have a2 : ((c :: r).take (m + 1)).all digit = false := by rw [e]; exact not_all_of n2
    have a3 : ((c :: r).take (m + 1)).all space = false := by rw [e]; exact not_all_of n3
    have a4 := signs_not (t := (c :: r).take (m + 1)) e (.inl h1)
    rw [h, a2, a3, a4, h1, n4, hal]
    by_cases hq : m + 1 ≤ runLen alnum (c :: r) <;> simp [hq]
  · have ⟨n2, n3, n4⟩ := digit_not h2
    have a3 : ((c :: r).take (m + 1)).all space = false := by rw [e]; exact not_all_of n3
    have a4 := signs_not (t := (c :: r).take (m + 1)) e (.inr (.inl h2))
    rw [h, a3, a4, h1, n4, hdg]
    by_cases hq : m + 1 ≤ runLen digit (c :: r) <;> simp [hq]
  · have ⟨n2, n3, n4⟩ := space_not h3
    have a2 : ((c :: r).take (m + 1)).all digit = false := by rw [e]; exact not_all_of n3
    have a4 := signs_not (t := (c :: r).take (m + 1)) e (.inr (.inr (.inl h3)))
    rw [h, a2, a4, h1, n4, hsp]
    by_cases hq : m + 1 ≤ runLen space (c :: r) <;> simp [hq]
  · have a2 : ((c :: r).take (m + 1)).all digit = false := by rw [e]; exact not_all_of h2
    have a3 : ((c :: r).take (m + 1)).all space = false := by rw [e]; exact not_all_of h3
    have a4 := signs_not (t := (c :: r).take (m + 1)) e (.inr (.inr (.inr h4)))
    rw [h, a2, a3, a4, h1, h4, hlf]
    by_cases hq : m + 1 ≤ runLen notlf (c :: r) <;> simp [hq]
  · have a2 : ((c :: r).take (m + 1)).all digit = false := by rw [e]; exact not_all_of h2
    have a3 : ((c :: r).take (m + 1)).all space = false := by rw [e]; exact not_all_of h3
    have hmm := signOf_mem hs
    rw [h, a2, a3, h1, h4]
    by_cases hq : m + 1 = (signOf (c :: r)).length
    · have hin : signs.contains ((c :: r).take (m + 1)) = true := by
        rw [List.contains_eq_mem, decide_eq_true_eq]
        have : (c :: r).take (m + 1) = signOf (c :: r) := by
          obtain ⟨t, ht⟩ := hmm.2
          conv => lhs; rw [← ht]
          rw [hq, List.take_append_of_le_length (Nat.le_refl _), List.take_length]
        rw [this]; exact hmm.1
      rw [hin]; simp [hq]
    · cases hc : signs.contains ((c :: r).take (m + 1)) <;> simp [hq]
  · have a2 : ((c :: r).take (m + 1)).all digit = false := by rw [e]; exact not_all_of h2
    have a3 : ((c :: r).take (m + 1)).all space = false := by rw [e]; exact not_all_of h3
    have a4 : signs.contains ((c :: r).take (m + 1)) = false := by
      rw [List.contains_eq_mem, decide_eq_false_iff_not]
      intro hm'
      exact signOf_none hs _ hm' (List.take_prefix _ _)
    rw [h, a2, a3, a4, h1, h4]
    simp

/-- a longer prefix of a sign's text is no sign -/
theorem signs_longest {l : Str} (hs : signOf l ≠ []) (m : Nat) (hm : (signOf l).length < m) (hl : m ≤ l.length) : signs.contains (l.take m) = false := by
  rw [List.contains_eq_mem, decide_eq_false_iff_not]
  intro hin
  have hmm := signOf_mem hs
  cases hf : signs.find? (fun x => x.isPrefixOf l) with
  | none => unfold signOf at hs; rw [hf] at hs; simp at hs
  | some x =>
    have hx : signOf l = x := by unfold signOf; rw [hf]; rfl
    rw [hx] at hmm hm
    have hxy : x <+: l.take m := by
      obtain ⟨t, ht⟩ := hmm.2
      rw [← ht, List.take_append, List.take_of_length_le (by omega)]
      exact List.prefix_append _ _
    have hne : x ≠ l.take m := by intro e; have := congrArg List.length e; rw [List.length_take, Nat.min_eq_left hl] at this; omega
    have hlt := signs_order x hmm.1 (l.take m) hin (by simpa using hxy) hne
    obtain ⟨h1, as, bs, h2, h3⟩ := List.find?_eq_some_iff_append.1 hf
    have hya : l.take m ∈ as := by
      rw [h2] at hlt
      by_cases hya : l.take m ∈ as
      · exact hya
      · exfalso
        have hxa : x ∉ as := by
          intro hxa
          have := h3 x hxa
          have h4 : x.isPrefixOf l = true := by rw [List.isPrefixOf_iff_prefix]; exact hmm.2
          rw [h4] at this; cases this
        rw [List.idxOf_append, List.idxOf_append, if_neg hxa, if_neg hya, List.idxOf_cons_self] at hlt
        omega
    have := h3 _ hya
    have h4 : (l.take m).isPrefixOf l = true := by rw [List.isPrefixOf_iff_prefix]; exact List.take_prefix m l
    rw [h4] at this; cases this

/-- the token is the longest prefix that is one -/
theorem kindR_token {l : Str} (h : (token l).1 ≠ 0) : kindR (l.take (token l).2) = (token l).1 := by
  have hp := token_pos h
  have hl := token_le l
  match l, h, hp, hl with
  | c :: r, h, hp, hl =>
    obtain ⟨m, hm⟩ : ∃ m, (token (c :: r)).2 = m + 1 := ⟨(token (c :: r)).2 - 1, by omega⟩
    rw [hm] at hl ⊢
    rw [kindR_take c r m hl, hm, if_pos ⟨Nat.le_refl _, fun _ => .inl rfl⟩]
theorem kindR_longer {l : Str} (m : Nat) (h1 : (token l).2 < m) (h2 : m ≤ l.length) : kindR (l.take m) = 0 := by
  match l, m, h1, h2 with
  | [], m, h1, h2 => simp [token] at h1 h2; omega
  | c :: r, m + 1, h1, h2 =>
    rw [kindR_take c r m h2, if_neg (by omega)]
    split
    · rename_i h3
      rcases token_cases c r with ⟨_, h⟩ | ⟨_, _, h⟩ | ⟨_, _, _, h⟩ | ⟨_, _, _, _, h⟩ | ⟨_, _, _, _, hs, h⟩ | ⟨_, _, _, _, hs, h⟩
      · rw [h] at h3; simp at h3
      · rw [h] at h3; simp at h3
      · rw [h] at h3; simp at h3
      · rw [h] at h3; simp at h3
      · rw [h] at h1
        rw [signs_longest hs (m + 1) h1 h2]; simp
      · have a4 : signs.contains ((c :: r).take (m + 1)) = false := by
          rw [List.contains_eq_mem, decide_eq_false_iff_not]
          intro hm'
          exact signOf_none hs _ hm' (List.take_prefix _ _)
        rw [a4]; simp
    · rfl
theorem kindR_nil : kindR [] = 0 := rfl
/-- no token: no prefix has a kind -/
theorem kindR_none {l : Str} (h : (token l).1 = 0) (m : Nat) (h2 : m ≤ l.length) : kindR (l.take m) = 0 := by
  match l, m, h2 with
  | l, 0, h2 => simp [kindR]
  | [], m + 1, h2 => simp at h2
  | c :: r, m + 1, h2 =>
    rcases token_cases c r with ⟨_, h'⟩ | ⟨_, _, h'⟩ | ⟨_, _, _, h'⟩ | ⟨_, _, _, _, h'⟩ | ⟨_, _, _, _, hs, h'⟩ | ⟨_, _, _, _, hs, h'⟩
    · rw [h'] at h; simp at h
    · rw [h'] at h; simp at h
    · rw [h'] at h; simp at h
    · rw [h'] at h; simp at h
    · rw [h'] at h; simp at h
    · exact kindR_longer (m + 1) (by rw [h']; simp) h2

end Go.Proofs.YtidfhfcplcfcmaaDoor.OT
