/- Plain definitions of the lexer of the task language, over lists of bytes: no program, no memory. -/
namespace Go.Proofs.YtidfhfcplcfcmaaDoor.OT

abbrev Str := List UInt8

def letter (c : UInt8) : Bool := decide (97 ≤ c.toNat) && decide (c.toNat ≤ 122)
def digit (c : UInt8) : Bool := decide (48 ≤ c.toNat) && decide (c.toNat ≤ 57)
def space (c : UInt8) : Bool := c == 32 || c == 9 || c == 13 || c == 10
def alnum (c : UInt8) : Bool := letter c || digit c
def notlf (c : UInt8) : Bool := c != 10

def signs : List Str := [[60, 60], [62, 62], [60, 61], [62, 61], [61, 61], [33, 61], [38, 38], [124, 124], [43], [45], [42], [47], [37], [38], [124], [94], [60], [62], [33], [61], [91], [93], [123], [125], [40], [41], [59], [44]]

/-- array bound else for if in lock out period shared task var while -/
def keywords : List Str := [[97, 114, 114, 97, 121], [98, 111, 117, 110, 100], [101, 108, 115, 101], [102, 111, 114], [105, 102], [105, 110], [108, 111, 99, 107], [111, 117, 116], [112, 101, 114, 105, 111, 100], [115, 104, 97, 114, 101, 100], [116, 97, 115, 107], [118, 97, 114], [119, 104, 105, 108, 101]]

structure Tok where
  kind : Nat
  text : Str
  pos : Nat

/-- the sign at the beginning of a text, or the empty one -/
def signOf (l : Str) : Str := (signs.find? fun x => x.isPrefixOf l).getD []

/-- the number of bytes of a class at the beginning -/
def runLen (p : UInt8 → Bool) : Str → Nat
  | [] => 0
  | c :: r => if p c then runLen p r + 1 else 0

def token : Str → Nat × Nat
  | [] => (0, 0)
  | c :: r =>
    if letter c then (1, runLen alnum (c :: r))
    else if digit c then (2, runLen digit (c :: r))
    else if space c then (4, runLen space (c :: r))
    else if c == 35 then (5, runLen notlf (c :: r))
    else if (signOf (c :: r)).isEmpty then (0, 0) else (3, (signOf (c :: r)).length)

/-- the tokens, or the offset at which none starts -/
def lexF : Nat → Nat → Str → Except Nat (List Tok)
  | 0, _, _ => .ok []
  | _ + 1, _, [] => .ok []
  | f + 1, pos, l =>
    if (token l).1 = 0 then .error pos
    else match lexF f (pos + (token l).2) (l.drop (token l).2) with
      | .error p => .error p
      | .ok ts => .ok (⟨(token l).1, l.take (token l).2, pos⟩ :: ts)

/-- tokens, offset, error number -/
def lex (s : Str) : List Tok × Nat × Nat :=
  if 65536 < s.length then ([], 0, 5)
  else match lexF s.length 0 s with
    | .error p => ([], p, 3)
    | .ok ts => (ts, 0, 0)

def solid (l : List Tok) : List Tok := l.filter fun t => t.kind != 4 && t.kind != 5
def joinT (l : List Tok) : Str := (l.map Tok.text).flatten
def isKeyword (s : Str) : Bool := keywords.contains s
def isName (s : Str) : Bool :=
  match s with
  | [] => false
  | c :: _ => decide (s.length ≤ 12) && letter c && !isKeyword s && (token s == (1, s.length))

/-- the kind of a whole text, as the reference has it -/
def kindR (t : Str) : Nat :=
  match t with
  | [] => 0
  | c :: _ =>
    if letter c && t.all alnum then 1 else if t.all digit then 2 else if signs.contains t then 3 else if t.all space then 4 else if c == 35 && t.all notlf then 5 else 0

end Go.Proofs.YtidfhfcplcfcmaaDoor.OT
