/- What lex.Scan computes, in plain Lean over lists of bytes: no program in sight. -/
namespace Go.Proofs.Ytohbjgckcbdegaa.Lx

/-- The place behind a byte. -/
def adv (c : UInt8) (p : Int × Int) : Int × Int := if c.toNat = 10 then (p.1 + 1, 1) else (p.1, p.2 + 1)

def letter (c : UInt8) : Bool := (decide (97 ≤ c.toNat) && decide (c.toNat ≤ 122)) || (decide (65 ≤ c.toNat) && decide (c.toNat ≤ 90))
def inName (c : UInt8) : Bool := letter c || (decide (48 ≤ c.toNat) && decide (c.toNat ≤ 57)) || (c.toNat == 95) || (c.toNat == 45)
def blank (c : UInt8) : Bool := (c.toNat == 32) || (c.toNat == 9) || (c.toNat == 10) || (c.toNat == 13)
def isSign (c : UInt8) : Bool := c ∈ [58, 124, 59, 40, 41, 91, 93, 123, 125, 42, 43, 63, 37]
/-- A hexadecimal digit's number. -/
def hexv (c : UInt8) : Option Nat :=
  if 48 ≤ c.toNat ∧ c.toNat ≤ 57 then some (c.toNat - 48) else if 97 ≤ c.toNat ∧ c.toNat ≤ 102 then some (c.toNat - 87) else none

/-- Blanks and comments skipped; in a comment, if the Bool says so. -/
def skip : Bool → List UInt8 → Int × Int → List UInt8 × (Int × Int)
  | _, [], p => ([], p)
  | true, c :: cs, p => if c.toNat = 10 then skip false cs (adv c p) else skip true cs (adv c p)
  | false, c :: cs, p => if c.toNat = 35 then skip true cs (adv c p) else if blank c then skip false cs (adv c p) else (c :: cs, p)

/-- A name's bytes, what is behind, the place there. -/
def nameL : List UInt8 → Int × Int → List UInt8 × List UInt8 × (Int × Int)
  | [], p => ([], [], p)
  | c :: cs, p => if inName c then ((c :: (nameL cs (adv c p)).1), (nameL cs (adv c p)).2) else ([], c :: cs, p)

/-- What stands behind a backslash: the byte, what is behind, the place; or the place where it is wrong. -/
inductive Esc where
  | ok (b : UInt8) (rest : List UInt8) (p : Int × Int)
  | bad (rest : List UInt8) (p : Int × Int)

def escX : List UInt8 → Int × Int → Esc
  | [], p => .bad [] p
  | c :: cs, p => match hexv c with
    | none => .bad (c :: cs) p
    | some a => match cs with
      | [] => .bad [] (adv c p)
      | d :: ds => match hexv d with
        | none => .bad (d :: ds) (adv c p)
        | some b => .ok (UInt8.ofNat (16 * a + b)) ds (adv d (adv c p))

def esc : List UInt8 → Int × Int → Esc
  | [], p => .bad [] p
  | c :: cs, p =>
    if c.toNat = 92 ∨ c.toNat = 39 ∨ c.toNat = 34 then .ok c cs (adv c p)
    else if c.toNat = 110 then .ok 10 cs (adv c p)
    else if c.toNat = 116 then .ok 9 cs (adv c p)
    else if c.toNat = 120 then escX cs (adv c p)
    else .bad (c :: cs) p

/-- A literal behind its quote: its bytes, what is behind its end, the place; or the place where it is wrong. n: rounds. -/
def lit (q : UInt8) : Nat → List UInt8 → Int × Int → List UInt8 → Option (List UInt8 × List UInt8) × (Int × Int)
  | 0, _, p, _ => (none, p)
  | _ + 1, [], p, _ => (none, p)
  | n + 1, c :: cs, p, out =>
    if c = q then (some (out, cs), adv c p)
    else if c.toNat = 92 then
      match esc cs (adv c p) with
      | .ok b rest p' => lit q n rest p' (out ++ [b])
      | .bad _ p' => (none, p')
    else if c.toNat < 32 ∨ 126 < c.toNat then (none, p)
    else lit q n cs (adv c p) (out ++ [c])

structure Tok where
  kind : Int
  text : List UInt8
  p : Int × Int
deriving DecidableEq

structure Flt where
  p : Int × Int
  code : Int
deriving DecidableEq

/-- The token that begins with c, what is behind, the place there; or the fault. -/
def token (c : UInt8) (cs : List UInt8) (p : Int × Int) : Except Flt (Tok × List UInt8 × (Int × Int)) :=
  if letter c then
    if (nameL (c :: cs) p).1.length > 32 then .error ⟨p, 6⟩ else .ok (⟨1, (nameL (c :: cs) p).1, p⟩, (nameL (c :: cs) p).2)
  else if c.toNat = 39 ∨ c.toNat = 34 then
    match lit c (cs.length + 1) cs (adv c p) [] with
    | (none, p') => .error ⟨p', 2⟩
    | (some (t, rest), p') => if t = [] then .error ⟨p, 2⟩ else if t.length > 16 then .error ⟨p, 6⟩ else .ok (⟨2, t, p⟩, rest, p')
  else if isSign c then .ok (⟨3, [c], p⟩, cs, adv c p)
  else .error ⟨p, 2⟩

/-- All tokens from a place on. n: rounds. -/
def scanF : Nat → List UInt8 → Int × Int → List Tok → Except Flt (List Tok)
  | 0, _, p, _ => .error ⟨p, 0⟩
  | n + 1, l, p, acc =>
    match skip false l p with
    | ([], p') => .ok (acc ++ [⟨4, [], p'⟩])
    | (c :: cs, p') => match token c cs p' with
      | .error f => .error f
      | .ok (t, rest, p'') => scanF n rest p'' (acc ++ [t])

/-- lex.Scan. -/
def scan (s : List UInt8) : Except Flt (List Tok) :=
  if s.length > 65536 then .error ⟨(0, 0), 6⟩ else scanF (s.length + 1) s (1, 1) []

end Go.Proofs.Ytohbjgckcbdegaa.Lx
