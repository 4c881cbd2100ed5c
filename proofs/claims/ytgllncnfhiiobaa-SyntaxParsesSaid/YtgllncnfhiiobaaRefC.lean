/- What the reference's parser computes: plain functions over tokens. -/
import Derived.Test.YtgllncnfhiiobaaRefB
set_option linter.unusedVariables false
set_option linter.unusedSimpArgs false
namespace Go.Proofs.Ytgllncnfhiiobaa.Rw
open Go.RowKit Go.Proofs.YtgllncnfhiiobaaW.PrintWords Go.Proofs.YtgllncnfhiiobaaW.PrintLast Go.Proofs.YtgllncnfhiiobaaW.PrintMore Go.Proofs.Ytgllncnfhiiobaa Go.Proofs.Ytgllncnfhiiobaa.P Go.Proofs.Ytgllncnfhiiobaa.Lw Go.Proofs.Ytgllncnfhiiobaa.Sw

/-- The sign that closes what a token opens, and the kind of the node around; or nothing. -/
def endT (t : S102) : ByteArray × Int :=
  if t.f0 = 3 then
    if t.f1.toList == [40] then (⟨#[41]⟩, 0) else if t.f1.toList == [91] then (⟨#[93]⟩, 5) else if t.f1.toList == [123] then (⟨#[125]⟩, 6) else (⟨#[]⟩, 0)
  else (⟨#[]⟩, 0)
def wrapR (k : Int) (n : S78) : S78 := ⟨k, ⟨#[]⟩, [n]⟩
def oneR (k : Int) : List S78 → S78
  | [x] => x
  | l => ⟨k, ⟨#[]⟩, l⟩
/-- No item begins here. -/
def stopT (t : S102) (s : RS) : Bool := (s.e != 0) || (decide (2 < t.f0) && (endT t).1.toList.isEmpty)
/-- An item without its sign; s: the state behind the look at the token t; nothing: the row is at its end. -/
def itemR (Alt : RS → Option (S78 × RS)) (ts : List S102) (t : S102) (s : RS) : Option (Option S78 × RS) :=
  if stopT t s then some (none, s)
  else if (endT t).1.toList.isEmpty then some (some ⟨t.f0, t.f1, []⟩, s.next)
  else if s.op = 16 then some (none, badT t s 11)
  else (Alt { s with at_ := s.at_ + 1, op := wrap64 (s.op + 1) }).bind fun r =>
    match ts[r.2.at_]? with
    | none => none
    | some t2 =>
      if (needT t2 r.2 (endT t).1).e = 0 then
        some (some (if 0 < (endT t).2 then wrapR (endT t).2 r.1 else r.1), { needT t2 r.2 (endT t).1 with op := wrap64 ((needT t2 r.2 (endT t).1).op - 1) })
      else some (none, needT t2 r.2 (endT t).1)
/-- The kind that the sign behind an item tells, or 0. -/
def suf1 (t : S102) (s : RS) : Int := if isT t s ⟨#[63]⟩ then 5 else 0
def suf2 (t : S102) (s : RS) : Int := if isT t s ⟨#[42]⟩ then 6 else suf1 t s
def sufK (t : S102) (s : RS) : Int := if isT t s ⟨#[43]⟩ then 7 else suf2 t s
def sufT (t : S102) (s : RS) (x : S78) : S78 × RS :=
  if 0 < sufK t s then (wrapR (sufK t s) x, (lookT t s).next) else (x, lookT t s)
def rowR (Alt : RS → Option (S78 × RS)) (ts : List S102) : Nat → RS → List S78 → Option (List S78 × RS)
  | 0, _, _ => none
  | n + 1, s, acc =>
    match ts[s.at_]? with
    | none => none
    | some t =>
      (itemR Alt ts t (lookT t s)).bind fun r =>
        match r.1 with
        | none => some (acc, r.2)
        | some x =>
          match ts[r.2.at_]? with
          | none => none
          | some t2 => rowR Alt ts n (sufT t2 r.2 x).2 (acc ++ [(sufT t2 r.2 x).1])
def altLR (Alt : RS → Option (S78 × RS)) (ts : List S102) (m : Nat) : Nat → RS → List S78 → Option (List S78 × RS)
  | 0, _, _ => none
  | n + 1, s, acc =>
    match ts[s.at_]? with
    | none => none
    | some t => if isT t s ⟨#[124]⟩ then (rowR Alt ts m (lookT t s).next []).bind fun r => altLR Alt ts m n r.2 (acc ++ [oneR 3 r.1]) else some (acc, lookT t s)
/-- An alternation; n: rounds. -/
def altR (ts : List S102) : Nat → RS → Option (S78 × RS)
  | 0, _ => none
  | n + 1, s => (rowR (altR ts n) ts (n + 1) s []).bind fun r => (altLR (altR ts n) ts (n + 1) (n + 1) r.2 [oneR 3 r.1]).map fun q => (oneR 4 q.1, q.2)
/-- A rule; s: the state behind the look at its first token t, and behind what is told of too many rules. -/
def ruleR (ts : List S102) (m : Nat) (t : S102) (s : RS) : Option (S80 × RS) :=
  let a := nameT t s
  (if a.2.e = 0 then match ts[a.2.at_]? with
    | none => none
    | some t2 => some (needT t2 a.2 ⟨#[58]⟩) else some a.2).bind fun s2 =>
  (if s2.e = 0 then altR ts m s2 else some (⟨0, ⟨#[]⟩, []⟩, s2)).bind fun b =>
  (if b.2.e = 0 then match ts[b.2.at_]? with
    | none => none
    | some t2 => some (needT t2 b.2 ⟨#[59]⟩) else some b.2).map fun s4 => (⟨a.1, b.1⟩, s4)
def rulesR (ts : List S102) (m : Nat) : Nat → RS → List S80 → Option (List S80 × RS)
  | 0, _, _ => none
  | n + 1, s, acc =>
    if s.e = 0 then
      match ts[s.at_]? with
      | none => none
      | some t =>
        if t.f0 = 4 ∧ 0 < acc.length then some (acc, lookT t s)
        else (ruleR ts m t (if t.f0 = 1 ∧ acc.length = 64 then badT t (lookT t s) 6 else lookT t s)).bind fun r => rulesR ts m n r.2 (acc ++ [r.1])
    else some (acc, s)
theorem badT_kept {t : S102} {s : RS} (h : s.e ≠ 0) (x : Int) : badT t s x = s := if_neg h
theorem lookT_kept {t : S102} {s : RS} (h : s.e ≠ 0) : lookT t s = s := by
  unfold lookT
  split
  · exact badT_kept h 6
  · rfl
theorem lookT_look (t : S102) (s : RS) : lookT t (lookT t s) = lookT t s := by
  cases h : farR s.at_ t
  · have e : lookT t s = s := by unfold lookT; rw [h]; rfl
    rw [e, e]
  · have e : lookT t s = badT t s 6 := by unfold lookT; rw [h]; rfl
    refine lookT_kept ?_
    rw [e]
    unfold badT
    split
    · exact fun h => by cases h
    · assumption
theorem isT_look (t : S102) (s : RS) (x : ByteArray) : isT t (lookT t s) x = isT t s x := by
  unfold isT
  rw [lookT_look]
end Go.Proofs.Ytgllncnfhiiobaa.Rw
