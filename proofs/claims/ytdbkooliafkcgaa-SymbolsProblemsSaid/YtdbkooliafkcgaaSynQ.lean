/- Plain laws of the parser: more rounds tell the same; enough rounds tell something; a part that is read hangs on its tokens alone. A text's tokens, but for their places, do not hang on the place where it begins; the tokens of a text, as the parser wants them. Plain laws of the parser: rules that are read again elsewhere. -/
import Derived.Test.YtdbkooliafkcgaaSynB
import Derived.Test.YtdbkooliafkcgaaLexP
import Derived.Test.YtdbkooliafkcgaaLexExt
set_option linter.unusedVariables false
set_option linter.unusedSimpArgs false
namespace Go.Proofs.Ytdbkooliafkcgaa.Sw
open Go.RowKit Go.Proofs.YtdbkooliafkcgaaW.PrintWords Go.Proofs.Ytdbkooliafkcgaa Go.Proofs.Ytdbkooliafkcgaa.P

section
variable {ts : List S94} {op i : Nat}
/-! ### More rounds -/
variable {A B : Nat → Nat → Option (PR S48)}
/-! ### Enough rounds -/
/-- The tokens of a text: the last one is the end, and it alone. -/
structure Toks (ts : List S94) : Prop where
  pos : 0 < ts.length
  next : ∀ i t, ts[i]? = some t → t.f0 ≠ 4 → i + 1 < ts.length
theorem tok_at {i : Nat} (h : i < ts.length) : ∃ t, ts[i]? = some t := ⟨ts[i], List.getElem?_eq_getElem h⟩
/-- It tells something, and stays among the tokens. -/
def Tells {α : Type} (ts : List S94) (x : Option (PR α)) : Prop := ∃ r, x = some r ∧ ∀ a j, r = .ok a j → j < ts.length
theorem Tells.ok {α : Type} {a : α} {j : Nat} (h : j < ts.length) : Tells ts (some (.ok a j)) := ⟨_, rfl, fun _ _ e => by cases e; exact h⟩
theorem Tells.bad {α : Type} {l k e : Int} : Tells ts (some (.bad l k e : PR α)) := ⟨_, rfl, fun _ _ e => by cases e⟩
theorem Tells.peek {β : Type} {k : S94 → Option (PR β)} (h : i < ts.length) (hk : ∀ t, ts[i]? = some t → Tells ts (k t)) : Tells ts (peekP ts i k) := by
  obtain ⟨t, ht⟩ := tok_at h
  unfold peekP
  rw [ht]
  simp only []
  split
  · exact Tells.bad
  · exact hk t ht
theorem Tells.bind {α β : Type} {x : Option (PR α)} {k : α → Nat → Option (PR β)} (hx : Tells ts x) (hk : ∀ a j, x = some (.ok a j) → j < ts.length → Tells ts (k a j)) : Tells ts (andThen x k) := by
  obtain ⟨r, rfl, hr⟩ := hx
  cases r with
  | bad l c e => exact Tells.bad
  | ok a j => exact hk a j rfl (hr a j rfl)
theorem Tells.map {α β : Type} {f : α → β} {x : Option (PR α)} (hx : Tells ts x) : Tells ts (x.map (PR.map f)) := by
  obtain ⟨r, rfl, hr⟩ := hx
  cases r with
  | bad l c e => exact Tells.bad
  | ok a j => exact Tells.ok (hr a j rfl)
theorem takeP_tells (T : Toks ts) (h : i < ts.length) (s : ByteArray) : Tells ts (takeP ts i s) := by
  refine Tells.peek h fun t ht => ?_
  split
  · rename_i hs
    exact Tells.ok (T.next i t ht (by have := signB_kind hs; omega))
  · exact Tells.bad
theorem nameP_tells (T : Toks ts) (h : i < ts.length) : Tells ts (nameP ts i) := by
  refine Tells.peek h fun t ht => ?_
  split
  · rename_i hs
    exact Tells.ok (T.next i t ht (by omega))
  · exact Tells.bad
def AltT (ts : List S94) (b : Nat) (A : Nat → Nat → Option (PR S48)) : Prop := ∀ op i, i < ts.length → ts.length < i + b → Tells ts (A op i)
theorem aroundP_tells (T : Toks ts) {b : Nat} (H : AltT ts b A) {t : S94} (ht : ts[i]? = some t) (hk : t.f0 ≠ 4) (hb : ts.length < i + 1 + b) (s : ByteArray) : Tells ts (aroundP A ts op i s) := by
  unfold aroundP
  rw [ht]
  simp only []
  split
  · exact Tells.bad
  · exact (H _ _ (T.next i t ht hk) hb).bind fun n j _ hj => (takeP_tells T hj s).bind fun _ k _ hk => Tells.ok hk
theorem atomP_tells (T : Toks ts) {b : Nat} (H : AltT ts b A) (h : i < ts.length) (hb : ts.length < i + 1 + b) : Tells ts (atomP A ts op i) := by
  refine Tells.peek h fun t ht => ?_
  split
  · exact Tells.ok (T.next i t ht (by omega))
  · split
    · exact Tells.ok (T.next i t ht (by omega))
    · split
      · rename_i hs
        exact (aroundP_tells T H ht (by have := signB_kind hs; omega) hb _).map
      · split
        · rename_i hs
          exact (aroundP_tells T H ht (by have := signB_kind hs; omega) hb _).map
        · split
          · rename_i hs
            exact (aroundP_tells T H ht (by have := signB_kind hs; omega) hb _).map
          · exact Tells.ok h
theorem suffP_tells (T : Toks ts) (h : i < ts.length) (n : S48) : Tells ts (suffP ts i n) := by
  refine Tells.peek h fun t ht => ?_
  repeat' split
  all_goals first
    | exact Tells.ok h
    | (rename_i hs; exact Tells.ok (T.next i t ht (by have := signB_kind hs; omega)))
theorem rowL_tells (T : Toks ts) {b : Nat} (H : AltT ts b A) (HM : AltM A) : ∀ {n i : Nat} {acc : List S48}, i < ts.length → ts.length < i + 1 + b → ts.length < i + n → Tells ts (rowL A ts op n i acc)
  | 0, i, acc, h, _, hn => by omega
  | n + 1, i, acc, h, hb, hn => by
    unfold rowL
    refine (atomP_tells T H h hb).bind fun x j hx hj => ?_
    cases x with
    | none => exact Tells.ok hj
    | some x =>
      have h1 := (atomP_ok HM hx).2
      refine (suffP_tells T hj x).bind fun y k hy hk => ?_
      have h2 := suffP_ok hy
      exact rowL_tells T H HM hk (by omega) (by omega)
theorem altL_tells (T : Toks ts) {b m : Nat} (H : AltT ts b A) (HM : AltM A) : ∀ {n i : Nat} {acc : List S48}, i < ts.length → ts.length < i + 1 + b → ts.length < i + m → ts.length < i + n → Tells ts (altL A ts m op n i acc)
  | 0, i, acc, h, _, _, hn => by omega
  | n + 1, i, acc, h, hb, hm, hn => by
    unfold altL
    refine Tells.peek h fun t ht => ?_
    split
    · rename_i hs
      have hi := T.next i t ht (by have := signB_kind hs; omega)
      refine (Tells.map (rowL_tells T H HM hi (by omega) (by omega))).bind fun x j hx hj => ?_
      have h1 := rowP_ok HM hx
      exact altL_tells T H HM hj (by omega) (by omega) (by omega)
    · exact Tells.ok h
theorem altP_tells (T : Toks ts) : ∀ n, AltT ts n (altP ts n)
  | 0 => fun _ _ _ _ => by omega
  | n + 1 => fun op i h hb => by
    unfold altP
    refine Tells.map ((Tells.map (rowL_tells T (altP_tells T n) (altP_ok n) h (by omega) (by omega))).bind fun x j hx hj => ?_)
    have h1 := rowP_ok (altP_ok n) hx
    exact altL_tells T (altP_tells T n) (altP_ok n) hj (by omega) (by omega) (by omega)
theorem nameP_ok {s : ByteArray} {j : Nat} (h : nameP ts i = some (.ok s j)) : j = i + 1 := by
  obtain ⟨t, ht, ⟨hf, hh⟩ | ⟨hf, hh⟩⟩ := peekP_some h
  · cases hh
  · split at hh
    · cases hh; rfl
    · cases hh
theorem rulesL_tells (T : Toks ts) {m : Nat} : ∀ {n i : Nat} {first : Bool} {acc : List S50}, i < ts.length → ts.length < i + m → ts.length < i + n → Tells ts (rulesL ts m n first i acc)
  | 0, _, _, _, _, _, _ => by omega
  | n + 1, i, first, acc, h, hm, hn => by
    unfold rulesL
    refine Tells.peek h fun t ht => ?_
    split
    · exact Tells.ok h
    · split
      · exact Tells.bad
      · refine (nameP_tells T h).bind fun nm j hj0 hj => ?_
        have e1 := nameP_ok hj0
        refine (takeP_tells T hj _).bind fun _ k hk0 hk => ?_
        have e2 := takeP_ok hk0
        refine (altP_tells T m 0 k hk (by omega)).bind fun b l hl0 hl => ?_
        have e3 := altP_ok m _ _ _ _ hl0
        refine (takeP_tells T hl _).bind fun _ o ho0 ho => ?_
        have e4 := takeP_ok ho0
        exact rulesL_tells T ho (by omega) (by omega)
theorem startP_tells (T : Toks ts) : Tells ts (startP ts) := by
  refine Tells.peek T.pos fun t ht => ?_
  split
  · rename_i hs
    refine (nameP_tells T (T.next 0 t ht (by have := signB_kind hs; omega))).bind fun s j _ hj => ?_
    exact (takeP_tells T hj _).bind fun _ k _ hk => Tells.ok hk
  · exact Tells.ok T.pos
theorem grammarP_tells (T : Toks ts) {n : Nat} (hn : ts.length < n) : ∃ r, grammarP ts n = some r := by
  have : Tells ts (grammarP ts n) := (startP_tells T).bind fun s i _ hi => (rulesL_tells T hi (by omega) (by omega)).map
  exact ⟨this.choose, this.choose_spec.1⟩
end

/-! ### A part that is read hangs on its tokens alone -/
/-- What the parser looks at in a token. -/
def key (t : S94) : Int × ByteArray := (t.f0, t.f1)
section
variable {ts us : List S94} {op i d : Nat}
variable {A B : Nat → Nat → Option (PR S48)}
end
end Go.Proofs.Ytdbkooliafkcgaa.Sw

set_option linter.unusedVariables false
set_option linter.unusedSimpArgs false
namespace Go.Proofs.Ytdbkooliafkcgaa.Lx

end Go.Proofs.Ytdbkooliafkcgaa.Lx
namespace Go.Proofs.Ytdbkooliafkcgaa.Sw
open Go.RowKit Go.Proofs.YtdbkooliafkcgaaW.PrintWords Go.Proofs.Ytdbkooliafkcgaa Go.Proofs.Ytdbkooliafkcgaa.P
theorem toks_of_scan {s : List UInt8} {ts : List Lx.Tok} (h : Lx.scan s = .ok ts) : Toks (ts.map toS) := by
  obtain ⟨init, e, rfl, hv, he, _⟩ := Lx.scan_valid h
  refine ⟨by simp, fun i t ht hk => ?_⟩
  rw [List.getElem?_map] at ht
  obtain ⟨u, hu, rfl⟩ : ∃ u, (init ++ [e])[i]? = some u ∧ toS u = t := by
    cases hx : (init ++ [e])[i]? with
    | none => rw [hx] at ht; cases ht
    | some u => rw [hx] at ht; exact ⟨u, rfl, Option.some.inj ht⟩
  rw [List.length_map, List.length_append]
  rcases Nat.lt_or_ge i init.length with hi | hi
  · simp; omega
  · exfalso
    rw [List.getElem?_append_right hi] at hu
    have hlen := (List.getElem?_eq_some_iff.1 hu).1
    have e0 : i - init.length = 0 := by simp at hlen; omega
    rw [e0] at hu
    cases hu
    exact hk he.1
theorem parse_total (s : ByteArray) : ∃ r, (match Lx.scan s.data.toList with
    | .error f => some (.bad f.p.1 f.p.2 f.code)
    | .ok ts => grammarP (ts.map toS) (ts.length + 2)) = some (r : PR S25) := by
  cases h : Lx.scan s.data.toList with
  | error f => exact ⟨_, rfl⟩
  | ok ts => exact grammarP_tells (toks_of_scan h) (by simp)
end Go.Proofs.Ytdbkooliafkcgaa.Sw

set_option linter.unusedVariables false
set_option linter.unusedSimpArgs false
namespace Go.Proofs.Ytdbkooliafkcgaa.Sw
open Go.RowKit Go.Proofs.YtdbkooliafkcgaaW.PrintWords Go.Proofs.Ytdbkooliafkcgaa Go.Proofs.Ytdbkooliafkcgaa.P

section
variable {ts us : List S94} {op i d : Nat}
theorem rulesL_ok {m : Nat} : ∀ {n i : Nat} {first : Bool} {acc l : List S50} {j : Nat}, rulesL ts m n first i acc = some (.ok l j) → i ≤ j ∧ acc.length ≤ l.length ∧ (first = true → i < j) ∧ ∃ t, ts[j]? = some t ∧ t.f0 = 4
  | 0, _, _, _, _, _, h => by simp [rulesL] at h
  | n + 1, i, first, acc, l, j, h => by
    unfold rulesL at h
    obtain ⟨t, ht, ⟨_, hk⟩ | ⟨_, hk⟩⟩ := peekP_some h
    · cases hk
    · split at hk
      · rename_i hs
        cases hk
        simp only [Bool.and_eq_true, Bool.not_eq_true', beq_iff_eq] at hs
        exact ⟨Nat.le_refl _, Nat.le_refl _, fun hf => (by rw [hf] at hs; cases hs.1), t, ht, hs.2⟩
      · split at hk
        · cases hk
        · rcases andThen_some hk with ⟨_, _, _, _, hh⟩ | ⟨nm, j1, h1, hk⟩
          · cases hh
          · rcases andThen_some hk with ⟨_, _, _, _, hh⟩ | ⟨_, j2, h2, hk⟩
            · cases hh
            · rcases andThen_some hk with ⟨_, _, _, _, hh⟩ | ⟨b, j3, h3, hk⟩
              · cases hh
              · rcases andThen_some hk with ⟨_, _, _, _, hh⟩ | ⟨_, j4, h4, hk⟩
                · cases hh
                · have e1 := nameP_ok h1
                  have e2 := takeP_ok h2
                  have e3 := altP_ok m _ _ _ _ h3
                  have e4 := takeP_ok h4
                  obtain ⟨e5, e6, _, e7⟩ := rulesL_ok hk
                  rw [List.length_append, List.length_singleton] at e6
                  exact ⟨by omega, by omega, fun _ => by omega, e7⟩
theorem rulesL_count {m : Nat} : ∀ {n i : Nat} {first : Bool} {acc l : List S50} {j : Nat}, rulesL ts m n first i acc = some (.ok l j) → acc.length ≤ 64 → l.length ≤ 64
  | 0, _, _, _, _, _, h, _ => by simp [rulesL] at h
  | n + 1, i, first, acc, l, j, h, ha => by
    unfold rulesL at h
    obtain ⟨t, ht, ⟨_, hk⟩ | ⟨_, hk⟩⟩ := peekP_some h
    · cases hk
    · split at hk
      · cases hk; exact ha
      · split at hk
        · cases hk
        · rename_i hb
          rcases andThen_some hk with ⟨_, _, _, _, hh⟩ | ⟨nm, j1, h1, hk⟩
          · cases hh
          · rcases andThen_some hk with ⟨_, _, _, _, hh⟩ | ⟨_, j2, h2, hk⟩
            · cases hh
            · rcases andThen_some hk with ⟨_, _, _, _, hh⟩ | ⟨b, j3, h3, hk⟩
              · cases hh
              · rcases andThen_some hk with ⟨_, _, _, _, hh⟩ | ⟨_, j4, h4, hk⟩
                · cases hh
                · have hkind := nameP_kind ht h1
                  refine rulesL_count hk ?_
                  rw [List.length_append, List.length_singleton]
                  have : acc.length ≠ 64 := fun e => hb ⟨hkind, e⟩
                  omega
theorem rulesL_first {m n i : Nat} {l : List S50} {j : Nat} (h : rulesL ts m n true i [] = some (.ok l j)) : 0 < l.length := by
  cases n with
  | zero => simp [rulesL] at h
  | succ n =>
    unfold rulesL at h
    obtain ⟨t, ht, ⟨_, hk⟩ | ⟨_, hk⟩⟩ := peekP_some h
    · cases hk
    · rw [if_neg (by simp)] at hk
      split at hk
      · cases hk
      · rcases andThen_some hk with ⟨_, _, _, _, hh⟩ | ⟨nm, j1, h1, hk⟩
        · cases hh
        · rcases andThen_some hk with ⟨_, _, _, _, hh⟩ | ⟨_, j2, h2, hk⟩
          · cases hh
          · rcases andThen_some hk with ⟨_, _, _, _, hh⟩ | ⟨b, j3, h3, hk⟩
            · cases hh
            · rcases andThen_some hk with ⟨_, _, _, _, hh⟩ | ⟨_, j4, h4, hk⟩
              · cases hh
              · have := (rulesL_ok hk).2.1
                rw [List.length_append, List.length_singleton] at this
                omega
/-! ### Faults have codes -/
/-! ### Reading again what was compared -/
end
end Go.Proofs.Ytdbkooliafkcgaa.Sw
