/- Quoted literals, read again: plain laws of the scanner. Tokens that were read, written again with blanks between: plain laws of the scanner. Two texts that are read, with a newline between: plain laws of the scanner. -/
import Derived.Test.YtdbkooliafkcgaaLexA
set_option linter.unusedVariables false
set_option linter.unusedSimpArgs false
namespace Go.Proofs.Ytdbkooliafkcgaa.Lx

def hexd (n : Nat) : UInt8 := ([48, 49, 50, 51, 52, 53, 54, 55, 56, 57, 97, 98, 99, 100, 101, 102] : List UInt8).getD n 0
/-- A byte in a literal whose quote is q. -/
def qb (q c : UInt8) : List UInt8 :=
  if c = q ∨ c.toNat = 92 then [92, c] else if c.toNat = 10 then [92, 110] else if c.toNat = 9 then [92, 116]
  else if c.toNat < 32 ∨ 126 < c.toNat then [92, 120, hexd (c.toNat / 16), hexd (c.toNat % 16)] else [c]
def quoteC (s : List UInt8) : UInt8 := if s.count 39 > s.count 34 then 34 else 39
def quote (s : List UInt8) : List UInt8 := quoteC s :: (s.flatMap (qb (quoteC s)) ++ [quoteC s])

end Go.Proofs.Ytdbkooliafkcgaa.Lx

set_option linter.unusedVariables false
set_option linter.unusedSimpArgs false
namespace Go.Proofs.Ytdbkooliafkcgaa.Lx

/-- A token that is not the end. -/
def V (t : Tok) : Prop :=
  (t.kind = 1 ∧ ∃ c cs, t.text = c :: cs ∧ letter c = true ∧ (c :: cs).all inName = true ∧ (c :: cs).length ≤ 32) ∨
  (t.kind = 2 ∧ t.text ≠ [] ∧ t.text.length ≤ 16) ∨ (t.kind = 3 ∧ ∃ c, t.text = [c] ∧ isSign c = true)
def IsEnd (t : Tok) : Prop := t.kind = 4 ∧ t.text = []
theorem nameL_all (l : List UInt8) : ∀ p : Int × Int, (nameL l p).1.all inName = true := by
  induction l with
  | nil => intro p; rfl
  | cons c cs ih =>
    intro p
    unfold nameL
    split
    · rename_i h
      simp only [List.all_cons, h, Bool.true_and]
      exact ih _
    · rfl
theorem token_valid {c : UInt8} {cs : List UInt8} {p : Int × Int} {t : Tok} {r : List UInt8 × (Int × Int)} (h : token c cs p = .ok (t, r)) : V t := by
  unfold token at h
  split at h
  · rename_i hl
    split at h
    · cases h
    · rename_i hlen
      injection h with h
      injection h with h1 h2
      subst h1
      have hin := letter_inName hl
      refine Or.inl ⟨rfl, c, (nameL cs (adv c p)).1, ?_, hl, ?_, ?_⟩
      · simp only [nameL, if_pos hin]
      · simp only [List.all_cons, hin, Bool.true_and]
        exact nameL_all _ _
      · simp only [nameL, if_pos hin] at hlen
        omega
  · split at h
    · split at h
      · cases h
      · split at h
        · cases h
        · split at h
          · cases h
          · injection h with h
            injection h with h1 h2
            subst h1
            exact Or.inr (Or.inl ⟨rfl, by assumption, by simp only; omega⟩)
    · split at h
      · rename_i hs
        injection h with h
        injection h with h1 h2
        subst h1
        exact Or.inr (Or.inr ⟨rfl, c, rfl, hs⟩)
      · cases h
theorem scanF_valid (n : Nat) : ∀ (l : List UInt8) (p : Int × Int) (acc ts : List Tok), scanF n l p acc = .ok ts → ∃ (init : List Tok) (e : Tok), ts = acc ++ init ++ [e] ∧ (∀ t ∈ init, V t) ∧ IsEnd e ∧ init.length ≤ n := by
  induction n with
  | zero => intro l p acc ts h; simp [scanF] at h
  | succ n ih =>
    intro l p acc ts h
    unfold scanF at h
    split at h
    · rename_i p' hk
      injection h with h
      subst h
      exact ⟨[], ⟨4, [], p'⟩, by simp, by simp, ⟨rfl, rfl⟩, by simp⟩
    · split at h
      · cases h
      · rename_i t rest p'' ht
        obtain ⟨init, e, h1, h2, h3, h4⟩ := ih _ _ _ _ h
        refine ⟨t :: init, e, by simp [h1], ?_, h3, by simp; omega⟩
        intro u hu
        rcases List.mem_cons.1 hu with rfl | hu
        · exact token_valid ht
        · exact h2 u hu
theorem scan_valid {s : List UInt8} {ts : List Tok} (h : scan s = .ok ts) : ∃ (init : List Tok) (e : Tok), ts = init ++ [e] ∧ (∀ t ∈ init, V t) ∧ IsEnd e ∧ init.length ≤ s.length + 1 := by
  unfold scan at h
  split at h
  · cases h
  · obtain ⟨init, e, h1, h2, h3, h4⟩ := scanF_valid _ _ _ _ _ h
    exact ⟨init, e, by simpa using h1, h2, h3, h4⟩

end Go.Proofs.Ytdbkooliafkcgaa.Lx

set_option linter.unusedVariables false
set_option linter.unusedSimpArgs false
namespace Go.Proofs.Ytdbkooliafkcgaa.Lx

end Go.Proofs.Ytdbkooliafkcgaa.Lx
