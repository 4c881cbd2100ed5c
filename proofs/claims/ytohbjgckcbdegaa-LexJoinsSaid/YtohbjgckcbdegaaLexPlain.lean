/- Quoted literals, read again: plain laws of the scanner. -/
import Derived.Test.YtohbjgckcbdegaaLexLaws
set_option linter.unusedVariables false
set_option linter.unusedSimpArgs false
namespace Go.Proofs.Ytohbjgckcbdegaa.Lx

def hexd (n : Nat) : UInt8 := ([48, 49, 50, 51, 52, 53, 54, 55, 56, 57, 97, 98, 99, 100, 101, 102] : List UInt8).getD n 0
/-- A byte in a literal whose quote is q. -/
def qb (q c : UInt8) : List UInt8 :=
  if c = q ∨ c.toNat = 92 then [92, c] else if c.toNat = 10 then [92, 110] else if c.toNat = 9 then [92, 116]
  else if c.toNat < 32 ∨ 126 < c.toNat then [92, 120, hexd (c.toNat / 16), hexd (c.toNat % 16)] else [c]
def quoteC (s : List UInt8) : UInt8 := if s.count 39 > s.count 34 then 34 else 39
def quote (s : List UInt8) : List UInt8 := quoteC s :: (s.flatMap (qb (quoteC s)) ++ [quoteC s])

theorem bytes_all {P : UInt8 → Prop} (h : ∀ n, n < 256 → P (UInt8.ofNat n)) (c : UInt8) : P c := by
  have := h c.toNat c.toNat_lt
  rwa [UInt8.ofNat_toNat] at this
theorem quoteC_or (s : List UInt8) : quoteC s = 34 ∨ quoteC s = 39 := by
  unfold quoteC
  split
  · exact Or.inl rfl
  · exact Or.inr rfl
theorem hexv_hi (c : UInt8) : hexv (hexd (c.toNat / 16)) = some (c.toNat / 16) := by
  revert c
  exact bytes_all (by decide +kernel)
theorem hexv_lo (c : UInt8) : hexv (hexd (c.toNat % 16)) = some (c.toNat % 16) := by
  revert c
  exact bytes_all (by decide +kernel)
theorem hex_both (c : UInt8) : UInt8.ofNat (16 * (c.toNat / 16) + c.toNat % 16) = c := by
  rw [Nat.div_add_mod]
  exact UInt8.ofNat_toNat
theorem qb_len (q c : UInt8) : (qb q c).length ≤ 4 := by unfold qb; (repeat' split) <;> simp
theorem qb_pos (q c : UInt8) : 1 ≤ (qb q c).length := by unfold qb; (repeat' split) <;> simp
theorem quote_len (s : List UInt8) : (quote s).length ≤ 4 * s.length + 2 := by
  have : ∀ q (l : List UInt8), (l.flatMap (qb q)).length ≤ 4 * l.length := by
    intro q l
    induction l with
    | nil => simp
    | cons c cs ih => have := qb_len q c; rw [List.flatMap_cons, List.length_append, List.length_cons]; omega
  have := this (quoteC s) s
  simp only [quote, List.length_cons, List.length_append, List.length_nil]
  omega
/-- A byte of a literal is read as it was. -/
theorem lit_byte {q : UInt8} (hq : q = 34 ∨ q = 39) (c : UInt8) (n : Nat) (l : List UInt8) (p : Int × Int) (out : List UInt8) :
    lit q (n + 1) (qb q c ++ l) p out = lit q n l ((qb q c).foldl (fun p c => adv c p) p) (out ++ [c]) := by
  have h92 : ¬ ((92 : UInt8) = q) := by rcases hq with rfl | rfl <;> decide
  have e92 : (92 : UInt8).toNat = 92 := rfl
  unfold qb
  split
  · rename_i h
    have hc : c.toNat = 92 ∨ c.toNat = 39 ∨ c.toNat = 34 := by
      rcases h with h | h
      · subst h; rcases hq with rfl | rfl <;> decide
      · exact Or.inl h
    show lit q (n + 1) (92 :: c :: l) p out = _
    rw [lit, if_neg h92, if_pos e92]
    simp only [esc, if_pos hc]
    rfl
  · rename_i h
    split
    · rename_i h10
      show lit q (n + 1) (92 :: 110 :: l) p out = _
      rw [lit, if_neg h92, if_pos e92]
      have : c = 10 := UInt8.toNat_inj.1 h10
      subst this
      simp only [esc, show ¬ ((110 : UInt8).toNat = 92 ∨ (110 : UInt8).toNat = 39 ∨ (110 : UInt8).toNat = 34) by decide, if_false, show (110 : UInt8).toNat = 110 from rfl, if_true]
      rfl
    · split
      · rename_i h9
        show lit q (n + 1) (92 :: 116 :: l) p out = _
        rw [lit, if_neg h92, if_pos e92]
        have : c = 9 := UInt8.toNat_inj.1 h9
        subst this
        simp only [esc, show ¬ ((116 : UInt8).toNat = 92 ∨ (116 : UInt8).toNat = 39 ∨ (116 : UInt8).toNat = 34) by decide, show ¬ ((116 : UInt8).toNat = 110) by decide, if_false, show (116 : UInt8).toNat = 116 from rfl, if_true]
        rfl
      · split
        · show lit q (n + 1) (92 :: 120 :: hexd (c.toNat / 16) :: hexd (c.toNat % 16) :: l) p out = _
          rw [lit, if_neg h92, if_pos e92]
          simp only [esc, show ¬ ((120 : UInt8).toNat = 92 ∨ (120 : UInt8).toNat = 39 ∨ (120 : UInt8).toNat = 34) by decide, show ¬ ((120 : UInt8).toNat = 110) by decide, show ¬ ((120 : UInt8).toNat = 116) by decide, if_false, show (120 : UInt8).toNat = 120 from rfl, if_true]
          simp only [escX, hexv_hi, hexv_lo, hex_both]
          rfl
        · rename_i h9 hr
          show lit q (n + 1) (c :: l) p out = _
          rw [lit, if_neg (fun e => h (Or.inl e)), if_neg (fun e => h (Or.inr e)), if_neg hr]
          rfl
theorem lit_quoted {q : UInt8} (hq : q = 34 ∨ q = 39) (rest : List UInt8) (s : List UInt8) : ∀ (n : Nat) (p : Int × Int) (out : List UInt8), s.length < n →
    lit q n (s.flatMap (qb q) ++ q :: rest) p out = (some (out ++ s, rest), (s.flatMap (qb q) ++ [q]).foldl (fun p c => adv c p) p) := by
  induction s with
  | nil =>
    intro n p out hn
    obtain ⟨m, rfl⟩ : ∃ m, n = m + 1 := ⟨n - 1, by simp at hn; omega⟩
    simp [lit]
  | cons c cs ih =>
    intro n p out hn
    obtain ⟨m, rfl⟩ : ∃ m, n = m + 1 := ⟨n - 1, by simp at hn; omega⟩
    rw [List.flatMap_cons, List.append_assoc, lit_byte hq, ih m _ _ (by simp at hn; omega)]
    simp [List.foldl_append]
theorem adv_line (l : List UInt8) : ∀ p : Int × Int, (∀ c ∈ l, c.toNat ≠ 10) → l.foldl (fun p c => adv c p) p = (p.1, p.2 + l.length) := by
  induction l with
  | nil => intro p _; simp
  | cons c cs ih =>
    intro p h
    have h1 := h c (by simp)
    rw [List.foldl_cons, ih _ (fun d hd => h d (by simp [hd]))]
    simp only [adv, if_neg h1, List.length_cons]
    push_cast
    congr 1
    omega
theorem hexd_ne (n : Nat) : (hexd n).toNat ≠ 10 := by
  unfold hexd
  by_cases h : n < 16
  · revert h
    revert n
    decide
  · rw [List.getD_eq_getElem?_getD, List.getElem?_eq_none (by simp; omega)]
    decide
theorem qb_ne {q : UInt8} (hq : q = 34 ∨ q = 39) (c : UInt8) : ∀ d ∈ qb q c, d.toNat ≠ 10 := by
  intro d hd
  unfold qb at hd
  split at hd
  · rename_i h
    simp only [List.mem_cons, List.not_mem_nil, or_false] at hd
    rcases hd with rfl | rfl
    · decide
    · rcases h with h | h
      · subst h; rcases hq with rfl | rfl <;> decide
      · omega
  · split at hd
    · simp only [List.mem_cons, List.not_mem_nil, or_false] at hd
      rcases hd with rfl | rfl <;> decide
    · rename_i h10
      split at hd
      · simp only [List.mem_cons, List.not_mem_nil, or_false] at hd
        rcases hd with rfl | rfl <;> decide
      · split at hd
        · simp only [List.mem_cons, List.not_mem_nil, or_false] at hd
          rcases hd with rfl | rfl | rfl | rfl
          · decide
          · decide
          · exact hexd_ne _
          · exact hexd_ne _
        · simp only [List.mem_cons, List.not_mem_nil, or_false] at hd
          subst hd
          exact h10
theorem flat_len (q : UInt8) (s : List UInt8) : s.length ≤ (s.flatMap (qb q)).length := by
  induction s with
  | nil => simp
  | cons c cs ih => have := qb_pos q c; rw [List.flatMap_cons, List.length_append, List.length_cons]; omega
/-- The token of a quoted text. -/
theorem token_quoted (s rest : List UInt8) (p : Int × Int) :
    token (quoteC s) (s.flatMap (qb (quoteC s)) ++ quoteC s :: rest) p =
      if s = [] then .error ⟨p, 2⟩ else if s.length > 16 then .error ⟨p, 6⟩ else .ok (⟨2, s, p⟩, rest, (p.1, p.2 + (quote s).length)) := by
  have hq := quoteC_or s
  have hl : letter (quoteC s) = false := by rcases hq with h | h <;> rw [h] <;> decide
  have h3 : (quoteC s).toNat = 39 ∨ (quoteC s).toNat = 34 := by rcases hq with h | h <;> rw [h] <;> decide
  have h10 : (quoteC s).toNat ≠ 10 := by omega
  have hlen := flat_len (quoteC s) s
  unfold token
  rw [hl, if_neg (by simp), if_pos h3, lit_quoted hq rest s _ _ _ (by rw [List.length_append, List.length_cons]; omega)]
  simp only [List.nil_append]
  have hp : (s.flatMap (qb (quoteC s)) ++ [quoteC s]).foldl (fun p c => adv c p) (adv (quoteC s) p) = (p.1, p.2 + (quote s).length) := by
    rw [adv_line]
    · simp only [adv, if_neg h10, quote, List.length_cons, List.length_append, List.length_nil]
      push_cast
      congr 1
      omega
    · intro c hc
      rw [List.mem_append] at hc
      rcases hc with hc | hc
      · obtain ⟨d, _, hd⟩ := List.mem_flatMap.1 hc
        exact qb_ne hq d c hd
      · simp at hc
        subst hc
        exact h10
  rw [hp]
theorem quote_head (s : List UInt8) : (quoteC s).toNat ≠ 35 ∧ blank (quoteC s) = false := by
  rcases quoteC_or s with h | h <;> rw [h] <;> decide
theorem scan_quote (s : List UInt8) (h : s.length ≤ 10000) :
    scan (quote s) = if s = [] then .error ⟨(1, 1), 2⟩ else if s.length > 16 then .error ⟨(1, 1), 6⟩ else .ok [⟨2, s, (1, 1)⟩, ⟨4, [], (1, 1 + (quote s).length)⟩] := by
  have hlen := quote_len s
  obtain ⟨h35, hb⟩ := quote_head s
  unfold scan
  rw [if_neg (by omega)]
  have hs : skip false (quote s) (1, 1) = (quoteC s :: (s.flatMap (qb (quoteC s)) ++ [quoteC s]), (1, 1)) := by simp [quote, skip, h35, hb]
  have : (quote s).length = ((s.flatMap (qb (quoteC s)) ++ [quoteC s])).length + 1 := by simp [quote]
  have ht := token_quoted s [] (1, 1)
  generalize (quote s).length = m at *
  subst this
  unfold scanF
  rw [hs]
  simp only [ht]
  by_cases h1 : s = []
  · simp only [if_pos h1]
  · simp only [if_neg h1]
    by_cases h2 : s.length > 16
    · simp only [if_pos h2]
    · simp only [if_neg h2]
      unfold scanF
      simp [skip]
end Go.Proofs.Ytohbjgckcbdegaa.Lx
