/- Quoted literals, read again: plain laws of the scanner. Tokens that were read, written again with blanks between: plain laws of the scanner. Two texts that are read, with a newline between: plain laws of the scanner. -/
import Derived.Test.YtgllncnfhiiobaaLexA
set_option linter.unusedVariables false
set_option linter.unusedSimpArgs false
namespace Go.Proofs.Ytgllncnfhiiobaa.Lx

def hexd (n : Nat) : UInt8 := ([48, 49, 50, 51, 52, 53, 54, 55, 56, 57, 97, 98, 99, 100, 101, 102] : List UInt8).getD n 0
/-- A byte in a literal whose quote is q. -/
def qb (q c : UInt8) : List UInt8 :=
  if c = q ∨ c.toNat = 92 then [92, c] else if c.toNat = 10 then [92, 110] else if c.toNat = 9 then [92, 116]
  else if c.toNat < 32 ∨ 126 < c.toNat then [92, 120, hexd (c.toNat / 16), hexd (c.toNat % 16)] else [c]
def quoteC (s : List UInt8) : UInt8 := if s.count 39 > s.count 34 then 34 else 39
def quote (s : List UInt8) : List UInt8 := quoteC s :: (s.flatMap (qb (quoteC s)) ++ [quoteC s])

theorem bytes_all {P : UInt8 → Prop} (h : ∀ n, n < 256 → P (UInt8.ofNat n)) (c : UInt8) : P c := by
  have := h c.toNat c.toNat_lt
  rwa [UInt8.ofNat_toNat] at this
theorem quoteC_or (s : List UInt8) : quoteC s = 34 ∨ quoteC s = 39 := by
  unfold quoteC
  split
  · exact Or.inl rfl
  · exact Or.inr rfl
theorem hexv_hi (c : UInt8) : hexv (hexd (c.toNat / 16)) = some (c.toNat / 16) := by
  revert c
  exact bytes_all (by decide +kernel)
theorem hexv_lo (c : UInt8) : hexv (hexd (c.toNat % 16)) = some (c.toNat % 16) := by
  revert c
  exact bytes_all (by decide +kernel)
theorem hex_both (c : UInt8) : UInt8.ofNat (16 * (c.toNat / 16) + c.toNat % 16) = c := by
  rw [Nat.div_add_mod]
  exact UInt8.ofNat_toNat
theorem qb_len (q c : UInt8) : (qb q c).length ≤ 4 := by unfold qb; (repeat' split) <;> simp
theorem qb_pos (q c : UInt8) : 1 ≤ (qb q c).length := by unfold qb; (repeat' split) <;> simp
theorem quote_len (s : List UInt8) : (quote s).length ≤ 4 * s.length + 2 := by
  have : ∀ q (l : List UInt8), (l.flatMap (qb q)).length ≤ 4 * l.length := by
    intro q l
    induction l with
    | nil => simp
    | cons c cs ih => have := qb_len q c; rw [List.flatMap_cons, List.length_append, List.length_cons]; omega
  have := this (quoteC s) s
  simp only [quote, List.length_cons, List.length_append, List.length_nil]
  omega
/-- A byte of a literal is read as it was. -/
theorem lit_byte {q : UInt8} (hq : q = 34 ∨ q = 39) (c : UInt8) (n : Nat) (l : List UInt8) (p : Int × Int) (out : List UInt8) :
    lit q (n + 1) (qb q c ++ l) p out = lit q n l ((qb q c).foldl (fun p c => adv c p) p) (out ++ [c]) := by
  have h92 : ¬ ((92 : UInt8) = q) := by rcases hq with rfl | rfl <;> decide
  have e92 : (92 : UInt8).toNat = 92 := rfl
  unfold qb
  split
  · rename_i h
    have hc : c.toNat = 92 ∨ c.toNat = 39 ∨ c.toNat = 34 := by
      rcases h with h | h
      · subst h; rcases hq with rfl | rfl <;> decide
      · exact Or.inl h
    show lit q (n + 1) (92 :: c :: l) p out = _
    rw [lit, if_neg h92, if_pos e92]
    simp only [esc, if_pos hc]
    rfl
  · rename_i h
    split
    · rename_i h10
      show lit q (n + 1) (92 :: 110 :: l) p out = _
      rw [lit, if_neg h92, if_pos e92]
      have : c = 10 := UInt8.toNat_inj.1 h10
      subst this
      simp only [esc, show ¬ ((110 : UInt8).toNat = 92 ∨ (110 : UInt8).toNat = 39 ∨ (110 : UInt8).toNat = 34) by decide, if_false, show (110 : UInt8).toNat = 110 from rfl, if_true]
      rfl
    · split
      · rename_i h9
        show lit q (n + 1) (92 :: 116 :: l) p out = _
        rw [lit, if_neg h92, if_pos e92]
        have : c = 9 := UInt8.toNat_inj.1 h9
        subst this
        simp only [esc, show ¬ ((116 : UInt8).toNat = 92 ∨ (116 : UInt8).toNat = 39 ∨ (116 : UInt8).toNat = 34) by decide, show ¬ ((116 : UInt8).toNat = 110) by decide, if_false, show (116 : UInt8).toNat = 116 from rfl, if_true]
        rfl
      · split
        · show lit q (n + 1) (92 :: 120 :: hexd (c.toNat / 16) :: hexd (c.toNat % 16) :: l) p out = _
          rw [lit, if_neg h92, if_pos e92]
          simp only [esc, show ¬ ((120 : UInt8).toNat = 92 ∨ (120 : UInt8).toNat = 39 ∨ (120 : UInt8).toNat = 34) by decide, show ¬ ((120 : UInt8).toNat = 110) by decide, show ¬ ((120 : UInt8).toNat = 116) by decide, if_false, show (120 : UInt8).toNat = 120 from rfl, if_true]
          simp only [escX, hexv_hi, hexv_lo, hex_both]
          rfl
        · rename_i h9 hr
          show lit q (n + 1) (c :: l) p out = _
          rw [lit, if_neg (fun e => h (Or.inl e)), if_neg (fun e => h (Or.inr e)), if_neg hr]
          rfl
theorem lit_quoted {q : UInt8} (hq : q = 34 ∨ q = 39) (rest : List UInt8) (s : List UInt8) : ∀ (n : Nat) (p : Int × Int) (out : List UInt8), s.length < n →
    lit q n (s.flatMap (qb q) ++ q :: rest) p out = (some (out ++ s, rest), (s.flatMap (qb q) ++ [q]).foldl (fun p c => adv c p) p) := by
  induction s with
  | nil =>
    intro n p out hn
    obtain ⟨m, rfl⟩ : ∃ m, n = m + 1 := ⟨n - 1, by simp at hn; omega⟩
    simp [lit]
  | cons c cs ih =>
    intro n p out hn
    obtain ⟨m, rfl⟩ : ∃ m, n = m + 1 := ⟨n - 1, by simp at hn; omega⟩
    rw [List.flatMap_cons, List.append_assoc, lit_byte hq, ih m _ _ (by simp at hn; omega)]
    simp [List.foldl_append]
theorem adv_line (l : List UInt8) : ∀ p : Int × Int, (∀ c ∈ l, c.toNat ≠ 10) → l.foldl (fun p c => adv c p) p = (p.1, p.2 + l.length) := by
  induction l with
  | nil => intro p _; simp
  | cons c cs ih =>
    intro p h
    have h1 := h c (by simp)
    rw [List.foldl_cons, ih _ (fun d hd => h d (by simp [hd]))]
    simp only [adv, if_neg h1, List.length_cons]
    push_cast
    congr 1
    omega
theorem hexd_ne (n : Nat) : (hexd n).toNat ≠ 10 := by
  unfold hexd
  by_cases h : n < 16
  · revert h
    revert n
    decide
  · rw [List.getD_eq_getElem?_getD, List.getElem?_eq_none (by simp; omega)]
    decide
theorem qb_ne {q : UInt8} (hq : q = 34 ∨ q = 39) (c : UInt8) : ∀ d ∈ qb q c, d.toNat ≠ 10 := by
  intro d hd
  unfold qb at hd
  split at hd
  · rename_i h
    simp only [List.mem_cons, List.not_mem_nil, or_false] at hd
    rcases hd with rfl | rfl
    · decide
    · rcases h with h | h
      · subst h; rcases hq with rfl | rfl <;> decide
      · omega
  · split at hd
    · simp only [List.mem_cons, List.not_mem_nil, or_false] at hd
      rcases hd with rfl | rfl <;> decide
    · rename_i h10
      split at hd
      · simp only [List.mem_cons, List.not_mem_nil, or_false] at hd
        rcases hd with rfl | rfl <;> decide
      · split at hd
        · simp only [List.mem_cons, List.not_mem_nil, or_false] at hd
          rcases hd with rfl | rfl | rfl | rfl
          · decide
          · decide
          · exact hexd_ne _
          · exact hexd_ne _
        · simp only [List.mem_cons, List.not_mem_nil, or_false] at hd
          subst hd
          exact h10
theorem flat_len (q : UInt8) (s : List UInt8) : s.length ≤ (s.flatMap (qb q)).length := by
  induction s with
  | nil => simp
  | cons c cs ih => have := qb_pos q c; rw [List.flatMap_cons, List.length_append, List.length_cons]; omega
/-- The token of a quoted text. -/
theorem token_quoted (s rest : List UInt8) (p : Int × Int) :
    token (quoteC s) (s.flatMap (qb (quoteC s)) ++ quoteC s :: rest) p =
      if s = [] then .error ⟨p, 2⟩ else if s.length > 16 then .error ⟨p, 6⟩ else .ok (⟨2, s, p⟩, rest, (p.1, p.2 + (quote s).length)) := by
  have hq := quoteC_or s
  have hl : letter (quoteC s) = false := by rcases hq with h | h <;> rw [h] <;> decide
  have h3 : (quoteC s).toNat = 39 ∨ (quoteC s).toNat = 34 := by rcases hq with h | h <;> rw [h] <;> decide
  have h10 : (quoteC s).toNat ≠ 10 := by omega
  have hlen := flat_len (quoteC s) s
  unfold token
  rw [hl, if_neg (by simp), if_pos h3, lit_quoted hq rest s _ _ _ (by rw [List.length_append, List.length_cons]; omega)]
  simp only [List.nil_append]
  have hp : (s.flatMap (qb (quoteC s)) ++ [quoteC s]).foldl (fun p c => adv c p) (adv (quoteC s) p) = (p.1, p.2 + (quote s).length) := by
    rw [adv_line]
    · simp only [adv, if_neg h10, quote, List.length_cons, List.length_append, List.length_nil]
      push_cast
      congr 1
      omega
    · intro c hc
      rw [List.mem_append] at hc
      rcases hc with hc | hc
      · obtain ⟨d, _, hd⟩ := List.mem_flatMap.1 hc
        exact qb_ne hq d c hd
      · simp at hc
        subst hc
        exact h10
  rw [hp]
theorem quote_head (s : List UInt8) : (quoteC s).toNat ≠ 35 ∧ blank (quoteC s) = false := by
  rcases quoteC_or s with h | h <;> rw [h] <;> decide
theorem scan_quote (s : List UInt8) (h : s.length ≤ 10000) :
    scan (quote s) = if s = [] then .error ⟨(1, 1), 2⟩ else if s.length > 16 then .error ⟨(1, 1), 6⟩ else .ok [⟨2, s, (1, 1)⟩, ⟨4, [], (1, 1 + (quote s).length)⟩] := by
  have hlen := quote_len s
  obtain ⟨h35, hb⟩ := quote_head s
  unfold scan
  rw [if_neg (by omega)]
  have hs : skip false (quote s) (1, 1) = (quoteC s :: (s.flatMap (qb (quoteC s)) ++ [quoteC s]), (1, 1)) := by simp [quote, skip, h35, hb]
  have : (quote s).length = ((s.flatMap (qb (quoteC s)) ++ [quoteC s])).length + 1 := by simp [quote]
  have ht := token_quoted s [] (1, 1)
  generalize (quote s).length = m at *
  subst this
  unfold scanF
  rw [hs]
  simp only [ht]
  by_cases h1 : s = []
  · simp only [if_pos h1]
  · simp only [if_neg h1]
    by_cases h2 : s.length > 16
    · simp only [if_pos h2]
    · simp only [if_neg h2]
      unfold scanF
      simp [skip]
end Go.Proofs.Ytgllncnfhiiobaa.Lx

set_option linter.unusedVariables false
set_option linter.unusedSimpArgs false
namespace Go.Proofs.Ytgllncnfhiiobaa.Lx

/-- A token that is not the end. -/
def V (t : Tok) : Prop :=
  (t.kind = 1 ∧ ∃ c cs, t.text = c :: cs ∧ letter c = true ∧ (c :: cs).all inName = true ∧ (c :: cs).length ≤ 32) ∨
  (t.kind = 2 ∧ t.text ≠ [] ∧ t.text.length ≤ 16) ∨ (t.kind = 3 ∧ ∃ c, t.text = [c] ∧ isSign c = true)
def IsEnd (t : Tok) : Prop := t.kind = 4 ∧ t.text = []
/-- A token's bytes in a text. -/
def piece (t : Tok) : List UInt8 := if t.kind = 2 then quote t.text else t.text

theorem skip_first (b : Bool) (l : List UInt8) : ∀ (p : Int × Int) (c : UInt8) (cs : List UInt8) (p' : Int × Int), skip b l p = (c :: cs, p') → c.toNat ≠ 35 ∧ blank c = false ∧ (c :: cs).length ≤ l.length := by
  induction l generalizing b with
  | nil => intro p c cs p' h; simp [skip] at h
  | cons d ds ih =>
    intro p c cs p' h
    have wk : ∀ {b p1}, skip b ds p1 = (c :: cs, p') → c.toNat ≠ 35 ∧ blank c = false ∧ (c :: cs).length ≤ (d :: ds).length := by
      intro b p1 h
      obtain ⟨h1, h2, h3⟩ := ih b _ _ _ _ h
      exact ⟨h1, h2, by simp at h3 ⊢; omega⟩
    cases b with
    | true =>
      unfold skip at h
      split at h
      · exact wk h
      · exact wk h
    | false =>
      unfold skip at h
      split at h
      · exact wk h
      · split at h
        · exact wk h
        · rename_i h35 hb
          injection h with h1 h2
          injection h1 with h1 h3
          subst h1
          subst h3
          exact ⟨h35, by simpa using hb, Nat.le_refl _⟩
theorem nameL_all (l : List UInt8) : ∀ p : Int × Int, (nameL l p).1.all inName = true := by
  induction l with
  | nil => intro p; rfl
  | cons c cs ih =>
    intro p
    unfold nameL
    split
    · rename_i h
      simp only [List.all_cons, h, Bool.true_and]
      exact ih _
    · rfl
theorem token_valid {c : UInt8} {cs : List UInt8} {p : Int × Int} {t : Tok} {r : List UInt8 × (Int × Int)} (h : token c cs p = .ok (t, r)) : V t := by
  unfold token at h
  split at h
  · rename_i hl
    split at h
    · cases h
    · rename_i hlen
      injection h with h
      injection h with h1 h2
      subst h1
      have hin := letter_inName hl
      refine Or.inl ⟨rfl, c, (nameL cs (adv c p)).1, ?_, hl, ?_, ?_⟩
      · simp only [nameL, if_pos hin]
      · simp only [List.all_cons, hin, Bool.true_and]
        exact nameL_all _ _
      · simp only [nameL, if_pos hin] at hlen
        omega
  · split at h
    · split at h
      · cases h
      · split at h
        · cases h
        · split at h
          · cases h
          · injection h with h
            injection h with h1 h2
            subst h1
            exact Or.inr (Or.inl ⟨rfl, by assumption, by simp only; omega⟩)
    · split at h
      · rename_i hs
        injection h with h
        injection h with h1 h2
        subst h1
        exact Or.inr (Or.inr ⟨rfl, c, rfl, hs⟩)
      · cases h
theorem token_err {c : UInt8} {cs : List UInt8} {p : Int × Int} {f : Flt} (h : token c cs p = .error f) : f.code ≠ 0 := by
  unfold token at h
  split at h
  · split at h
    · injection h with h; subst h; simp
    · cases h
  · split at h
    · split at h
      · injection h with h; subst h; simp
      · split at h
        · injection h with h; subst h; simp
        · split at h
          · injection h with h; subst h; simp
          · cases h
    · split at h
      · cases h
      · injection h with h; subst h; simp
theorem scanF_err (n : Nat) : ∀ (l : List UInt8) (p : Int × Int) (acc : List Tok) (f : Flt), l.length < n → scanF n l p acc = .error f → f.code ≠ 0 := by
  induction n with
  | zero => intro l p acc f hn; omega
  | succ n ih =>
    intro l p acc f hn h
    unfold scanF at h
    split at h
    · cases h
    · rename_i c cs p' hk
      obtain ⟨_, _, hle⟩ := skip_first _ _ _ _ _ _ hk
      simp only [List.length_cons] at hle
      split at h
      · rename_i ht
        injection h with h
        subst h
        exact token_err ht
      · rename_i t rest p'' ht
        have := token_len ht
        exact ih _ _ _ _ (by omega) h
theorem scan_err {s : List UInt8} {f : Flt} (h : scan s = .error f) : f.code ≠ 0 := by
  unfold scan at h
  split at h
  · injection h with h; subst h; simp
  · exact scanF_err _ _ _ _ _ (by omega) h
theorem scanF_valid (n : Nat) : ∀ (l : List UInt8) (p : Int × Int) (acc ts : List Tok), scanF n l p acc = .ok ts → ∃ (init : List Tok) (e : Tok), ts = acc ++ init ++ [e] ∧ (∀ t ∈ init, V t) ∧ IsEnd e ∧ init.length ≤ n := by
  induction n with
  | zero => intro l p acc ts h; simp [scanF] at h
  | succ n ih =>
    intro l p acc ts h
    unfold scanF at h
    split at h
    · rename_i p' hk
      injection h with h
      subst h
      exact ⟨[], ⟨4, [], p'⟩, by simp, by simp, ⟨rfl, rfl⟩, by simp⟩
    · split at h
      · cases h
      · rename_i t rest p'' ht
        obtain ⟨init, e, h1, h2, h3, h4⟩ := ih _ _ _ _ h
        refine ⟨t :: init, e, by simp [h1], ?_, h3, by simp; omega⟩
        intro u hu
        rcases List.mem_cons.1 hu with rfl | hu
        · exact token_valid ht
        · exact h2 u hu
theorem scan_valid {s : List UInt8} {ts : List Tok} (h : scan s = .ok ts) : ∃ (init : List Tok) (e : Tok), ts = init ++ [e] ∧ (∀ t ∈ init, V t) ∧ IsEnd e ∧ init.length ≤ s.length + 1 := by
  unfold scan at h
  split at h
  · cases h
  · obtain ⟨init, e, h1, h2, h3, h4⟩ := scanF_valid _ _ _ _ _ h
    exact ⟨init, e, by simpa using h1, h2, h3, h4⟩

/-- What may stand behind a name. -/
def Stop (l : List UInt8) : Prop := ∀ c cs, l = c :: cs → inName c = false
theorem nameL_stop (a rest : List UInt8) (hr : Stop rest) : ∀ p : Int × Int, a.all inName = true → ∃ p', nameL (a ++ rest) p = (a, rest, p') := by
  induction a with
  | nil =>
    intro p _
    cases rest with
    | nil => exact ⟨p, rfl⟩
    | cons c cs => exact ⟨p, by simp [nameL, hr c cs rfl]⟩
  | cons c cs ih =>
    intro p h
    simp only [List.all_cons, Bool.and_eq_true] at h
    obtain ⟨p', hp⟩ := ih (adv c p) h.2
    refine ⟨p', ?_⟩
    rw [List.cons_append, nameL, if_pos h.1, hp]
theorem sign_first (c : UInt8) (h : isSign c = true) : c.toNat ≠ 35 ∧ blank c = false ∧ letter c = false ∧ ¬ (c.toNat = 39 ∨ c.toNat = 34) :=
  bytes_all (P := fun c => isSign c = true → c.toNat ≠ 35 ∧ blank c = false ∧ letter c = false ∧ ¬ (c.toNat = 39 ∨ c.toNat = 34)) (by decide +kernel) c h
theorem letter_first (c : UInt8) (h : letter c = true) : c.toNat ≠ 35 ∧ blank c = false :=
  bytes_all (P := fun c => letter c = true → c.toNat ≠ 35 ∧ blank c = false) (by decide +kernel) c h
/-- A token's bytes are read as that token. -/
theorem token_piece {t : Tok} (h : V t) (rest : List UInt8) (hr : Stop rest) : ∃ c cs, piece t = c :: cs ∧ c.toNat ≠ 35 ∧ blank c = false ∧ ∀ p : Int × Int, ∃ p', token c (cs ++ rest) p = .ok (⟨t.kind, t.text, p⟩, rest, p') := by
  rcases h with ⟨hk, c, cs, ht, hl, hall, hlen⟩ | ⟨hk, hne, hlen⟩ | ⟨hk, c, ht, hs⟩
  · obtain ⟨h35, hb⟩ := letter_first c hl
    refine ⟨c, cs, by unfold piece; rw [if_neg (by omega), ht], h35, hb, fun p => ?_⟩
    obtain ⟨p', hp⟩ := nameL_stop (c :: cs) rest hr p hall
    rw [List.cons_append] at hp
    refine ⟨p', ?_⟩
    unfold token
    rw [if_pos hl, hp, if_neg (show ¬ (c :: cs).length > 32 by omega), hk, ht]
  · obtain ⟨h35, hb⟩ := quote_head t.text
    refine ⟨quoteC t.text, t.text.flatMap (qb (quoteC t.text)) ++ [quoteC t.text], by unfold piece; rw [if_pos hk]; rfl, h35, hb, fun p => ?_⟩
    have := token_quoted t.text rest p
    rw [if_neg hne, if_neg (by omega)] at this
    rw [List.append_assoc]
    exact ⟨_, by rw [hk]; exact this⟩
  · obtain ⟨h35, hb, hl, hq⟩ := sign_first c hs
    refine ⟨c, [], by unfold piece; rw [if_neg (by omega), ht], h35, hb, fun p => ?_⟩
    refine ⟨adv c p, ?_⟩
    unfold token
    rw [hl, if_neg (by simp), if_neg hq, if_pos hs, hk, ht]
    rfl

def gap0 : List UInt8 := [32]
def gap1 : List UInt8 := [9, 10]
def gap2 : List UInt8 := [32, 35, 32, 110, 111, 32, 116, 111, 107, 101, 110, 32, 39, 32, 104, 101, 114, 101, 10]
def gap3 : List UInt8 := [13, 10, 32]
def IsGap (g : List UInt8) : Prop := g = gap0 ∨ g = gap1 ∨ g = gap2 ∨ g = gap3
theorem skip_gap {g : List UInt8} (h : IsGap g) (l : List UInt8) (p : Int × Int) : ∃ p', skip false (g ++ l) p = skip false l p' := by
  rcases h with rfl | rfl | rfl | rfl
  · exact ⟨_, rfl⟩
  · exact ⟨_, rfl⟩
  · exact ⟨_, rfl⟩
  · exact ⟨_, rfl⟩
theorem gap_stop {g : List UInt8} (h : IsGap g) (l : List UInt8) : Stop (g ++ l) := by
  intro c cs e
  rcases h with rfl | rfl | rfl | rfl <;> (injection e with e _; subst e; rfl)
theorem gap_len {g : List UInt8} (h : IsGap g) : g.length ≤ 19 := by rcases h with rfl | rfl | rfl | rfl <;> decide
inductive Built : List Tok → List UInt8 → Prop
  | nil : Built [] []
  | cons {t : Tok} {ts : List Tok} {g l : List UInt8} : IsGap g → Built ts l → Built (t :: ts) (g ++ (piece t ++ l))
theorem Built.stop {ts : List Tok} {l : List UInt8} (h : Built ts l) : Stop l := by
  cases h with
  | nil => intro c cs e; cases e
  | cons hg _ => exact gap_stop hg _
theorem piece_len {t : Tok} (h : V t) : (piece t).length ≤ 66 := by
  rcases h with ⟨hk, c, cs, ht, hl, hall, hlen⟩ | ⟨hk, hne, hlen⟩ | ⟨hk, c, ht, hs⟩
  · unfold piece; rw [if_neg (by omega), ht]; omega
  · unfold piece; rw [if_pos hk]; have := quote_len t.text; omega
  · unfold piece; rw [if_neg (by omega), ht]; simp
theorem Built.len {ts : List Tok} {l : List UInt8} (h : Built ts l) (hv : ∀ t ∈ ts, V t) : l.length ≤ 100 * ts.length := by
  induction h with
  | nil => simp
  | @cons t ts g l hg hb ih =>
    have h1 := gap_len hg
    have h2 := piece_len (hv t (by simp))
    have h3 := ih fun u hu => hv u (by simp [hu])
    simp only [List.length_append, List.length_cons]
    omega
/-- Kind and text. -/
def kt (t : Tok) : Int × List UInt8 := (t.kind, t.text)
theorem scanF_built {ts : List Tok} {l : List UInt8} (h : Built ts l) (hv : ∀ t ∈ ts, V t) : ∀ (n : Nat) (p : Int × Int) (acc : List Tok), ts.length < n → ∃ ts' e', scanF n l p acc = .ok (acc ++ ts' ++ [e']) ∧ ts'.map kt = ts.map kt ∧ IsEnd e' := by
  induction h with
  | nil =>
    intro n p acc hn
    obtain ⟨m, rfl⟩ : ∃ m, n = m + 1 := ⟨n - 1, by simp at hn; omega⟩
    exact ⟨[], ⟨4, [], p⟩, by simp [scanF, skip], rfl, rfl, rfl⟩
  | @cons t ts g l hg hb ih =>
    intro n p acc hn
    simp only [List.length_cons] at hn
    obtain ⟨m, rfl⟩ : ∃ m, n = m + 1 := ⟨n - 1, by omega⟩
    obtain ⟨c, cs, hp, h35, hbl, htok⟩ := token_piece (hv t (by simp)) l hb.stop
    obtain ⟨p1, hs⟩ := skip_gap hg (piece t ++ l) p
    obtain ⟨p2, ht⟩ := htok p1
    obtain ⟨ts', e', h1, h2, h3⟩ := ih (fun u hu => hv u (by simp [hu])) m p2 (acc ++ [⟨t.kind, t.text, p1⟩]) (by omega)
    refine ⟨⟨t.kind, t.text, p1⟩ :: ts', e', ?_, by simp [h2, kt], h3⟩
    unfold scanF
    have hs2 : skip false (g ++ (piece t ++ l)) p = (c :: (cs ++ l), p1) := by
      rw [hs, hp]
      simp [skip, h35, hbl]
    rw [hs2]
    simp only [ht]
    rw [h1]
    simp
theorem scan_built {ts : List Tok} {l : List UInt8} (h : Built ts l) (hv : ∀ t ∈ ts, V t) (hl : l.length ≤ 65536) : ∃ ts' e', scan l = .ok (ts' ++ [e']) ∧ ts'.map kt = ts.map kt ∧ IsEnd e' := by
  have hn : ts.length ≤ l.length := by
    clear hl
    induction h with
    | nil => simp
    | @cons t ts g l hg hb ih =>
      have := ih fun u hu => hv u (by simp [hu])
      have : 1 ≤ g.length := by rcases hg with rfl | rfl | rfl | rfl <;> decide
      simp only [List.length_append, List.length_cons]
      omega
  obtain ⟨ts', e', h1, h2, h3⟩ := scanF_built h hv (l.length + 1) (1, 1) [] (by omega)
  refine ⟨ts', e', ?_, h2, h3⟩
  unfold scan
  rw [if_neg (by omega), h1]
  simp
end Go.Proofs.Ytgllncnfhiiobaa.Lx

set_option linter.unusedVariables false
set_option linter.unusedSimpArgs false
namespace Go.Proofs.Ytgllncnfhiiobaa.Lx

def sh (k : Int) (p : Int × Int) : Int × Int := (p.1 + k, p.2)
def shT (k : Int) (t : Tok) : Tok := ⟨t.kind, t.text, sh k t.p⟩
theorem adv_sh (k : Int) (c : UInt8) (p : Int × Int) : adv c (sh k p) = sh k (adv c p) := by
  unfold adv sh
  split
  · simp only [Prod.mk.injEq, and_true]; omega
  · rfl
theorem skip_sh (k : Int) (l : List UInt8) : ∀ (b : Bool) (p : Int × Int), skip b l (sh k p) = ((skip b l p).1, sh k (skip b l p).2) := by
  induction l with
  | nil => intro b p; cases b <;> rfl
  | cons c cs ih =>
    intro b p
    cases b with
    | true =>
      simp only [skip, adv_sh]
      split <;> exact ih _ _
    | false =>
      simp only [skip, adv_sh]
      split
      · exact ih _ _
      · split
        · exact ih _ _
        · rfl
theorem nameL_sh (k : Int) (l : List UInt8) : ∀ p : Int × Int, nameL l (sh k p) = ((nameL l p).1, (nameL l p).2.1, sh k (nameL l p).2.2) := by
  induction l with
  | nil => intro p; rfl
  | cons c cs ih =>
    intro p
    simp only [nameL, adv_sh]
    split
    · simp [ih]
    · rfl
def shE (k : Int) : Esc → Esc
  | .ok b r p => .ok b r (sh k p)
  | .bad r p => .bad r (sh k p)
theorem esc_sh (k : Int) (l : List UInt8) (p : Int × Int) : esc l (sh k p) = shE k (esc l p) := by
  cases l with
  | nil => rfl
  | cons c cs =>
    simp only [esc, adv_sh]
    split
    · rfl
    · split
      · rfl
      · split
        · rfl
        · split
          · cases cs with
            | nil => rfl
            | cons d ds =>
              simp only [escX, adv_sh]
              cases hexv d with
              | none => rfl
              | some a =>
                cases ds with
                | nil => rfl
                | cons e es =>
                  simp only [adv_sh]
                  cases hexv e <;> rfl
          · rfl
theorem lit_sh (k : Int) (q : UInt8) (n : Nat) : ∀ (l : List UInt8) (p : Int × Int) (out : List UInt8), lit q n l (sh k p) out = ((lit q n l p out).1, sh k (lit q n l p out).2) := by
  induction n with
  | zero => intro l p out; rfl
  | succ n ih =>
    intro l p out
    cases l with
    | nil => rfl
    | cons c cs =>
      simp only [lit, adv_sh, esc_sh]
      split
      · rfl
      · split
        · cases esc cs (adv c p) with
          | ok b r p' => exact ih _ _ _
          | bad r p' => rfl
        · split
          · rfl
          · exact ih _ _ _
theorem token_sh {c : UInt8} {cs : List UInt8} {p : Int × Int} {t : Tok} {r : List UInt8} {p' : Int × Int} (k : Int) (h : token c cs p = .ok (t, r, p')) : token c cs (sh k p) = .ok (shT k t, r, sh k p') := by
  unfold token at h ⊢
  rw [nameL_sh, adv_sh, lit_sh]
  split at h
  · rename_i hl
    rw [if_pos hl]
    split at h
    · cases h
    · rename_i hn
      rw [if_neg hn]
      injection h with h
      injection h with h1 h2
      subst h1
      have e1 : (nameL (c :: cs) p).2.1 = r := by rw [h2]
      have e2 : (nameL (c :: cs) p).2.2 = p' := by rw [h2]
      rw [e1, e2]
      rfl
  · rename_i hl
    rw [if_neg hl]
    split at h
    · rename_i hq
      rw [if_pos hq]
      cases hlit : lit c (cs.length + 1) cs (adv c p) [] with
      | mk o p2 =>
      rw [hlit] at h
      cases o with
      | none => cases h
      | some tr =>
        obtain ⟨tx, rest⟩ := tr
        simp only at h ⊢
        split at h
        · cases h
        · rename_i h1
          rw [if_neg h1]
          split at h
          · cases h
          · rename_i h2
            rw [if_neg h2]
            injection h with h
            injection h with h3 h4
            injection h4 with h4 h5
            subst h3
            subst h4
            subst h5
            rfl
    · rename_i hq
      rw [if_neg hq]
      split at h
      · rename_i hs
        rw [if_pos hs]
        injection h with h
        injection h with h3 h4
        injection h4 with h4 h5
        subst h3
        subst h4
        subst h5
        rfl
      · cases h
theorem scanF_sh (n : Nat) : ∀ (l : List UInt8) (p : Int × Int) (acc ts : List Tok), scanF n l p acc = .ok ts → ∃ us, ts = acc ++ us ∧ ∀ (k : Int) (acc' : List Tok), scanF n l (sh k p) acc' = .ok (acc' ++ us.map (shT k)) := by
  induction n with
  | zero => intro l p acc ts h; simp [scanF] at h
  | succ n ih =>
    intro l p acc ts h
    unfold scanF at h
    cases hk : skip false l p with
    | mk l' p' =>
    rw [hk] at h
    cases l' with
    | nil =>
      simp only at h
      injection h with h
      subst h
      refine ⟨_, rfl, fun k acc' => ?_⟩
      unfold scanF
      rw [skip_sh, hk]
      rfl
    | cons c cs =>
      simp only at h
      cases ht : token c cs p' with
      | error f => rw [ht] at h; cases h
      | ok tr =>
        obtain ⟨t, rest, p''⟩ := tr
        rw [ht] at h
        simp only at h
        obtain ⟨us, h1, h2⟩ := ih _ _ _ _ h
        refine ⟨t :: us, by simp [h1], fun k acc' => ?_⟩
        unfold scanF
        rw [skip_sh, hk]
        simp only [token_sh k ht]
        rw [h2 k]
        simp
theorem scanF_more (n : Nat) : ∀ (l : List UInt8) (p : Int × Int) (acc ts : List Tok) (m : Nat), n ≤ m → scanF n l p acc = .ok ts → scanF m l p acc = .ok ts := by
  induction n with
  | zero => intro l p acc ts m hm h; simp [scanF] at h
  | succ n ih =>
    intro l p acc ts m hm h
    obtain ⟨m, rfl⟩ : ∃ m', m = m' + 1 := ⟨m - 1, by omega⟩
    unfold scanF at h ⊢
    split at h
    · exact h
    · split at h
      · cases h
      · exact ih _ _ _ _ _ (by omega) h
/-- A newline and more behind a text. -/
theorem skip_app (b : List UInt8) (l : List UInt8) : ∀ (f : Bool) (p : Int × Int), skip f (l ++ 10 :: b) p = if (skip f l p).1 = [] then skip false b ((skip f l p).2.1 + 1, 1) else ((skip f l p).1 ++ 10 :: b, (skip f l p).2) := by
  induction l with
  | nil =>
    intro f p
    cases f <;> rfl
  | cons c cs ih =>
    intro f p
    rw [List.cons_append]
    cases f with
    | true =>
      simp only [skip]
      split <;> exact ih _ _
    | false =>
      simp only [skip]
      split
      · exact ih _ _
      · split
        · exact ih _ _
        · simp
theorem nameL_nl (b : List UInt8) (l : List UInt8) : ∀ p : Int × Int, nameL (l ++ 10 :: b) p = ((nameL l p).1, (nameL l p).2.1 ++ 10 :: b, (nameL l p).2.2) := by
  induction l with
  | nil => intro p; rfl
  | cons c cs ih =>
    intro p
    rw [List.cons_append]
    simp only [nameL]
    split
    · simp [ih]
    · rfl
theorem esc_app (x l : List UInt8) (p : Int × Int) {b : UInt8} {r : List UInt8} {p' : Int × Int} (h : esc l p = .ok b r p') : esc (l ++ x) p = .ok b (r ++ x) p' := by
  cases l with
  | nil => cases h
  | cons c cs =>
    rw [List.cons_append]
    simp only [esc] at h ⊢
    split at h
    · rename_i h1; rw [if_pos h1]; injection h with h1 h2 h3; subst h1; subst h2; subst h3; rfl
    · rename_i h1; rw [if_neg h1]
      split at h
      · rename_i h2; rw [if_pos h2]; injection h with h1 h2 h3; subst h1; subst h2; subst h3; rfl
      · rename_i h2; rw [if_neg h2]
        split at h
        · rename_i h3; rw [if_pos h3]; injection h with h1 h2 h3; subst h1; subst h2; subst h3; rfl
        · rename_i h3; rw [if_neg h3]
          split at h
          · rename_i h4
            rw [if_pos h4]
            cases cs with
            | nil => cases h
            | cons d ds =>
              rw [List.cons_append]
              simp only [escX] at h ⊢
              cases hd : hexv d with
              | none => rw [hd] at h; cases h
              | some a =>
                rw [hd] at h
                simp only at h ⊢
                cases ds with
                | nil => cases h
                | cons e es =>
                  rw [List.cons_append]
                  simp only at h ⊢
                  cases he : hexv e with
                  | none => rw [he] at h; cases h
                  | some g =>
                    rw [he] at h
                    simp only at h ⊢
                    injection h with h1 h2 h3; subst h1; subst h2; subst h3; rfl
          · cases h
theorem lit_app (x : List UInt8) (q : UInt8) (n : Nat) : ∀ (l : List UInt8) (p : Int × Int) (out t r : List UInt8) (p' : Int × Int) (m : Nat), n ≤ m → lit q n l p out = (some (t, r), p') → lit q m (l ++ x) p out = (some (t, r ++ x), p') := by
  induction n with
  | zero => intro l p out t r p' m hm h; simp [lit] at h
  | succ n ih =>
    intro l p out t r p' m hm h
    obtain ⟨m, rfl⟩ : ∃ m', m = m' + 1 := ⟨m - 1, by omega⟩
    cases l with
    | nil => simp [lit] at h
    | cons c cs =>
      rw [List.cons_append]
      simp only [lit] at h ⊢
      split at h
      · rename_i h1
        rw [if_pos h1]
        injection h with h2 h3
        injection h2 with h2
        injection h2 with h4 h5
        subst h3; subst h4; subst h5
        rfl
      · rename_i h1
        rw [if_neg h1]
        split at h
        · rename_i h2
          rw [if_pos h2]
          cases he : esc cs (adv c p) with
          | bad r2 p2 => rw [he] at h; cases h
          | ok b r2 p2 =>
            rw [he] at h
            rw [esc_app x _ _ he]
            exact ih _ _ _ _ _ _ _ (by omega) h
        · rename_i h2
          rw [if_neg h2]
          split at h
          · cases h
          · rename_i h3
            rw [if_neg h3]
            exact ih _ _ _ _ _ _ _ (by omega) h
theorem token_app (b : List UInt8) {c : UInt8} {cs : List UInt8} {p : Int × Int} {t : Tok} {r : List UInt8} {p' : Int × Int} (h : token c cs p = .ok (t, r, p')) : token c (cs ++ 10 :: b) p = .ok (t, r ++ 10 :: b, p') := by
  unfold token at h ⊢
  rw [← List.cons_append, nameL_nl]
  split at h
  · rename_i hl
    rw [if_pos hl]
    split at h
    · cases h
    · rename_i hn
      rw [if_neg hn]
      injection h with h
      injection h with h1 h2
      subst h1
      simp [h2]
  · rename_i hl
    rw [if_neg hl]
    split at h
    · rename_i hq
      rw [if_pos hq]
      cases hlit : lit c (cs.length + 1) cs (adv c p) [] with
      | mk o p2 =>
      rw [hlit] at h
      cases o with
      | none => cases h
      | some tr =>
        obtain ⟨tx, rest⟩ := tr
        rw [lit_app (10 :: b) _ _ _ _ _ _ _ _ _ (by simp) hlit]
        simp only at h ⊢
        split at h
        · cases h
        · rename_i h1
          rw [if_neg h1]
          split at h
          · cases h
          · rename_i h2
            rw [if_neg h2]
            injection h with h
            injection h with h3 h4
            injection h4 with h4 h5
            subst h3
            subst h4
            subst h5
            rfl
    · rename_i hq
      rw [if_neg hq]
      split at h
      · rename_i hs
        rw [if_pos hs]
        injection h with h
        injection h with h3 h4
        injection h4 with h4 h5
        subst h3
        subst h4
        subst h5
        rfl
      · cases h
theorem scanF_join (b : List UInt8) (n : Nat) : ∀ (l : List UInt8) (p : Int × Int) (acc ts : List Tok), scanF n l p acc = .ok ts → ∃ (init : List Tok) (pe : Int × Int), ts = acc ++ init ++ [⟨4, [], pe⟩] ∧
    ∀ (m : Nat) (tsb : List Tok), scanF m b (pe.1 + 1, 1) (acc ++ init) = .ok tsb → scanF (n + m) (l ++ 10 :: b) p acc = .ok tsb := by
  induction n with
  | zero => intro l p acc ts h; simp [scanF] at h
  | succ n ih =>
    intro l p acc ts h
    unfold scanF at h
    cases hk : skip false l p with
    | mk l' p' =>
    rw [hk] at h
    have hsk := skip_app b l false p
    rw [hk] at hsk
    cases l' with
    | nil =>
      simp only at h
      injection h with h
      subst h
      refine ⟨[], p', by simp, fun m tsb hb => ?_⟩
      rw [if_pos rfl] at hsk
      rw [List.append_nil] at hb
      cases m with
      | zero => simp [scanF] at hb
      | succ m =>
        have hb2 := scanF_more _ _ _ _ _ (n + 1 + m + 1) (by omega) hb
        rw [show n + 1 + (m + 1) = n + 1 + m + 1 by omega]
        unfold scanF at hb2 ⊢
        rw [hsk]
        exact hb2
    | cons c cs =>
      rw [if_neg (by simp)] at hsk
      simp only [List.cons_append] at hsk
      simp only at h
      cases ht : token c cs p' with
      | error f => rw [ht] at h; cases h
      | ok tr =>
        obtain ⟨t, rest, p''⟩ := tr
        rw [ht] at h
        simp only at h
        obtain ⟨init, pe, h1, h2⟩ := ih _ _ _ _ h
        refine ⟨t :: init, pe, by simp [h1], fun m tsb hb => ?_⟩
        rw [show n + 1 + m = n + m + 1 by omega]
        unfold scanF
        rw [hsk]
        simp only [token_app b ht]
        exact h2 m tsb (by simpa using hb)
theorem scan_join {a b : List UInt8} {ta tb : List Tok} (ha : scan a = .ok ta) (hb : scan b = .ok tb) (hl : a.length + b.length ≤ 60000) :
    ∃ (init : List Tok) (pe : Int × Int), ta = init ++ [⟨4, [], pe⟩] ∧ scan (a ++ 10 :: b) = .ok (init ++ tb.map (shT pe.1)) := by
  unfold scan at ha hb ⊢
  rw [if_neg (by omega)] at ha hb
  rw [if_neg (by rw [List.length_append, List.length_cons]; omega)]
  obtain ⟨init, pe, h1, h2⟩ := scanF_join b _ _ _ _ _ ha
  obtain ⟨us, h3, h4⟩ := scanF_sh _ _ _ _ _ hb
  rw [List.nil_append] at h3
  subst h3
  refine ⟨init, pe, by simpa using h1, ?_⟩
  have h5 := h4 pe.1 ([] ++ init)
  have e : sh pe.1 (1, 1) = (pe.1 + 1, 1) := by unfold sh; simp only [Prod.mk.injEq, and_true]; omega
  rw [e] at h5
  have h6 := h2 _ _ h5
  rw [List.nil_append] at h6
  rw [show (a ++ 10 :: b).length + 1 = a.length + 1 + (b.length + 1) by simp; omega]
  exact h6

/-- Lines: a place is no less than an earlier one, and no more lines than bytes. -/
def Mv (l : List UInt8) (p : Int × Int) (l' : List UInt8) (p' : Int × Int) : Prop := p.1 ≤ p'.1 ∧ p'.1 + l'.length ≤ p.1 + l.length
theorem Mv.rfl {l : List UInt8} {p : Int × Int} : Mv l p l p := ⟨Int.le_refl _, Int.le_refl _⟩
theorem Mv.trans {l1 l2 l3 : List UInt8} {p1 p2 p3 : Int × Int} (h : Mv l1 p1 l2 p2) (g : Mv l2 p2 l3 p3) : Mv l1 p1 l3 p3 := ⟨Int.le_trans h.1 g.1, Int.le_trans g.2 h.2⟩
theorem Mv.adv (c : UInt8) (cs : List UInt8) (p : Int × Int) : Mv (c :: cs) p cs (Lx.adv c p) := by
  unfold Mv Lx.adv
  simp only [List.length_cons]
  push_cast
  split <;> constructor <;> simp <;> omega
theorem skip_mv (l : List UInt8) : ∀ (b : Bool) (p : Int × Int), Mv l p (skip b l p).1 (skip b l p).2 := by
  induction l with
  | nil => intro b p; cases b <;> exact Mv.rfl
  | cons c cs ih =>
    intro b p
    cases b with
    | true =>
      simp only [skip]
      split <;> exact (Mv.adv c cs p).trans (ih _ _)
    | false =>
      simp only [skip]
      split
      · exact (Mv.adv c cs p).trans (ih _ _)
      · split
        · exact (Mv.adv c cs p).trans (ih _ _)
        · exact Mv.rfl
theorem nameL_mv (l : List UInt8) : ∀ p : Int × Int, Mv l p (nameL l p).2.1 (nameL l p).2.2 := by
  induction l with
  | nil => intro p; exact Mv.rfl
  | cons c cs ih =>
    intro p
    simp only [nameL]
    split
    · exact (Mv.adv c cs p).trans (ih _)
    · exact Mv.rfl
theorem esc_mv {l : List UInt8} {p : Int × Int} {b : UInt8} {r : List UInt8} {p' : Int × Int} (h : esc l p = .ok b r p') : Mv l p r p' := by
  cases l with
  | nil => cases h
  | cons c cs =>
    simp only [esc] at h
    split at h
    · injection h with h1 h2 h3; subst h2; subst h3; exact Mv.adv c cs p
    · split at h
      · injection h with h1 h2 h3; subst h2; subst h3; exact Mv.adv c cs p
      · split at h
        · injection h with h1 h2 h3; subst h2; subst h3; exact Mv.adv c cs p
        · split at h
          · cases cs with
            | nil => cases h
            | cons d ds =>
              simp only [escX] at h
              cases hd : hexv d with
              | none => rw [hd] at h; cases h
              | some a =>
                rw [hd] at h
                simp only at h
                cases ds with
                | nil => cases h
                | cons e es =>
                  simp only at h
                  cases he : hexv e with
                  | none => rw [he] at h; cases h
                  | some g =>
                    rw [he] at h
                    simp only at h
                    injection h with h1 h2 h3; subst h2; subst h3
                    exact (Mv.adv c _ p).trans ((Mv.adv d _ _).trans (Mv.adv e _ _))
          · cases h
theorem lit_mv (q : UInt8) (n : Nat) : ∀ (l : List UInt8) (p : Int × Int) (out t r : List UInt8) (p' : Int × Int), lit q n l p out = (some (t, r), p') → Mv l p r p' := by
  induction n with
  | zero => intro l p out t r p' h; simp [lit] at h
  | succ n ih =>
    intro l p out t r p' h
    cases l with
    | nil => simp [lit] at h
    | cons c cs =>
      simp only [lit] at h
      split at h
      · injection h with h2 h3
        injection h2 with h2
        injection h2 with h4 h5
        subst h3; subst h5
        exact Mv.adv c cs p
      · split at h
        · cases he : esc cs (Lx.adv c p) with
          | bad r2 p2 => rw [he] at h; cases h
          | ok b r2 p2 =>
            rw [he] at h
            exact (Mv.adv c cs p).trans ((esc_mv he).trans (ih _ _ _ _ _ _ h))
        · split at h
          · cases h
          · exact (Mv.adv c cs p).trans (ih _ _ _ _ _ _ h)
theorem token_mv {c : UInt8} {cs : List UInt8} {p : Int × Int} {t : Tok} {r : List UInt8} {p' : Int × Int} (h : token c cs p = .ok (t, r, p')) : Mv (c :: cs) p r p' ∧ t.p = p := by
  unfold token at h
  split at h
  · split at h
    · cases h
    · injection h with h
      injection h with h1 h2
      subst h1
      have := nameL_mv (c :: cs) p
      rw [h2] at this
      exact ⟨this, _root_.rfl⟩
  · split at h
    · cases hlit : lit c (cs.length + 1) cs (Lx.adv c p) [] with
      | mk o p2 =>
      rw [hlit] at h
      cases o with
      | none => cases h
      | some tr =>
        obtain ⟨tx, rest⟩ := tr
        simp only at h
        split at h
        · cases h
        · split at h
          · cases h
          · injection h with h
            injection h with h3 h4
            injection h4 with h4 h5
            subst h3
            subst h4
            subst h5
            exact ⟨(Mv.adv c cs p).trans (lit_mv _ _ _ _ _ _ _ _ hlit), _root_.rfl⟩
    · split at h
      · injection h with h
        injection h with h3 h4
        injection h4 with h4 h5
        subst h3
        subst h4
        subst h5
        exact ⟨Mv.adv c cs p, _root_.rfl⟩
      · cases h
theorem scanF_lines (n : Nat) : ∀ (l : List UInt8) (p : Int × Int) (acc ts : List Tok), scanF n l p acc = .ok ts → ∃ us, ts = acc ++ us ∧ ∀ t ∈ us, p.1 ≤ t.p.1 ∧ t.p.1 ≤ p.1 + l.length := by
  induction n with
  | zero => intro l p acc ts h; simp [scanF] at h
  | succ n ih =>
    intro l p acc ts h
    unfold scanF at h
    have hm := skip_mv l false p
    cases hk : skip false l p with
    | mk l' p' =>
    rw [hk] at h hm
    obtain ⟨m1, m2⟩ := hm
    simp only at m1 m2
    cases l' with
    | nil =>
      simp only at h
      injection h with h
      subst h
      refine ⟨_, _root_.rfl, fun t ht => ?_⟩
      simp only [List.mem_singleton] at ht
      subst ht
      simp only [List.length_nil] at m2
      exact ⟨m1, by simp only; omega⟩
    | cons c cs =>
      simp only at h
      cases ht : token c cs p' with
      | error f => rw [ht] at h; cases h
      | ok tr =>
        obtain ⟨t, rest, p''⟩ := tr
        rw [ht] at h
        simp only at h
        obtain ⟨⟨k1, k2⟩, ktp⟩ := token_mv ht
        obtain ⟨us, h1, h2⟩ := ih _ _ _ _ h
        refine ⟨t :: us, by simp [h1], fun u hu => ?_⟩
        rcases List.mem_cons.1 hu with rfl | hu
        · rw [ktp]
          simp only [List.length_cons] at m2
          omega
        · obtain ⟨g1, g2⟩ := h2 u hu
          omega
theorem scan_lines {s : List UInt8} {ts : List Tok} (h : scan s = .ok ts) : ∀ t ∈ ts, 1 ≤ t.p.1 ∧ t.p.1 ≤ 1 + s.length := by
  unfold scan at h
  split at h
  · cases h
  · obtain ⟨us, h1, h2⟩ := scanF_lines _ _ _ _ _ h
    rw [List.nil_append] at h1
    subst h1
    exact h2
theorem scanF_count (n : Nat) : ∀ (l : List UInt8) (p : Int × Int) (acc ts : List Tok), scanF n l p acc = .ok ts → ts.length ≤ acc.length + n := by
  induction n with
  | zero => intro l p acc ts h; simp [scanF] at h
  | succ n ih =>
    intro l p acc ts h
    unfold scanF at h
    split at h
    · injection h with h; subst h; simp <;> omega
    · split at h
      · cases h
      · have := ih _ _ _ _ h
        simp at this
        omega
theorem scan_count {s : List UInt8} {ts : List Tok} (h : scan s = .ok ts) : ts.length ≤ s.length + 1 := by
  unfold scan at h
  split at h
  · cases h
  · have := scanF_count _ _ _ _ _ h
    simpa using this
end Go.Proofs.Ytgllncnfhiiobaa.Lx
