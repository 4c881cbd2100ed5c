/- Tokens that were read, written again with blanks between: plain laws of the scanner. -/
import Derived.Test.YtohbjgckcbdegaaLexPlain
set_option linter.unusedVariables false
set_option linter.unusedSimpArgs false
namespace Go.Proofs.Ytohbjgckcbdegaa.Lx

/-- A token that is not the end. -/
def V (t : Tok) : Prop :=
  (t.kind = 1 ∧ ∃ c cs, t.text = c :: cs ∧ letter c = true ∧ (c :: cs).all inName = true ∧ (c :: cs).length ≤ 32) ∨
  (t.kind = 2 ∧ t.text ≠ [] ∧ t.text.length ≤ 16) ∨ (t.kind = 3 ∧ ∃ c, t.text = [c] ∧ isSign c = true)
def IsEnd (t : Tok) : Prop := t.kind = 4 ∧ t.text = []
/-- A token's bytes in a text. -/
def piece (t : Tok) : List UInt8 := if t.kind = 2 then quote t.text else t.text

theorem skip_first (b : Bool) (l : List UInt8) : ∀ (p : Int × Int) (c : UInt8) (cs : List UInt8) (p' : Int × Int), skip b l p = (c :: cs, p') → c.toNat ≠ 35 ∧ blank c = false ∧ (c :: cs).length ≤ l.length := by
  induction l generalizing b with
  | nil => intro p c cs p' h; simp [skip] at h
  | cons d ds ih =>
    intro p c cs p' h
    have wk : ∀ {b p1}, skip b ds p1 = (c :: cs, p') → c.toNat ≠ 35 ∧ blank c = false ∧ (c :: cs).length ≤ (d :: ds).length := by
      intro b p1 h
      obtain ⟨h1, h2, h3⟩ := ih b _ _ _ _ h
      exact ⟨h1, h2, by simp at h3 ⊢; omega⟩
    cases b with
    | true =>
      unfold skip at h
      split at h
      · exact wk h
      · exact wk h
    | false =>
      unfold skip at h
      split at h
      · exact wk h
      · split at h
        · exact wk h
        · rename_i h35 hb
          injection h with h1 h2
          injection h1 with h1 h3
          subst h1
          subst h3
          exact ⟨h35, by simpa using hb, Nat.le_refl _⟩
theorem nameL_all (l : List UInt8) : ∀ p : Int × Int, (nameL l p).1.all inName = true := by
  induction l with
  | nil => intro p; rfl
  | cons c cs ih =>
    intro p
    unfold nameL
    split
    · rename_i h
      simp only [List.all_cons, h, Bool.true_and]
      exact ih _
    · rfl
theorem token_valid {c : UInt8} {cs : List UInt8} {p : Int × Int} {t : Tok} {r : List UInt8 × (Int × Int)} (h : token c cs p = .ok (t, r)) : V t := by
  unfold token at h
  split at h
  · rename_i hl
    split at h
    · cases h
    · rename_i hlen
      injection h with h
      injection h with h1 h2
      subst h1
      have hin := letter_inName hl
      refine Or.inl ⟨rfl, c, (nameL cs (adv c p)).1, ?_, hl, ?_, ?_⟩
      · simp only [nameL, if_pos hin]
      · simp only [List.all_cons, hin, Bool.true_and]
        exact nameL_all _ _
      · simp only [nameL, if_pos hin] at hlen
        omega
  · split at h
    · split at h
      · cases h
      · split at h
        · cases h
        · split at h
          · cases h
          · injection h with h
            injection h with h1 h2
            subst h1
            exact Or.inr (Or.inl ⟨rfl, by assumption, by simp only; omega⟩)
    · split at h
      · rename_i hs
        injection h with h
        injection h with h1 h2
        subst h1
        exact Or.inr (Or.inr ⟨rfl, c, rfl, hs⟩)
      · cases h
theorem token_err {c : UInt8} {cs : List UInt8} {p : Int × Int} {f : Flt} (h : token c cs p = .error f) : f.code ≠ 0 := by
  unfold token at h
  split at h
  · split at h
    · injection h with h; subst h; simp
    · cases h
  · split at h
    · split at h
      · injection h with h; subst h; simp
      · split at h
        · injection h with h; subst h; simp
        · split at h
          · injection h with h; subst h; simp
          · cases h
    · split at h
      · cases h
      · injection h with h; subst h; simp
theorem scanF_err (n : Nat) : ∀ (l : List UInt8) (p : Int × Int) (acc : List Tok) (f : Flt), l.length < n → scanF n l p acc = .error f → f.code ≠ 0 := by
  induction n with
  | zero => intro l p acc f hn; omega
  | succ n ih =>
    intro l p acc f hn h
    unfold scanF at h
    split at h
    · cases h
    · rename_i c cs p' hk
      obtain ⟨_, _, hle⟩ := skip_first _ _ _ _ _ _ hk
      simp only [List.length_cons] at hle
      split at h
      · rename_i ht
        injection h with h
        subst h
        exact token_err ht
      · rename_i t rest p'' ht
        have := token_len ht
        exact ih _ _ _ _ (by omega) h
theorem scan_err {s : List UInt8} {f : Flt} (h : scan s = .error f) : f.code ≠ 0 := by
  unfold scan at h
  split at h
  · injection h with h; subst h; simp
  · exact scanF_err _ _ _ _ _ (by omega) h
theorem scanF_valid (n : Nat) : ∀ (l : List UInt8) (p : Int × Int) (acc ts : List Tok), scanF n l p acc = .ok ts → ∃ (init : List Tok) (e : Tok), ts = acc ++ init ++ [e] ∧ (∀ t ∈ init, V t) ∧ IsEnd e ∧ init.length ≤ n := by
  induction n with
  | zero => intro l p acc ts h; simp [scanF] at h
  | succ n ih =>
    intro l p acc ts h
    unfold scanF at h
    split at h
    · rename_i p' hk
      injection h with h
      subst h
      exact ⟨[], ⟨4, [], p'⟩, by simp, by simp, ⟨rfl, rfl⟩, by simp⟩
    · split at h
      · cases h
      · rename_i t rest p'' ht
        obtain ⟨init, e, h1, h2, h3, h4⟩ := ih _ _ _ _ h
        refine ⟨t :: init, e, by simp [h1], ?_, h3, by simp; omega⟩
        intro u hu
        rcases List.mem_cons.1 hu with rfl | hu
        · exact token_valid ht
        · exact h2 u hu
theorem scan_valid {s : List UInt8} {ts : List Tok} (h : scan s = .ok ts) : ∃ (init : List Tok) (e : Tok), ts = init ++ [e] ∧ (∀ t ∈ init, V t) ∧ IsEnd e ∧ init.length ≤ s.length + 1 := by
  unfold scan at h
  split at h
  · cases h
  · obtain ⟨init, e, h1, h2, h3, h4⟩ := scanF_valid _ _ _ _ _ h
    exact ⟨init, e, by simpa using h1, h2, h3, h4⟩

/-- What may stand behind a name. -/
def Stop (l : List UInt8) : Prop := ∀ c cs, l = c :: cs → inName c = false
theorem nameL_stop (a rest : List UInt8) (hr : Stop rest) : ∀ p : Int × Int, a.all inName = true → ∃ p', nameL (a ++ rest) p = (a, rest, p') := by
  induction a with
  | nil =>
    intro p _
    cases rest with
    | nil => exact ⟨p, rfl⟩
    | cons c cs => exact ⟨p, by simp [nameL, hr c cs rfl]⟩
  | cons c cs ih =>
    intro p h
    simp only [List.all_cons, Bool.and_eq_true] at h
    obtain ⟨p', hp⟩ := ih (adv c p) h.2
    refine ⟨p', ?_⟩
    rw [List.cons_append, nameL, if_pos h.1, hp]
theorem sign_first (c : UInt8) (h : isSign c = true) : c.toNat ≠ 35 ∧ blank c = false ∧ letter c = false ∧ ¬ (c.toNat = 39 ∨ c.toNat = 34) :=
  bytes_all (P := fun c => isSign c = true → c.toNat ≠ 35 ∧ blank c = false ∧ letter c = false ∧ ¬ (c.toNat = 39 ∨ c.toNat = 34)) (by decide +kernel) c h
theorem letter_first (c : UInt8) (h : letter c = true) : c.toNat ≠ 35 ∧ blank c = false :=
  bytes_all (P := fun c => letter c = true → c.toNat ≠ 35 ∧ blank c = false) (by decide +kernel) c h
/-- A token's bytes are read as that token. -/
theorem token_piece {t : Tok} (h : V t) (rest : List UInt8) (hr : Stop rest) : ∃ c cs, piece t = c :: cs ∧ c.toNat ≠ 35 ∧ blank c = false ∧ ∀ p : Int × Int, ∃ p', token c (cs ++ rest) p = .ok (⟨t.kind, t.text, p⟩, rest, p') := by
  rcases h with ⟨hk, c, cs, ht, hl, hall, hlen⟩ | ⟨hk, hne, hlen⟩ | ⟨hk, c, ht, hs⟩
  · obtain ⟨h35, hb⟩ := letter_first c hl
    refine ⟨c, cs, by unfold piece; rw [if_neg (by omega), ht], h35, hb, fun p => ?_⟩
    obtain ⟨p', hp⟩ := nameL_stop (c :: cs) rest hr p hall
    rw [List.cons_append] at hp
    refine ⟨p', ?_⟩
    unfold token
    rw [if_pos hl, hp, if_neg (show ¬ (c :: cs).length > 32 by omega), hk, ht]
  · obtain ⟨h35, hb⟩ := quote_head t.text
    refine ⟨quoteC t.text, t.text.flatMap (qb (quoteC t.text)) ++ [quoteC t.text], by unfold piece; rw [if_pos hk]; rfl, h35, hb, fun p => ?_⟩
    have := token_quoted t.text rest p
    rw [if_neg hne, if_neg (by omega)] at this
    rw [List.append_assoc]
    exact ⟨_, by rw [hk]; exact this⟩
  · obtain ⟨h35, hb, hl, hq⟩ := sign_first c hs
    refine ⟨c, [], by unfold piece; rw [if_neg (by omega), ht], h35, hb, fun p => ?_⟩
    refine ⟨adv c p, ?_⟩
    unfold token
    rw [hl, if_neg (by simp), if_neg hq, if_pos hs, hk, ht]
    rfl

def gap0 : List UInt8 := [32]
def gap1 : List UInt8 := [9, 10]
def gap2 : List UInt8 := [32, 35, 32, 110, 111, 32, 116, 111, 107, 101, 110, 32, 39, 32, 104, 101, 114, 101, 10]
def gap3 : List UInt8 := [13, 10, 32]
def IsGap (g : List UInt8) : Prop := g = gap0 ∨ g = gap1 ∨ g = gap2 ∨ g = gap3
theorem skip_gap {g : List UInt8} (h : IsGap g) (l : List UInt8) (p : Int × Int) : ∃ p', skip false (g ++ l) p = skip false l p' := by
  rcases h with rfl | rfl | rfl | rfl
  · exact ⟨_, rfl⟩
  · exact ⟨_, rfl⟩
  · exact ⟨_, rfl⟩
  · exact ⟨_, rfl⟩
theorem gap_stop {g : List UInt8} (h : IsGap g) (l : List UInt8) : Stop (g ++ l) := by
  intro c cs e
  rcases h with rfl | rfl | rfl | rfl <;> (injection e with e _; subst e; rfl)
theorem gap_len {g : List UInt8} (h : IsGap g) : g.length ≤ 19 := by rcases h with rfl | rfl | rfl | rfl <;> decide
inductive Built : List Tok → List UInt8 → Prop
  | nil : Built [] []
  | cons {t : Tok} {ts : List Tok} {g l : List UInt8} : IsGap g → Built ts l → Built (t :: ts) (g ++ (piece t ++ l))
theorem Built.stop {ts : List Tok} {l : List UInt8} (h : Built ts l) : Stop l := by
  cases h with
  | nil => intro c cs e; cases e
  | cons hg _ => exact gap_stop hg _
theorem piece_len {t : Tok} (h : V t) : (piece t).length ≤ 66 := by
  rcases h with ⟨hk, c, cs, ht, hl, hall, hlen⟩ | ⟨hk, hne, hlen⟩ | ⟨hk, c, ht, hs⟩
  · unfold piece; rw [if_neg (by omega), ht]; omega
  · unfold piece; rw [if_pos hk]; have := quote_len t.text; omega
  · unfold piece; rw [if_neg (by omega), ht]; simp
theorem Built.len {ts : List Tok} {l : List UInt8} (h : Built ts l) (hv : ∀ t ∈ ts, V t) : l.length ≤ 100 * ts.length := by
  induction h with
  | nil => simp
  | @cons t ts g l hg hb ih =>
    have h1 := gap_len hg
    have h2 := piece_len (hv t (by simp))
    have h3 := ih fun u hu => hv u (by simp [hu])
    simp only [List.length_append, List.length_cons]
    omega
/-- Kind and text. -/
def kt (t : Tok) : Int × List UInt8 := (t.kind, t.text)
theorem scanF_built {ts : List Tok} {l : List UInt8} (h : Built ts l) (hv : ∀ t ∈ ts, V t) : ∀ (n : Nat) (p : Int × Int) (acc : List Tok), ts.length < n → ∃ ts' e', scanF n l p acc = .ok (acc ++ ts' ++ [e']) ∧ ts'.map kt = ts.map kt ∧ IsEnd e' := by
  induction h with
  | nil =>
    intro n p acc hn
    obtain ⟨m, rfl⟩ : ∃ m, n = m + 1 := ⟨n - 1, by simp at hn; omega⟩
    exact ⟨[], ⟨4, [], p⟩, by simp [scanF, skip], rfl, rfl, rfl⟩
  | @cons t ts g l hg hb ih =>
    intro n p acc hn
    simp only [List.length_cons] at hn
    obtain ⟨m, rfl⟩ : ∃ m, n = m + 1 := ⟨n - 1, by omega⟩
    obtain ⟨c, cs, hp, h35, hbl, htok⟩ := token_piece (hv t (by simp)) l hb.stop
    obtain ⟨p1, hs⟩ := skip_gap hg (piece t ++ l) p
    obtain ⟨p2, ht⟩ := htok p1
    obtain ⟨ts', e', h1, h2, h3⟩ := ih (fun u hu => hv u (by simp [hu])) m p2 (acc ++ [⟨t.kind, t.text, p1⟩]) (by omega)
    refine ⟨⟨t.kind, t.text, p1⟩ :: ts', e', ?_, by simp [h2, kt], h3⟩
    unfold scanF
    have hs2 : skip false (g ++ (piece t ++ l)) p = (c :: (cs ++ l), p1) := by
      rw [hs, hp]
      simp [skip, h35, hbl]
    rw [hs2]
    simp only [ht]
    rw [h1]
    simp
theorem scan_built {ts : List Tok} {l : List UInt8} (h : Built ts l) (hv : ∀ t ∈ ts, V t) (hl : l.length ≤ 65536) : ∃ ts' e', scan l = .ok (ts' ++ [e']) ∧ ts'.map kt = ts.map kt ∧ IsEnd e' := by
  have hn : ts.length ≤ l.length := by
    clear hl
    induction h with
    | nil => simp
    | @cons t ts g l hg hb ih =>
      have := ih fun u hu => hv u (by simp [hu])
      have : 1 ≤ g.length := by rcases hg with rfl | rfl | rfl | rfl <;> decide
      simp only [List.length_append, List.length_cons]
      omega
  obtain ⟨ts', e', h1, h2, h3⟩ := scanF_built h hv (l.length + 1) (1, 1) [] (by omega)
  refine ⟨ts', e', ?_, h2, h3⟩
  unfold scan
  rw [if_neg (by omega), h1]
  simp
end Go.Proofs.Ytohbjgckcbdegaa.Lx
