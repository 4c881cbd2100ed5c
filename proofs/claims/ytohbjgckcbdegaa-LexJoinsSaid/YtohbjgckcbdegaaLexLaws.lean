/- Plain laws of the scanner's parts. -/
import Derived.Test.YtohbjgckcbdegaaLexSpec
namespace Go.Proofs.Ytohbjgckcbdegaa.Lx

theorem letter_inName {c : UInt8} (h : letter c = true) : inName c = true := by simp [inName, h]
theorem nameL_len (l : List UInt8) (p : Int × Int) : (nameL l p).2.1.length ≤ l.length := by
  induction l generalizing p with
  | nil => simp [nameL]
  | cons c cs ih =>
    unfold nameL
    split
    · have := ih (adv c p); simp; omega
    · simp
theorem nameL_len_lt {c : UInt8} {cs : List UInt8} {p : Int × Int} (h : inName c = true) : (nameL (c :: cs) p).2.1.length ≤ cs.length := by
  unfold nameL
  rw [if_pos h]
  exact nameL_len cs (adv c p)
theorem escX_len {l : List UInt8} {p : Int × Int} {b : UInt8} {rest : List UInt8} {p' : Int × Int} (h : escX l p = .ok b rest p') : rest.length ≤ l.length := by
  unfold escX at h
  cases l with
  | nil => cases h
  | cons c cs =>
    simp only at h
    split at h
    · cases h
    · cases cs with
      | nil => cases h
      | cons d ds =>
        simp only at h
        split at h
        · cases h
        · injection h with h1 h2 h3; subst h2; simp; omega
theorem esc_len {l : List UInt8} {p : Int × Int} {b : UInt8} {rest : List UInt8} {p' : Int × Int} (h : esc l p = .ok b rest p') : rest.length ≤ l.length := by
  unfold esc at h
  cases l with
  | nil => cases h
  | cons c cs =>
    simp only at h
    split at h
    · injection h with h1 h2 h3; subst h2; simp
    · split at h
      · injection h with h1 h2 h3; subst h2; simp
      · split at h
        · injection h with h1 h2 h3; subst h2; simp
        · split at h
          · have := escX_len h; simp; omega
          · cases h
theorem lit_len {q : UInt8} {n : Nat} {l : List UInt8} {p : Int × Int} {out t rest : List UInt8} {p' : Int × Int} (h : lit q n l p out = (some (t, rest), p')) : rest.length ≤ l.length := by
  induction n generalizing l p out with
  | zero => simp [lit] at h
  | succ n ih =>
    cases l with
    | nil => simp [lit] at h
    | cons c cs =>
      simp only [lit] at h
      split at h
      · injection h with h1 h2; injection h1 with h1; injection h1 with h1 h3; subst h3; simp
      · split at h
        · split at h
          · rename_i b r p2 he
            have := ih h; have := esc_len he; simp; omega
          · injection h with h1 h2; cases h1
        · split at h
          · injection h with h1 h2; cases h1
          · have := ih h; simp; omega
theorem token_len {c : UInt8} {cs : List UInt8} {p : Int × Int} {t : Tok} {rest : List UInt8} {p' : Int × Int} (h : token c cs p = .ok (t, rest, p')) : rest.length ≤ cs.length := by
  unfold token at h
  split at h
  · rename_i hl
    split at h
    · cases h
    · injection h with h; injection h with h1 h2
      have e : (nameL (c :: cs) p).2.1 = rest := by rw [h2]
      rw [← e]
      exact nameL_len_lt (letter_inName hl)
  · split at h
    · split at h
      · cases h
      · rename_i hlit
        split at h
        · cases h
        · split at h
          · cases h
          · injection h with h; injection h with h1 h2; injection h2 with h2 h3
            subst h2
            exact lit_len hlit
    · split at h
      · injection h with h; injection h with h1 h2; injection h2 with h2 h3; subst h2; exact Nat.le_refl _
      · cases h
end Go.Proofs.Ytohbjgckcbdegaa.Lx
