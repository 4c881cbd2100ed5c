/- LexLong: a text of up to 65536 blanks is scanned, a longer one is refused; for every argument. -/
import Derived.Test.YtohbjgckcbdegaaPx8
import Derived.Test.YtohbjgckcbdegaaLexLaws
set_option linter.unusedVariables false
namespace Go.Proofs.Ytohbjgckcbdegaa.Pure
open Go.RowKit Go.Proofs.Ytohbjgckcbdegaa.P Go.Proofs.YtohbjgckcbdegaaW.PrintWords Go.Proofs.YtohbjgckcbdegaaW.PrintLast Go.Proofs.Ytohbjgckcbdegaa

theorem speaks_true : primerlaw04_speaks.f = some true := by kernel_rfl

theorem skip_blanks (n : Nat) (p : Int × Int) : Lx.skip false (List.replicate n 32) p = ([], (p.1, p.2 + n)) := by
  induction n generalizing p with
  | zero => simp [Lx.skip]
  | succ n ih =>
    rw [List.replicate_succ, Lx.skip]
    simp only [show ((32 : UInt8).toNat = 35) = False by decide, if_false, show Lx.blank 32 = true by decide, if_true]
    rw [ih]
    simp only [Lx.adv, show ((32 : UInt8).toNat = 10) = False by decide, if_false]
    congr 2
    push_cast
    omega
theorem scan_blanks (n : Nat) (h : n ≤ 65536) : Lx.scan (List.replicate n 32) = .ok [⟨4, [], (1, 1 + n)⟩] := by
  unfold Lx.scan
  rw [if_neg (by simp; omega)]
  unfold Lx.scanF
  rw [skip_blanks]
  simp
theorem fill_ends (n : Nat) (hn : n ≤ 100000) (d : Nat) : ∀ (k i : Nat) (l : List Int), i + d = n → l.length = n → d < k → (∀ j, j < i → l[j]? = some 32) →
    primerlaw04_LexLong.l0 k n l i = primerlaw04_LexLong.l0 1 n (List.replicate n 32) n := by
  induction d with
  | zero =>
    intro k i l hi hl hk h
    obtain ⟨k, rfl⟩ : ∃ m, k = m + 1 := ⟨k - 1, by omega⟩
    have e : l = List.replicate n 32 := by
      apply List.ext_getElem?
      intro j
      by_cases hj : j < n
      · rw [h j (by omega), List.getElem?_replicate, if_pos hj]
      · rw [List.getElem?_eq_none (by omega), List.getElem?_replicate, if_neg hj]
    have : i = n := by omega
    subst this
    subst e
    simp only [primerlaw04_LexLong.l0]
    rw [if_neg (by omega), if_neg (by omega)]
  | succ d ih =>
    intro k i l hi hl hk h
    obtain ⟨k, rfl⟩ : ∃ m, k = m + 1 := ⟨k - 1, by omega⟩
    have hw : wrap64 ((i : Int) + 1) = ((i + 1 : Nat) : Int) := by unfold wrap64; omega
    have := ih k (i + 1) (l.set i 32) (by omega) (by simpa using hl) (by omega) (by
      intro j hj
      rw [List.getElem?_set]
      split
      · rename_i e; subst e; rw [if_pos (by omega)]
      · exact h j (by omega))
    rw [← this]
    conv => lhs; simp only [primerlaw04_LexLong.l0]
    rw [if_pos (by omega), if_pos (by omega), if_pos (by omega), hw]
    rfl
theorem strOf_blanks (n : Nat) : (strOfNums (List.replicate n 32)).data.toList = List.replicate n 32 := by
  simp [strOfNums]

theorem and_fifteen (a : Int) : 0 ≤ Go.bits .and .i64 a 15 ∧ Go.bits .and .i64 a 15 ≤ 15 := by
  have h : ((BitVec.ofInt IntKind.i64.bits a) &&& (BitVec.ofInt IntKind.i64.bits 15)).toNat ≤ 15 := by
    rw [BitVec.toNat_and]
    exact Nat.le_trans Nat.and_le_right (by decide)
  unfold Go.bits
  simp only []
  rw [IntKind.wrap_i64]
  generalize ((BitVec.ofInt IntKind.i64.bits a) &&& (BitVec.ofInt IntKind.i64.bits 15)).toNat = z at h ⊢
  omega

theorem LexLong : primerlaw04_LexLong.Pure := by
  intro a _
  obtain ⟨h0, h1⟩ := and_fifteen a
  obtain ⟨m, hm⟩ : ∃ m : Nat, Go.bits .and .i64 a 15 = m := ⟨_, (Int.toNat_of_nonneg h0).symm⟩
  rw [hm] at h0 h1
  have hw : wrap64 (65530 + (m : Int)) = ((65530 + m : Nat) : Int) := by unfold wrap64; omega
  refine ⟨65530 + m + 1, ?_⟩
  unfold primerlaw04_LexLong.f
  rw [speaks_true, hm, hw]
  simp only [Option.bind_some, if_true]
  rw [if_pos (by omega), if_pos (by omega)]
  have e := fill_ends (65530 + m) (by omega) (65530 + m) (65530 + m + 1) 0 (List.replicate (65530 + m) 0) (by omega) (by simp) (by omega) (by intro j hj; omega)
  rw [show (((65530 + m : Nat) : Int)).toNat = 65530 + m by omega]
  rw [show ((0 : Nat) : Int) = 0 from rfl] at e
  rw [e]
  simp only [primerlaw04_LexLong.l0]
  rw [if_neg (by omega)]
  unfold lex_Scan.f
  rw [strOf_blanks]
  simp only [Option.bind_some]
  by_cases hb : 65530 + m ≤ 65536
  · rw [if_neg (by omega), scan_blanks _ hb]
    simp [toS, rd_T31]
    unfold wrap64
    omega
  · rw [if_pos (by omega)]
    have : Lx.scan (List.replicate (65530 + m) 32) = .error ⟨(0, 0), 6⟩ := by unfold Lx.scan; rw [if_pos (by simp; omega)]
    rw [this]
    simp
end Go.Proofs.Ytohbjgckcbdegaa.Pure
