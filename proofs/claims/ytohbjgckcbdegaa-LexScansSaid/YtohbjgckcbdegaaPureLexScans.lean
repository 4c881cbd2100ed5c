/- LexScans: lex.Scan and the document's Scan tell the same tokens, or the same fault; for every argument. -/
import Derived.Test.YtohbjgckcbdegaaPx6
import Derived.Test.YtohbjgckcbdegaaLexRefC
set_option linter.unusedVariables false
set_option linter.unusedSimpArgs false
namespace Go.Proofs.Ytohbjgckcbdegaa.Pure
open Go.RowKit Go.Proofs.Ytohbjgckcbdegaa.P Go.Proofs.YtohbjgckcbdegaaW.PrintWords Go.Proofs.YtohbjgckcbdegaaW.PrintLast Go.Proofs.Ytohbjgckcbdegaa

theorem speaks_true : primerlaw04_speaks.f = some true := by kernel_rfl

theorem same_loop (ts : List Lx.Tok) (hl : ts.length ≤ 1000000) (d : Nat) : ∀ i : Nat, i + d = ts.length → Ev (fun k => primerlaw04_same.l0 k (ts.map toS) (ts.map toR) i) true := by
  induction d with
  | zero =>
    intro i hi
    refine Ev.succ ?_
    simp only [primerlaw04_same.l0]
    exact Ev.neg (by simp; omega) Ev.const
  | succ d ih =>
    intro i hi
    refine Ev.succ ?_
    simp only [primerlaw04_same.l0]
    refine Ev.pos (by simp; omega) (Ev.pos (by omega) (Ev.pos (by simp; omega) ?_))
    rw [wr_nat _ (by omega)]
    have hlt : i < ts.length := by omega
    have e1 : rd_T31 (ts.map toS) i = toS ts[i] := by simp [rd_T31, hlt]
    have e2 : rd_T44 (ts.map toR) i = toR ts[i] := by simp [rd_T44, hlt]
    rw [e1, e2]
    refine Ev.neg (by simp [toS, toR]) ?_
    exact ih (i + 1) (by omega)
theorem scanF_len (n : Nat) : ∀ (l : List UInt8) (p : Int × Int) (acc ts : List Lx.Tok), Lx.scanF n l p acc = .ok ts → ts.length ≤ acc.length + n := by
  induction n with
  | zero => intro l p acc ts h; simp [Lx.scanF] at h
  | succ n ih =>
    intro l p acc ts h
    unfold Lx.scanF at h
    split at h
    · injection h with h; subst h; simp <;> omega
    · split at h
      · cases h
      · have := ih _ _ _ _ h
        simp at this
        omega
theorem same_ref (s : ByteArray) (hs : s.size ≤ 65536) : Ev (fun k => primerlaw04_same.f k s) true := by
  unfold primerlaw04_same.f lex_Scan.f
  simp only [Option.bind_some]
  refine Ev.bind (scan_ref s) ?_
  have j0 : ∀ x y b, b = false → Ev (fun k => primerlaw04_same.l0 k x y 0) true → Ev (fun k => primerlaw04_same.j0 k x y b) true := by
    intro x y b hb h
    refine Ev.succ ?_
    simp only [primerlaw04_same.j0]
    exact Ev.neg (by simp [hb]) h
  cases h : Lx.scan s.data.toList with
  | error f =>
    refine Ev.pos (by simp [ansR]) (j0 _ _ _ (by simp [ansR]) ?_)
    exact same_loop [] (by simp) 0 0 (by simp)
  | ok ts =>
    have hl : ts.length ≤ 1000000 := by
      unfold Lx.scan at h
      split at h
      · cases h
      · have := scanF_len _ _ _ _ _ h
        rw [length_data] at this
        simp at this
        omega
    refine Ev.pos (by simp [ansR]) (j0 _ _ _ (by simp [ansR]) ?_)
    exact same_loop ts hl ts.length 0 (by simp)
theorem LexScans : primerlaw04_LexScans.Pure := by
  intro a _
  apply Ev.at
  unfold primerlaw04_LexScans.f
  rw [speaks_true]
  simp only [Option.bind_some, if_true]
  by_cases h : a.size ≤ 2000
  · exact Ev.neg (by omega) (Ev.bind (same_ref a (by omega)) Ev.const)
  · exact Ev.pos (by omega) Ev.const
end Go.Proofs.Ytohbjgckcbdegaa.Pure
