/- For every parsed grammar the program's problems are the document's. -/
import Derived.Test.YtdbkooliafkcgaaPx6
import Derived.Test.YtdbkooliafkcgaaSymH
set_option linter.unusedVariables false
set_option linter.unusedSimpArgs false
namespace Go.Proofs.Ytdbkooliafkcgaa.Pure
open Go.RowKit Go.Proofs.Ytdbkooliafkcgaa.P Go.Proofs.YtdbkooliafkcgaaW.PrintWords Go.Proofs.YtdbkooliafkcgaaW.PrintLast Go.Proofs.Ytdbkooliafkcgaa Go.Proofs.Ytdbkooliafkcgaa.Sw Go.Proofs.Ytdbkooliafkcgaa.Yw

theorem speaks_true : primerlaw07_speaks.f = some true := by kernel_rfl
theorem compare_true (l : List S38) (hl : l.length ≤ 4000000000000) : Ev (fun k => primerlaw07_SymbolsProblems.l0 k l (l.map convP) 0) true := by
  have loop : ∀ d j : Nat, j + d = l.length → Ev (fun k => primerlaw07_SymbolsProblems.l0 k l (l.map convP) (j : Int)) true := by
    intro d
    induction d with
    | zero =>
      intro j hj
      refine Ev.succ ?_
      simp only [primerlaw07_SymbolsProblems.l0]
      exact Ev.neg (by rw [List.length_map]; omega) Ev.const
    | succ d ih =>
      intro j hj
      have hlt : j < l.length := by omega
      have h1 : rd_T38 l (j : Int) = l[j] := by simp [rd_T38, hlt]
      have h2 : rd_T40 (l.map convP) (j : Int) = convP l[j] := by simp [rd_T40, hlt]
      refine Ev.succ ?_
      simp only [primerlaw07_SymbolsProblems.l0]
      refine Ev.pos (by rw [List.length_map]; omega) (Ev.pos (by omega) (Ev.pos (by omega) ?_))
      rw [h1, h2, wr_nat _ (by omega)]
      exact Ev.neg (by simp [convP]) (ih (j + 1) (by omega))
  exact loop l.length 0 (by omega)
theorem problems_same (st : ByteArray) (rs : List S50) (hg : okG st rs = true) (hl : rs.length ≤ 64) (hs : ∀ x ∈ rs, smallN x.f1 = true) :
    Ev (fun k => ((symbols_Check.f st rs).bind fun t201 => ((primerlaw07_grammar.f k st rs).bind fun bt204 => ((primerref07_Check.f k bt204.1 bt204.2).bind fun t208 => (if (t201.length : Int) = (t208.length : Int) then (primerlaw07_SymbolsProblems.l0 k t201 t208 0) else (some false)))))) true := by
  have h1 : symbols_Check.f st rs = some (checkF st rs) := by unfold symbols_Check.f; rw [if_pos hg]
  have hx := (okG_parts hg).2.2
  have hlen := rulesUpto_length (firstsF rs) rs (fun x h => (hx x h).2.2) _ (Nat.le_refl _)
  have hlen2 : (checkF st rs).length ≤ 4000000000000 := by
    unfold checkF
    split
    · omega
    · rw [List.length_append, List.length_singleton]; omega
  refine Ev.bind (Ev.fixed h1) (Ev.bind (grammar_ref st rs hl hs) (Ev.bind (check_ref st rs hg hs) ?_))
  exact Ev.pos (by rw [List.length_map]) (compare_true _ hlen2)
theorem SymbolsProblems : primerlaw07_SymbolsProblems.Pure := by
  intro a0 ha
  refine Ev.at ?_
  unfold primerlaw07_SymbolsProblems.f
  refine Ev.bind (b := true) (Ev.fixed speaks_true) (Ev.pos rfl ?_)
  by_cases h : (a0.size : Int) > 1000
  · refine Ev.bind (b := (⟨#[]⟩, [], false)) (Ev.fixed ?_) (Ev.neg (by simp) Ev.const)
    unfold primerlaw07_read.f
    rw [if_pos h]
  · obtain ⟨p, hp⟩ := parse_total a0
    have hp : parseR a0 = some p := hp
    have h1 : syntax_Parse.f a0 = some (parseT p) := by unfold syntax_Parse.f; rw [hp]; rfl
    refine Ev.bind (b := ((parseT p).1, (parseT p).2.1, ((parseT p).2.2.2.2 == 0))) (Ev.fixed ?_) ?_
    · unfold primerlaw07_read.f
      rw [if_neg h, h1]
      rfl
    · have key : Ev (fun k => ((symbols_Check.f (parseT p).1 (parseT p).2.1).bind fun t201 => ((primerlaw07_grammar.f k (parseT p).1 (parseT p).2.1).bind fun bt204 => ((primerref07_Check.f k bt204.1 bt204.2).bind fun t208 => (if (t201.length : Int) = (t208.length : Int) then (primerlaw07_SymbolsProblems.l0 k t201 t208 0) else (some false)))))) true := by
        cases p with
        | bad l c e => exact problems_same _ _ (by rfl) (by simp [parseT]) (fun x hx => by cases hx)
        | ok g j =>
          obtain ⟨hg, hl, hx⟩ := parse_okG hp
          exact problems_same g.f0 g.f1 hg hl (fun x h => (hx x h).1)
      by_cases hb : ((parseT p).2.2.2.2 == 0) = true
      · exact Ev.pos hb key
      · exact Ev.neg hb Ev.const
end Go.Proofs.Ytdbkooliafkcgaa.Pure
