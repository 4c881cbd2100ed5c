/- LexJoins: two texts that are read, with a newline between, are read as both; for every two arguments. -/
import Derived.Test.YtohbjgckcbdegaaPx7
import Derived.Test.YtohbjgckcbdegaaLexRefA
import Derived.Test.YtohbjgckcbdegaaLexPlainB
import Derived.Test.YtohbjgckcbdegaaLexPlainC
set_option linter.unusedVariables false
set_option linter.unusedSimpArgs false
namespace Go.Proofs.Ytohbjgckcbdegaa.Pure
open Go.RowKit Go.Proofs.Ytohbjgckcbdegaa.P Go.Proofs.YtohbjgckcbdegaaW.PrintWords Go.Proofs.YtohbjgckcbdegaaW.PrintLast Go.Proofs.Ytohbjgckcbdegaa

theorem speaks_true : primerlaw04_speaks.f = some true := by kernel_rfl

theorem app_mk (a b : List UInt8) : (⟨⟨a⟩⟩ : ByteArray) ++ (⟨⟨b⟩⟩ : ByteArray) = ⟨⟨a ++ b⟩⟩ := by
  apply ByteArray.ext
  rw [ByteArray.data_append]
  simp
theorem rd_get (l : List Lx.Tok) (i : Nat) (h : i < l.length) : rd_T31 (l.map toS) ((i : Nat) : Int) = toS l[i] := by
  simp [rd_T31, h]
theorem first_loop {r : Bool} (init : List Lx.Tok) (e : Lx.Tok) (rest : List Lx.Tok) (x7 : List S31) (x11 : Int) (hl : init.length ≤ 100000) (d : Nat) : ∀ i : Nat, i + d = init.length →
    Ev (fun k => primerlaw04_LexJoins.l1 k ((init ++ [e]).map toS) x7 ((init ++ rest).map toS) x11 0) r →
    Ev (fun k => primerlaw04_LexJoins.l0 k ((init ++ [e]).map toS) x7 ((init ++ rest).map toS) x11 i) r := by
  have hlen : (((init ++ [e]).map toS).length : Int) = init.length + 1 := by rw [List.length_map, List.length_append, List.length_singleton]; omega
  have hlen2 : (((init ++ rest).map toS).length : Int) = init.length + rest.length := by rw [List.length_map, List.length_append]; omega
  induction d with
  | zero =>
    intro i hi H
    refine Ev.succ ?_
    simp only [primerlaw04_LexJoins.l0]
    rw [hlen, wr_int _ (by omega) (by omega)]
    exact Ev.neg (by omega) H
  | succ d ih =>
    intro i hi H
    refine Ev.succ ?_
    simp only [primerlaw04_LexJoins.l0]
    rw [hlen, hlen2, wr_int (init.length + 1 - 1 : Int) (by omega) (by omega), wr_nat _ (by omega)]
    rw [rd_get (init ++ [e]) i (by simp; omega), rd_get (init ++ rest) i (by simp; omega)]
    rw [List.getElem_append_left (by omega), List.getElem_append_left (by omega)]
    refine Ev.pos (by omega) (Ev.pos (by omega) (Ev.pos (by omega) (Ev.pos (by omega) (Ev.neg (by simp) ?_))))
    exact ih (i + 1) (by omega) H
theorem second_loop (init tb : List Lx.Tok) (e : Lx.Tok) (lines : Int) (h1 : 1 ≤ lines) (h2 : lines ≤ 100000) (hl : init.length ≤ 100000) (hb : tb.length ≤ 100000) (hp : ∀ t ∈ tb, 1 ≤ t.p.1 ∧ t.p.1 ≤ 100000) (d : Nat) : ∀ i : Nat, i + d = tb.length →
    Ev (fun k => primerlaw04_LexJoins.l1 k ((init ++ [e]).map toS) (tb.map toS) ((init ++ tb.map (Lx.shT lines)).map toS) lines i) true := by
  have hlen : (((init ++ [e]).map toS).length : Int) = init.length + 1 := by rw [List.length_map, List.length_append, List.length_singleton]; omega
  have hlen2 : (((init ++ tb.map (Lx.shT lines)).map toS).length : Int) = init.length + tb.length := by rw [List.length_map, List.length_append, List.length_map]; omega
  have hlen3 : ((tb.map toS).length : Int) = tb.length := by rw [List.length_map]
  induction d with
  | zero =>
    intro i hi
    refine Ev.succ ?_
    simp only [primerlaw04_LexJoins.l1]
    rw [hlen3]
    exact Ev.neg (by omega) Ev.const
  | succ d ih =>
    intro i hi
    have hit : i < tb.length := by omega
    obtain ⟨q1, q2⟩ := hp tb[i] (List.getElem_mem hit)
    refine Ev.succ ?_
    simp only [primerlaw04_LexJoins.l1]
    rw [hlen, hlen2, hlen3, wr_int (init.length + 1 - 1 : Int) (by omega) (by omega), wr_nat _ (by omega), wr_int ((init.length + 1 - 1 : Int) + i) (by omega) (by omega)]
    rw [show ((init.length : Int) + 1 - 1 + (i : Int)) = ((init.length + i : Nat) : Int) by omega]
    rw [rd_get tb i hit, rd_get (init ++ tb.map (Lx.shT lines)) (init.length + i) (by simp; omega)]
    rw [List.getElem_append_right (by omega)]
    simp only [Nat.add_sub_cancel_left, List.getElem_map]
    have hw : wrap64 ((toS tb[i]).f2 + lines) = (tb[i]).p.1 + lines := by
      show wrap64 ((tb[i]).p.1 + lines) = _
      exact wr_int _ (by omega) (by omega)
    rw [hw]
    refine Ev.pos (by omega) (Ev.pos (by omega) (Ev.pos (by omega) (Ev.pos (by omega) (Ev.neg (by simp [toS, Lx.shT, Lx.sh]) ?_))))
    exact ih (i + 1) (by omega)
theorem LexJoins : primerlaw04_LexJoins.Pure := by
  intro a b _ _
  apply Ev.at
  unfold primerlaw04_LexJoins.f
  rw [speaks_true]
  simp only [Option.bind_some, if_true]
  have e0 : ∀ c : Bool, (c = false → a.size ≤ 500 ∧ b.size ≤ 500) → Ev (fun k => primerlaw04_LexJoins.j0 k a b c) true := by
    intro c hc
    refine Ev.succ ?_
    simp only [primerlaw04_LexJoins.j0]
    cases c with
    | true => exact Ev.pos rfl Ev.const
    | false =>
      obtain ⟨ha, hb⟩ := hc rfl
      have hla := length_data a
      have hlb := length_data b
      refine Ev.neg (by simp) ?_
      have j1t : ∀ x5 x7, Ev (fun k => primerlaw04_LexJoins.j1 k a b x5 x7 true) true := by
        intro x5 x7
        refine Ev.succ ?_
        simp only [primerlaw04_LexJoins.j1]
        exact Ev.pos (by simp) Ev.const
      unfold lex_Scan.f
      simp only [Option.bind_some]
      cases hsa : Lx.scan a.data.toList with
      | error f => exact Ev.neg (Lx.scan_err hsa) (j1t _ _)
      | ok ta =>
        refine Ev.pos (by trivial) ?_
        cases hsb : Lx.scan b.data.toList with
        | error f =>
          have : ((f.code != 0) : Bool) = true := by simpa using Lx.scan_err hsb
          simp only [this]
          exact j1t _ _
        | ok tb =>
          obtain ⟨init, pe, hta, hj⟩ := Lx.scan_join hsa hsb (by omega)
          have hca := Lx.scan_count hsa
          have hcb := Lx.scan_count hsb
          have hna := Lx.scan_lines hsa
          have hnb := Lx.scan_lines hsb
          subst hta
          simp only [List.length_append, List.length_singleton] at hca
          obtain ⟨l1, l2⟩ := hna (⟨4, [], pe⟩ : Lx.Tok) (by simp)
          simp only at l1 l2
          refine Ev.succ ?_
          simp only [primerlaw04_LexJoins.j1]
          refine Ev.neg (by simp) (Ev.pos (by omega) (Ev.pos (by rw [ByteArray.size_append]; show a.size + 1 + b.size ≤ _; omega) ?_))
          have hcat : ((a ++ (⟨#[10]⟩ : ByteArray)) ++ b).data.toList = a.data.toList ++ 10 :: b.data.toList := by simp [ByteArray.data_append]
          unfold lex_Scan.f
          rw [hcat, hj]
          simp only [Option.bind_some]
          refine Ev.pos (by trivial) (Ev.succ ?_)
          simp only [primerlaw04_LexJoins.j2]
          have hlen : (((init ++ [(⟨4, [], pe⟩ : Lx.Tok)]).map toS).length : Int) = init.length + 1 := by rw [List.length_map, List.length_append, List.length_singleton]; omega
          have hlen2 : (((init ++ tb.map (Lx.shT pe.1)).map toS).length : Int) = init.length + tb.length := by rw [List.length_map, List.length_append, List.length_map]; omega
          have hlen3 : ((tb.map toS).length : Int) = tb.length := by rw [List.length_map]
          rw [hlen, hlen2, hlen3, wr_int ((init.length : Int) + 1 + tb.length) (by omega) (by omega), wr_int _ (by omega) (by omega), wr_int (init.length + 1 - 1 : Int) (by omega) (by omega)]
          refine Ev.neg (by simp; omega) (Ev.pos (by omega) (Ev.pos (by omega) ?_))
          have hrd : rd_T31 ((init ++ [(⟨4, [], pe⟩ : Lx.Tok)]).map toS) ((init.length : Int) + 1 - 1) = toS (⟨4, [], pe⟩ : Lx.Tok) := by
            rw [show ((init.length : Int) + 1 - 1) = ((init.length : Nat) : Int) by omega, rd_get _ _ (by simp)]
            simp
          rw [hrd]
          show Ev (fun k => primerlaw04_LexJoins.l0 k ((init ++ [(⟨4, [], pe⟩ : Lx.Tok)]).map toS) (tb.map toS) ((init ++ tb.map (Lx.shT pe.1)).map toS) pe.1 0) true
          refine first_loop init (⟨4, [], pe⟩ : Lx.Tok) _ _ _ (by omega) init.length 0 (by omega) ?_
          exact second_loop init tb _ pe.1 (by omega) (by omega) (by omega) (by omega) (fun t ht => by have := hnb t ht; omega) tb.length 0 (by omega)
  by_cases h1 : (a.size : Int) > 500
  · exact Ev.pos h1 (e0 true (by simp))
  · refine Ev.neg h1 (e0 _ fun h => ?_)
    have := of_decide_eq_false h
    omega
end Go.Proofs.Ytohbjgckcbdegaa.Pure
