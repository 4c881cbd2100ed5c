/- The document's grammar of a grammar. -/
import Derived.Test.YtdbkooliafkcgaaPx5
import Derived.Test.YtdbkooliafkcgaaSymP
import Derived.Test.YtdbkooliafkcgaaEvPos
set_option linter.unusedVariables false
set_option linter.unusedSimpArgs false
namespace Go.Proofs.Ytdbkooliafkcgaa.Pure
open Go.RowKit Go.Proofs.Ytdbkooliafkcgaa.P Go.Proofs.YtdbkooliafkcgaaW.PrintWords Go.Proofs.YtdbkooliafkcgaaW.PrintLast Go.Proofs.Ytdbkooliafkcgaa Go.Proofs.Ytdbkooliafkcgaa.Sw Go.Proofs.Ytdbkooliafkcgaa.Yw

mutual
def convN : S48 → S67
  | ⟨k, x, l⟩ => ⟨k, x, convL l⟩
def convL : List S48 → List S67
  | [] => []
  | n :: l => convN n :: convL l
end
theorem convL_map : ∀ l, convL l = l.map convN
  | [] => rfl
  | n :: l => by rw [convL, convL_map l]; rfl
def convR (r : S50) : S69 := ⟨r.f0, convN r.f1⟩
theorem small_parts {a : Int} {t : ByteArray} {l : List S48} (h : smallN ⟨a, t, l⟩ = true) : l.length ≤ 100000 ∧ ∀ x ∈ l, smallN x = true := by
  unfold smallN at h
  simp only [Bool.and_eq_true, decide_eq_true_eq] at h
  exact ⟨h.1, (smallL_iff l).1 h.2⟩
theorem node_lt {a : Int} {t : ByteArray} {l : List S48} {x : S48} (h : x ∈ l) : SizeOf.sizeOf x < SizeOf.sizeOf (⟨a, t, l⟩ : S48) := by
  have := List.sizeOf_lt_of_mem h
  simp
  omega
theorem take_next {α β : Type} (f : α → β) {l : List α} {j : Nat} (h : j < l.length) : (l.take j).map f ++ [f l[j]] = (l.take (j + 1)).map f := by
  rw [List.take_add_one, List.getElem?_eq_getElem h, List.map_append]
  rfl
theorem eta_node (x : S67) : (⟨x.f0, x.f1, x.f2⟩ : S67) = x := by cases x; rfl
theorem node_ref : ∀ (N : Nat) (n : S48), SizeOf.sizeOf n < N → smallN n = true → Ev (fun k => primerlaw07_node.f k n.f0 n.f1 n.f2) ((convN n).f0, (convN n).f1, (convN n).f2)
  | 0, _, h, _ => by omega
  | N + 1, ⟨a, t, l⟩, hN, hs => by
    obtain ⟨hl, hx⟩ := small_parts hs
    have loop : ∀ d j : Nat, j + d = l.length → Ev (fun k => primerlaw07_node.l0 k (j : Int) a t l a t ((l.take j).map convN)) (a, t, l.map convN) := by
      intro d
      induction d with
      | zero =>
        intro j hj
        refine Ev.succ ?_
        simp only [primerlaw07_node.l0]
        refine Ev.neg (by omega) (Ev.const.eq' ?_)
        rw [List.take_of_length_le (by omega)]
      | succ d ih =>
        intro j hj
        have hlt : j < l.length := by omega
        have hm : l[j] ∈ l := List.getElem_mem hlt
        have hrd : rd_T48 l (j : Int) = l[j] := by simp [rd_T48, hlt]
        refine Ev.succ ?_
        simp only [primerlaw07_node.l0]
        refine Ev.pos (by omega) (Ev.pos (by omega) ?_)
        rw [hrd]
        refine Ev.bind (node_ref N l[j] (by have := node_lt (a := a) (t := t) hm; omega) (hx _ hm)) (Ev.pos (by simp; omega) ?_)
        have := ih (j + 1) (by omega)
        rw [← take_next convN hlt] at this
        rw [wr_nat _ (by omega)]
        refine this.eq fun k => ?_
        simp only [eta_node]
    refine Ev.succ ?_
    simp only [primerlaw07_node.f]
    refine (loop l.length 0 (by omega)).eq' ?_
    rw [convN, convL_map]
theorem grammar_ref (st : ByteArray) (l : List S50) (hl : l.length ≤ 64) (hx : ∀ x ∈ l, smallN x.f1 = true) : Ev (fun k => primerlaw07_grammar.f k st l) (st, l.map convR) := by
  have loop : ∀ d j : Nat, j + d = l.length → Ev (fun k => primerlaw07_grammar.l0 k (j : Int) st l st ((l.take j).map convR)) (st, l.map convR) := by
    intro d
    induction d with
    | zero =>
      intro j hj
      refine Ev.succ ?_
      simp only [primerlaw07_grammar.l0]
      refine Ev.neg (by omega) (Ev.const.eq' ?_)
      rw [List.take_of_length_le (by omega)]
    | succ d ih =>
      intro j hj
      have hlt : j < l.length := by omega
      have hm : l[j] ∈ l := List.getElem_mem hlt
      have hrd : rd_T50 l (j : Int) = l[j] := by simp [rd_T50, hlt]
      refine Ev.succ ?_
      simp only [primerlaw07_grammar.l0]
      refine Ev.pos (by omega) (Ev.pos (by omega) ?_)
      rw [hrd]
      refine Ev.bind (node_ref _ l[j].f1 (Nat.lt_succ_self _) (hx _ hm)) (Ev.pos (by simp; omega) ?_)
      have := ih (j + 1) (by omega)
      rw [← take_next convR hlt] at this
      rw [wr_nat _ (by omega)]
      refine this.eq fun k => ?_
      simp only [eta_node]
      rfl
  exact loop l.length 0 (by omega)
end Go.Proofs.Ytdbkooliafkcgaa.Pure
