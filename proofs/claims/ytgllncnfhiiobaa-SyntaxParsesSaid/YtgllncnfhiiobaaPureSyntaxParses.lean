/- For every text, the program's parser and the document's answer tell the same grammar, or the same fault; what is parsed is proper. -/
import Derived.Test.YtgllncnfhiiobaaPx8
import Derived.Test.YtgllncnfhiiobaaRefR
set_option linter.unusedVariables false
set_option linter.unusedSimpArgs false
namespace Go.Proofs.Ytgllncnfhiiobaa.Pure
open Go.RowKit Go.Proofs.Ytgllncnfhiiobaa.P Go.Proofs.YtgllncnfhiiobaaW.PrintWords Go.Proofs.YtgllncnfhiiobaaW.PrintLast Go.Proofs.Ytgllncnfhiiobaa Go.Proofs.Ytgllncnfhiiobaa.Sw Go.Proofs.Ytgllncnfhiiobaa.Rw

theorem small_parts {a : Int} {t : ByteArray} {l : List S49} (h : smallN ⟨a, t, l⟩ = true) : l.length ≤ 100000 ∧ ∀ x ∈ l, smallN x = true := by
  unfold smallN at h
  simp only [Bool.and_eq_true, decide_eq_true_eq] at h
  exact ⟨h.1, (smallL_iff l).1 h.2⟩
theorem node_lt {a : Int} {t : ByteArray} {l : List S49} {x : S49} (h : x ∈ l) : SizeOf.sizeOf x < SizeOf.sizeOf (⟨a, t, l⟩ : S49) := by
  have := List.sizeOf_lt_of_mem h
  simp
  omega
theorem take_next {α β : Type} (f : α → β) {l : List α} {j : Nat} (h : j < l.length) : (l.take j).map f ++ [f l[j]] = (l.take (j + 1)).map f := by
  rw [List.take_add_one, List.getElem?_eq_getElem h, List.map_append]
  rfl
theorem eta_node (x : S78) : (⟨x.f0, x.f1, x.f2⟩ : S78) = x := by cases x; rfl
theorem node_ref : ∀ (N : Nat) (n : S49), SizeOf.sizeOf n < N → smallN n = true → Ev (fun k => primerlaw05_node.f k n.f0 n.f1 n.f2) ((convN n).f0, (convN n).f1, (convN n).f2)
  | 0, _, h, _ => by omega
  | N + 1, ⟨a, t, l⟩, hN, hs => by
    obtain ⟨hl, hx⟩ := small_parts hs
    have loop : ∀ d j : Nat, j + d = l.length → Ev (fun k => primerlaw05_node.l0 k (j : Int) a t l a t ((l.take j).map convN)) (a, t, l.map convN) := by
      intro d
      induction d with
      | zero =>
        intro j hj
        refine Ev.succ ?_
        simp only [primerlaw05_node.l0]
        refine Ev.neg (by omega) (Ev.const.eq' ?_)
        rw [List.take_of_length_le (by omega)]
      | succ d ih =>
        intro j hj
        have hlt : j < l.length := by omega
        have hm : l[j] ∈ l := List.getElem_mem hlt
        have hrd : rd_T49 l (j : Int) = l[j] := by simp [rd_T49, hlt]
        refine Ev.succ ?_
        simp only [primerlaw05_node.l0]
        refine Ev.pos (by omega) (Ev.pos (by omega) ?_)
        rw [hrd]
        refine Ev.bind (node_ref N l[j] (by have := node_lt (a := a) (t := t) hm; omega) (hx _ hm)) (Ev.pos (by simp; omega) ?_)
        have := ih (j + 1) (by omega)
        rw [← take_next convN hlt] at this
        rw [wr_nat _ (by omega)]
        refine this.eq fun k => ?_
        simp only [eta_node]
    refine Ev.succ ?_
    simp only [primerlaw05_node.f]
    refine (loop l.length 0 (by omega)).eq' ?_
    rw [convN, convL_map]
theorem same_ref : ∀ (N : Nat) (n : S49), SizeOf.sizeOf n < N → smallN n = true → Ev (fun k => primerref05_SameNode.f k (convN n).f0 (convN n).f1 (convN n).f2 (convN n).f0 (convN n).f1 (convN n).f2) true
  | 0, _, h, _ => by omega
  | N + 1, ⟨a, t, l⟩, hN, hs => by
    obtain ⟨hl, hx⟩ := small_parts hs
    have hc : convN ⟨a, t, l⟩ = ⟨a, t, l.map convN⟩ := by rw [convN, convL_map]
    have loop : ∀ d j : Nat, j + d = l.length → Ev (fun k => primerref05_SameNode.l0 k (j : Int) a t (l.map convN) a t (l.map convN)) true := by
      intro d
      induction d with
      | zero =>
        intro j hj
        refine Ev.succ ?_
        simp only [primerref05_SameNode.l0]
        exact Ev.neg (by rw [List.length_map]; omega) Ev.const
      | succ d ih =>
        intro j hj
        have hlt : j < l.length := by omega
        have hm : l[j] ∈ l := List.getElem_mem hlt
        have hrd : rd_T78 (l.map convN) (j : Int) = convN l[j] := by simp [rd_T78, hlt]
        refine Ev.succ ?_
        simp only [primerref05_SameNode.l0]
        refine Ev.pos (by rw [List.length_map]; omega) (Ev.pos (by omega) (Ev.pos (by rw [List.length_map]; omega) ?_))
        rw [hrd]
        refine Ev.bind (same_ref N l[j] (by have := node_lt (a := a) (t := t) hm; omega) (hx _ hm)) (Ev.pos rfl ?_)
        rw [wr_nat _ (by omega)]
        exact ih (j + 1) (by omega)
    rw [hc]
    refine Ev.succ ?_
    simp only [primerref05_SameNode.f]
    refine Ev.pos trivial (Ev.pos trivial ?_)
    refine Ev.succ ?_
    simp only [primerref05_SameNode.j0]
    exact Ev.neg (by simp) (loop l.length 0 (by omega))
theorem grammar_ref (st : ByteArray) (l : List S51) (hl : l.length ≤ 64) (hx : ∀ x ∈ l, RuleOk x) : Ev (fun k => primerlaw05_grammar.f k st l) (st, l.map convR) := by
  have loop : ∀ d j : Nat, j + d = l.length → Ev (fun k => primerlaw05_grammar.l0 k (j : Int) st l st ((l.take j).map convR)) (st, l.map convR) := by
    intro d
    induction d with
    | zero =>
      intro j hj
      refine Ev.succ ?_
      simp only [primerlaw05_grammar.l0]
      refine Ev.neg (by omega) (Ev.const.eq' ?_)
      rw [List.take_of_length_le (by omega)]
    | succ d ih =>
      intro j hj
      have hlt : j < l.length := by omega
      have hm : l[j] ∈ l := List.getElem_mem hlt
      have hrd : rd_T51 l (j : Int) = l[j] := by simp [rd_T51, hlt]
      refine Ev.succ ?_
      simp only [primerlaw05_grammar.l0]
      refine Ev.pos (by omega) (Ev.pos (by omega) ?_)
      rw [hrd]
      refine Ev.bind (node_ref _ l[j].f1 (Nat.lt_succ_self _) (hx _ hm).2.2) (Ev.pos (by simp; omega) ?_)
      have := ih (j + 1) (by omega)
      rw [← take_next convR hlt] at this
      rw [wr_nat _ (by omega)]
      refine this.eq fun k => ?_
      simp only [eta_node]
      rfl
  exact loop l.length 0 (by omega)
theorem sameG_ref (st : ByteArray) (l : List S51) (hl : l.length ≤ 64) (hx : ∀ x ∈ l, RuleOk x) : Ev (fun k => primerref05_Same.f k st (l.map convR) st (l.map convR)) true := by
  have loop : ∀ d j : Nat, j + d = l.length → Ev (fun k => primerref05_Same.l0 k (j : Int) st (l.map convR) st (l.map convR)) true := by
    intro d
    induction d with
    | zero =>
      intro j hj
      refine Ev.succ ?_
      simp only [primerref05_Same.l0]
      exact Ev.neg (by rw [List.length_map]; omega) Ev.const
    | succ d ih =>
      intro j hj
      have hlt : j < l.length := by omega
      have hm : l[j] ∈ l := List.getElem_mem hlt
      have hrd : rd_T80 (l.map convR) (j : Int) = convR l[j] := by simp [rd_T80, hlt]
      refine Ev.succ ?_
      simp only [primerref05_Same.l0]
      refine Ev.pos (by rw [List.length_map]; omega) (Ev.pos (by omega) (Ev.pos (by rw [List.length_map]; omega) ?_))
      rw [hrd]
      refine Ev.pos trivial ?_
      refine Ev.bind (same_ref _ l[j].f1 (Nat.lt_succ_self _) (hx _ hm).2.2) (Ev.pos rfl ?_)
      rw [wr_nat _ (by omega)]
      exact ih (j + 1) (by omega)
  unfold primerref05_Same.f
  refine Ev.pos rfl ?_
  refine Ev.succ ?_
  simp only [primerref05_Same.j0]
  exact Ev.neg (by simp) (loop l.length 0 (by omega))
theorem parse_code {a0 : ByteArray} {l c e : Int} (h : parseR a0 = some (.bad l c e)) : e ≠ 0 := by
  unfold parseR at h
  split at h
  · rename_i f hf
    cases h
    exact scan_code hf
  · exact grammarP_code h
theorem parse_good {a0 : ByteArray} {g : S25} {j : Nat} (h : parseR a0 = some (.ok g j)) : propG g = true ∧ (∀ x ∈ g.f1, RuleOk x) ∧ g.f1.length ≤ 64 := by
  unfold parseR at h
  split at h
  · cases h
  · rename_i ts hs
    have := (toks_kinds hs).2
    exact grammar_good (tokOk_of_scan hs) (by omega) h
theorem SyntaxParses : primerlaw05_SyntaxParses.Pure := by
  intro a0 ha
  refine Ev.at ?_
  unfold primerlaw05_SyntaxParses.f
  refine Ev.bind (b := true) (Ev.fixed rfl) (Ev.pos rfl ?_)
  by_cases h : (a0.size : Int) > 2000
  · exact Ev.pos h Ev.const
  · refine Ev.neg h ?_
    obtain ⟨p, hp⟩ := parse_total a0
    have hp : parseR a0 = some p := hp
    have h1 : syntax_Parse.f a0 = some (parseT p) := by unfold syntax_Parse.f; rw [hp]; rfl
    have h2 : primerref05_Parse.f a0 = some (convP p) := by unfold primerref05_Parse.f; rw [hp]; rfl
    refine Ev.bind (Ev.fixed h1) (Ev.bind (Ev.fixed h2) ?_)
    cases p with
    | bad l c e =>
      refine Ev.neg (by simp [parseT, convP]) ?_
      refine Ev.bind (grammar_ref ⟨#[]⟩ [] (by simp) (fun x hx => by cases hx)) ?_
      refine Ev.bind (sameG_ref ⟨#[]⟩ [] (by simp) (fun x hx => by cases hx)) (Ev.pos rfl ?_)
      exact Ev.neg (parse_code hp) Ev.const
    | ok g j =>
      obtain ⟨hg, hx, hl⟩ := parse_good hp
      refine Ev.neg (by simp [parseT, convP]) ?_
      refine Ev.bind (grammar_ref g.f0 g.f1 hl hx) ?_
      refine Ev.bind (sameG_ref g.f0 g.f1 hl hx) (Ev.pos rfl (Ev.pos rfl ?_))
      refine Ev.bind (b := true) (Ev.fixed ?_) Ev.const
      show some (propG ⟨g.f0, g.f1⟩) = some true
      rw [hg]
end Go.Proofs.Ytgllncnfhiiobaa.Pure
