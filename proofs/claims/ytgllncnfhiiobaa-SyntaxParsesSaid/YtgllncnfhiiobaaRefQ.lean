/- The reference's rules are the program's. -/
import Derived.Test.YtgllncnfhiiobaaRefP
set_option linter.unusedVariables false
set_option linter.unusedSimpArgs false
namespace Go.Proofs.Ytgllncnfhiiobaa.Rw
open Go.RowKit Go.Proofs.YtgllncnfhiiobaaW.PrintWords Go.Proofs.YtgllncnfhiiobaaW.PrintLast Go.Proofs.YtgllncnfhiiobaaW.PrintMore Go.Proofs.Ytgllncnfhiiobaa Go.Proofs.Ytgllncnfhiiobaa.P Go.Proofs.Ytgllncnfhiiobaa.Lw Go.Proofs.Ytgllncnfhiiobaa.Sw

section
variable {us : List S102} {ts : List S46} {i op : Nat} {t : S46}
theorem ruleR_eq (m : Nat) (u : S102) (s : RS) : ruleR us m u s = (needK us ⟨#[58]⟩ (nameT u s).2).bind fun s2 => (bodyK us m s2).bind fun b => (needK us ⟨#[59]⟩ b.2).map fun s4 => (⟨(nameT u s).1, b.1⟩, s4) := rfl
theorem needK_bad {s : RS} (h : s.e ≠ 0) (x : ByteArray) : needK us x s = some s := if_neg h
theorem bodyK_bad {s : RS} (h : s.e ≠ 0) (m : Nat) : bodyK us m s = some (⟨0, ⟨#[]⟩, []⟩, s) := if_neg h
theorem needK_ok (ht : ts[i]? = some t) (x : ByteArray) : needK (ts.map toQ) x (st0 i op) = some (needT (toQ t) (st0 i op) x) := by
  unfold needK
  rw [if_pos rfl, q_at ht]
theorem rule_bad2 {m : Nat} {u : S102} {s s2 : RS} (h2 : needK us ⟨#[58]⟩ (nameT u s).2 = some s2) (h : s2.e ≠ 0) : ∃ x, ruleR us m u s = some (x, s2) := by
  rw [ruleR_eq, h2]
  simp only [Option.bind_some]
  rw [bodyK_bad h]
  simp only [Option.bind_some]
  rw [needK_bad h]
  exact ⟨_, rfl⟩
theorem rule_bad1 {m : Nat} {u : S102} {s : RS} (h : (nameT u s).2.e ≠ 0) : ∃ x, ruleR us m u s = some (x, (nameT u s).2) := rule_bad2 (needK_bad h _) h
theorem rulesR_bad {b : Nat} {s : RS} (h : s.e ≠ 0) (m : Nat) (acc : List S80) : rulesR us b (m + 1) s acc = some (acc, s) := by
  unfold rulesR
  rw [if_neg h]
theorem rules_rel (K : ∀ (i : Nat) t, ts[i]? = some t → 1 ≤ t.f0) {a b : Nat} (hab : a < b) : ∀ {n m i : Nat} {first : Bool} {acc : List S51} {p : PR (List S51)}, n < m → (first = true ↔ acc = []) → rulesL ts a n first i acc = some p →
    ∃ q, rulesR (ts.map toQ) b m (st0 i 0) (acc.map convR) = some q ∧ RelP (List.map convR) ts 0 p q
  | 0, _, _, _, _, _, _, _, h => by simp [rulesL] at h
  | n + 1, 0, _, _, _, _, hm, _, _ => by omega
  | n + 1, m + 1, i, first, acc, p, hm, hfst, h => by
    obtain ⟨m', rfl⟩ : ∃ m', m = m' + 1 := ⟨m - 1, by omega⟩
    -- a rule that ends in a fault
    have stop : ∀ {u : S102} {s s2 : RS} {x : S80} {t : S46}, ruleR (ts.map toQ) b u s = some (x, s2) → s2.e ≠ 0 → ts[s2.at_]? = some t →
        ∃ q, (ruleR (ts.map toQ) b u s).bind (fun r => rulesR (ts.map toQ) b (m' + 1) r.2 (acc.map convR ++ [r.1])) = some q ∧ RelP (List.map convR) ts 0 (.bad s2.l s2.c s2.e) q := by
      intro u s s2 x t hr he ht
      rw [hr]
      simp only [Option.bind_some]
      rw [rulesR_bad he]
      exact ⟨_, rfl, rfl, rfl, rfl, he, t, ht⟩
    unfold rulesL at h
    unfold rulesR
    rw [if_pos rfl]
    obtain ⟨t, ht, ⟨hf, rfl⟩ | ⟨hf, h⟩⟩ := peekP_some h
    · rw [q_at ht]
      simp only
      have h4 : ¬ (toQ t).f0 = 4 := by
        intro e
        have e : t.f0 = 4 := e
        unfold farB at hf
        rw [e] at hf
        simp at hf
      rw [if_neg (fun hh => h4 hh.1), lookT_far hf]
      rw [show (if (toQ t).f0 = 1 ∧ (acc.map convR).length = 64 then badT (toQ t) ⟨i, t.f2, t.f3, 6, (0 : Nat)⟩ 6 else ⟨i, t.f2, t.f3, 6, (0 : Nat)⟩) = (⟨i, t.f2, t.f3, 6, (0 : Nat)⟩ : RS) from by
        split
        · exact badT_kept (by simp) 6
        · rfl]
      have hn := nameT_bad (u := toQ t) (s := ⟨i, t.f2, t.f3, 6, (0 : Nat)⟩) (by simp)
      obtain ⟨x, hx⟩ := rule_bad1 (us := ts.map toQ) (m := b) (u := toQ t) (s := ⟨i, t.f2, t.f3, 6, (0 : Nat)⟩) (by rw [hn]; simp)
      rw [hn] at hx
      exact stop hx (by simp) ht
    · rw [q_at ht]
      simp only
      rw [lookT_ok hf]
      by_cases hend : (!first && t.f0 == 4) = true
      · rw [if_pos hend] at h
        cases h
        simp only [Bool.and_eq_true, Bool.not_eq_true', beq_iff_eq] at hend
        rw [if_pos ⟨hend.2, by
          cases acc with
          | nil => rw [hfst.2 rfl] at hend; cases hend.1
          | cons x l => simp⟩]
        exact ⟨_, rfl, rfl⟩
      · rw [if_neg hend] at h
        rw [if_neg (fun hh : (toQ t).f0 = 4 ∧ 0 < (acc.map convR).length => hend (by
          cases first with
          | true => rw [hfst.1 rfl] at hh; exact absurd hh.2 (by simp)
          | false => rw [show t.f0 = 4 from hh.1]; rfl))]
        by_cases hbig : t.f0 = 1 ∧ acc.length = 64
        · rw [if_pos hbig] at h
          cases h
          rw [if_pos (show (toQ t).f0 = 1 ∧ (acc.map convR).length = 64 from ⟨hbig.1, by rw [List.length_map]; exact hbig.2⟩)]
          have eb : badT (toQ t) (st0 i 0) 6 = ⟨i, t.f2, t.f3, 6, (0 : Nat)⟩ := rfl
          rw [eb]
          have hn := nameT_bad (u := toQ t) (s := ⟨i, t.f2, t.f3, 6, (0 : Nat)⟩) (by simp)
          obtain ⟨x, hx⟩ := rule_bad1 (us := ts.map toQ) (m := b) (u := toQ t) (s := ⟨i, t.f2, t.f3, 6, (0 : Nat)⟩) (by rw [hn]; simp)
          rw [hn] at hx
          exact stop hx (by simp) ht
        · rw [if_neg hbig] at h
          rw [if_neg (show ¬ ((toQ t).f0 = 1 ∧ (acc.map convR).length = 64) from fun hh => hbig ⟨hh.1, by rw [← hh.2, List.length_map]⟩)]
          rcases andThen_some h with ⟨l, c, e, hn, rfl⟩ | ⟨nm, j, hn, hk⟩
          · obtain ⟨t', ht', h1, h2, h3, h4, u, hu⟩ := name_rel (op := 0) hn
            obtain rfl : t = t' := Option.some.inj (ht.symm.trans ht')
            obtain ⟨x, hx⟩ := rule_bad1 (us := ts.map toQ) (m := b) (u := toQ t) (s := st0 i 0) (by rw [h3]; exact h4)
            have := stop hx (by rw [h3]; exact h4) hu
            rwa [h1, h2, h3] at this
          · obtain ⟨t', ht', h1⟩ := name_rel (op := 0) hn
            obtain rfl : t = t' := Option.some.inj (ht.symm.trans ht')
            have h1 : nameT (toQ t) (st0 i 0) = (nm, st0 j 0) := h1
            rcases andThen_some hk with ⟨l, c, e, hc, rfl⟩ | ⟨_, k, hc, hk⟩
            · obtain ⟨t2, ht2, h2, h3, h4, h5, u, hu⟩ := take_rel (op := 0) hc
              have hn2 : needK (ts.map toQ) ⟨#[58]⟩ (nameT (toQ t) (st0 i 0)).2 = some (needT (toQ t2) (st0 j 0) ⟨#[58]⟩) := by rw [h1]; exact needK_ok ht2 _
              obtain ⟨x, hx⟩ := rule_bad2 (m := b) hn2 (by rw [h4]; exact h5)
              have := stop hx (by rw [h4]; exact h5) hu
              rwa [h2, h3, h4] at this
            · obtain ⟨t2, ht2, h2⟩ := take_rel (op := 0) hc
              have h2 : needT (toQ t2) (st0 j 0) ⟨#[58]⟩ = st0 k 0 := congrArg Prod.snd h2
              have hn2 : needK (ts.map toQ) ⟨#[58]⟩ (nameT (toQ t) (st0 i 0)).2 = some (st0 k 0) := by rw [h1, ← h2]; exact needK_ok ht2 _
              rcases andThen_some hk with ⟨l, c, e, hb, rfl⟩ | ⟨bd, o, hb, hk⟩
              · obtain ⟨q, hq, h3, h4, h5, h6, u, hu⟩ := alt_rel K hab _ _ _ (Nat.zero_le _) hb
                have hr : ruleR (ts.map toQ) b (toQ t) (st0 i 0) = some (⟨nm, q.1⟩, q.2) := by
                  rw [ruleR_eq, hn2, h1]
                  simp only [Option.bind_some]
                  rw [show bodyK (ts.map toQ) b (st0 k 0) = some q from (if_pos rfl).trans hq]
                  simp only [Option.bind_some]
                  rw [needK_bad (by rw [h5]; exact h6)]
                  rfl
                have := stop hr (by rw [h5]; exact h6) hu
                rwa [h3, h4, h5] at this
              · obtain ⟨q, hq, h3⟩ := alt_rel K hab _ _ _ (Nat.zero_le _) hb
                have h3 : q = (convN bd, st0 o 0) := h3
                subst h3
                rcases andThen_some hk with ⟨l, c, e, hc, rfl⟩ | ⟨_, z, hc, hk⟩
                · obtain ⟨t3, ht3, h4, h5, h6, h7, u, hu⟩ := take_rel (op := 0) hc
                  have hr : ruleR (ts.map toQ) b (toQ t) (st0 i 0) = some (⟨nm, convN bd⟩, needT (toQ t3) (st0 o 0) ⟨#[59]⟩) := by
                    rw [ruleR_eq, hn2, h1]
                    simp only [Option.bind_some]
                    rw [show bodyK (ts.map toQ) b (st0 k 0) = some (convN bd, st0 o 0) from (if_pos rfl).trans hq]
                    simp only [Option.bind_some]
                    rw [needK_ok ht3]
                    rfl
                  have := stop hr (by rw [h6]; exact h7) hu
                  rwa [h4, h5, h6] at this
                · obtain ⟨t3, ht3, h4⟩ := take_rel (op := 0) hc
                  have h4 : needT (toQ t3) (st0 o 0) ⟨#[59]⟩ = st0 z 0 := congrArg Prod.snd h4
                  have hr : ruleR (ts.map toQ) b (toQ t) (st0 i 0) = some (⟨nm, convN bd⟩, st0 z 0) := by
                    rw [ruleR_eq, hn2, h1]
                    simp only [Option.bind_some]
                    rw [show bodyK (ts.map toQ) b (st0 k 0) = some (convN bd, st0 o 0) from (if_pos rfl).trans hq]
                    simp only [Option.bind_some]
                    rw [needK_ok ht3, h4]
                    rfl
                  rw [hr]
                  simp only [Option.bind_some]
                  have := rules_rel K hab (m := m' + 1) (by omega) (show (false = true ↔ acc ++ [(⟨nm, bd⟩ : S51)] = []) from ⟨fun h => (by cases h), fun h => absurd h (by simp)⟩) hk
                  simpa [convR] using this
theorem start_rel {p : PR ByteArray} (h : startP ts = some p) : ∃ q, startR (ts.map toQ) = some q ∧ RelP id ts 0 p q := by
  obtain ⟨t, ht, ⟨hf, rfl⟩ | ⟨hf, h⟩⟩ := peekP_some h
  · unfold farB at hf
    simp at hf
  · have ez : RS.zero = st0 0 0 := rfl
    unfold startR
    rw [ez]
    rw [show (ts.map toQ)[(st0 0 0).at_]? = some (toQ t) from q_at ht]
    simp only
    rw [isT_ok hf, lookT_ok hf]
    have en : (st0 0 0).next = st0 1 0 := rfl
    rw [en]
    split at h
    · rename_i hs
      rw [if_pos hs]
      rcases andThen_some h with ⟨l, c, e, hn, rfl⟩ | ⟨nm, j, hn, hk⟩
      · obtain ⟨t1, ht1, h1, h2, h3, h4, u, hu⟩ := name_rel (op := 0) hn
        rw [q_at ht1]
        simp only
        rw [q_at hu]
        simp only
        rw [needT_bad (by rw [h3]; exact h4)]
        exact ⟨_, rfl, h1, h2, h3, h4, u, hu⟩
      · obtain ⟨t1, ht1, h1⟩ := name_rel (op := 0) hn
        have h1 : nameT (toQ t1) (st0 1 0) = (nm, st0 j 0) := h1
        rw [q_at ht1]
        simp only
        rw [h1]
        simp only
        rcases andThen_some hk with ⟨l, c, e, hc, rfl⟩ | ⟨_, k, hc, hk⟩
        · obtain ⟨t2, ht2, h2, h3, h4, h5, u, hu⟩ := take_rel (op := 0) hc
          rw [q_at ht2]
          exact ⟨_, rfl, h2, h3, h4, h5, u, hu⟩
        · obtain ⟨t2, ht2, h2⟩ := take_rel (op := 0) hc
          have h2 : needT (toQ t2) (st0 j 0) ⟨#[59]⟩ = st0 k 0 := congrArg Prod.snd h2
          cases hk
          rw [q_at ht2]
          simp only
          rw [h2]
          exact ⟨_, rfl, rfl⟩
    · rename_i hs
      rw [if_neg hs]
      cases h
      exact ⟨_, rfl, rfl⟩
theorem startOf_conv (s : ByteArray) (l : List S51) : startOfR s (l.map convR) = startOf s l := by
  unfold startOfR startOf
  cases l with
  | nil => rfl
  | cons x l => rfl
/-- What the program's answer is for the reference. -/
def convP : PR S25 → ByteArray × List S80 × Int × Int × Int
  | .bad l c e => (⟨#[]⟩, [], l, c, e)
  | .ok g _ => (g.f0, g.f1.map convR, 0, 0, 0)
theorem grammar_rel (K : ∀ (i : Nat) t, ts[i]? = some t → 1 ≤ t.f0) {n m : Nat} (hnm : n < m) {p : PR S25} (h : grammarP ts n = some p) : ∃ r, parseG (ts.map toQ) m m = some r ∧ resG r = convP p := by
  obtain ⟨m', rfl⟩ : ∃ m', m = m' + 1 := ⟨m - 1, by omega⟩
  unfold grammarP at h
  unfold parseG
  rcases andThen_some h with ⟨l, c, e, hs, rfl⟩ | ⟨s, i, hs, hk⟩
  · obtain ⟨q, hq, h1, h2, h3, h4, u, hu⟩ := start_rel hs
    rw [hq]
    simp only [Option.bind_some]
    rw [rulesR_bad (by rw [h3]; exact h4)]
    refine ⟨_, rfl, ?_⟩
    unfold resG
    simp only
    rw [if_neg (by rw [h3]; exact h4), h1, h2, h3]
    rfl
  · obtain ⟨q, hq, h1⟩ := start_rel hs
    have h1 : q = (s, st0 i 0) := h1
    subst h1
    rw [hq]
    simp only [Option.bind_some]
    obtain ⟨p2, hp2, rfl⟩ := map_some hk
    obtain ⟨q, hq, hr⟩ := rules_rel K hnm hnm (show (true = true ↔ ([] : List S51) = []) from ⟨fun _ => rfl, fun _ => rfl⟩) hp2
    have hq : rulesR (ts.map toQ) (m' + 1) (m' + 1) (st0 i 0) [] = some q := hq
    rw [hq]
    refine ⟨_, rfl, ?_⟩
    unfold resG
    simp only
    cases p2 with
    | bad l c e =>
      obtain ⟨h1, h2, h3, h4, u, hu⟩ := hr
      rw [if_neg (by rw [h3]; exact h4), h1, h2, h3]
      rfl
    | ok l j =>
      have hr : q = (l.map convR, st0 j 0) := hr
      subst hr
      rw [if_pos rfl]
      simp only
      rw [startOf_conv]
      rfl
end
end Go.Proofs.Ytgllncnfhiiobaa.Rw
