/- The document's Check tells what the program's does. -/
import Derived.Test.YtdbkooliafkcgaaPx4
import Derived.Test.YtdbkooliafkcgaaSymG
set_option linter.unusedVariables false
set_option linter.unusedSimpArgs false
namespace Go.Proofs.Ytdbkooliafkcgaa.Pure
open Go.RowKit Go.Proofs.Ytdbkooliafkcgaa.P Go.Proofs.YtdbkooliafkcgaaW.PrintWords Go.Proofs.YtdbkooliafkcgaaW.PrintLast Go.Proofs.Ytdbkooliafkcgaa Go.Proofs.Ytdbkooliafkcgaa.Sw Go.Proofs.Ytdbkooliafkcgaa.Yw

theorem refs_ref : ∀ (N : Nat) (n : S48), SizeOf.sizeOf n < N → smallN n = true → (refsN n).length ≤ 1000000 → Ev (fun k => primerref05_Refs.f k (convN n).f0 (convN n).f1 (convN n).f2) (refsN n)
  | 0, _, h, _, _ => by omega
  | N + 1, ⟨a, t, l⟩, hN, hs, hr => by
    obtain ⟨hl, hx⟩ := small_parts hs
    have hc : convN ⟨a, t, l⟩ = ⟨a, t, l.map convN⟩ := by rw [convN, convL_map]
    rw [hc]
    refine Ev.succ ?_
    simp only [primerref05_Refs.f]
    by_cases h1 : a = 1
    · have e : refsN ⟨a, t, l⟩ = [t] := by unfold refsN; rw [if_pos h1]
      rw [e]
      exact Ev.pos h1 Ev.const
    · have e : refsN ⟨a, t, l⟩ = refsL l := by unfold refsN; rw [if_neg h1]
      rw [e] at hr ⊢
      refine Ev.neg h1 ?_
      have loop : ∀ d j : Nat, j + d = l.length → Ev (fun k => primerref05_Refs.l0 k (refsL (l.take j)) (j : Int) a t (l.map convN)) (refsL l) := by
        intro d
        induction d with
        | zero =>
          intro j hj
          refine Ev.succ ?_
          simp only [primerref05_Refs.l0]
          refine Ev.neg (by rw [List.length_map]; omega) (Ev.const.eq' ?_)
          rw [List.take_of_length_le (by omega)]
        | succ d ih =>
          intro j hj
          have hlt : j < l.length := by omega
          have hm : l[j] ∈ l := List.getElem_mem hlt
          have hrd : rd_T67 (l.map convN) (j : Int) = convN l[j] := by simp [rd_T67, hlt]
          have hrd2 : rd_T48 l (j : Int) = l[j] := by simp [rd_T48, hlt]
          have hsp := refsL_split hlt
          have htk := refsL_take hlt
          rw [hrd2] at hsp htk
          refine Ev.succ ?_
          simp only [primerref05_Refs.l0]
          refine Ev.pos (by rw [List.length_map]; omega) (Ev.pos (by omega) ?_)
          rw [hrd]
          refine Ev.bind (refs_ref N l[j] (by have := node_lt (a := a) (t := t) hm; omega) (hx _ hm) (by omega)) (Ev.pos (by omega) ?_)
          rw [wr_nat _ (by omega), ← htk]
          exact ih (j + 1) (by omega)
      exact loop l.length 0 (by omega)
/-- The place of the first rule of a name, or -1. -/
def fstFrom : List S50 → Nat → List UInt8 → Int
  | [], _, _ => -1
  | r :: l, i, s => if r.f0.data.toList = s then i else fstFrom l (i + 1) s
theorem first_ref (st s : ByteArray) (rs : List S50) (hl : rs.length ≤ 1000000) : Ev (fun k => primerref07_First.f k st (rs.map convR) s) (fstFrom rs 0 s.data.toList) := by
  have loop : ∀ d j : Nat, j + d = rs.length → Ev (fun k => primerref07_First.l0 k s (j : Int) st (rs.map convR)) (fstFrom (rs.drop j) j s.data.toList) := by
    intro d
    induction d with
    | zero =>
      intro j hj
      refine Ev.succ ?_
      simp only [primerref07_First.l0]
      rw [List.drop_of_length_le (by omega)]
      exact Ev.neg (by rw [List.length_map]; omega) Ev.const
    | succ d ih =>
      intro j hj
      have hlt : j < rs.length := by omega
      have hrd : rd_T69 (rs.map convR) (j : Int) = convR rs[j] := by simp [rd_T69, hlt]
      refine Ev.succ ?_
      simp only [primerref07_First.l0]
      refine Ev.pos (by rw [List.length_map]; omega) (Ev.pos (by omega) ?_)
      rw [hrd, List.drop_eq_getElem_cons hlt]
      unfold fstFrom
      by_cases h : rs[j].f0.data.toList = s.data.toList
      · rw [if_pos h]
        exact Ev.pos (by rw [ByteArray.toList_eq, ByteArray.toList_eq]; exact h) Ev.const
      · rw [if_neg h]
        refine Ev.neg (by rw [ByteArray.toList_eq, ByteArray.toList_eq]; exact h) ?_
        rw [wr_nat _ (by omega)]
        exact ih (j + 1) (by omega)
  exact loop rs.length 0 (by omega)
def inP (l : List ByteArray) (s : List UInt8) : Bool := l.any (fun m => m.data.toList == s)
theorem in_ref (l : List ByteArray) (s : ByteArray) (hl : l.length ≤ 1000000) : Ev (fun k => primerref07_In.f k l s) (inP l s.data.toList) := by
  have loop : ∀ d j : Nat, j + d = l.length → Ev (fun k => primerref07_In.l0 k l s (j : Int)) (inP (l.drop j) s.data.toList) := by
    intro d
    induction d with
    | zero =>
      intro j hj
      refine Ev.succ ?_
      simp only [primerref07_In.l0]
      rw [List.drop_of_length_le (by omega)]
      exact Ev.neg (by omega) Ev.const
    | succ d ih =>
      intro j hj
      have hlt : j < l.length := by omega
      have hrd : rdOf ByteArray.empty l (j : Int) = l[j] := by simp [rdOf, hlt]
      refine Ev.succ ?_
      simp only [primerref07_In.l0]
      refine Ev.pos (by omega) (Ev.pos (by omega) ?_)
      rw [hrd, List.drop_eq_getElem_cons hlt]
      unfold inP
      rw [List.any_cons]
      by_cases h : l[j].data.toList = s.data.toList
      · refine Ev.pos (by rw [ByteArray.toList_eq, ByteArray.toList_eq]; exact h) (Ev.const.eq' ?_)
        rw [beq_iff_eq.mpr h]
        rfl
      · refine Ev.neg (by rw [ByteArray.toList_eq, ByteArray.toList_eq]; exact h) ?_
        rw [wr_nat _ (by omega), beq_eq_false_iff_ne.mpr h, Bool.false_or]
        exact ih (j + 1) (by omega)
  exact loop l.length 0 (by omega)
/-- firsts tells what First tells. -/
theorem upds_first (rs : List S50) (s : List UInt8) : ∀ k, k ≤ rs.length → upds rs ((backs rs.length).take k) s = if fstFrom (rs.drop (rs.length - k)) (rs.length - k) s < 0 then none else some (fstFrom (rs.drop (rs.length - k)) (rs.length - k) s)
  | 0, _ => by
    rw [Nat.sub_zero, List.drop_of_length_le (Nat.le_refl _)]
    rfl
  | k + 1, hk => by
    have ih := upds_first rs s k (by omega)
    have hlt : rs.length - 1 - k < rs.length := by omega
    rw [backs_take _ (show k < rs.length by omega), upds_snoc]
    have e : rs.length - (k + 1) = rs.length - 1 - k := by omega
    have e2 : rs.length - k = rs.length - 1 - k + 1 := by omega
    rw [e, List.drop_eq_getElem_cons hlt]
    have hrd : rd_T50 rs ((rs.length - 1 - k : Nat) : Int) = rs[rs.length - 1 - k] := by simp [rd_T50, hlt]
    unfold fstFrom
    simp only [upd]
    rw [hrd]
    by_cases h : rs[rs.length - 1 - k].f0.data.toList = s
    · rw [if_pos h.symm, if_pos h, if_neg (by omega)]
    · rw [if_neg (fun hh => h hh.symm), if_neg h, ih, e2]
theorem firstsF_eq (rs : List S50) (s : List UInt8) : firstsF rs s = if fstFrom rs 0 s < 0 then none else some (fstFrom rs 0 s) := by
  have := upds_first rs s rs.length (Nat.le_refl _)
  rw [List.take_of_length_le (by rw [backs_length]; exact Nat.le_refl _), Nat.sub_self, List.drop_zero] at this
  exact this
theorem fstFrom_at : ∀ (l : List S50) (i j : Nat) (h : j < l.length), (i : Int) ≤ fstFrom l i l[j].f0.data.toList ∧ fstFrom l i l[j].f0.data.toList ≤ (i + j : Nat)
  | [], _, _, h => absurd h (by simp)
  | r :: l, i, 0, h => by
    have e : (r :: l)[0] = r := rfl
    rw [e]
    unfold fstFrom
    rw [if_pos rfl]
    exact ⟨Int.le_refl _, by simp⟩
  | r :: l, i, j + 1, h => by
    have := fstFrom_at l (i + 1) j (by simpa using h)
    unfold fstFrom
    split
    · exact ⟨Int.le_refl _, by omega⟩
    · simp only [List.getElem_cons_succ]
      omega
def convP (p : S38) : S40 := ⟨p.f0, p.f1, p.f2⟩
/-- What has been told are the names before that have no rule. -/
theorem told_is (rs : List S50) (i : Nat) (acc : List S38) (l : List ByteArray) : ∀ q s, firstsF rs s = none → (refsFold (firstsF rs) i (l.take q) acc).1 s = inP (l.take q) s
  | 0, s, _ => by simp [refsFold, inP]
  | q + 1, s, hs => by
    have ih := told_is rs i acc l q s hs
    by_cases h : q < l.length
    · have e : l.take (q + 1) = l.take q ++ [l[q]] := by rw [List.take_add_one, List.getElem?_eq_getElem h]; rfl
      rw [e, refsFold_snoc]
      unfold inP at ih ⊢
      rw [List.any_append, ← ih, List.any_cons, List.any_nil, Bool.or_false]
      unfold refStep
      by_cases he : l[q].data.toList = s
      · rw [if_neg (by rw [he, hs]; simp), beq_iff_eq.mpr he, Bool.or_true]
        split
        · rename_i ht
          rw [← he]
          exact ht
        · simp [upd, he]
      · rw [beq_eq_false_iff_ne.mpr he, Bool.or_false]
        split
        · rfl
        · split
          · rfl
          · simp [upd, Ne.symm he]
    · have e : l.take (q + 1) = l.take q := by rw [List.take_of_length_le (by omega), List.take_of_length_le (by omega)]
      rw [e]
      exact ih
theorem map_snoc {α β : Type} (f : α → β) (l : List α) (x : α) : (l ++ [x]).map f = l.map f ++ [f x] := by simp
theorem check_ref (st : ByteArray) (rs : List S50) (hg : okG st rs = true) (hs : ∀ x ∈ rs, smallN x.f1 = true) : Ev (fun k => primerref07_Check.f k st (rs.map convR)) ((checkF st rs).map convP) := by
  obtain ⟨hst, hrs, hx⟩ := okG_parts hg
  have hlen := rulesUpto_length (firstsF rs) rs (fun x h => (hx x h).2.2)
  have hfst : ∀ s : List UInt8, (firstsF rs s).isSome = true ↔ ¬ fstFrom rs 0 s < 0 := by
    intro s
    rw [firstsF_eq]
    split
    · rename_i h; simp [h]
    · rename_i h; simp; omega
  have hfn : ∀ s : List UInt8, fstFrom rs 0 s < 0 → firstsF rs s = none := fun s h => by rw [firstsF_eq, if_pos h]
  have inner : ∀ (i : Nat) (acc : List S38) (l : List ByteArray) (R : List S40), acc.length + l.length ≤ 2000000000000 → l.length ≤ 1000000 → i < rs.length →
      Ev (fun k => primerref07_Check.l0 k ((refsFold (firstsF rs) i l acc).2.map convP) ((i + 1 : Nat) : Int) st (rs.map convR)) R →
      ∀ d q : Nat, q + d = l.length → Ev (fun k => primerref07_Check.l1 k ((refsFold (firstsF rs) i (l.take q) acc).2.map convP) (i : Int) l (q : Int) st (rs.map convR)) R := by
    intro i acc l R hacc hl hi hR d
    induction d with
    | zero =>
      intro q hq
      refine Ev.succ ?_
      simp only [primerref07_Check.l1]
      refine Ev.neg (by omega) ?_
      rw [List.take_of_length_le (by omega), wr_nat _ (by omega)]
      exact hR
    | succ d ih =>
      intro q hq
      have hlt : q < l.length := by omega
      have hrd : rdOf ByteArray.empty l (q : Int) = l[q] := by simp [rdOf, hlt]
      have htk : l.take (q + 1) = l.take q ++ [l[q]] := by rw [List.take_add_one, List.getElem?_eq_getElem hlt]; rfl
      have ih := ih (q + 1) (by omega)
      have hfl := refsFold_length (firstsF rs) i acc l q
      rw [htk, refsFold_snoc] at ih
      refine Ev.succ ?_
      simp only [primerref07_Check.l1]
      refine Ev.pos (by omega) (Ev.pos (by omega) ?_)
      rw [hrd, wr_nat _ (by omega)]
      refine Ev.bind (first_ref st l[q] rs hrs) ?_
      by_cases h : fstFrom rs 0 l[q].data.toList < 0
      · refine Ev.pos h (Ev.pos (by omega) ?_)
        refine Ev.bind (in_ref _ l[q] (by rw [List.length_take]; omega)) ?_
        have hn := hfn _ h
        have e1 : (q : Int).toNat = q := by omega
        rw [e1]
        have htold := told_is rs i acc l q _ hn
        unfold refStep at ih
        rw [if_neg (by rw [hn]; simp)] at ih
        by_cases ht : inP (l.take q) l[q].data.toList = true
        · refine Ev.pos ht ?_
          rw [if_pos (by rw [htold]; exact ht)] at ih
          exact ih
        · refine Ev.neg ht (Ev.pos (by rw [List.length_map]; omega) ?_)
          rw [if_neg (by rw [htold]; exact ht)] at ih
          rw [map_snoc] at ih
          exact ih
      · refine Ev.neg h ?_
        unfold refStep at ih
        rw [if_pos ((hfst _).2 h)] at ih
        exact ih
  have outer : ∀ d i : Nat, i + d = rs.length → Ev (fun k => primerref07_Check.l0 k ((rulesUpto (firstsF rs) rs i).map convP) (i : Int) st (rs.map convR)) ((checkF st rs).map convP) := by
    intro d
    induction d with
    | zero =>
      intro i hi
      refine Ev.succ ?_
      simp only [primerref07_Check.l0]
      refine Ev.neg (by rw [List.length_map]; omega) ?_
      refine Ev.bind (first_ref st st rs hrs) ?_
      have hi' : i = rs.length := by omega
      subst hi'
      have hln := hlen _ (Nat.le_refl _)
      unfold checkF
      by_cases h : fstFrom rs 0 st.data.toList < 0
      · refine Ev.pos h (Ev.pos (by rw [List.length_map]; omega) (Ev.const.eq' ?_))
        rw [if_neg (by rw [hfst]; exact fun hh => hh h), map_snoc]
        rfl
      · refine Ev.neg h (Ev.const.eq' ?_)
        rw [if_pos ((hfst _).2 h)]
    | succ d ih =>
      intro i hi
      have hlt : i < rs.length := by omega
      have hm : rs[i] ∈ rs := List.getElem_mem hlt
      have hrd : rd_T69 (rs.map convR) (i : Int) = convR rs[i] := by simp [rd_T69, hlt]
      have hrd2 : rd_T50 rs (i : Int) = rs[i] := by simp [rd_T50, hlt]
      have hln := hlen i (by omega)
      obtain ⟨hx0, hx1, hx2⟩ := hx _ hm
      have ih := ih (i + 1) (by omega)
      have eu : rulesUpto (firstsF rs) rs (i + 1) = (refsFold (firstsF rs) i (refsN rs[i].f1) (dupStep (firstsF rs) i rs[i].f0 (rulesUpto (firstsF rs) rs i))).2 := by
        rw [rulesUpto, hrd2]
        rfl
      rw [eu] at ih
      have hd := dupStep_length (firstsF rs) i rs[i].f0 (rulesUpto (firstsF rs) rs i)
      have hin := inner i (dupStep (firstsF rs) i rs[i].f0 (rulesUpto (firstsF rs) rs i)) (refsN rs[i].f1) _ (by omega) hx2 hlt ih _ 0 (Nat.zero_add _)
      have hj : Ev (fun k => primerref07_Check.j1 k ((dupStep (firstsF rs) i rs[i].f0 (rulesUpto (firstsF rs) rs i)).map convP) (i : Int) st (rs.map convR)) ((checkF st rs).map convP) := by
        refine Ev.succ ?_
        simp only [primerref07_Check.j1]
        refine Ev.pos (by omega) (Ev.pos (by rw [List.length_map]; omega) ?_)
        rw [hrd]
        exact Ev.bind (refs_ref _ rs[i].f1 (Nat.lt_succ_self _) (hs _ hm) hx2) hin
      refine Ev.succ ?_
      simp only [primerref07_Check.l0]
      refine Ev.pos (by rw [List.length_map]; omega) (Ev.pos (by omega) ?_)
      rw [hrd]
      refine Ev.bind (first_ref st rs[i].f0 rs hrs) ?_
      have hat := fstFrom_at rs 0 i hlt
      have hget : (firstsF rs rs[i].f0.data.toList).getD 0 = fstFrom rs 0 rs[i].f0.data.toList := by
        rw [firstsF_eq, if_neg (by omega)]
        rfl
      unfold dupStep at hj
      rw [hget] at hj
      by_cases h : fstFrom rs 0 rs[i].f0.data.toList < (i : Int)
      · refine Ev.pos h (Ev.pos (by rw [List.length_map]; omega) ?_)
        rw [if_neg (by omega), map_snoc] at hj
        exact hj
      · refine Ev.neg h ?_
        rw [if_pos (by omega)] at hj
        exact hj
  exact outer rs.length 0 (by omega)
end Go.Proofs.Ytdbkooliafkcgaa.Pure
