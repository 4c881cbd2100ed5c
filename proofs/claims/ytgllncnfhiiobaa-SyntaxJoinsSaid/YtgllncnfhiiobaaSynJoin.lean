/- Two texts of grammars, one behind the other: what is read of them. -/
import Derived.Test.YtgllncnfhiiobaaSynP
set_option linter.unusedVariables false
set_option linter.unusedSimpArgs false
namespace Go.Proofs.Ytgllncnfhiiobaa.Sw
open Go.RowKit Go.Proofs.YtgllncnfhiiobaaW.PrintWords Go.Proofs.Ytgllncnfhiiobaa Go.Proofs.Ytgllncnfhiiobaa.P

section
variable {ts us : List S46}
theorem startP_ok {s : ByteArray} {i : Nat} (h : startP ts = some (.ok s i)) : (i = 0 ∧ s = ⟨#[]⟩ ∧ ∃ t, ts[0]? = some t ∧ signB t ⟨#[37]⟩ = false) ∨ i = 3 := by
  obtain ⟨t, ht, ⟨_, hk⟩ | ⟨_, hk⟩⟩ := peekP_some h
  · cases hk
  · split at hk
    · right
      rcases andThen_some hk with ⟨_, _, _, _, hh⟩ | ⟨nm, j1, h1, hk⟩
      · cases hh
      · rcases andThen_some hk with ⟨_, _, _, _, hh⟩ | ⟨_, j2, h2, hk⟩
        · cases hh
        · have e1 := nameP_ok h1
          have e2 := takeP_ok h2
          cases hk
          omega
    · rename_i hs
      cases hk
      exact .inl ⟨rfl, rfl, t, ht, by simpa using hs⟩
theorem startP_loc {s : ByteArray} {i hi : Nat} (h : startP ts = some (.ok s i)) (hal : Sw.Alike ts us 0 0 hi) (hb : i ≤ hi + 1) : startP us = some (.ok s i) := by
  obtain ⟨t, ht, ⟨_, hk⟩ | ⟨_, hk⟩⟩ := peekP_some h
  · cases hk
  · have h0' : 0 < ts.length := (List.getElem?_eq_some_iff.1 ht).1
    obtain ⟨u, hu, h0, h1⟩ := hal.at ht (Nat.le_refl _) (Nat.zero_le _)
    have hpk : ∀ k : S46 → Option (PR ByteArray), peekP us 0 k = k u := fun k => by
      unfold peekP
      rw [show us[0]? = some u from hu]
      simp only [farB_small (show 0 < 4096 by omega)]
      rfl
    unfold startP
    rw [hpk, signB_key h0 h1]
    split at hk
    · rename_i hs
      rw [if_pos hs]
      rcases andThen_some hk with ⟨_, _, _, _, hh⟩ | ⟨nm, j1, h1', hk⟩
      · cases hh
      · rcases andThen_some hk with ⟨_, _, _, _, hh⟩ | ⟨_, j2, h2, hk⟩
        · cases hh
        · have e1 := nameP_ok h1'
          have e2 := takeP_ok h2
          cases hk
          have n1 := nameP_loc h1' (hal.mono (Nat.zero_le _) (by omega)) (by omega)
          have n2 := takeP_loc h2 (hal.mono (Nat.zero_le _) (by omega)) (by omega)
          simp only [Nat.add_zero] at n1 n2
          rw [n1]
          simp only [andThen]
          rw [n2]
    · rename_i hs
      rw [if_neg hs]
      exact hk
theorem alike_keys {f : Lx.Tok → Lx.Tok} (hf : ∀ t, Lx.kt (f t) = Lx.kt t) (t : Lx.Tok) : key (toS (f t)) = key (toS t) := by
  have := hf t
  simp only [Lx.kt, Prod.mk.injEq] at this
  simp [key, toS, this.1, this.2]
theorem join_parse {a b : ByteArray} {g h : S25} {j k : Nat} {tb : List Lx.Tok} (ha : parseR a = some (.ok g j)) (hb : parseR b = some (.ok h k)) (hsb : Lx.scan b.data.toList = .ok tb) (hla : a.size ≤ 500) (hlb : b.size ≤ 500)
    (hsum : g.f1.length + h.f1.length ≤ 64) (h0 : ∀ t, (tb.map toS)[0]? = some t → t.f1.toList ≠ [37]) :
    ∃ x i, parseR ((a ++ ⟨#[10]⟩) ++ b) = some (.ok x i) ∧ x.f0 = g.f0 ∧ x.f1 = g.f1 ++ h.f1 := by
  have hd : ((a ++ ⟨#[10]⟩) ++ b).data.toList = a.data.toList ++ 10 :: b.data.toList := by simp [ByteArray.data_append]
  have hal : a.data.toList.length = a.size := Array.length_toList
  have hbl : b.data.toList.length = b.size := Array.length_toList
  obtain ⟨ta, hsa⟩ : ∃ ta, Lx.scan a.data.toList = .ok ta := by
    unfold parseR at ha
    cases hs : Lx.scan a.data.toList with
    | error f => rw [hs] at ha; cases ha
    | ok ts => exact ⟨ts, rfl⟩
  obtain ⟨init, pe, hta, hjoin⟩ := Lx.scan_join hsa hsb (by omega)
  have hca := Lx.scan_count hsa
  have hcb := Lx.scan_count hsb
  have Ta := toks_of_scan hsa
  unfold parseR at ha hb ⊢
  rw [hsa] at ha
  rw [hsb] at hb
  rw [hd, hjoin]
  simp only at ha hb ⊢
  have hlen : ta.length = init.length + 1 := by rw [hta]; simp
  generalize hU : (init ++ tb.map (Lx.shT pe.1)).map toS = U
  have hUl : (init ++ tb.map (Lx.shT pe.1)).length = init.length + tb.length := by simp
  -- the first text's tokens stay
  have hal1 : ∀ hi, hi < init.length → Sw.Alike (ta.map toS) U 0 0 hi := by
    intro hi hhi q _ hq
    rw [← hU, Nat.add_zero, hta, List.getElem?_map, List.getElem?_map, List.getElem?_append_left (by omega), List.getElem?_append_left (by omega)]
  have hal2 : ∀ hi, Sw.Alike (tb.map toS) U init.length 0 hi := by
    intro hi q _ _
    rw [← hU, List.getElem?_map, List.getElem?_append_right (by omega), Nat.add_sub_cancel, List.getElem?_map, List.getElem?_map, Option.map_map, Option.map_map, Option.map_map]
    congr 1
  rcases andThen_some ha with ⟨_, _, _, _, hh⟩ | ⟨st, i, hst, hk⟩
  · cases hh
  obtain ⟨q, hq, hr⟩ := map_some hk
  cases q with
  | bad l c e => cases hr
  | ok l j0 =>
    cases hr
    rcases andThen_some hb with ⟨_, _, _, _, hh⟩ | ⟨st2, i2, hst2, hk2⟩
    · cases hh
    have hi2 : i2 = 0 := by
      obtain ⟨t, ht, ⟨_, hh⟩ | ⟨_, hh⟩⟩ := peekP_some hst2
      · cases hh
      · rw [if_neg] at hh
        · cases hh; rfl
        · rw [signB_lit]
          have := h0 t ht
          simp only [Bool.and_eq_true, beq_iff_eq, not_and]
          exact fun _ => this
    subst hi2
    obtain ⟨q2, hq2, hr2⟩ := map_some hk2
    cases q2 with
    | bad l c e => cases hr2
    | ok l2 j2 =>
      cases hr2
      have hok := rulesL_ok hq
      have hok2 := rulesL_ok hq2
      have hij := hok.2.2.1 rfl
      -- the end of the first text
      have hj : j = init.length := by
        obtain ⟨te, hte, hk4⟩ := hok.2.2.2
        have hlt := (List.getElem?_eq_some_iff.1 hte).1
        rw [List.length_map] at hlt
        rcases Nat.lt_or_ge j init.length with hlt' | hge
        · exfalso
          obtain ⟨init', e, hi', hv, _⟩ := Lx.scan_valid hsa
          rw [hta] at hi'
          have e1 := List.append_inj_left' hi' rfl
          subst e1
          rw [List.getElem?_map, hta, List.getElem?_append_left hlt', List.getElem?_eq_getElem hlt'] at hte
          have hte := Option.some.inj hte
          have hV := hv _ (List.getElem_mem hlt')
          have hkind : (init[j]).kind = 4 := by rw [← hk4, ← hte]; rfl
          rcases hV with ⟨h1, _⟩ | ⟨h1, _⟩ | ⟨h1, _⟩ <;> omega
        · omega
      have hjl2 := (List.getElem?_eq_some_iff.1 hok2.2.2.2.choose_spec.1).1
      rw [List.length_map] at hjl2
      have hst' := startP_loc hst (hal1 (init.length - 1) (by omega)) (by omega)
      have hq' := rulesL_le (p := ta.length + 2) (q := init.length + tb.length + 2) (by omega) (m := init.length + 3) (by omega) hq
      obtain ⟨s, hs1, hs0, hrun⟩ := rulesL_run (us := U) (d := 0) hq' (hal1 (init.length - 1) (by omega) |>.mono (Nat.zero_le _) (by omega)) (by omega)
      have hs : s ≠ 0 := fun e => by have := hs0 e; omega
      have h2' := rulesL_loc (us := U) (d := init.length) (first' := false) l hq2 (hal2 k) (by omega) (by simpa using hsum) (fun h => by cases h)
      have h2'' := rulesL_le (p := tb.length + 2) (q := init.length + tb.length + 2) (by omega) (m := init.length + tb.length + 2) (by omega) h2'
      have hall : rulesL U (init.length + tb.length + 2) (s + (init.length + tb.length + 2)) true i [] = some (.ok (l ++ l2) (k + init.length)) := by
        have := hrun (init.length + tb.length + 2)
        rw [if_neg hs, hj] at this
        simp only [Nat.add_zero] at this
        rw [this]
        rw [Nat.zero_add, List.append_nil] at h2''
        exact h2''
      have T : Toks U := by
        have hscan : Lx.scan ((a ++ ⟨#[10]⟩) ++ b).data.toList = .ok (init ++ tb.map (Lx.shT pe.1)) := by rw [hd]; exact hjoin
        have := toks_of_scan hscan
        rwa [hU] at this
      have hUlen : U.length = init.length + tb.length := by rw [← hU, List.length_map, hUl]
      have hil : i < U.length := by omega
      obtain ⟨r, hr, _⟩ := rulesL_tells T (m := init.length + tb.length + 2) (n := init.length + tb.length + 2) (first := true) (acc := []) hil (by omega) (by omega)
      have hr2 := rulesL_le (Nat.le_refl _) (m := s + (init.length + tb.length + 2)) (by omega) hr
      rw [hall] at hr2
      obtain rfl := Option.some.inj hr2
      refine ⟨⟨startOf st (l ++ l2), l ++ l2⟩, k + init.length, ?_, ?_, rfl⟩
      · rw [hUl]
        unfold grammarP
        rw [hst']
        simp only [andThen]
        rw [hr]
        rfl
      · show startOf st (l ++ l2) = startOf st l
        unfold startOf
        split
        · have hpos : 0 < l.length := by
            have hq3 := rulesL_first hq
            exact hq3
          cases l with
          | nil => cases hpos
          | cons x xs => rfl
        · rfl
end
end Go.Proofs.Ytgllncnfhiiobaa.Sw
