/- The reference's parser reads what the program's parser reads. -/
import Derived.Test.YtgllncnfhiiobaaRefF
import Derived.Test.YtgllncnfhiiobaaSynP
set_option linter.unusedVariables false
set_option linter.unusedSimpArgs false
namespace Go.Proofs.Ytgllncnfhiiobaa.Rw
open Go.RowKit Go.Proofs.YtgllncnfhiiobaaW.PrintWords Go.Proofs.YtgllncnfhiiobaaW.PrintLast Go.Proofs.YtgllncnfhiiobaaW.PrintMore Go.Proofs.Ytgllncnfhiiobaa Go.Proofs.Ytgllncnfhiiobaa.P Go.Proofs.Ytgllncnfhiiobaa.Lw Go.Proofs.Ytgllncnfhiiobaa.Sw

def toQ (t : S46) : S102 := ⟨t.f0, t.f1, t.f2, t.f3⟩
mutual
def convN : S49 → S78
  | ⟨k, x, l⟩ => ⟨k, x, convL l⟩
def convL : List S49 → List S78
  | [] => []
  | n :: l => convN n :: convL l
end
theorem tl40 : (⟨#[40]⟩ : ByteArray).toList = [40] := by kernel_rfl
theorem tl41 : (⟨#[41]⟩ : ByteArray).toList = [41] := by kernel_rfl
theorem tl91 : (⟨#[91]⟩ : ByteArray).toList = [91] := by kernel_rfl
theorem tl93 : (⟨#[93]⟩ : ByteArray).toList = [93] := by kernel_rfl
theorem tl123 : (⟨#[123]⟩ : ByteArray).toList = [123] := by kernel_rfl
theorem tl125 : (⟨#[125]⟩ : ByteArray).toList = [125] := by kernel_rfl
theorem tl63 : (⟨#[63]⟩ : ByteArray).toList = [63] := by kernel_rfl
theorem tl42 : (⟨#[42]⟩ : ByteArray).toList = [42] := by kernel_rfl
theorem tl43 : (⟨#[43]⟩ : ByteArray).toList = [43] := by kernel_rfl
theorem tl0 : (⟨#[]⟩ : ByteArray).toList = [] := by kernel_rfl
theorem convL_map : ∀ l, convL l = l.map convN
  | [] => rfl
  | n :: l => by rw [convL, convL_map l]; rfl
theorem convN_wrap (k : Int) (n : S49) : convN (wrapN k n) = wrapR k (convN n) := by
  unfold wrapN wrapR
  rw [convN, convL, convL]
theorem convN_one (k : Int) : ∀ l : List S49, convN (oneOr k l) = oneR k (l.map convN)
  | [] => by simp [oneOr, oneR, convN, convL]
  | [x] => rfl
  | x :: y :: l => by simp [oneOr, oneR, convN, convL_map]
def convR (r : S51) : S80 := ⟨r.f0, convN r.f1⟩
abbrev st0 (i op : Nat) : RS := ⟨i, 0, 0, 0, op⟩
/-- What the two tell agrees. -/
def RelP {α β : Type} (conv : α → β) (ts : List S46) (op : Nat) : PR α → β × RS → Prop
  | .ok a j, q => q = (conv a, st0 j op)
  | .bad l c e, q => q.2.l = l ∧ q.2.c = c ∧ q.2.e = e ∧ e ≠ 0 ∧ ∃ t, ts[q.2.at_]? = some t
section
variable {ts : List S46} {i op : Nat} {t : S46}
theorem q_at (h : ts[i]? = some t) : (ts.map toQ)[i]? = some (toQ t) := by simp [h]
theorem lookT_ok (h : farB i t = false) : lookT (toQ t) (st0 i op) = st0 i op := by
  unfold lookT
  rw [show farR (st0 i op).at_ (toQ t) = farB i t from rfl, h]
  rfl
theorem lookT_far (h : farB i t = true) : lookT (toQ t) (st0 i op) = ⟨i, t.f2, t.f3, 6, op⟩ := by
  unfold lookT
  rw [show farR (st0 i op).at_ (toQ t) = farB i t from rfl, h]
  rfl
theorem isT_ok (h : farB i t = false) (s : ByteArray) : isT (toQ t) (st0 i op) s = signB t s := by
  unfold isT
  rw [lookT_ok h]
  rfl
theorem isT_bad {u : S102} {s : RS} (h : s.e ≠ 0) (x : ByteArray) : isT u s x = false := by
  unfold isT
  rw [lookT_kept h, beq_eq_false_iff_ne.mpr h]
  rfl
theorem isT_far (h : farB i t = true) (s : ByteArray) : isT (toQ t) (st0 i op) s = false := by
  unfold isT
  rw [lookT_far h]
  rfl
theorem needT_bad {u : S102} {s : RS} (h : s.e ≠ 0) (x : ByteArray) : needT u s x = s := by
  unfold needT
  rw [isT_bad h, lookT_kept h, if_neg (by simp)]
  exact badT_kept h 2
theorem nameT_bad {u : S102} {s : RS} (h : s.e ≠ 0) : nameT u s = (⟨#[]⟩, s) := by
  have e : nameS u s = s := by
    unfold nameS
    rw [lookT_kept h, badT_kept h]
    split <;> rfl
  unfold nameT
  rw [e, if_neg h]
theorem rowR_bad {B : RS → Option (S78 × RS)} {us : List S102} {u : S102} {s : RS} (h : s.e ≠ 0) (hu : us[s.at_]? = some u) (m : Nat) (acc : List S78) : rowR B us (m + 1) s acc = some (acc, s) := by
  unfold rowR
  rw [hu]
  simp only
  rw [lookT_kept h]
  unfold itemR
  rw [if_pos (by unfold stopT; rw [bne_iff_ne.mpr h]; rfl)]
  rfl
theorem altLR_bad {B : RS → Option (S78 × RS)} {us : List S102} {u : S102} {s : RS} (h : s.e ≠ 0) (hu : us[s.at_]? = some u) (m n : Nat) (acc : List S78) : altLR B us m (n + 1) s acc = some (acc, s) := by
  unfold altLR
  rw [hu]
  simp only
  rw [isT_bad h, lookT_kept h]
  rfl
theorem take_rel {x : ByteArray} {p : PR Unit} (h : takeP ts i x = some p) : ∃ t, ts[i]? = some t ∧ RelP (fun _ => ()) ts op p ((), needT (toQ t) (st0 i op) x) := by
  obtain ⟨t, ht, ⟨hf, rfl⟩ | ⟨hf, hk⟩⟩ := peekP_some h
  · refine ⟨t, ht, ?_⟩
    unfold needT
    rw [isT_far hf, lookT_far hf]
    exact ⟨rfl, rfl, rfl, by decide, t, ht⟩
  · refine ⟨t, ht, ?_⟩
    unfold needT
    rw [isT_ok hf, lookT_ok hf]
    split at hk
    · rename_i hs
      cases hk
      rw [if_pos hs]
      rfl
    · rename_i hs
      cases hk
      rw [if_neg hs]
      exact ⟨rfl, rfl, rfl, by decide, t, ht⟩
theorem name_rel {p : PR ByteArray} (h : nameP ts i = some p) : ∃ t, ts[i]? = some t ∧ RelP id ts op p (nameT (toQ t) (st0 i op)) := by
  obtain ⟨t, ht, ⟨hf, rfl⟩ | ⟨hf, hk⟩⟩ := peekP_some h
  · refine ⟨t, ht, ?_⟩
    have e : nameS (toQ t) (st0 i op) = ⟨i, t.f2, t.f3, 6, op⟩ := by
      unfold nameS
      rw [lookT_far hf]
      split <;> rfl
    unfold nameT
    rw [e, if_neg (by simp)]
    exact ⟨rfl, rfl, rfl, by decide, t, ht⟩
  · refine ⟨t, ht, ?_⟩
    split at hk
    · rename_i hs
      cases hk
      have e : nameS (toQ t) (st0 i op) = st0 i op := by
        unfold nameS
        rw [lookT_ok hf, if_pos (show (toQ t).f0 = 1 from hs)]
      unfold nameT
      rw [e, if_pos rfl]
      rfl
    · rename_i hs
      cases hk
      have e : nameS (toQ t) (st0 i op) = ⟨i, t.f2, t.f3, 2, op⟩ := by
        unfold nameS
        rw [lookT_ok hf, if_neg (show ¬ (toQ t).f0 = 1 from hs)]
        rfl
      unfold nameT
      rw [e, if_neg (by simp)]
      exact ⟨rfl, rfl, rfl, by decide, t, ht⟩
/-- The alternations agree. -/
def AltRel (ts : List S46) (A : Nat → Nat → Option (PR S49)) (B : RS → Option (S78 × RS)) : Prop :=
  ∀ op i p, op ≤ 16 → A op i = some p → ∃ q, B (st0 i op) = some q ∧ RelP convN ts op p q
variable {A : Nat → Nat → Option (PR S49)} {B : RS → Option (S78 × RS)}
/-- A part in brackets. -/
theorem around_rel (H : AltRel ts A B) (hop : op ≤ 16) (ht : ts[i]? = some t) {x : ByteArray} {kk : Int} (he : endT (toQ t) = (x, kk)) (hx : x.toList.isEmpty = false) {p : PR S49} (h : aroundP A ts op i x = some p) :
    ∃ q : Option S78 × RS, itemR B (ts.map toQ) (toQ t) (st0 i op) = some q ∧ match p with
      | .ok n j => q = (some (if 0 < kk then wrapR kk (convN n) else convN n), st0 j op)
      | .bad l c e => q.1 = none ∧ q.2.l = l ∧ q.2.c = c ∧ q.2.e = e ∧ e ≠ 0 ∧ ∃ t, ts[q.2.at_]? = some t := by
  have hstop : stopT (toQ t) (st0 i op) = false := by
    unfold stopT
    rw [he, hx, Bool.and_false]
    rfl
  unfold aroundP at h
  rw [ht] at h
  simp only at h
  unfold itemR
  rw [hstop, if_neg (by simp), he]
  simp only
  rw [hx, if_neg (by simp)]
  by_cases h16 : op = 16
  · rw [if_pos h16] at h
    cases h
    subst h16
    rw [if_pos (show ((16 : Nat) : Int) = 16 from rfl)]
    exact ⟨_, rfl, rfl, rfl, rfl, rfl, by decide, t, ht⟩
  · rw [if_neg h16] at h
    rw [if_neg (show ¬ ((op : Int) = 16) by omega)]
    have e1 : ({ st0 i op with at_ := (st0 i op).at_ + 1, op := wrap64 ((st0 i op).op + 1) } : RS) = st0 (i + 1) (op + 1) := by
      simp only [RS.mk.injEq, true_and]
      show wrap64 ((op : Int) + 1) = ((op + 1 : Nat) : Int)
      unfold wrap64
      omega
    rw [e1]
    rcases andThen_some h with ⟨l, c, e, ha, rfl⟩ | ⟨n, j, ha, hk⟩
    · obtain ⟨q, hq, h1, h2, h3, h4, t2, ht2⟩ := H _ _ _ (by omega) ha
      rw [hq]
      simp only [Option.bind_some]
      rw [q_at ht2]
      simp only
      rw [needT_bad (by rw [h3]; exact h4), if_neg (by rw [h3]; exact h4)]
      exact ⟨_, rfl, rfl, h1, h2, h3, h4, t2, ht2⟩
    · obtain ⟨q, hq, h1⟩ := H _ _ _ (by omega) ha
      have h1 : q = (convN n, st0 j (op + 1)) := h1
      subst h1
      rw [hq]
      simp only [Option.bind_some]
      rcases andThen_some hk with ⟨l, c, e, hb, rfl⟩ | ⟨u, k, hb, hk2⟩
      · obtain ⟨t2, ht2, h1, h2, h3, h4, t3, ht3⟩ := take_rel (op := op + 1) hb
        simp only at h1 h2 h3 ht3
        rw [q_at ht2]
        simp only
        rw [if_neg (by rw [h3]; exact h4)]
        exact ⟨_, rfl, rfl, h1, h2, h3, h4, t3, ht3⟩
      · obtain ⟨t2, ht2, h1⟩ := take_rel (op := op + 1) hb
        have h1 : needT (toQ t2) (st0 j (op + 1)) x = st0 k (op + 1) := congrArg Prod.snd h1
        cases hk2
        rw [q_at ht2]
        simp only
        rw [h1, if_pos rfl]
        refine ⟨_, rfl, ?_⟩
        simp only
        congr 1
        simp only [RS.mk.injEq, true_and]
        show wrap64 (((op + 1 : Nat) : Int) - 1) = (op : Int)
        unfold wrap64
        omega
/-- An item without its sign. -/
def ItemRel (ts : List S46) (op : Nat) : PR (Option S49) → Option S78 × RS → Prop
  | .ok x j, q => q = (x.map convN, st0 j op)
  | .bad l c e, q => q.1 = none ∧ q.2.l = l ∧ q.2.c = c ∧ q.2.e = e ∧ e ≠ 0 ∧ ∃ t, ts[q.2.at_]? = some t
theorem endT_sign {x : ByteArray} {y : ByteArray × Int} (hs : signB t x = true) (h : (if x.toList == [40] then (⟨#[41]⟩, 0) else if x.toList == [91] then (⟨#[93]⟩, 5) else if x.toList == [123] then (⟨#[125]⟩, 6) else (⟨#[]⟩, 0)) = y) : endT (toQ t) = y := by
  unfold signB at hs
  simp only [Bool.and_eq_true, beq_iff_eq] at hs
  unfold endT
  rw [if_pos (show (toQ t).f0 = 3 from hs.1), show (toQ t).f1.toList = x.toList from hs.2]
  exact h
theorem item_rel (H : AltRel ts A B) (hop : op ≤ 16) (hk : ∀ t, ts[i]? = some t → 1 ≤ t.f0) {p : PR (Option S49)} (h : atomP A ts op i = some p) :
    ∃ t, ts[i]? = some t ∧ ∃ q, itemR B (ts.map toQ) (toQ t) (lookT (toQ t) (st0 i op)) = some q ∧ ItemRel ts op p q := by
  obtain ⟨t, ht, ⟨hf, rfl⟩ | ⟨hf, h⟩⟩ := peekP_some h
  · refine ⟨t, ht, (none, ⟨i, t.f2, t.f3, 6, op⟩), ?_, ?_⟩
    · rw [lookT_far hf]
      unfold itemR
      rw [if_pos (by rfl)]
    · exact ⟨rfl, rfl, rfl, rfl, by decide, t, ht⟩
  · refine ⟨t, ht, ?_⟩
    rw [lookT_ok hf]
    have hk := hk t ht
    by_cases h1 : t.f0 = 1
    · rw [if_pos h1] at h
      cases h
      have e0 : endT (toQ t) = (⟨#[]⟩, 0) := by
        unfold endT
        rw [if_neg (show ¬ (toQ t).f0 = 3 from by show ¬ t.f0 = 3; omega)]
      unfold itemR
      rw [if_neg (by unfold stopT; rw [e0, decide_eq_false (show ¬ 2 < (toQ t).f0 from by show ¬ 2 < t.f0; omega)]; simp), e0, if_pos (by rw [tl0]; rfl)]
      refine ⟨_, rfl, ?_⟩
      show _ = (some (convN ⟨1, t.f1, []⟩), _)
      rw [convN, convL, ← h1]
      rfl
    · rw [if_neg h1] at h
      by_cases h2 : t.f0 = 2
      · rw [if_pos h2] at h
        cases h
        have e0 : endT (toQ t) = (⟨#[]⟩, 0) := by
          unfold endT
          rw [if_neg (show ¬ (toQ t).f0 = 3 from by show ¬ t.f0 = 3; omega)]
        unfold itemR
        rw [if_neg (by unfold stopT; rw [e0, decide_eq_false (show ¬ 2 < (toQ t).f0 from by show ¬ 2 < t.f0; omega)]; simp), e0, if_pos (by rw [tl0]; rfl)]
        refine ⟨_, rfl, ?_⟩
        show _ = (some (convN ⟨2, t.f1, []⟩), _)
        rw [convN, convL, ← h2]
        rfl
      · rw [if_neg h2] at h
        have go : ∀ {x : ByteArray} {kk : Int} {f : S49 → Option S49}, endT (toQ t) = (x, kk) → x.toList.isEmpty = false → (∀ n, (f n).map convN = some (if 0 < kk then wrapR kk (convN n) else convN n)) →
            (aroundP A ts op i x).map (PR.map f) = some p → ∃ q, itemR B (ts.map toQ) (toQ t) (st0 i op) = some q ∧ ItemRel ts op p q := by
          intro x kk f he hx hff hm
          obtain ⟨p2, hp2, rfl⟩ := map_some hm
          obtain ⟨q, hq, hr⟩ := around_rel H hop ht he hx hp2
          refine ⟨q, hq, ?_⟩
          cases p2 with
          | ok n j => rw [show q = _ from hr]; show _ = ((f n).map convN, _); rw [hff]
          | bad l c e => exact hr
        split at h
        · rename_i hs
          exact go (x := ⟨#[41]⟩) (kk := 0) (f := some) (endT_sign hs (by rw [tl40]; rfl)) (by rw [tl41]; rfl) (fun n => rfl) h
        · rename_i hs1
          split at h
          · rename_i hs
            exact go (x := ⟨#[93]⟩) (kk := 5) (f := fun n => some (wrapN 5 n)) (endT_sign hs (by rw [tl91]; rfl)) (by rw [tl93]; rfl) (fun n => by show some (convN (wrapN 5 n)) = _; rw [convN_wrap]; rfl) h
          · rename_i hs2
            split at h
            · rename_i hs
              exact go (x := ⟨#[125]⟩) (kk := 6) (f := fun n => some (wrapN 6 n)) (endT_sign hs (by rw [tl123]; rfl)) (by rw [tl125]; rfl) (fun n => by show some (convN (wrapN 6 n)) = _; rw [convN_wrap]; rfl) h
            · rename_i hs3
              cases h
              have e0 : endT (toQ t) = (⟨#[]⟩, 0) := by
                unfold endT
                split
                · rename_i h3
                  have a1 : ((toQ t).f1.toList == [40]) = false := by
                    have : signB t ⟨#[40]⟩ = false := Bool.eq_false_iff.mpr hs1
                    unfold signB at this
                    rw [show (t.f0 == 3) = true from beq_iff_eq.mpr h3, Bool.true_and, tl40] at this
                    exact this
                  have a2 : ((toQ t).f1.toList == [91]) = false := by
                    have : signB t ⟨#[91]⟩ = false := Bool.eq_false_iff.mpr hs2
                    unfold signB at this
                    rw [show (t.f0 == 3) = true from beq_iff_eq.mpr h3, Bool.true_and, tl91] at this
                    exact this
                  have a3 : ((toQ t).f1.toList == [123]) = false := by
                    have : signB t ⟨#[123]⟩ = false := Bool.eq_false_iff.mpr hs3
                    unfold signB at this
                    rw [show (t.f0 == 3) = true from beq_iff_eq.mpr h3, Bool.true_and, tl123] at this
                    exact this
                  rw [a1, a2, a3]
                  rfl
                · rfl
              unfold itemR
              rw [if_pos (by unfold stopT; rw [e0, decide_eq_true (show 2 < (toQ t).f0 from by show 2 < t.f0; omega), tl0]; rfl)]
              exact ⟨_, rfl, rfl⟩
/-- The sign behind an item. -/
theorem suff_rel {x : S49} {p : PR S49} (h : suffP ts i x = some p) : ∃ t, ts[i]? = some t ∧ match p with
    | .ok y j => sufT (toQ t) (st0 i op) (convN x) = (convN y, st0 j op)
    | .bad l c e => (sufT (toQ t) (st0 i op) (convN x)).2.l = l ∧ (sufT (toQ t) (st0 i op) (convN x)).2.c = c ∧ (sufT (toQ t) (st0 i op) (convN x)).2.e = e ∧ e ≠ 0 ∧ ∃ u, ts[(sufT (toQ t) (st0 i op) (convN x)).2.at_]? = some u := by
  obtain ⟨t, ht, ⟨hf, rfl⟩ | ⟨hf, h⟩⟩ := peekP_some h
  · refine ⟨t, ht, ?_⟩
    have e0 : sufT (toQ t) (st0 i op) (convN x) = (convN x, ⟨i, t.f2, t.f3, 6, op⟩) := by
      unfold sufT sufK suf2 suf1
      rw [isT_far hf, isT_far hf, isT_far hf, lookT_far hf]
      rfl
    rw [e0]
    exact ⟨rfl, rfl, rfl, by decide, t, ht⟩
  · refine ⟨t, ht, ?_⟩
    have hne : ∀ {a b : ByteArray}, a.toList ≠ b.toList → signB t a = true → signB t b = false := by
      intro a b hab ha
      unfold signB at ha ⊢
      simp only [Bool.and_eq_true, beq_iff_eq] at ha
      rw [ha.2, beq_eq_false_iff_ne.mpr hab, Bool.and_false]
    unfold sufT sufK suf2 suf1
    rw [isT_ok hf, isT_ok hf, isT_ok hf, lookT_ok hf]
    cases s1 : signB t ⟨#[63]⟩
    · cases s2 : signB t ⟨#[42]⟩
      · cases s3 : signB t ⟨#[43]⟩
        · rw [s1, s2, s3] at h
          cases h
          rfl
        · rw [s1, s2, s3] at h
          cases h
          show (wrapR 7 (convN x), _) = _
          rw [convN_wrap]
          rfl
      · rw [s1, s2] at h
        cases h
        rw [hne (show (⟨#[42]⟩ : ByteArray).toList ≠ (⟨#[43]⟩ : ByteArray).toList by rw [tl42, tl43]; decide) s2]
        show (wrapR 6 (convN x), _) = _
        rw [convN_wrap]
        rfl
    · rw [s1] at h
      cases h
      rw [hne (show (⟨#[63]⟩ : ByteArray).toList ≠ (⟨#[43]⟩ : ByteArray).toList by rw [tl63, tl43]; decide) s1, hne (show (⟨#[63]⟩ : ByteArray).toList ≠ (⟨#[42]⟩ : ByteArray).toList by rw [tl63, tl42]; decide) s1]
      show (wrapR 5 (convN x), _) = _
      rw [convN_wrap]
      rfl
theorem row_rel (H : AltRel ts A B) (hop : op ≤ 16) (K : ∀ (i : Nat) t, ts[i]? = some t → 1 ≤ t.f0) : ∀ {n m i : Nat} {acc : List S49} {p : PR (List S49)}, n < m → rowL A ts op n i acc = some p →
    ∃ q, rowR B (ts.map toQ) m (st0 i op) (acc.map convN) = some q ∧ RelP (List.map convN) ts op p q
  | 0, _, _, _, _, _, h => by simp [rowL] at h
  | n + 1, 0, _, _, _, hm, _ => by omega
  | n + 1, m + 1, i, acc, p, hm, h => by
    unfold rowL at h
    rcases andThen_some h with ⟨l, c, e, ha, rfl⟩ | ⟨ox, j, ha, hk⟩
    · obtain ⟨t, ht, q, hq, h1, h2, h3, h4, h5, h6⟩ := item_rel H hop (K i) ha
      unfold rowR
      rw [q_at ht]
      simp only
      rw [hq]
      obtain ⟨q1, q2⟩ := q
      simp only at h1
      subst h1
      exact ⟨_, rfl, h2, h3, h4, h5, h6⟩
    · obtain ⟨t, ht, q, hq, h1⟩ := item_rel H hop (K i) ha
      have h1 : q = (ox.map convN, st0 j op) := h1
      subst h1
      unfold rowR
      rw [q_at ht]
      simp only
      rw [hq]
      cases ox with
      | none =>
        cases hk
        exact ⟨_, rfl, rfl⟩
      | some x =>
        simp only [Option.map_some, Option.bind_some]
        rcases andThen_some hk with ⟨l, c, e, hb, rfl⟩ | ⟨y, k, hb, hk2⟩
        · obtain ⟨t2, ht2, h1, h2, h3, h4, u, hu⟩ := suff_rel (op := op) hb
          rw [q_at ht2]
          simp only
          obtain ⟨m', rfl⟩ : ∃ m', m = m' + 1 := ⟨m - 1, by omega⟩
          rw [rowR_bad (by rw [h3]; exact h4) (q_at hu)]
          exact ⟨_, rfl, h1, h2, h3, h4, u, hu⟩
        · obtain ⟨t2, ht2, h1⟩ := suff_rel (op := op) hb
          have h1 : sufT (toQ t2) (st0 j op) (convN x) = (convN y, st0 k op) := h1
          rw [q_at ht2]
          simp only
          rw [h1]
          have := row_rel H hop K (m := m) (by omega) hk2
          simpa using this
theorem altL_rel (H : AltRel ts A B) (hop : op ≤ 16) (K : ∀ (i : Nat) t, ts[i]? = some t → 1 ≤ t.f0) {a b : Nat} (hab : a < b) : ∀ {n m i : Nat} {acc : List S49} {p : PR (List S49)}, n < m → altL A ts a op n i acc = some p →
    ∃ q, altLR B (ts.map toQ) b m (st0 i op) (acc.map convN) = some q ∧ RelP (List.map convN) ts op p q
  | 0, _, _, _, _, _, h => by simp [altL] at h
  | n + 1, 0, _, _, _, hm, _ => by omega
  | n + 1, m + 1, i, acc, p, hm, h => by
    unfold altL at h
    unfold altLR
    obtain ⟨t, ht, ⟨hf, rfl⟩ | ⟨hf, h⟩⟩ := peekP_some h
    · rw [q_at ht]
      simp only
      rw [isT_far hf, lookT_far hf, if_neg (by simp)]
      exact ⟨_, rfl, rfl, rfl, rfl, by decide, t, ht⟩
    · rw [q_at ht]
      simp only
      rw [isT_ok hf, lookT_ok hf]
      split at h
      · rename_i hs
        rw [if_pos hs]
        rcases andThen_some h with ⟨l, c, e, hb, rfl⟩ | ⟨x, j, hb, hk⟩
        · obtain ⟨p2, hp2, hx⟩ := map_some hb
          obtain ⟨q, hq, hr⟩ := row_rel H hop K hab hp2
          cases p2 with
          | ok y k => cases hx
          | bad l2 c2 e2 =>
            cases hx
            obtain ⟨h1, h2, h3, h4, u, hu⟩ := hr
            have hq' : rowR B (ts.map toQ) b (st0 i op).next [] = some q := hq
            rw [hq']
            simp only [Option.bind_some]
            obtain ⟨m', rfl⟩ : ∃ m', m = m' + 1 := ⟨m - 1, by omega⟩
            rw [altLR_bad (by rw [h3]; exact h4) (q_at hu)]
            exact ⟨_, rfl, h1, h2, h3, h4, u, hu⟩
        · obtain ⟨p2, hp2, hx⟩ := map_some hb
          obtain ⟨q, hq, hr⟩ := row_rel H hop K hab hp2
          cases p2 with
          | bad l2 c2 e2 => cases hx
          | ok y k =>
            cases hx
            have hr : q = (y.map convN, st0 j op) := hr
            subst hr
            have hq' : rowR B (ts.map toQ) b (st0 i op).next [] = some (y.map convN, st0 j op) := hq
            rw [hq']
            simp only [Option.bind_some]
            have := altL_rel H hop K hab (m := m) (by omega) hk
            rw [← convN_one]
            simpa using this
      · rename_i hs
        cases h
        rw [if_neg hs]
        exact ⟨_, rfl, rfl⟩
theorem alt_rel (K : ∀ (i : Nat) t, ts[i]? = some t → 1 ≤ t.f0) : ∀ {n m : Nat}, n < m → AltRel ts (altP ts n) (altR (ts.map toQ) m)
  | 0, _, _ => fun op i p _ h => by simp [altP] at h
  | n + 1, 0, hm => by omega
  | n + 1, m + 1, hm => fun op i p hop h => by
    have H := alt_rel K (n := n) (m := m) (by omega)
    obtain ⟨p1, hp1, rfl⟩ := map_some (show Option.map _ _ = some p from h)
    show ∃ q, ((rowR (altR (ts.map toQ) m) (ts.map toQ) (m + 1) (st0 i op) []).bind fun r => (altLR (altR (ts.map toQ) m) (ts.map toQ) (m + 1) (m + 1) r.2 [oneR 3 r.1]).map fun q => (oneR 4 q.1, q.2)) = some q ∧ _
    rcases andThen_some hp1 with ⟨l, c, e, hb, rfl⟩ | ⟨x, j, hb, hk⟩
    · obtain ⟨p2, hp2, hx⟩ := map_some hb
      obtain ⟨q, hq, hr⟩ := row_rel H hop K (show n + 1 < m + 1 by omega) hp2
      cases p2 with
      | ok y k => cases hx
      | bad l2 c2 e2 =>
        cases hx
        obtain ⟨h1, h2, h3, h4, u, hu⟩ := hr
        have hq' : rowR (altR (ts.map toQ) m) (ts.map toQ) (m + 1) (st0 i op) [] = some q := hq
        rw [hq']
        simp only [Option.bind_some]
        rw [altLR_bad (by rw [h3]; exact h4) (q_at hu)]
        exact ⟨_, rfl, h1, h2, h3, h4, u, hu⟩
    · obtain ⟨p2, hp2, hx⟩ := map_some hb
      obtain ⟨q, hq, hr⟩ := row_rel H hop K (show n + 1 < m + 1 by omega) hp2
      cases p2 with
      | bad l2 c2 e2 => cases hx
      | ok y k =>
        cases hx
        have hr : q = (y.map convN, st0 j op) := hr
        subst hr
        have hq' : rowR (altR (ts.map toQ) m) (ts.map toQ) (m + 1) (st0 i op) [] = some (y.map convN, st0 j op) := hq
        rw [hq']
        simp only [Option.bind_some]
        obtain ⟨q, hq, hr⟩ := altL_rel H hop K (show n + 1 < m + 1 by omega) (show n + 1 < m + 1 by omega) hk
        rw [← convN_one]
        have hq' : altLR (altR (ts.map toQ) m) (ts.map toQ) (m + 1) (m + 1) (st0 j op) [convN (oneOr 3 y)] = some q := hq
        rw [hq']
        refine ⟨_, rfl, ?_⟩
        cases p1 with
        | ok z k2 =>
          have hr : q = (z.map convN, st0 k2 op) := hr
          subst hr
          show (oneR 4 (z.map convN), _) = _
          rw [← convN_one]
        | bad l2 c2 e2 => exact hr
end
end Go.Proofs.Ytgllncnfhiiobaa.Rw
