/- What is parsed is proper, and its rows are short. -/
import Derived.Test.YtgllncnfhiiobaaSynP
set_option linter.unusedVariables false
set_option linter.unusedSimpArgs false
namespace Go.Proofs.Ytgllncnfhiiobaa.Sw
open Go.RowKit Go.Proofs.YtgllncnfhiiobaaW.PrintWords Go.Proofs.YtgllncnfhiiobaaW.PrintLast Go.Proofs.YtgllncnfhiiobaaW.PrintMore Go.Proofs.Ytgllncnfhiiobaa Go.Proofs.Ytgllncnfhiiobaa.P Go.Proofs.Ytgllncnfhiiobaa.Lw

mutual
def smallN : S49 → Bool
  | ⟨k, t, l⟩ => decide (l.length ≤ 100000) && smallL l
def smallL : List S49 → Bool
  | [] => true
  | x :: xs => smallN x && smallL xs
end
theorem propL_iff : ∀ l : List S49, propL l = true ↔ ∀ x ∈ l, propN x = true
  | [] => by simp [propL]
  | x :: xs => by simp [propL, propL_iff xs]
theorem smallL_iff : ∀ l : List S49, smallL l = true ↔ ∀ x ∈ l, smallN x = true
  | [] => by simp [smallL]
  | x :: xs => by simp [smallL, smallL_iff xs]
def NodeOk (n : S49) : Prop := propN n = true ∧ smallN n = true
theorem etl0 : (⟨#[]⟩ : ByteArray).toList = [] := by kernel_rfl
theorem nodeOk_many {k : Int} (hk : k = 3 ∨ k = 4 ∨ k = 5 ∨ k = 6 ∨ k = 7) {l : List S49} (hl : ∀ x ∈ l, NodeOk x) (hn : l.length ≤ 100000) (ho : kidsOk k l.length = true) : NodeOk ⟨k, ⟨#[]⟩, l⟩ := by
  constructor
  · unfold propN
    rw [if_neg (by omega), if_neg (by omega), ho, etl0, (propL_iff l).2 (fun x hx => (hl x hx).1)]
    rfl
  · unfold smallN
    rw [decide_eq_true hn, (smallL_iff l).2 (fun x hx => (hl x hx).2)]
    rfl
theorem nodeOk_wrap {k : Int} (hk : k = 5 ∨ k = 6 ∨ k = 7) {n : S49} (h : NodeOk n) : NodeOk (wrapN k n) := by
  refine nodeOk_many (by omega) (fun x hx => ?_) (by simp) ?_
  · have : x = n := by simpa using hx
    rw [this]
    exact h
  · rcases hk with rfl | rfl | rfl <;> rfl
theorem nodeOk_one {k : Int} (hk : k = 3 ∨ k = 4) {l : List S49} (hl : ∀ x ∈ l, NodeOk x) (hn : l.length ≤ 100000) (h0 : k = 4 → 0 < l.length) : NodeOk (oneOr k l) := by
  match l, hl, hn, h0 with
  | [x], hl, _, _ => exact hl x (by simp)
  | [], hl, hn, h0 =>
    refine nodeOk_many (by omega) hl hn ?_
    rcases hk with rfl | rfl
    · rfl
    · exact absurd (h0 rfl) (by simp)
  | x :: y :: l, hl, hn, h0 =>
    refine nodeOk_many (by omega) hl hn ?_
    rcases hk with rfl | rfl
    · unfold kidsOk
      rw [if_pos rfl]
      simp
    · unfold kidsOk
      rw [if_neg (by decide), if_pos rfl]
      simp
/-- Names and literals that may stand in a node. -/
def TokOk (ts : List S46) : Prop := ∀ (i : Nat) t, ts[i]? = some t → (t.f0 = 1 → goodB t.f1.data.toList = true) ∧ (t.f0 = 2 → t.f1.toList.isEmpty = false ∧ t.f1.size ≤ 16)
section
variable {ts : List S46} {i op : Nat} {A : Nat → Nat → Option (PR S49)}
def AltOk (A : Nat → Nat → Option (PR S49)) : Prop := ∀ op i n j, A op i = some (.ok n j) → NodeOk n
theorem around_good (H : AltOk A) {s : ByteArray} {n : S49} {j : Nat} (h : aroundP A ts op i s = some (.ok n j)) : NodeOk n := by
  unfold aroundP at h
  split at h
  · cases h
  · split at h
    · cases h
    · rcases andThen_some h with ⟨l, c, e, ha, hh⟩ | ⟨x, k, ha, hk⟩
      · cases hh
      · rcases andThen_some hk with ⟨l, c, e, hb, hh⟩ | ⟨u, k2, hb, hk2⟩
        · cases hh
        · cases hk2
          exact H _ _ _ _ ha
theorem atom_good (T : TokOk ts) (H : AltOk A) {n : S49} {j : Nat} (h : atomP A ts op i = some (.ok (some n) j)) : NodeOk n := by
  obtain ⟨t, ht, ⟨hf, hh⟩ | ⟨hf, h⟩⟩ := peekP_some h
  · cases hh
  · have T := T i t ht
    split at h
    · rename_i h1
      cases h
      refine ⟨?_, by simp [smallN, smallL]⟩
      unfold propN
      rw [if_pos rfl, T.1 h1]
      rfl
    · split at h
      · rename_i h1 h2
        cases h
        refine ⟨?_, by simp [smallN, smallL]⟩
        unfold propN
        rw [if_neg (by decide), if_pos rfl, (T.2 h2).1, decide_eq_true (T.2 h2).2]
        rfl
      · have go : ∀ {s : ByteArray} {f : S49 → Option S49}, (∀ m, NodeOk m → f m = some n → NodeOk n) → (aroundP A ts op i s).map (PR.map f) = some (.ok (some n) j) → NodeOk n := by
          intro s f hff hm
          obtain ⟨q, hq, hr⟩ := map_some hm
          cases q with
          | bad l c e => cases hr
          | ok m k =>
            have hr : PR.ok (some n) j = PR.ok (f m) k := hr
            injection hr with hr1 hr2
            exact hff m (around_good H hq) hr1.symm
        split at h
        · exact go (fun m hm he => by cases he; exact hm) h
        · split at h
          · exact go (fun m hm he => by cases he; exact nodeOk_wrap (by omega) hm) h
          · split at h
            · exact go (fun m hm he => by cases he; exact nodeOk_wrap (by omega) hm) h
            · cases h
theorem suff_good {x y : S49} {j : Nat} (hx : NodeOk x) (h : suffP ts i x = some (.ok y j)) : NodeOk y := by
  obtain ⟨t, ht, ⟨hf, hh⟩ | ⟨hf, h⟩⟩ := peekP_some h
  · cases hh
  · split at h
    · cases h; exact nodeOk_wrap (by omega) hx
    · split at h
      · cases h; exact nodeOk_wrap (by omega) hx
      · split at h
        · cases h; exact nodeOk_wrap (by omega) hx
        · cases h; exact hx
theorem row_good (T : TokOk ts) (H : AltOk A) : ∀ {n i : Nat} {acc l : List S49} {j : Nat}, (∀ x ∈ acc, NodeOk x) → rowL A ts op n i acc = some (.ok l j) → (∀ x ∈ l, NodeOk x) ∧ l.length ≤ acc.length + n
  | 0, _, _, _, _, _, h => by simp [rowL] at h
  | n + 1, i, acc, l, j, ha, h => by
    unfold rowL at h
    rcases andThen_some h with ⟨_, _, _, _, hh⟩ | ⟨ox, k, h1, hk⟩
    · cases hh
    · cases ox with
      | none => cases hk; exact ⟨ha, by omega⟩
      | some x =>
        rcases andThen_some hk with ⟨_, _, _, _, hh⟩ | ⟨y, k2, h2, hk2⟩
        · cases hh
        · have hy := suff_good (atom_good T H h1) h2
          obtain ⟨h3, h4⟩ := row_good T H (acc := acc ++ [y]) (fun z hz => by
            rcases List.mem_append.1 hz with hz | hz
            · exact ha z hz
            · have : z = y := by simpa using hz
              rw [this]
              exact hy) hk2
          refine ⟨h3, ?_⟩
          simp only [List.length_append, List.length_singleton] at h4
          omega
theorem rowP_good (T : TokOk ts) (H : AltOk A) {n : Nat} (hn : n ≤ 100000) {x : S49} {j : Nat} (h : rowP A ts n op i = some (.ok x j)) : NodeOk x := by
  obtain ⟨q, hq, hr⟩ := map_some h
  cases q with
  | bad l c e => cases hr
  | ok l k =>
    cases hr
    obtain ⟨h1, h2⟩ := row_good T H (fun x hx => (by cases hx)) hq
    exact nodeOk_one (.inl rfl) h1 (by simp at h2; omega) (fun h => by cases h)
theorem altL_good (T : TokOk ts) (H : AltOk A) {m : Nat} (hm : m ≤ 100000) : ∀ {n i : Nat} {acc l : List S49} {j : Nat}, (∀ x ∈ acc, NodeOk x) → altL A ts m op n i acc = some (.ok l j) → (∀ x ∈ l, NodeOk x) ∧ l.length ≤ acc.length + n ∧ acc.length ≤ l.length
  | 0, _, _, _, _, _, h => by simp [altL] at h
  | n + 1, i, acc, l, j, ha, h => by
    unfold altL at h
    obtain ⟨t, ht, ⟨hf, hh⟩ | ⟨hf, h⟩⟩ := peekP_some h
    · cases hh
    · split at h
      · rcases andThen_some h with ⟨_, _, _, _, hh⟩ | ⟨x, k, h1, hk⟩
        · cases hh
        · have hy := rowP_good T H hm h1
          obtain ⟨h3, h4, h5⟩ := altL_good T H hm (acc := acc ++ [x]) (fun z hz => by
            rcases List.mem_append.1 hz with hz | hz
            · exact ha z hz
            · have : z = x := by simpa using hz
              rw [this]
              exact hy) hk
          simp only [List.length_append, List.length_singleton] at h4 h5
          exact ⟨h3, by omega, by omega⟩
      · cases h
        exact ⟨ha, by omega, Nat.le_refl _⟩
theorem altP_good (T : TokOk ts) : ∀ {n : Nat}, n ≤ 99999 → AltOk (altP ts n)
  | 0, _, _, _, _, _, h => by simp [altP] at h
  | n + 1, hn, op, i, x, j, h => by
    obtain ⟨q, hq, hr⟩ := map_some (show Option.map _ _ = some _ from h)
    cases q with
    | bad l c e => cases hr
    | ok l k =>
      cases hr
      rcases andThen_some hq with ⟨_, _, _, _, hh⟩ | ⟨y, k2, h1, hk⟩
      · cases hh
      · have hy := rowP_good T (altP_good T (n := n) (by omega)) (by omega) h1
        obtain ⟨h3, h4, h5⟩ := altL_good T (altP_good T (n := n) (by omega)) (by omega) (fun z hz => by
          have : z = y := by simpa using hz
          rw [this]
          exact hy) hk
        simp only [List.length_singleton] at h4 h5
        exact nodeOk_one (.inr rfl) h3 (by omega) (fun _ => by omega)
def RuleOk (r : S51) : Prop := goodB r.f0.data.toList = true ∧ NodeOk r.f1
theorem name_good (T : TokOk ts) {s : ByteArray} {j : Nat} (h : nameP ts i = some (.ok s j)) : goodB s.data.toList = true := by
  obtain ⟨t, ht, ⟨hf, hh⟩ | ⟨hf, h⟩⟩ := peekP_some h
  · cases hh
  · split at h
    · rename_i h1
      cases h
      exact (T i t ht).1 h1
    · cases h
theorem rules_good (T : TokOk ts) {m : Nat} (hm : m ≤ 99999) : ∀ {n i : Nat} {first : Bool} {acc l : List S51} {j : Nat}, (∀ x ∈ acc, RuleOk x) → rulesL ts m n first i acc = some (.ok l j) → ∀ x ∈ l, RuleOk x
  | 0, _, _, _, _, _, _, h => by simp [rulesL] at h
  | n + 1, i, first, acc, l, j, ha, h => by
    unfold rulesL at h
    obtain ⟨t, ht, ⟨hf, hh⟩ | ⟨hf, h⟩⟩ := peekP_some h
    · cases hh
    · split at h
      · cases h; exact ha
      · split at h
        · cases h
        · rcases andThen_some h with ⟨_, _, _, _, hh⟩ | ⟨nm, k1, h1, h⟩
          · cases hh
          rcases andThen_some h with ⟨_, _, _, _, hh⟩ | ⟨_, k2, h2, h⟩
          · cases hh
          rcases andThen_some h with ⟨_, _, _, _, hh⟩ | ⟨bd, k3, h3, h⟩
          · cases hh
          rcases andThen_some h with ⟨_, _, _, _, hh⟩ | ⟨_, k4, h4, h⟩
          · cases hh
          refine rules_good T hm (fun z hz => ?_) h
          rcases List.mem_append.1 hz with hz | hz
          · exact ha z hz
          · have : z = ⟨nm, bd⟩ := by simpa using hz
            rw [this]
            exact ⟨name_good T h1, altP_good T hm _ _ _ _ h3⟩
theorem grammar_good (T : TokOk ts) {n : Nat} (hn : n ≤ 99999) {g : S25} {j : Nat} (h : grammarP ts n = some (.ok g j)) : propG g = true ∧ (∀ x ∈ g.f1, RuleOk x) ∧ g.f1.length ≤ 64 := by
  unfold grammarP at h
  rcases andThen_some h with ⟨_, _, _, _, hh⟩ | ⟨s, i, hs, hk⟩
  · cases hh
  · obtain ⟨q, hq, hr⟩ := map_some hk
    cases q with
    | bad l c e => cases hr
    | ok l k =>
      cases hr
      have hg := rules_good T hn (fun x hx => (by cases hx)) hq
      have hc := rulesL_count hq (by simp)
      have hp := rulesL_first hq
      have hst : goodB (startOf s l).data.toList = true := by
        unfold startOf
        split
        · rename_i he
          obtain ⟨x, l', rfl⟩ : ∃ x l', l = x :: l' := by
            cases l with
            | nil => exact absurd hp (by simp)
            | cons x l' => exact ⟨x, l', rfl⟩
          exact (hg x (by simp)).1
        · rename_i he
          obtain ⟨t, ht, ⟨hf, hh⟩ | ⟨hf, hs⟩⟩ := peekP_some hs
          · cases hh
          · split at hs
            · rcases andThen_some hs with ⟨_, _, _, _, hh⟩ | ⟨nm, k1, h1, hs⟩
              · cases hh
              rcases andThen_some hs with ⟨_, _, _, _, hh⟩ | ⟨_, k2, h2, hs⟩
              · cases hh
              cases hs
              exact name_good T h1
            · cases hs
              exact absurd (by rw [etl0]; rfl) he
      refine ⟨?_, hg, hc⟩
      unfold propG
      simp only
      rw [hst, decide_eq_true hp, Bool.and_self, Bool.true_and, List.all_eq_true]
      intro x hx
      unfold propRule
      rw [(hg x hx).1, (hg x hx).2.1]
      rfl
theorem tokOk_of_scan {s : List UInt8} {us : List Lx.Tok} (h : Lx.scan s = .ok us) : TokOk (us.map toS) := by
  obtain ⟨init, e, rfl, hv, he, _⟩ := Lx.scan_valid h
  intro i t ht
  rw [List.getElem?_map] at ht
  obtain ⟨u, hu, rfl⟩ := Option.map_eq_some_iff.1 ht
  have hm := List.mem_of_getElem? hu
  have hd : (toS u).f1.data.toList = u.text := by simp [toS]
  rcases List.mem_append.1 hm with h1 | h1
  · rcases hv u h1 with ⟨hk, c, cs, hx, hl, ha, hs⟩ | ⟨hk, hx, hs⟩ | ⟨hk, _⟩
    · refine ⟨fun _ => ?_, fun h2 => ?_⟩
      · rw [hd, hx]
        unfold goodB
        simp only
        rw [decide_eq_true (by simp at hs; omega), hl, ha]
        rfl
      · have : u.kind = 2 := h2
        omega
    · refine ⟨fun h2 => ?_, fun _ => ?_⟩
      · have : u.kind = 1 := h2
        omega
      · rw [ByteArray.toList_eq, hd]
        refine ⟨?_, ?_⟩
        · cases hu2 : u.text with
          | nil => exact absurd hu2 hx
          | cons a b => rfl
        · have : (toS u).f1.size = u.text.length := by simp [toS, ByteArray.size]
          omega
    · refine ⟨fun h2 => ?_, fun h2 => ?_⟩
      · have : u.kind = 1 := h2
        omega
      · have : u.kind = 2 := h2
        omega
  · have hue : u = e := by simpa using h1
    have hk := he.1
    rw [← hue] at hk
    refine ⟨fun h2 => ?_, fun h2 => ?_⟩
    · have : u.kind = 1 := h2
      omega
    · have : u.kind = 2 := h2
      omega
end
end Go.Proofs.Ytgllncnfhiiobaa.Sw
