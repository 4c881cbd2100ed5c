/- What is parsed is small: rows, texts, names. -/
import Derived.Test.YtdbkooliafkcgaaSynQ
import Derived.Test.YtdbkooliafkcgaaSymD
set_option linter.unusedVariables false
set_option linter.unusedSimpArgs false
namespace Go.Proofs.Ytdbkooliafkcgaa.Yw
open Go.RowKit Go.Proofs.YtdbkooliafkcgaaW.PrintWords Go.Proofs.YtdbkooliafkcgaaW.PrintLast Go.Proofs.YtdbkooliafkcgaaW.PrintMore Go.Proofs.Ytdbkooliafkcgaa Go.Proofs.Ytdbkooliafkcgaa.P Go.Proofs.Ytdbkooliafkcgaa.Lw Go.Proofs.Ytdbkooliafkcgaa.Sw

mutual
def smallN : S48 → Bool
  | ⟨k, t, l⟩ => decide (l.length ≤ 100000) && smallL l
def smallL : List S48 → Bool
  | [] => true
  | x :: xs => smallN x && smallL xs
end
theorem smallL_iff : ∀ l : List S48, smallL l = true ↔ ∀ x ∈ l, smallN x = true
  | [] => by simp [smallL]
  | x :: xs => by simp [smallL, smallL_iff xs]
/-- Small, its names as many as its tokens at most. -/
def NodeOk (n : S48) (d : Nat) : Prop := smallN n = true ∧ textN n = true ∧ (refsN n).length ≤ d
theorem textL_all : ∀ l : List S48, textL l = true ↔ ∀ x ∈ l, textN x = true
  | [] => by simp [textL]
  | x :: xs => by simp [textL, textL_all xs]
theorem refsL_nil_le (k : Int) (l : List S48) : (refsN ⟨k, ⟨#[]⟩, l⟩).length ≤ max 1 (refsL l).length ∧ (k ≠ 1 → refsN ⟨k, ⟨#[]⟩, l⟩ = refsL l) := by
  unfold refsN
  split
  · rename_i h
    exact ⟨by simp; omega, fun hh => absurd h hh⟩
  · exact ⟨by omega, fun _ => rfl⟩
theorem many_ok {k : Int} (hk : k ≠ 1) {l : List S48} {d : Nat} (hn : l.length ≤ 100000) (hs : ∀ x ∈ l, smallN x = true) (ht : ∀ x ∈ l, textN x = true) (hr : (refsL l).length ≤ d) : NodeOk ⟨k, ⟨#[]⟩, l⟩ d := by
  refine ⟨?_, ?_, ?_⟩
  · unfold smallN
    rw [decide_eq_true hn, (smallL_iff l).2 hs]
    rfl
  · unfold textN
    rw [(textL_all l).2 ht]
    rfl
  · rw [(refsL_nil_le k l).2 hk]
    exact hr
theorem wrap_ok {k : Int} (hk : k ≠ 1) {n : S48} {d : Nat} (h : NodeOk n d) : NodeOk (wrapN k n) d := by
  refine many_ok hk (by simp) (fun x hx => ?_) (fun x hx => ?_) ?_
  · have : x = n := by simpa using hx
    rw [this]
    exact h.1
  · have : x = n := by simpa using hx
    rw [this]
    exact h.2.1
  · simpa [refsL] using h.2.2
/-- Texts of tokens that may stand in a node. -/
def TokS (ts : List S94) : Prop := ∀ (i : Nat) t, ts[i]? = some t → t.f1.size ≤ 1000000
section
variable {ts : List S94} {i op : Nat} {A : Nat → Nat → Option (PR S48)}
def AltS (A : Nat → Nat → Option (PR S48)) : Prop := ∀ op i n j, A op i = some (.ok n j) → i ≤ j ∧ NodeOk n (j - i)
theorem around_s (H : AltS A) {s : ByteArray} {n : S48} {j : Nat} (h : aroundP A ts op i s = some (.ok n j)) : i ≤ j ∧ NodeOk n (j - i) := by
  unfold aroundP at h
  split at h
  · cases h
  · split at h
    · cases h
    · rcases andThen_some h with ⟨l, c, e, ha, hh⟩ | ⟨x, k, ha, hk⟩
      · cases hh
      · rcases andThen_some hk with ⟨l, c, e, hb, hh⟩ | ⟨u, k2, hb, hk2⟩
        · cases hh
        · cases hk2
          have h1 := H _ _ _ _ ha
          have h2 := takeP_ok hb
          exact ⟨by omega, h1.2.1, h1.2.2.1, by have := h1.2.2.2; omega⟩
theorem atom_s (T : TokS ts) (H : AltS A) {n : S48} {j : Nat} (h : atomP A ts op i = some (.ok (some n) j)) : i ≤ j ∧ NodeOk n (j - i) := by
  obtain ⟨t, ht, ⟨hf, hh⟩ | ⟨hf, h⟩⟩ := peekP_some h
  · cases hh
  · have T := T i t ht
    split at h
    · cases h
      exact ⟨by omega, by simp [smallN, smallL], by simp [textN, textL, T], by simp [refsN]⟩
    · split at h
      · cases h
        exact ⟨by omega, by simp [smallN, smallL], by simp [textN, textL, T], by simp [refsN, refsL]⟩
      · have go : ∀ {s : ByteArray} {f : S48 → Option S48}, (∀ m d, NodeOk m d → f m = some n → NodeOk n d) → (aroundP A ts op i s).map (PR.map f) = some (.ok (some n) j) → i ≤ j ∧ NodeOk n (j - i) := by
          intro s f hff hm
          obtain ⟨q, hq, hr⟩ := map_some hm
          cases q with
          | bad l c e => cases hr
          | ok m k =>
            have hr : PR.ok (some n) j = PR.ok (f m) k := hr
            injection hr with hr1 hr2
            subst hr2
            have := around_s H hq
            exact ⟨this.1, hff m _ this.2 hr1.symm⟩
        split at h
        · exact go (fun m d hm he => by cases he; exact hm) h
        · split at h
          · exact go (fun m d hm he => by cases he; exact wrap_ok (by decide) hm) h
          · split at h
            · exact go (fun m d hm he => by cases he; exact wrap_ok (by decide) hm) h
            · cases h
theorem suff_s {x y : S48} {j d : Nat} (hx : NodeOk x d) (h : suffP ts i x = some (.ok y j)) : i ≤ j ∧ NodeOk y d := by
  obtain ⟨t, ht, ⟨hf, hh⟩ | ⟨hf, h⟩⟩ := peekP_some h
  · cases hh
  · split at h
    · cases h; exact ⟨by omega, wrap_ok (by decide) hx⟩
    · split at h
      · cases h; exact ⟨by omega, wrap_ok (by decide) hx⟩
      · split at h
        · cases h; exact ⟨by omega, wrap_ok (by decide) hx⟩
        · cases h; exact ⟨by omega, hx⟩
/-- A row of nodes. -/
def ListOk (l : List S48) (d : Nat) : Prop := (∀ x ∈ l, smallN x = true) ∧ (∀ x ∈ l, textN x = true) ∧ (refsL l).length ≤ d
theorem ListOk.snoc {l : List S48} {d e f : Nat} {x : S48} (h : ListOk l d) (hx : NodeOk x e) (hf : d + e ≤ f) : ListOk (l ++ [x]) f := by
  refine ⟨fun z hz => ?_, fun z hz => ?_, ?_⟩
  · rcases List.mem_append.1 hz with hz | hz
    · exact h.1 z hz
    · have : z = x := by simpa using hz
      rw [this]; exact hx.1
  · rcases List.mem_append.1 hz with hz | hz
    · exact h.2.1 z hz
    · have : z = x := by simpa using hz
      rw [this]; exact hx.2.1
  · rw [refsL_append]
    have h1 := h.2.2
    have h2 := hx.2.2
    simp [refsL]
    omega
theorem one_ok {k : Int} (hk : k ≠ 1) {l : List S48} {d : Nat} (h : ListOk l d) (hn : l.length ≤ 100000) : NodeOk (oneOr k l) d := by
  match l, h, hn with
  | [x], h, _ =>
    show NodeOk x d
    exact ⟨h.1 x (by simp), h.2.1 x (by simp), by simpa [refsL] using h.2.2⟩
  | [], h, hn => exact many_ok hk hn h.1 h.2.1 h.2.2
  | x :: y :: l, h, hn => exact many_ok hk hn h.1 h.2.1 h.2.2
theorem row_s (T : TokS ts) (H : AltS A) {i0 : Nat} : ∀ {n i : Nat} {acc l : List S48} {j : Nat}, i0 ≤ i → ListOk acc (i - i0) → rowL A ts op n i acc = some (.ok l j) → i0 ≤ j ∧ ListOk l (j - i0) ∧ l.length ≤ acc.length + n
  | 0, _, _, _, _, _, _, h => by simp [rowL] at h
  | n + 1, i, acc, l, j, hi, ha, h => by
    unfold rowL at h
    rcases andThen_some h with ⟨_, _, _, _, hh⟩ | ⟨ox, k, h1, hk⟩
    · cases hh
    · cases ox with
      | none =>
        have := atomP_none h1
        cases hk
        subst this
        exact ⟨hi, ha, by omega⟩
      | some x =>
        rcases andThen_some hk with ⟨_, _, _, _, hh⟩ | ⟨y, k2, h2, hk2⟩
        · cases hh
        · obtain ⟨hik, hx⟩ := atom_s T H h1
          obtain ⟨hkk, hy⟩ := suff_s hx h2
          obtain ⟨h3, h4, h5⟩ := row_s T H (i0 := i0) (i := k2) (by omega) (ha.snoc hy (by omega)) hk2
          exact ⟨h3, h4, by simp only [List.length_append, List.length_singleton] at h5; omega⟩
theorem rowP_s (T : TokS ts) (H : AltS A) {n : Nat} (hn : n ≤ 100000) {x : S48} {j : Nat} (h : rowP A ts n op i = some (.ok x j)) : i ≤ j ∧ NodeOk x (j - i) := by
  obtain ⟨q, hq, hr⟩ := map_some h
  cases q with
  | bad l c e => cases hr
  | ok l k =>
    cases hr
    obtain ⟨h1, h2, h3⟩ := row_s T H (Nat.le_refl i) (⟨fun x hx => (by cases hx), fun x hx => (by cases hx), by simp [refsL]⟩ : ListOk [] _) hq
    exact ⟨h1, one_ok (by decide) h2 (by simp at h3; omega)⟩
theorem altL_s (T : TokS ts) (H : AltS A) {m : Nat} (hm : m ≤ 100000) {i0 : Nat} : ∀ {n i : Nat} {acc l : List S48} {j : Nat}, i0 ≤ i → ListOk acc (i - i0) → altL A ts m op n i acc = some (.ok l j) → i0 ≤ j ∧ ListOk l (j - i0) ∧ l.length ≤ acc.length + n
  | 0, _, _, _, _, _, _, h => by simp [altL] at h
  | n + 1, i, acc, l, j, hi, ha, h => by
    unfold altL at h
    obtain ⟨t, ht, ⟨hf, hh⟩ | ⟨hf, h⟩⟩ := peekP_some h
    · cases hh
    · split at h
      · rcases andThen_some h with ⟨_, _, _, _, hh⟩ | ⟨x, k, h1, hk⟩
        · cases hh
        · obtain ⟨hik, hx⟩ := rowP_s T H hm h1
          obtain ⟨h3, h4, h5⟩ := altL_s T H hm (i0 := i0) (i := k) (by omega) (ha.snoc hx (by omega)) hk
          exact ⟨h3, h4, by simp only [List.length_append, List.length_singleton] at h5; omega⟩
      · cases h
        exact ⟨hi, ha, by omega⟩
theorem altP_s (T : TokS ts) : ∀ {n : Nat}, n ≤ 99998 → AltS (altP ts n)
  | 0, _, _, _, _, _, h => by simp [altP] at h
  | n + 1, hn, op, i, x, j, h => by
    obtain ⟨q, hq, hr⟩ := map_some (show Option.map _ _ = some _ from h)
    cases q with
    | bad l c e => cases hr
    | ok l k =>
      cases hr
      rcases andThen_some hq with ⟨_, _, _, _, hh⟩ | ⟨y, k2, h1, hk⟩
      · cases hh
      · obtain ⟨hik, hy⟩ := rowP_s T (altP_s T (n := n) (by omega)) (by omega) h1
        obtain ⟨h3, h4, h5⟩ := altL_s T (altP_s T (n := n) (by omega)) (by omega) (i0 := i) hik (by
          refine ⟨fun z hz => ?_, fun z hz => ?_, by simpa [refsL] using hy.2.2⟩
          · have : z = y := by simpa using hz
            rw [this]; exact hy.1
          · have : z = y := by simpa using hz
            rw [this]; exact hy.2.1 : ListOk [y] _) hk
        exact ⟨h3, one_ok (by decide) h4 (by simp at h5; omega)⟩
theorem rules_s (T : TokS ts) {m : Nat} (hm : m ≤ 99998) (hl : ts.length ≤ 100000) : ∀ {n i : Nat} {first : Bool} {acc l : List S50} {j : Nat}, (∀ x ∈ acc, x.f0.size ≤ 1000000 ∧ NodeOk x.f1 100000) → rulesL ts m n first i acc = some (.ok l j) → ∀ x ∈ l, x.f0.size ≤ 1000000 ∧ NodeOk x.f1 100000
  | 0, _, _, _, _, _, _, h => by simp [rulesL] at h
  | n + 1, i, first, acc, l, j, ha, h => by
    unfold rulesL at h
    obtain ⟨t, ht, ⟨hf, hh⟩ | ⟨hf, h⟩⟩ := peekP_some h
    · cases hh
    · split at h
      · cases h; exact ha
      · split at h
        · cases h
        · rcases andThen_some h with ⟨_, _, _, _, hh⟩ | ⟨nm, k1, h1, h⟩
          · cases hh
          rcases andThen_some h with ⟨_, _, _, _, hh⟩ | ⟨_, k2, h2, h⟩
          · cases hh
          rcases andThen_some h with ⟨_, _, _, _, hh⟩ | ⟨bd, k3, h3, h⟩
          · cases hh
          rcases andThen_some h with ⟨_, _, _, _, hh⟩ | ⟨_, k4, h4, h⟩
          · cases hh
          refine rules_s T hm hl (fun z hz => ?_) h
          rcases List.mem_append.1 hz with hz | hz
          · exact ha z hz
          · have : z = ⟨nm, bd⟩ := by simpa using hz
            rw [this]
            have hb := altP_s T hm _ _ _ _ h3
            have hk3 : k3 < ts.length := by
              obtain ⟨t3, ht3, _⟩ := peekP_some h4
              exact (List.getElem?_eq_some_iff.1 ht3).1
            refine ⟨?_, hb.2.1, hb.2.2.1, by have := hb.2.2.2; show (refsN bd).length ≤ 100000; omega⟩
            obtain ⟨t', ht', ⟨_, hh⟩ | ⟨_, h1⟩⟩ := peekP_some h1
            · cases hh
            · split at h1
              · cases h1; exact T _ _ ht'
              · cases h1
theorem tokS_of_scan {s : List UInt8} {us : List Lx.Tok} (h : Lx.scan s = .ok us) : TokS (us.map toS) ∧ us.length ≤ 65538 := by
  obtain ⟨init, e, rfl, hv, he, hl⟩ := Lx.scan_valid h
  constructor
  · intro i t ht
    rw [List.getElem?_map] at ht
    obtain ⟨u, hu, rfl⟩ := Option.map_eq_some_iff.1 ht
    have hm := List.mem_of_getElem? hu
    have hd : (toS u).f1.size = u.text.length := by simp [toS, ByteArray.size]
    rw [hd]
    rcases List.mem_append.1 hm with h1 | h1
    · rcases hv u h1 with ⟨hk, c, cs, hx, hl, ha, hs⟩ | ⟨hk, hx, hs⟩ | ⟨hk, c, hx, _⟩
      · rw [hx]; omega
      · omega
      · rw [hx]; simp
    · have hue : u = e := by simpa using h1
      rw [hue, he.2]
      simp
  · unfold Lx.scan at h
    split at h
    · cases h
    · simp only [List.length_append, List.length_singleton]
      omega
/-- What Parse tells may be looked at. -/
theorem parse_okG {a0 : ByteArray} {g : S25} {j : Nat} (h : parseR a0 = some (.ok g j)) : okG g.f0 g.f1 = true ∧ g.f1.length ≤ 64 ∧ ∀ x ∈ g.f1, NodeOk x.f1 100000 := by
  unfold parseR at h
  split at h
  · cases h
  · rename_i us hs
    obtain ⟨T, hlen⟩ := tokS_of_scan hs
    have hl2 : (us.map toS).length ≤ 100000 := by rw [List.length_map]; omega
    unfold grammarP at h
    rcases andThen_some h with ⟨_, _, _, _, hh⟩ | ⟨s, i, hst, hk⟩
    · cases hh
    · obtain ⟨q, hq, hr⟩ := map_some hk
      cases q with
      | bad l c e => cases hr
      | ok l k =>
        cases hr
        have hg := rules_s T (by omega) hl2 (fun x hx => (by cases hx)) hq
        have hc := rulesL_count hq (by simp)
        have hp := rulesL_first hq
        have hsz : (startOf s l).size ≤ 1000000 := by
          unfold startOf
          split
          · obtain ⟨x, l', rfl⟩ : ∃ x l', l = x :: l' := by
              cases l with
              | nil => exact absurd hp (by simp)
              | cons x l' => exact ⟨x, l', rfl⟩
            exact (hg x (by simp)).1
          · obtain ⟨t, ht, ⟨hf, hh⟩ | ⟨hf, hst⟩⟩ := peekP_some hst
            · cases hh
            · split at hst
              · rcases andThen_some hst with ⟨_, _, _, _, hh⟩ | ⟨nm, k1, h1, hst⟩
                · cases hh
                rcases andThen_some hst with ⟨_, _, _, _, hh⟩ | ⟨_, k2, h2, hst⟩
                · cases hh
                cases hst
                obtain ⟨t', ht', ⟨_, hh⟩ | ⟨_, h1⟩⟩ := peekP_some h1
                · cases hh
                · split at h1
                  · cases h1; exact T _ _ ht'
                  · cases h1
              · cases hst
                exact Nat.zero_le _
        refine ⟨?_, hc, fun x hx => (hg x hx).2⟩
        unfold okG
        simp only
        rw [decide_eq_true hsz, decide_eq_true (show l.length ≤ 1000000 by omega), Bool.and_self, Bool.true_and, List.all_eq_true]
        intro x hx
        have := hg x hx
        unfold okRule
        rw [decide_eq_true this.1, this.2.2.1, decide_eq_true (show (refsN x.f1).length ≤ 1000000 by have := this.2.2.2; omega)]
        rfl
end
end Go.Proofs.Ytdbkooliafkcgaa.Yw
