/- Two texts that are read, with a newline between: plain laws of the scanner. -/
import Derived.Test.YtohbjgckcbdegaaLexLaws
set_option linter.unusedVariables false
set_option linter.unusedSimpArgs false
namespace Go.Proofs.Ytohbjgckcbdegaa.Lx

def sh (k : Int) (p : Int × Int) : Int × Int := (p.1 + k, p.2)
def shT (k : Int) (t : Tok) : Tok := ⟨t.kind, t.text, sh k t.p⟩
theorem adv_sh (k : Int) (c : UInt8) (p : Int × Int) : adv c (sh k p) = sh k (adv c p) := by
  unfold adv sh
  split
  · simp only [Prod.mk.injEq, and_true]; omega
  · rfl
theorem skip_sh (k : Int) (l : List UInt8) : ∀ (b : Bool) (p : Int × Int), skip b l (sh k p) = ((skip b l p).1, sh k (skip b l p).2) := by
  induction l with
  | nil => intro b p; cases b <;> rfl
  | cons c cs ih =>
    intro b p
    cases b with
    | true =>
      simp only [skip, adv_sh]
      split <;> exact ih _ _
    | false =>
      simp only [skip, adv_sh]
      split
      · exact ih _ _
      · split
        · exact ih _ _
        · rfl
theorem nameL_sh (k : Int) (l : List UInt8) : ∀ p : Int × Int, nameL l (sh k p) = ((nameL l p).1, (nameL l p).2.1, sh k (nameL l p).2.2) := by
  induction l with
  | nil => intro p; rfl
  | cons c cs ih =>
    intro p
    simp only [nameL, adv_sh]
    split
    · simp [ih]
    · rfl
def shE (k : Int) : Esc → Esc
  | .ok b r p => .ok b r (sh k p)
  | .bad r p => .bad r (sh k p)
theorem esc_sh (k : Int) (l : List UInt8) (p : Int × Int) : esc l (sh k p) = shE k (esc l p) := by
  cases l with
  | nil => rfl
  | cons c cs =>
    simp only [esc, adv_sh]
    split
    · rfl
    · split
      · rfl
      · split
        · rfl
        · split
          · cases cs with
            | nil => rfl
            | cons d ds =>
              simp only [escX, adv_sh]
              cases hexv d with
              | none => rfl
              | some a =>
                cases ds with
                | nil => rfl
                | cons e es =>
                  simp only [adv_sh]
                  cases hexv e <;> rfl
          · rfl
theorem lit_sh (k : Int) (q : UInt8) (n : Nat) : ∀ (l : List UInt8) (p : Int × Int) (out : List UInt8), lit q n l (sh k p) out = ((lit q n l p out).1, sh k (lit q n l p out).2) := by
  induction n with
  | zero => intro l p out; rfl
  | succ n ih =>
    intro l p out
    cases l with
    | nil => rfl
    | cons c cs =>
      simp only [lit, adv_sh, esc_sh]
      split
      · rfl
      · split
        · cases esc cs (adv c p) with
          | ok b r p' => exact ih _ _ _
          | bad r p' => rfl
        · split
          · rfl
          · exact ih _ _ _
theorem token_sh {c : UInt8} {cs : List UInt8} {p : Int × Int} {t : Tok} {r : List UInt8} {p' : Int × Int} (k : Int) (h : token c cs p = .ok (t, r, p')) : token c cs (sh k p) = .ok (shT k t, r, sh k p') := by
  unfold token at h ⊢
  rw [nameL_sh, adv_sh, lit_sh]
  split at h
  · rename_i hl
    rw [if_pos hl]
    split at h
    · cases h
    · rename_i hn
      rw [if_neg hn]
      injection h with h
      injection h with h1 h2
      subst h1
      have e1 : (nameL (c :: cs) p).2.1 = r := by rw [h2]
      have e2 : (nameL (c :: cs) p).2.2 = p' := by rw [h2]
      rw [e1, e2]
      rfl
  · rename_i hl
    rw [if_neg hl]
    split at h
    · rename_i hq
      rw [if_pos hq]
      cases hlit : lit c (cs.length + 1) cs (adv c p) [] with
      | mk o p2 =>
      rw [hlit] at h
      cases o with
      | none => cases h
      | some tr =>
        obtain ⟨tx, rest⟩ := tr
        simp only at h ⊢
        split at h
        · cases h
        · rename_i h1
          rw [if_neg h1]
          split at h
          · cases h
          · rename_i h2
            rw [if_neg h2]
            injection h with h
            injection h with h3 h4
            injection h4 with h4 h5
            subst h3
            subst h4
            subst h5
            rfl
    · rename_i hq
      rw [if_neg hq]
      split at h
      · rename_i hs
        rw [if_pos hs]
        injection h with h
        injection h with h3 h4
        injection h4 with h4 h5
        subst h3
        subst h4
        subst h5
        rfl
      · cases h
theorem scanF_sh (n : Nat) : ∀ (l : List UInt8) (p : Int × Int) (acc ts : List Tok), scanF n l p acc = .ok ts → ∃ us, ts = acc ++ us ∧ ∀ (k : Int) (acc' : List Tok), scanF n l (sh k p) acc' = .ok (acc' ++ us.map (shT k)) := by
  induction n with
  | zero => intro l p acc ts h; simp [scanF] at h
  | succ n ih =>
    intro l p acc ts h
    unfold scanF at h
    cases hk : skip false l p with
    | mk l' p' =>
    rw [hk] at h
    cases l' with
    | nil =>
      simp only at h
      injection h with h
      subst h
      refine ⟨_, rfl, fun k acc' => ?_⟩
      unfold scanF
      rw [skip_sh, hk]
      rfl
    | cons c cs =>
      simp only at h
      cases ht : token c cs p' with
      | error f => rw [ht] at h; cases h
      | ok tr =>
        obtain ⟨t, rest, p''⟩ := tr
        rw [ht] at h
        simp only at h
        obtain ⟨us, h1, h2⟩ := ih _ _ _ _ h
        refine ⟨t :: us, by simp [h1], fun k acc' => ?_⟩
        unfold scanF
        rw [skip_sh, hk]
        simp only [token_sh k ht]
        rw [h2 k]
        simp
theorem scanF_more (n : Nat) : ∀ (l : List UInt8) (p : Int × Int) (acc ts : List Tok) (m : Nat), n ≤ m → scanF n l p acc = .ok ts → scanF m l p acc = .ok ts := by
  induction n with
  | zero => intro l p acc ts m hm h; simp [scanF] at h
  | succ n ih =>
    intro l p acc ts m hm h
    obtain ⟨m, rfl⟩ : ∃ m', m = m' + 1 := ⟨m - 1, by omega⟩
    unfold scanF at h ⊢
    split at h
    · exact h
    · split at h
      · cases h
      · exact ih _ _ _ _ _ (by omega) h
/-- A newline and more behind a text. -/
theorem skip_app (b : List UInt8) (l : List UInt8) : ∀ (f : Bool) (p : Int × Int), skip f (l ++ 10 :: b) p = if (skip f l p).1 = [] then skip false b ((skip f l p).2.1 + 1, 1) else ((skip f l p).1 ++ 10 :: b, (skip f l p).2) := by
  induction l with
  | nil =>
    intro f p
    cases f <;> rfl
  | cons c cs ih =>
    intro f p
    rw [List.cons_append]
    cases f with
    | true =>
      simp only [skip]
      split <;> exact ih _ _
    | false =>
      simp only [skip]
      split
      · exact ih _ _
      · split
        · exact ih _ _
        · simp
theorem nameL_nl (b : List UInt8) (l : List UInt8) : ∀ p : Int × Int, nameL (l ++ 10 :: b) p = ((nameL l p).1, (nameL l p).2.1 ++ 10 :: b, (nameL l p).2.2) := by
  induction l with
  | nil => intro p; rfl
  | cons c cs ih =>
    intro p
    rw [List.cons_append]
    simp only [nameL]
    split
    · simp [ih]
    · rfl
theorem esc_app (x l : List UInt8) (p : Int × Int) {b : UInt8} {r : List UInt8} {p' : Int × Int} (h : esc l p = .ok b r p') : esc (l ++ x) p = .ok b (r ++ x) p' := by
  cases l with
  | nil => cases h
  | cons c cs =>
    rw [List.cons_append]
    simp only [esc] at h ⊢
    split at h
    · rename_i h1; rw [if_pos h1]; injection h with h1 h2 h3; subst h1; subst h2; subst h3; rfl
    · rename_i h1; rw [if_neg h1]
      split at h
      · rename_i h2; rw [if_pos h2]; injection h with h1 h2 h3; subst h1; subst h2; subst h3; rfl
      · rename_i h2; rw [if_neg h2]
        split at h
        · rename_i h3; rw [if_pos h3]; injection h with h1 h2 h3; subst h1; subst h2; subst h3; rfl
        · rename_i h3; rw [if_neg h3]
          split at h
          · rename_i h4
            rw [if_pos h4]
            cases cs with
            | nil => cases h
            | cons d ds =>
              rw [List.cons_append]
              simp only [escX] at h ⊢
              cases hd : hexv d with
              | none => rw [hd] at h; cases h
              | some a =>
                rw [hd] at h
                simp only at h ⊢
                cases ds with
                | nil => cases h
                | cons e es =>
                  rw [List.cons_append]
                  simp only at h ⊢
                  cases he : hexv e with
                  | none => rw [he] at h; cases h
                  | some g =>
                    rw [he] at h
                    simp only at h ⊢
                    injection h with h1 h2 h3; subst h1; subst h2; subst h3; rfl
          · cases h
theorem lit_app (x : List UInt8) (q : UInt8) (n : Nat) : ∀ (l : List UInt8) (p : Int × Int) (out t r : List UInt8) (p' : Int × Int) (m : Nat), n ≤ m → lit q n l p out = (some (t, r), p') → lit q m (l ++ x) p out = (some (t, r ++ x), p') := by
  induction n with
  | zero => intro l p out t r p' m hm h; simp [lit] at h
  | succ n ih =>
    intro l p out t r p' m hm h
    obtain ⟨m, rfl⟩ : ∃ m', m = m' + 1 := ⟨m - 1, by omega⟩
    cases l with
    | nil => simp [lit] at h
    | cons c cs =>
      rw [List.cons_append]
      simp only [lit] at h ⊢
      split at h
      · rename_i h1
        rw [if_pos h1]
        injection h with h2 h3
        injection h2 with h2
        injection h2 with h4 h5
        subst h3; subst h4; subst h5
        rfl
      · rename_i h1
        rw [if_neg h1]
        split at h
        · rename_i h2
          rw [if_pos h2]
          cases he : esc cs (adv c p) with
          | bad r2 p2 => rw [he] at h; cases h
          | ok b r2 p2 =>
            rw [he] at h
            rw [esc_app x _ _ he]
            exact ih _ _ _ _ _ _ _ (by omega) h
        · rename_i h2
          rw [if_neg h2]
          split at h
          · cases h
          · rename_i h3
            rw [if_neg h3]
            exact ih _ _ _ _ _ _ _ (by omega) h
theorem token_app (b : List UInt8) {c : UInt8} {cs : List UInt8} {p : Int × Int} {t : Tok} {r : List UInt8} {p' : Int × Int} (h : token c cs p = .ok (t, r, p')) : token c (cs ++ 10 :: b) p = .ok (t, r ++ 10 :: b, p') := by
  unfold token at h ⊢
  rw [← List.cons_append, nameL_nl]
  split at h
  · rename_i hl
    rw [if_pos hl]
    split at h
    · cases h
    · rename_i hn
      rw [if_neg hn]
      injection h with h
      injection h with h1 h2
      subst h1
      simp [h2]
  · rename_i hl
    rw [if_neg hl]
    split at h
    · rename_i hq
      rw [if_pos hq]
      cases hlit : lit c (cs.length + 1) cs (adv c p) [] with
      | mk o p2 =>
      rw [hlit] at h
      cases o with
      | none => cases h
      | some tr =>
        obtain ⟨tx, rest⟩ := tr
        rw [lit_app (10 :: b) _ _ _ _ _ _ _ _ _ (by simp) hlit]
        simp only at h ⊢
        split at h
        · cases h
        · rename_i h1
          rw [if_neg h1]
          split at h
          · cases h
          · rename_i h2
            rw [if_neg h2]
            injection h with h
            injection h with h3 h4
            injection h4 with h4 h5
            subst h3
            subst h4
            subst h5
            rfl
    · rename_i hq
      rw [if_neg hq]
      split at h
      · rename_i hs
        rw [if_pos hs]
        injection h with h
        injection h with h3 h4
        injection h4 with h4 h5
        subst h3
        subst h4
        subst h5
        rfl
      · cases h
theorem scanF_join (b : List UInt8) (n : Nat) : ∀ (l : List UInt8) (p : Int × Int) (acc ts : List Tok), scanF n l p acc = .ok ts → ∃ (init : List Tok) (pe : Int × Int), ts = acc ++ init ++ [⟨4, [], pe⟩] ∧
    ∀ (m : Nat) (tsb : List Tok), scanF m b (pe.1 + 1, 1) (acc ++ init) = .ok tsb → scanF (n + m) (l ++ 10 :: b) p acc = .ok tsb := by
  induction n with
  | zero => intro l p acc ts h; simp [scanF] at h
  | succ n ih =>
    intro l p acc ts h
    unfold scanF at h
    cases hk : skip false l p with
    | mk l' p' =>
    rw [hk] at h
    have hsk := skip_app b l false p
    rw [hk] at hsk
    cases l' with
    | nil =>
      simp only at h
      injection h with h
      subst h
      refine ⟨[], p', by simp, fun m tsb hb => ?_⟩
      rw [if_pos rfl] at hsk
      rw [List.append_nil] at hb
      cases m with
      | zero => simp [scanF] at hb
      | succ m =>
        have hb2 := scanF_more _ _ _ _ _ (n + 1 + m + 1) (by omega) hb
        rw [show n + 1 + (m + 1) = n + 1 + m + 1 by omega]
        unfold scanF at hb2 ⊢
        rw [hsk]
        exact hb2
    | cons c cs =>
      rw [if_neg (by simp)] at hsk
      simp only [List.cons_append] at hsk
      simp only at h
      cases ht : token c cs p' with
      | error f => rw [ht] at h; cases h
      | ok tr =>
        obtain ⟨t, rest, p''⟩ := tr
        rw [ht] at h
        simp only at h
        obtain ⟨init, pe, h1, h2⟩ := ih _ _ _ _ h
        refine ⟨t :: init, pe, by simp [h1], fun m tsb hb => ?_⟩
        rw [show n + 1 + m = n + m + 1 by omega]
        unfold scanF
        rw [hsk]
        simp only [token_app b ht]
        exact h2 m tsb (by simpa using hb)
theorem scan_join {a b : List UInt8} {ta tb : List Tok} (ha : scan a = .ok ta) (hb : scan b = .ok tb) (hl : a.length + b.length ≤ 60000) :
    ∃ (init : List Tok) (pe : Int × Int), ta = init ++ [⟨4, [], pe⟩] ∧ scan (a ++ 10 :: b) = .ok (init ++ tb.map (shT pe.1)) := by
  unfold scan at ha hb ⊢
  rw [if_neg (by omega)] at ha hb
  rw [if_neg (by rw [List.length_append, List.length_cons]; omega)]
  obtain ⟨init, pe, h1, h2⟩ := scanF_join b _ _ _ _ _ ha
  obtain ⟨us, h3, h4⟩ := scanF_sh _ _ _ _ _ hb
  rw [List.nil_append] at h3
  subst h3
  refine ⟨init, pe, by simpa using h1, ?_⟩
  have h5 := h4 pe.1 ([] ++ init)
  have e : sh pe.1 (1, 1) = (pe.1 + 1, 1) := by unfold sh; simp only [Prod.mk.injEq, and_true]; omega
  rw [e] at h5
  have h6 := h2 _ _ h5
  rw [List.nil_append] at h6
  rw [show (a ++ 10 :: b).length + 1 = a.length + 1 + (b.length + 1) by simp; omega]
  exact h6

/-- Lines: a place is no less than an earlier one, and no more lines than bytes. -/
def Mv (l : List UInt8) (p : Int × Int) (l' : List UInt8) (p' : Int × Int) : Prop := p.1 ≤ p'.1 ∧ p'.1 + l'.length ≤ p.1 + l.length
theorem Mv.rfl {l : List UInt8} {p : Int × Int} : Mv l p l p := ⟨Int.le_refl _, Int.le_refl _⟩
theorem Mv.trans {l1 l2 l3 : List UInt8} {p1 p2 p3 : Int × Int} (h : Mv l1 p1 l2 p2) (g : Mv l2 p2 l3 p3) : Mv l1 p1 l3 p3 := ⟨Int.le_trans h.1 g.1, Int.le_trans g.2 h.2⟩
theorem Mv.adv (c : UInt8) (cs : List UInt8) (p : Int × Int) : Mv (c :: cs) p cs (Lx.adv c p) := by
  unfold Mv Lx.adv
  simp only [List.length_cons]
  push_cast
  split <;> constructor <;> simp <;> omega
theorem skip_mv (l : List UInt8) : ∀ (b : Bool) (p : Int × Int), Mv l p (skip b l p).1 (skip b l p).2 := by
  induction l with
  | nil => intro b p; cases b <;> exact Mv.rfl
  | cons c cs ih =>
    intro b p
    cases b with
    | true =>
      simp only [skip]
      split <;> exact (Mv.adv c cs p).trans (ih _ _)
    | false =>
      simp only [skip]
      split
      · exact (Mv.adv c cs p).trans (ih _ _)
      · split
        · exact (Mv.adv c cs p).trans (ih _ _)
        · exact Mv.rfl
theorem nameL_mv (l : List UInt8) : ∀ p : Int × Int, Mv l p (nameL l p).2.1 (nameL l p).2.2 := by
  induction l with
  | nil => intro p; exact Mv.rfl
  | cons c cs ih =>
    intro p
    simp only [nameL]
    split
    · exact (Mv.adv c cs p).trans (ih _)
    · exact Mv.rfl
theorem esc_mv {l : List UInt8} {p : Int × Int} {b : UInt8} {r : List UInt8} {p' : Int × Int} (h : esc l p = .ok b r p') : Mv l p r p' := by
  cases l with
  | nil => cases h
  | cons c cs =>
    simp only [esc] at h
    split at h
    · injection h with h1 h2 h3; subst h2; subst h3; exact Mv.adv c cs p
    · split at h
      · injection h with h1 h2 h3; subst h2; subst h3; exact Mv.adv c cs p
      · split at h
        · injection h with h1 h2 h3; subst h2; subst h3; exact Mv.adv c cs p
        · split at h
          · cases cs with
            | nil => cases h
            | cons d ds =>
              simp only [escX] at h
              cases hd : hexv d with
              | none => rw [hd] at h; cases h
              | some a =>
                rw [hd] at h
                simp only at h
                cases ds with
                | nil => cases h
                | cons e es =>
                  simp only at h
                  cases he : hexv e with
                  | none => rw [he] at h; cases h
                  | some g =>
                    rw [he] at h
                    simp only at h
                    injection h with h1 h2 h3; subst h2; subst h3
                    exact (Mv.adv c _ p).trans ((Mv.adv d _ _).trans (Mv.adv e _ _))
          · cases h
theorem lit_mv (q : UInt8) (n : Nat) : ∀ (l : List UInt8) (p : Int × Int) (out t r : List UInt8) (p' : Int × Int), lit q n l p out = (some (t, r), p') → Mv l p r p' := by
  induction n with
  | zero => intro l p out t r p' h; simp [lit] at h
  | succ n ih =>
    intro l p out t r p' h
    cases l with
    | nil => simp [lit] at h
    | cons c cs =>
      simp only [lit] at h
      split at h
      · injection h with h2 h3
        injection h2 with h2
        injection h2 with h4 h5
        subst h3; subst h5
        exact Mv.adv c cs p
      · split at h
        · cases he : esc cs (Lx.adv c p) with
          | bad r2 p2 => rw [he] at h; cases h
          | ok b r2 p2 =>
            rw [he] at h
            exact (Mv.adv c cs p).trans ((esc_mv he).trans (ih _ _ _ _ _ _ h))
        · split at h
          · cases h
          · exact (Mv.adv c cs p).trans (ih _ _ _ _ _ _ h)
theorem token_mv {c : UInt8} {cs : List UInt8} {p : Int × Int} {t : Tok} {r : List UInt8} {p' : Int × Int} (h : token c cs p = .ok (t, r, p')) : Mv (c :: cs) p r p' ∧ t.p = p := by
  unfold token at h
  split at h
  · split at h
    · cases h
    · injection h with h
      injection h with h1 h2
      subst h1
      have := nameL_mv (c :: cs) p
      rw [h2] at this
      exact ⟨this, _root_.rfl⟩
  · split at h
    · cases hlit : lit c (cs.length + 1) cs (Lx.adv c p) [] with
      | mk o p2 =>
      rw [hlit] at h
      cases o with
      | none => cases h
      | some tr =>
        obtain ⟨tx, rest⟩ := tr
        simp only at h
        split at h
        · cases h
        · split at h
          · cases h
          · injection h with h
            injection h with h3 h4
            injection h4 with h4 h5
            subst h3
            subst h4
            subst h5
            exact ⟨(Mv.adv c cs p).trans (lit_mv _ _ _ _ _ _ _ _ hlit), _root_.rfl⟩
    · split at h
      · injection h with h
        injection h with h3 h4
        injection h4 with h4 h5
        subst h3
        subst h4
        subst h5
        exact ⟨Mv.adv c cs p, _root_.rfl⟩
      · cases h
theorem scanF_lines (n : Nat) : ∀ (l : List UInt8) (p : Int × Int) (acc ts : List Tok), scanF n l p acc = .ok ts → ∃ us, ts = acc ++ us ∧ ∀ t ∈ us, p.1 ≤ t.p.1 ∧ t.p.1 ≤ p.1 + l.length := by
  induction n with
  | zero => intro l p acc ts h; simp [scanF] at h
  | succ n ih =>
    intro l p acc ts h
    unfold scanF at h
    have hm := skip_mv l false p
    cases hk : skip false l p with
    | mk l' p' =>
    rw [hk] at h hm
    obtain ⟨m1, m2⟩ := hm
    simp only at m1 m2
    cases l' with
    | nil =>
      simp only at h
      injection h with h
      subst h
      refine ⟨_, _root_.rfl, fun t ht => ?_⟩
      simp only [List.mem_singleton] at ht
      subst ht
      simp only [List.length_nil] at m2
      exact ⟨m1, by simp only; omega⟩
    | cons c cs =>
      simp only at h
      cases ht : token c cs p' with
      | error f => rw [ht] at h; cases h
      | ok tr =>
        obtain ⟨t, rest, p''⟩ := tr
        rw [ht] at h
        simp only at h
        obtain ⟨⟨k1, k2⟩, ktp⟩ := token_mv ht
        obtain ⟨us, h1, h2⟩ := ih _ _ _ _ h
        refine ⟨t :: us, by simp [h1], fun u hu => ?_⟩
        rcases List.mem_cons.1 hu with rfl | hu
        · rw [ktp]
          simp only [List.length_cons] at m2
          omega
        · obtain ⟨g1, g2⟩ := h2 u hu
          omega
theorem scan_lines {s : List UInt8} {ts : List Tok} (h : scan s = .ok ts) : ∀ t ∈ ts, 1 ≤ t.p.1 ∧ t.p.1 ≤ 1 + s.length := by
  unfold scan at h
  split at h
  · cases h
  · obtain ⟨us, h1, h2⟩ := scanF_lines _ _ _ _ _ h
    rw [List.nil_append] at h1
    subst h1
    exact h2
theorem scanF_count (n : Nat) : ∀ (l : List UInt8) (p : Int × Int) (acc ts : List Tok), scanF n l p acc = .ok ts → ts.length ≤ acc.length + n := by
  induction n with
  | zero => intro l p acc ts h; simp [scanF] at h
  | succ n ih =>
    intro l p acc ts h
    unfold scanF at h
    split at h
    · injection h with h; subst h; simp <;> omega
    · split at h
      · cases h
      · have := ih _ _ _ _ h
        simp at this
        omega
theorem scan_count {s : List UInt8} {ts : List Tok} (h : scan s = .ok ts) : ts.length ≤ s.length + 1 := by
  unfold scan at h
  split at h
  · cases h
  · have := scanF_count _ _ _ _ _ h
    simpa using this
end Go.Proofs.Ytohbjgckcbdegaa.Lx
