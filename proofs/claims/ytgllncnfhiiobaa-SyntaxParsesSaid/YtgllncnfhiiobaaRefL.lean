/- The reference's Scan reads what the plain scanner reads. -/
import Derived.Test.YtgllncnfhiiobaaPx12
import Derived.Test.YtgllncnfhiiobaaGoods
set_option linter.unusedVariables false
set_option linter.unusedSimpArgs false
namespace Go.Proofs.Ytgllncnfhiiobaa.Pure
open Go.RowKit Go.Proofs.Ytgllncnfhiiobaa.P Go.Proofs.YtgllncnfhiiobaaW.PrintWords Go.Proofs.YtgllncnfhiiobaaW.PrintLast Go.Proofs.Ytgllncnfhiiobaa

theorem fold_bound (l : List UInt8) : ∀ p : Int × Int, ∀ m : Int, 1 ≤ m → 1 ≤ p.1 → p.1 ≤ m → 1 ≤ p.2 → p.2 ≤ m →
    1 ≤ (l.foldl (fun p c => Lx.adv c p) p).1 ∧ (l.foldl (fun p c => Lx.adv c p) p).1 ≤ m + l.length ∧ 1 ≤ (l.foldl (fun p c => Lx.adv c p) p).2 ∧ (l.foldl (fun p c => Lx.adv c p) p).2 ≤ m + l.length := by
  induction l with
  | nil => intro p m h0 h1 h2 h3 h4; simp; omega
  | cons c cs ih =>
    intro p m h0 h1 h2 h3 h4
    have := ih (Lx.adv c p) (m + 1) (by omega) (by unfold Lx.adv; split <;> simp <;> omega) (by unfold Lx.adv; split <;> simp <;> omega) (by unfold Lx.adv; split <;> simp <;> omega) (by unfold Lx.adv; split <;> simp <;> omega)
    simp only [List.foldl_cons, List.length_cons]
    push_cast
    omega
theorem place_from {s : ByteArray} (hs : s.size ≤ 100000) {i : Nat} (hi : i ≤ s.size) (d : Nat) : ∀ j : Nat, j + d = i → ∀ p : Int × Int, (s.data.toList.take j).foldl (fun p c => Lx.adv c p) (1, 1) = p →
    Ev (fun k => primerref04_Place.l0 k s i p.1 p.2 j) ((s.data.toList.take i).foldl (fun p c => Lx.adv c p) (1, 1)) := by
  induction d with
  | zero =>
    intro j hj p hp
    have : j = i := by omega
    subst this
    refine Ev.succ ?_
    simp only [primerref04_Place.l0]
    rw [hp]
    exact Ev.neg (by omega) Ev.const
  | succ d ih =>
    intro j hj p hp
    have hb := fold_bound (s.data.toList.take j) (1, 1) 1 (by omega) (by simp) (by simp) (by simp) (by simp)
    rw [hp, List.length_take, length_data] at hb
    have hl : j < s.data.toList.length := by rw [length_data]; omega
    have hg : s.data.toList[j]? = some s.data.toList[j] := List.getElem?_eq_getElem hl
    generalize s.data.toList[j] = c at hg
    have hn : (s.data.toList.take (j + 1)).foldl (fun p c => Lx.adv c p) (1, 1) = Lx.adv c p := by
      rw [List.take_add_one, hg]
      simp [List.foldl_append, hp]
    have := ih (j + 1) (by omega) _ hn
    refine Ev.succ ?_
    simp only [primerref04_Place.l0]
    refine Ev.pos (by omega) (Ev.pos (by omega) (Ev.pos (by omega) ?_))
    rw [bt_get hg, wr_nat _ (by omega), wr_int (p.1 + 1) (by omega) (by omega), wr_int (p.2 + 1) (by omega) (by omega)]
    by_cases hc : c.toNat = 10
    · refine Ev.pos (by omega) ?_
      simpa [Lx.adv, hc] using this
    · refine Ev.neg (by omega) ?_
      simpa [Lx.adv, hc] using this
theorem Pos.place {s : ByteArray} {i : Nat} {l : List UInt8} {p : Int × Int} (h : Pos s i l p) (hs : s.size ≤ 100000) : Ev (fun k => primerref04_Place.f k s i) p := by
  have := place_from hs h.le i 0 (by omega) (1, 1) rfl
  rw [h.pl] at this
  exact this
theorem hex_one (c : UInt8) : primerref04_hex.f 1 (c.toNat : Int) = some (match Lx.hexv c with | some a => (a : Int) | none => -1) := by
  revert c
  exact all_bytes (by decide +kernel)
theorem hex_ref (c : UInt8) : Ev (fun k => primerref04_hex.f k (c.toNat : Int)) (match Lx.hexv c with | some a => (a : Int) | none => -1) := by
  refine Ev.succ ?_
  refine (Ev.fixed (hex_one c)).eq fun k => ?_
  unfold primerref04_hex.f
  simp only [primerref04_hex.j0]
theorem hexv_lt {c : UInt8} {a : Nat} (h : Lx.hexv c = some a) : a < 16 := by
  unfold Lx.hexv at h
  split at h
  · injection h with h; omega
  · split at h
    · injection h with h; omega
    · cases h

def nums (l : List UInt8) : List Int := l.map fun c => (c.toNat : Int)
theorem strOf_nums (l : List UInt8) : strOfNums (nums l) = ⟨⟨l⟩⟩ := by
  unfold strOfNums nums
  congr 2
  induction l with
  | nil => rfl
  | cons c cs ih => simpa using ih
theorem nums_snoc (l : List UInt8) (c : UInt8) : nums l ++ [(c.toNat : Int)] = nums (l ++ [c]) := by simp [nums]
/-- A literal's answer, in the reference's form. -/
def LitP (s : ByteArray) (r : Option (List UInt8 × List UInt8) × (Int × Int)) (v : ByteArray × Int × Bool) : Prop :=
  match r with
  | (some (t, rest), p') => ∃ i' : Nat, v = (⟨⟨t⟩⟩, (i' : Int), true) ∧ Pos s i' rest p'
  | (none, p') => ∃ (i' : Nat) (l' : List UInt8), v = (⟨#[]⟩, (i' : Int), false) ∧ Pos s i' l' p'

theorem lit_ref {s : ByteArray} (hs : s.size ≤ 100000) (q : UInt8) (n : Nat) : ∀ (l : List UInt8) (i : Nat) (p : Int × Int) (out : List UInt8), Pos s i l p → l.length < n → out.length ≤ i →
    ∃ v, LitP s (Lx.lit q n l p out) v ∧ Ev (fun k => primerref04_Literal.l0 k s q.toNat (nums out) i) v := by
  induction n with
  | zero => intro l i p out h hn; omega
  | succ n ih =>
    intro l i p out h hn ho
    have hi := h.le
    cases l with
    | nil =>
      have := h.nil
      refine ⟨(⟨#[]⟩, (i : Int), false), ⟨i, [], rfl, h⟩, ?_⟩
      refine Ev.succ ?_
      simp only [primerref04_Literal.l0]
      refine Ev.neg (by omega) (Ev.succ ?_)
      simp only [primerref04_Literal.j1]
      exact Ev.neg (by simp) (Ev.pos (by omega) Ev.const)
    | cons c cs =>
      have hlt := h.lt
      have hc := c.toNat_lt
      simp only [List.length_cons] at hn
      have hsz : (nums out).length < 140737488355328 := by simp [nums]; omega
      by_cases hq : c = q
      · subst hq
        refine ⟨(⟨⟨out⟩⟩, ((i + 1 : Nat) : Int), true), ?_, ?_⟩
        · simp only [Lx.lit, if_true]
          exact ⟨i + 1, rfl, h.next⟩
        · refine Ev.succ ?_
          simp only [primerref04_Literal.l0]
          refine Ev.pos (by omega) (Ev.pos (by omega) (Ev.succ ?_))
          simp only [primerref04_Literal.j1, h.bt]
          refine Ev.neg (by simp) (Ev.neg (by omega) ?_)
          rw [wr_nat _ (by omega), strOf_nums]
          exact Ev.const
      · have hq' : ¬ c.toNat = q.toNat := fun e => hq (UInt8.toNat_inj.1 e)
        have start : ∀ {v}, Ev (fun k => primerref04_Literal.j2 k s q.toNat (nums out) i c.toNat (decide ((c.toNat : Int) < 32) || decide ((c.toNat : Int) > 126))) v → Ev (fun k => primerref04_Literal.l0 k s q.toNat (nums out) i) v := by
          intro v hv
          refine Ev.succ ?_
          simp only [primerref04_Literal.l0]
          refine Ev.pos (by omega) (Ev.pos (by omega) (Ev.succ ?_))
          simp only [primerref04_Literal.j1, h.bt]
          refine Ev.pos (by simp; omega) (Ev.pos (by omega) (Ev.pos (by omega) ?_))
          by_cases h32 : (c.toNat : Int) < 32
          · refine Ev.pos h32 ?_
            simpa [h32] using hv
          · refine Ev.neg h32 ?_
            simpa [h32] using hv
        by_cases hb : c.toNat = 92
        · -- a backslash
          have e2 : ∀ {v}, Ev (fun k => if (wrap64 ((i : Int) + 1)) = (s.size : Int) then (some ((⟨#[]⟩ : ByteArray), wrap64 ((i : Int) + 1), false)) else (if 0 ≤ (wrap64 ((i : Int) + 1)) then (if (wrap64 ((i : Int) + 1)) < (s.size : Int) then (if (bt s (wrap64 ((i : Int) + 1))) = 92 then (primerref04_Literal.j3 k s q.toNat (nums out) (wrap64 ((i : Int) + 1)) (bt s (wrap64 ((i : Int) + 1))) (bt s (wrap64 ((i : Int) + 1))) ((bt s (wrap64 ((i : Int) + 1))) == 92)) else (if (bt s (wrap64 ((i : Int) + 1))) = 39 then (primerref04_Literal.j3 k s q.toNat (nums out) (wrap64 ((i : Int) + 1)) (bt s (wrap64 ((i : Int) + 1))) (bt s (wrap64 ((i : Int) + 1))) ((bt s (wrap64 ((i : Int) + 1))) == 39)) else (primerref04_Literal.j3 k s q.toNat (nums out) (wrap64 ((i : Int) + 1)) (bt s (wrap64 ((i : Int) + 1))) (bt s (wrap64 ((i : Int) + 1))) ((bt s (wrap64 ((i : Int) + 1))) == 34)))) else (none)) else (none))) v → Ev (fun k => primerref04_Literal.l0 k s q.toNat (nums out) i) v := by
            intro v hv
            refine start (Ev.succ ?_)
            simp only [primerref04_Literal.j2]
            exact Ev.neg (by simp; omega) (Ev.pos (by omega) hv)
          have hnx := h.next
          rw [wr_nat _ (by omega)] at e2
          simp only [Lx.lit, if_neg hq, if_pos hb]
          generalize Lx.adv c p = p1 at hnx ⊢
          cases cs with
          | nil =>
            have := hnx.nil
            exact ⟨(⟨#[]⟩, ((i + 1 : Nat) : Int), false), ⟨i + 1, [], rfl, hnx⟩, e2 (Ev.pos (by omega) Ev.const)⟩
          | cons d ds =>
            simp only [List.length_cons] at hn
            have hlt2 := hnx.lt
            have hd := d.toNat_lt
            have e3 : ∀ {v}, Ev (fun k => primerref04_Literal.j3 k s q.toNat (nums out) ((i + 1 : Nat) : Int) d.toNat d.toNat (decide (d.toNat = 92 ∨ d.toNat = 39 ∨ d.toNat = 34))) v → Ev (fun k => primerref04_Literal.l0 k s q.toNat (nums out) i) v := by
              intro v hv
              refine e2 (Ev.neg (by omega) (Ev.pos (by omega) (Ev.pos (by omega) ?_)))
              rw [hnx.bt]
              by_cases h1 : d.toNat = 92
              · refine Ev.pos (by omega) ?_
                simpa [h1] using hv
              · refine Ev.neg (by omega) ?_
                by_cases h2 : d.toNat = 39
                · refine Ev.pos (by omega) ?_
                  simpa [h1, h2] using hv
                · refine Ev.neg (by omega) ?_
                  by_cases h3 : d.toNat = 34
                  · simpa [h1, h2, h3] using hv
                  · have : ((d.toNat : Int) == 34) = false := by simp; omega
                    rw [this]
                    simpa [h1, h2, h3] using hv
            have hnx2 := hnx.next
            by_cases h1 : d.toNat = 92 ∨ d.toNat = 39 ∨ d.toNat = 34
            · obtain ⟨v, hv, hE⟩ := ih ds (i + 1 + 1) (Lx.adv d p1) (out ++ [d]) hnx2 (by omega) (by simp; omega)
              refine ⟨v, by simp only [Lx.esc, if_pos h1]; exact hv, e3 (Ev.succ ?_)⟩
              simp only [primerref04_Literal.j3]
              refine Ev.pos (by simpa using h1) (Ev.pos hsz ?_)
              rw [nums_snoc, wr_nat _ (by omega)]
              exact hE
            · have nf : ¬ (decide (d.toNat = 92 ∨ d.toNat = 39 ∨ d.toNat = 34)) = true := by simpa using h1
              by_cases h2 : d.toNat = 110
              · obtain ⟨v, hv, hE⟩ := ih ds (i + 1 + 1) (Lx.adv d p1) (out ++ [10]) hnx2 (by omega) (by simp; omega)
                refine ⟨v, by simp only [Lx.esc, if_neg h1, if_pos h2]; exact hv, e3 (Ev.succ ?_)⟩
                simp only [primerref04_Literal.j3]
                refine Ev.neg nf (Ev.pos (by omega) (Ev.pos hsz ?_))
                have := nums_snoc out 10
                rw [show (((10 : UInt8).toNat : Nat) : Int) = 10 from rfl] at this
                rw [this, wr_nat _ (by omega)]
                exact hE
              · by_cases h3 : d.toNat = 116
                · obtain ⟨v, hv, hE⟩ := ih ds (i + 1 + 1) (Lx.adv d p1) (out ++ [9]) hnx2 (by omega) (by simp; omega)
                  refine ⟨v, by simp only [Lx.esc, if_neg h1, if_neg h2, if_pos h3]; exact hv, e3 (Ev.succ ?_)⟩
                  simp only [primerref04_Literal.j3]
                  refine Ev.neg nf (Ev.neg (by omega) (Ev.pos (by omega) (Ev.pos hsz ?_)))
                  have := nums_snoc out 9
                  rw [show (((9 : UInt8).toNat : Nat) : Int) = 9 from rfl] at this
                  rw [this, wr_nat _ (by omega)]
                  exact hE
                · by_cases h4 : d.toNat = 120
                  · have e4 : ∀ {v}, Ev (fun k => primerref04_Literal.l1 k s q.toNat (nums out) ((i + 1 : Nat) : Int) 0 0) v → Ev (fun k => primerref04_Literal.l0 k s q.toNat (nums out) i) v := by
                      intro v hv
                      refine e3 (Ev.succ ?_)
                      simp only [primerref04_Literal.j3]
                      exact Ev.neg nf (Ev.neg (by omega) (Ev.neg (by omega) (Ev.pos (by omega) hv)))
                    simp only [Lx.esc, if_neg h1, if_neg h2, if_neg h3, if_pos h4]
                    generalize Lx.adv d p1 = p2 at hnx2 ⊢
                    cases ds with
                    | nil =>
                      have := hnx2.nil
                      refine ⟨(⟨#[]⟩, ((i + 1 + 1 : Nat) : Int), false), ⟨i + 1 + 1, [], rfl, hnx2⟩, e4 (Ev.succ ?_)⟩
                      simp only [primerref04_Literal.l1]
                      rw [wr_nat _ (by omega)]
                      exact Ev.pos (by omega) (Ev.pos (by omega) Ev.const)
                    | cons x xs =>
                      simp only [List.length_cons] at hn
                      have hlt3 := hnx2.lt
                      have hx := hex_ref x
                      cases hv : Lx.hexv x with
                      | none =>
                        rw [hv] at hx; simp only at hx
                        simp only [Lx.escX, hv]
                        refine ⟨(⟨#[]⟩, ((i + 1 + 1 : Nat) : Int), false), ⟨i + 1 + 1, _, rfl, hnx2⟩, e4 (Ev.succ ?_)⟩
                        simp only [primerref04_Literal.l1]
                        rw [wr_nat _ (by omega), hnx2.bt]
                        refine Ev.pos (by omega) (Ev.neg (by omega) (Ev.pos (by omega) (Ev.pos (by omega) (Ev.bind hx ?_))))
                        exact Ev.pos (by omega) Ev.const
                      | some a =>
                        rw [hv] at hx; simp only at hx
                        have ha := hexv_lt hv
                        have e5 : ∀ {v}, Ev (fun k => primerref04_Literal.l1 k s q.toNat (nums out) ((i + 1 + 1 : Nat) : Int) a 1) v → Ev (fun k => primerref04_Literal.l0 k s q.toNat (nums out) i) v := by
                          intro v hv
                          refine e4 (Ev.succ ?_)
                          simp only [primerref04_Literal.l1]
                          rw [wr_nat _ (by omega), hnx2.bt]
                          refine Ev.pos (by omega) (Ev.neg (by omega) (Ev.pos (by omega) (Ev.pos (by omega) (Ev.bind hx ?_))))
                          refine Ev.neg (by omega) (Ev.bind hx ?_)
                          rw [show wrap64 (wrap64 (16 * 0) + (a : Int)) = (a : Int) by rw [show wrap64 (16 * 0) = 0 from wr_int 0 (by omega) (by omega), wr_int _ (by omega) (by omega)]; omega, show wrap64 ((0 : Int) + 1) = 1 from wr_int 1 (by omega) (by omega)]
                          exact hv
                        have hnx3 := hnx2.next
                        simp only [Lx.escX, hv]
                        generalize Lx.adv x p2 = p3 at hnx3 ⊢
                        cases xs with
                        | nil =>
                          have := hnx3.nil
                          refine ⟨(⟨#[]⟩, ((i + 1 + 1 + 1 : Nat) : Int), false), ⟨i + 1 + 1 + 1, [], rfl, hnx3⟩, e5 (Ev.succ ?_)⟩
                          simp only [primerref04_Literal.l1]
                          rw [wr_nat _ (by omega)]
                          exact Ev.pos (by omega) (Ev.pos (by omega) Ev.const)
                        | cons y ys =>
                          simp only [List.length_cons] at hn
                          have hlt4 := hnx3.lt
                          have hy := hex_ref y
                          cases hv2 : Lx.hexv y with
                          | none =>
                            rw [hv2] at hy; simp only at hy
                            simp only [hv2]
                            refine ⟨(⟨#[]⟩, ((i + 1 + 1 + 1 : Nat) : Int), false), ⟨i + 1 + 1 + 1, _, rfl, hnx3⟩, e5 (Ev.succ ?_)⟩
                            simp only [primerref04_Literal.l1]
                            rw [wr_nat _ (by omega), hnx3.bt]
                            refine Ev.pos (by omega) (Ev.neg (by omega) (Ev.pos (by omega) (Ev.pos (by omega) (Ev.bind hy ?_))))
                            exact Ev.pos (by omega) Ev.const
                          | some b =>
                            rw [hv2] at hy; simp only at hy
                            have hb := hexv_lt hv2
                            simp only [hv2]
                            obtain ⟨v, hv, hE⟩ := ih ys (i + 1 + 1 + 1 + 1) (Lx.adv y p3) (out ++ [UInt8.ofNat (16 * a + b)]) hnx3.next (by omega) (by simp; omega)
                            refine ⟨v, hv, e5 (Ev.succ ?_)⟩
                            simp only [primerref04_Literal.l1]
                            rw [wr_nat _ (by omega), hnx3.bt]
                            refine Ev.pos (by omega) (Ev.neg (by omega) (Ev.pos (by omega) (Ev.pos (by omega) (Ev.bind hy ?_))))
                            refine Ev.neg (by omega) (Ev.bind hy (Ev.succ ?_))
                            rw [show wrap64 (wrap64 (16 * (a : Int)) + (b : Int)) = 16 * (a : Int) + b by rw [wr_int (16 * (a : Int)) (by omega) (by omega), wr_int _ (by omega) (by omega)], show wrap64 ((1 : Int) + 1) = 2 from wr_int 2 (by omega) (by omega)]
                            simp only [primerref04_Literal.l1]
                            refine Ev.neg (by omega) (Ev.pos hsz ?_)
                            have := nums_snoc out (UInt8.ofNat (16 * a + b))
                            rw [show (((UInt8.ofNat (16 * a + b)).toNat : Nat) : Int) = (16 * (a : Int) + b) % 256 by simp] at this
                            rw [this, wr_nat _ (by omega)]
                            exact hE
                  · refine ⟨(⟨#[]⟩, ((i + 1 : Nat) : Int), false), ?_, e3 (Ev.succ ?_)⟩
                    · simp only [Lx.esc, if_neg h1, if_neg h2, if_neg h3, if_neg h4]
                      exact ⟨i + 1, _, rfl, hnx⟩
                    · simp only [primerref04_Literal.j3]
                      exact Ev.neg nf (Ev.neg (by omega) (Ev.neg (by omega) (Ev.neg (by omega) Ev.const)))
        · by_cases hr : c.toNat < 32 ∨ 126 < c.toNat
          · refine ⟨(⟨#[]⟩, (i : Int), false), ?_, start (Ev.succ ?_)⟩
            · simp only [Lx.lit, if_neg hq, if_neg hb, if_pos hr]
              exact ⟨i, _, rfl, h⟩
            · simp only [primerref04_Literal.j2]
              exact Ev.pos (by simp; omega) Ev.const
          · obtain ⟨v, hv, hE⟩ := ih cs (i + 1) (Lx.adv c p) (out ++ [c]) h.next (by omega) (by simp; omega)
            refine ⟨v, ?_, start (Ev.succ ?_)⟩
            · simp only [Lx.lit, if_neg hq, if_neg hb, if_neg hr]
              exact hv
            · simp only [primerref04_Literal.j2]
              refine Ev.neg (by simp; omega) (Ev.neg (by omega) (Ev.pos hsz ?_))
              rw [nums_snoc, wr_nat _ (by omega)]
              exact hE

def toR (t : Lx.Tok) : S102 := ⟨t.kind, ⟨t.text.toArray⟩, t.p.1, t.p.2⟩
def ansR (r : Except Lx.Flt (List Lx.Tok)) : List S102 × Int × Int × Int :=
  match r with | .error f => ([], f.p.1, f.p.2, f.code) | .ok ts => (ts.map toR, 0, 0, 0)

theorem nameL_app (l : List UInt8) : ∀ p : Int × Int, (Lx.nameL l p).1 ++ (Lx.nameL l p).2.1 = l := by
  induction l with
  | nil => intro p; rfl
  | cons c cs ih =>
    intro p
    unfold Lx.nameL
    split
    · simp [ih]
    · rfl
theorem Pos.name {s : ByteArray} (l : List UInt8) : ∀ (i : Nat) (p : Int × Int), Pos s i l p → Pos s (i + (Lx.nameL l p).1.length) (Lx.nameL l p).2.1 (Lx.nameL l p).2.2 := by
  induction l with
  | nil => intro i p h; simpa [Lx.nameL] using h
  | cons c cs ih =>
    intro i p h
    unfold Lx.nameL
    split
    · have := ih (i + 1) _ h.next
      simp only [List.length_cons]
      rw [show i + ((Lx.nameL cs (Lx.adv c p)).1.length + 1) = i + 1 + (Lx.nameL cs (Lx.adv c p)).1.length by omega]
      exact this
    · simpa using h

abbrev endName (s : ByteArray) (acc : List S102) (j from_ : Int) (x y : Int) (k : Nat) : Option (List S102 × Int × Int × Int) :=
  if wrap64 (j - from_) > 32 then some ([], x, y, 6) else
    (if 0 ≤ from_ then (if from_ ≤ j then (if j ≤ (s.size : Int) then (if acc.length < 3518437208883 then (primerref04_Scan.l0 k s (acc ++ [(⟨1, s.extract (from_ : Int).toNat (j : Int).toNat, x, y⟩ : S102)]) j) else none) else none) else none) else none)

theorem name_ref {s : ByteArray} (hs : s.size ≤ 65536) (acc : List S102) (x y : Int) (from_ : Int) {r : List S102 × Int × Int × Int} (l : List UInt8) : ∀ (j : Nat) (p : Int × Int), Pos s j l p →
    Ev (endName s acc ((j + (Lx.nameL l p).1.length : Nat) : Int) from_ x y) r → Ev (fun k => primerref04_Scan.l2 k s acc j x y from_) r := by
  induction l with
  | nil =>
    intro j p h H
    have := h.nil
    refine Ev.succ ?_
    simp only [primerref04_Scan.l2]
    refine Ev.neg (by omega) ?_
    simp only [Lx.nameL, List.length_nil, Nat.add_zero] at H
    exact H
  | cons c cs ih =>
    intro j p h H
    have hlt := h.lt
    refine Ev.succ ?_
    simp only [primerref04_Scan.l2]
    rw [h.bt, rest_ref]
    simp only [Option.bind_some]
    refine Ev.pos (by omega) (Ev.pos (by omega) ?_)
    unfold Lx.nameL at H
    by_cases hc : Lx.inName c = true
    · refine Ev.pos hc ?_
      rw [wr_nat _ (by omega)]
      refine ih (j + 1) _ h.next ?_
      rw [if_pos hc] at H
      simp only [List.length_cons] at H
      rw [show j + ((Lx.nameL cs (Lx.adv c p)).1.length + 1) = j + 1 + (Lx.nameL cs (Lx.adv c p)).1.length by omega] at H
      exact H
    · refine Ev.neg hc ?_
      rw [if_neg hc] at H
      exact H

theorem sign_ref {s : ByteArray} (acc : List S102) (i : Int) (c : UInt8) (x y : Int) {r : List S102 × Int × Int × Int}
    (H : Ev (fun k => (if Lx.isSign c = true then (if 0 ≤ i then (if i ≤ (wrap64 (i + 1)) then (if (wrap64 (i + 1)) ≤ (s.size : Int) then (if acc.length < 3518437208883 then (primerref04_Scan.l0 k s (acc ++ [(⟨3, s.extract (i : Int).toNat ((wrap64 (i + 1)) : Int).toNat, x, y⟩ : S102)]) (wrap64 (i + 1))) else (none)) else (none)) else (none)) else (none)) else (some (([] : List S102), x, y, 2)))) r) :
    Ev (fun k => primerref04_Scan.l3 k s acc i c.toNat x y false (⟨#[58, 124, 59, 40, 41, 91, 93, 123, 125, 42, 43, 63, 37]⟩ : ByteArray) 0) r := by
  have go : ∀ d j : Nat, j + d = 13 → ∀ b : Bool, (b || decide (c ∈ ([58, 124, 59, 40, 41, 91, 93, 123, 125, 42, 43, 63, 37] : List UInt8).drop j)) = Lx.isSign c →
      Ev (fun k => primerref04_Scan.l3 k s acc i c.toNat x y b (⟨#[58, 124, 59, 40, 41, 91, 93, 123, 125, 42, 43, 63, 37]⟩ : ByteArray) j) r := by
    intro d
    induction d with
    | zero =>
      intro j hj b hb
      have : j = 13 := by omega
      subst this
      refine Ev.succ ?_
      simp only [primerref04_Scan.l3]
      refine Ev.neg (by decide) ?_
      have e : b = Lx.isSign c := by rw [← hb]; simp
      rw [e]
      exact H
    | succ d ih =>
      intro j hj b hb
      refine Ev.succ ?_
      simp only [primerref04_Scan.l3]
      have hj13 : j < 13 := by omega
      have hsz : (⟨#[58, 124, 59, 40, 41, 91, 93, 123, 125, 42, 43, 63, 37]⟩ : ByteArray).size = 13 := rfl
      rw [hsz]
      refine Ev.pos (by omega) ?_
      rw [wr_nat _ (by omega)]
      obtain ⟨z, hz⟩ : ∃ z, ([58, 124, 59, 40, 41, 91, 93, 123, 125, 42, 43, 63, 37] : List UInt8)[j]? = some z := by
        rw [List.getElem?_eq_getElem (by simpa using hj13)]
        exact ⟨_, rfl⟩
      have hdrop : ([58, 124, 59, 40, 41, 91, 93, 123, 125, 42, 43, 63, 37] : List UInt8).drop j = z :: ([58, 124, 59, 40, 41, 91, 93, 123, 125, 42, 43, 63, 37] : List UInt8).drop (j + 1) := by
        rw [List.drop_eq_getElem?_toList_append, hz]
        rfl
      have hbt : bt (⟨#[58, 124, 59, 40, 41, 91, 93, 123, 125, 42, 43, 63, 37]⟩ : ByteArray) j = (z.toNat : Int) := bt_get hz
      rw [hbt]
      rw [hdrop] at hb
      by_cases hb1 : b = true
      · refine Ev.pos hb1 (ih (j + 1) (by omega) true ?_)
        rw [← hb, hb1]
        simp
      · refine Ev.neg hb1 (Ev.pos (by omega) (ih (j + 1) (by omega) _ ?_))
        have hb0 : b = false := by simpa using hb1
        rw [← hb, hb0]
        have : ((z.toNat : Int) == (c.toNat : Int)) = decide (c = z) := by
          rw [Bool.eq_iff_iff]
          simp only [beq_iff_eq, decide_eq_true_eq]
          constructor
          · intro e; exact UInt8.toNat_inj.1 (by omega)
          · intro e; subst e; rfl
        rw [this]
        simp
  exact go 13 0 (by omega) false (by simp [Lx.isSign])

theorem skip_ref {s : ByteArray} (hs : s.size ≤ 65536) (acc : List S102) {r : List S102 × Int × Int × Int} (l : List UInt8) : ∀ (i : Nat) (p : Int × Int), Pos s i l p →
    (∀ i', Pos s i' (Lx.skip false l p).1 (Lx.skip false l p).2 → i ≤ i' → Ev (fun k => primerref04_Scan.l0 k s acc i') r) → Ev (fun k => primerref04_Scan.l0 k s acc i) r := by
  have both : ∀ (l : List UInt8) (i : Nat) (p : Int × Int), Pos s i l p →
      ((∀ i', Pos s i' (Lx.skip false l p).1 (Lx.skip false l p).2 → i ≤ i' → Ev (fun k => primerref04_Scan.l0 k s acc i') r) → Ev (fun k => primerref04_Scan.l0 k s acc i) r) ∧
      ((∀ i', Pos s i' (Lx.skip true l p).1 (Lx.skip true l p).2 → i ≤ i' → Ev (fun k => primerref04_Scan.l0 k s acc i') r) → Ev (fun k => primerref04_Scan.l1 k s acc i) r) := by
    intro l
    induction l with
    | nil =>
      intro i p h
      have hn := h.nil
      refine ⟨fun H => H i (by simpa [Lx.skip] using h) (Nat.le_refl _), fun H => ?_⟩
      refine Ev.succ ?_
      simp only [primerref04_Scan.l1]
      exact Ev.neg (by omega) (H i (by simpa [Lx.skip] using h) (Nat.le_refl _))
    | cons c cs ih =>
      intro i p h
      have hlt := h.lt
      obtain ⟨ih1, ih2⟩ := ih (i + 1) _ h.next
      have main : (∀ i', Pos s i' (Lx.skip false (c :: cs) p).1 (Lx.skip false (c :: cs) p).2 → i ≤ i' → Ev (fun k => primerref04_Scan.l0 k s acc i') r) → Ev (fun k => primerref04_Scan.l0 k s acc i) r := by
        intro H
        by_cases h35 : c.toNat = 35
        · simp only [Lx.skip, if_pos h35] at H
          refine Ev.succ ?_
          simp only [primerref04_Scan.l0]
          refine Ev.pos (by omega) (Ev.pos (by omega) (Ev.bind (h.place (by omega)) ?_))
          rw [h.bt]
          refine Ev.neg (by omega) (Ev.neg (by omega) (Ev.neg (by omega) (Ev.succ ?_)))
          simp only [primerref04_Scan.j1]
          refine Ev.neg (by simp; omega) (Ev.pos (by omega) (Ev.succ ?_))
          simp only [primerref04_Scan.l1]
          refine Ev.pos (by omega) (Ev.pos (by omega) ?_)
          rw [h.bt, wr_nat _ (by omega)]
          exact Ev.neg (by omega) (ih2 fun i' hp hi => H i' hp (by omega))
        · by_cases hb : Lx.blank c = true
          · simp only [Lx.skip, if_neg h35, if_pos hb] at H
            have tail : Ev (fun k => primerref04_Scan.l0 k s acc ((i + 1 : Nat) : Int)) r := ih1 fun i' hp hi => H i' hp (by omega)
            refine Ev.succ ?_
            simp only [primerref04_Scan.l0]
            refine Ev.pos (by omega) (Ev.pos (by omega) (Ev.bind (h.place (by omega)) ?_))
            rw [h.bt]
            have e1 : ∀ b : Bool, b = true → Ev (fun k => primerref04_Scan.j1 k s acc i c.toNat p.1 p.2 b) r := by
              intro b hb
              refine Ev.succ ?_
              simp only [primerref04_Scan.j1]
              refine Ev.pos hb ?_
              rw [wr_nat _ (by omega)]
              exact tail
            by_cases b1 : (c.toNat : Int) = 32
            · exact Ev.pos b1 (e1 _ rfl)
            · refine Ev.neg b1 ?_
              by_cases b2 : (c.toNat : Int) = 9
              · exact Ev.pos b2 (e1 _ rfl)
              · refine Ev.neg b2 ?_
                by_cases b3 : (c.toNat : Int) = 10
                · exact Ev.pos b3 (e1 _ rfl)
                · refine Ev.neg b3 (e1 _ ?_)
                  simp only [Lx.blank, Bool.or_eq_true, beq_iff_eq] at hb
                  simp
                  omega
          · exact H i (by simp only [Lx.skip, if_neg h35, if_neg hb]; exact h) (Nat.le_refl _)
      refine ⟨main, fun H => ?_⟩
      by_cases h10 : c.toNat = 10
      · refine Ev.succ ?_
        simp only [primerref04_Scan.l1]
        refine Ev.pos (by omega) (Ev.pos (by omega) ?_)
        rw [h.bt]
        refine Ev.pos (by omega) (main fun i' hp hi => H i' ?_ hi)
        have hb : Lx.blank c = true := by simp [Lx.blank, h10]
        simp only [Lx.skip, if_pos h10]
        simpa only [Lx.skip, if_neg (show ¬ c.toNat = 35 by omega), if_pos hb] using hp
      · refine Ev.succ ?_
        simp only [primerref04_Scan.l1]
        refine Ev.pos (by omega) (Ev.pos (by omega) ?_)
        rw [h.bt, wr_nat _ (by omega)]
        refine Ev.neg (by omega) (ih2 fun i' hp hi => H i' ?_ (by omega))
        simp only [Lx.skip, if_neg h10]
        exact hp
  intro i p h
  exact (both l i p h).1

theorem skip_head (b : Bool) (l : List UInt8) : ∀ (p : Int × Int) (c : UInt8) (cs : List UInt8) (p' : Int × Int), Lx.skip b l p = (c :: cs, p') → c.toNat ≠ 35 ∧ Lx.blank c = false ∧ (c :: cs).length ≤ l.length := by
  induction l generalizing b with
  | nil => intro p c cs p' h; simp [Lx.skip] at h
  | cons d ds ih =>
    intro p c cs p' h
    have wk : ∀ {b p1}, Lx.skip b ds p1 = (c :: cs, p') → c.toNat ≠ 35 ∧ Lx.blank c = false ∧ (c :: cs).length ≤ (d :: ds).length := by
      intro b p1 h
      obtain ⟨h1, h2, h3⟩ := ih b _ _ _ _ h
      exact ⟨h1, h2, by simp at h3 ⊢; omega⟩
    cases b with
    | true =>
      unfold Lx.skip at h
      split at h
      · exact wk h
      · exact wk h
    | false =>
      unfold Lx.skip at h
      split at h
      · exact wk h
      · split at h
        · exact wk h
        · rename_i h35 hb
          injection h with h1 h2
          injection h1 with h1 h3
          subst h1
          subst h3
          exact ⟨h35, by simpa using hb, Nat.le_refl _⟩

theorem scanF_ref {s : ByteArray} (hs : s.size ≤ 65536) (n : Nat) : ∀ (l : List UInt8) (i : Nat) (p : Int × Int) (acc : List Lx.Tok), Pos s i l p → l.length < n → acc.length ≤ i →
    Ev (fun k => primerref04_Scan.l0 k s (acc.map toR) i) (ansR (Lx.scanF n l p acc)) := by
  induction n with
  | zero => intro l i p acc h hn; omega
  | succ n ih =>
    intro l i p acc h hn ha
    refine skip_ref hs _ l i p h fun i' h' hi => ?_
    unfold Lx.scanF
    cases hk : Lx.skip false l p with
    | mk l' p' =>
    rw [hk] at h'
    simp only at h' ⊢
    have hle := h'.le
    have hac : ¬ ¬ (acc.map toR).length < 3518437208883 := by simp; omega
    have hac : (acc.map toR).length < 3518437208883 := Classical.not_not.1 hac
    cases l' with
    | nil =>
      have hn := h'.nil
      refine Ev.succ ?_
      simp only [primerref04_Scan.l0]
      refine Ev.neg (by omega) ?_
      rw [← hn]
      refine Ev.bind (h'.place (by omega)) (Ev.pos hac ?_)
      refine Ev.fixed ?_
      simp [ansR, toR]
    | cons c cs =>
      obtain ⟨h35, hb, hcs⟩ := skip_head _ _ _ _ _ _ hk
      have hlt := h'.lt
      have hac2 : ∀ t, (acc.map toR) ++ [toR t] = (acc ++ [t]).map toR := by simp
      simp only [List.length_cons] at hcs
      simp only [Lx.blank, Bool.or_eq_false_iff, beq_eq_false_iff_ne, ne_eq] at hb
      refine Ev.succ ?_
      simp only [primerref04_Scan.l0]
      refine Ev.pos (by omega) (Ev.pos (by omega) (Ev.bind (h'.place (by omega)) ?_))
      rw [h'.bt]
      refine Ev.neg (by omega) (Ev.neg (by omega) (Ev.neg (by omega) (Ev.succ ?_)))
      simp only [primerref04_Scan.j1]
      refine Ev.neg (by simp; omega) (Ev.neg (by omega) ?_)
      rw [letter_ref]
      simp only [Option.bind_some]
      unfold Lx.token
      by_cases hl : Lx.letter c = true
      · refine Ev.pos hl (name_ref hs _ _ _ _ (c :: cs) i' p' h' ?_)
        rw [if_pos hl]
        have hp := h'.name
        have happ := nameL_app (c :: cs) p'
        have hlen := congrArg List.length happ
        have hlt2 := Lx.nameL_len_lt (p := p') (cs := cs) (Lx.letter_inName hl)
        have hext : s.extract i' (i' + (Lx.nameL (c :: cs) p').1.length) = ⟨⟨(Lx.nameL (c :: cs) p').1⟩⟩ := by
          have h2 := h'
          rw [← happ] at h2
          exact h2.jump
        simp only [List.length_append, List.length_cons] at hlen
        have hple := hp.le
        refine Ev.eq (g := fun k => endName _ _ _ _ _ _ k) ?_ (fun _ => rfl)
        simp only [endName]
        rw [show wrap64 (((i' + (Lx.nameL (c :: cs) p').1.length : Nat) : Int) - (i' : Int)) = ((Lx.nameL (c :: cs) p').1.length : Int) by rw [wr_int _ (by omega) (by omega)]; omega]
        by_cases hlong : (Lx.nameL (c :: cs) p').1.length > 32
        · rw [if_pos hlong]
          exact Ev.pos (by omega) Ev.const
        · rw [if_neg hlong]
          refine Ev.neg (by omega) (Ev.pos (by omega) (Ev.pos (by omega) (Ev.pos (by omega) (Ev.pos hac ?_))))
          simp only [Int.toNat_natCast]
          rw [hext]
          have := hac2 ⟨1, (Lx.nameL (c :: cs) p').1, p'⟩
          simp only [toR] at this
          rw [this]
          exact ih _ _ _ _ hp (Nat.lt_of_le_of_lt hlt2 (by omega)) (by simp; omega)
      · refine Ev.neg hl ?_
        rw [if_neg hl]
        by_cases hq : c.toNat = 39 ∨ c.toNat = 34
        · rw [if_pos hq]
          have e1 : ∀ {v}, Ev (fun k => (primerref04_Literal.f k s i').bind fun bt148 => (if bt148.2.2 = true then (if bt148.1.toList = ([] : List UInt8) then (some (([] : List S102), p'.1, p'.2, 2)) else (if (bt148.1.size : Int) > 16 then (some (([] : List S102), p'.1, p'.2, 6)) else (if (acc.map toR).length < 3518437208883 then (primerref04_Scan.l0 k s (acc.map toR ++ [(⟨2, bt148.1, p'.1, p'.2⟩ : S102)]) bt148.2.1) else (none)))) else ((primerref04_fault.f k s bt148.2.1 2).bind fun bt151 => (some (([] : List S102), bt151.1, bt151.2.1, bt151.2.2))))) v → Ev (fun k => if (c.toNat : Int) = 39 then primerref04_Scan.j4 k s (acc.map toR) i' c.toNat p'.1 p'.2 true else primerref04_Scan.j4 k s (acc.map toR) i' c.toNat p'.1 p'.2 ((c.toNat : Int) == 34)) v := by
            intro v hv
            have e2 : ∀ b : Bool, b = true → Ev (fun k => primerref04_Scan.j4 k s (acc.map toR) i' c.toNat p'.1 p'.2 b) v := by
              intro b hb
              refine Ev.succ ?_
              simp only [primerref04_Scan.j4]
              exact Ev.pos hb hv
            by_cases h1 : (c.toNat : Int) = 39
            · exact Ev.pos h1 (e2 _ rfl)
            · exact Ev.neg h1 (e2 _ (by simp; omega))
          refine e1 ?_
          obtain ⟨v, hv, hE⟩ := lit_ref (s := s) (by omega) c (cs.length + 1) cs (i' + 1) (Lx.adv c p') [] h'.next (by omega) (by simp)
          have hL : Ev (fun k => primerref04_Literal.f k s i') v := by
            unfold primerref04_Literal.f
            refine Ev.pos (by omega) (Ev.pos (by omega) ?_)
            rw [h'.bt, wr_nat _ (by omega)]
            exact hE
          refine Ev.bind hL ?_
          cases hlit : Lx.lit c (cs.length + 1) cs (Lx.adv c p') [] with
          | mk o p2 =>
          rw [hlit] at hv
          cases o with
          | none =>
            obtain ⟨i2, l2, rfl, hp2⟩ := hv
            refine Ev.neg (by simp) ?_
            unfold primerref04_fault.f
            refine Ev.bind (Ev.bind (hp2.place (by omega)) Ev.const) ?_
            exact Ev.const
          | some tr =>
            obtain ⟨t, rest⟩ := tr
            obtain ⟨i2, rfl, hp2⟩ := hv
            have hrl := Lx.lit_len hlit
            refine Ev.pos rfl ?_
            have hi2 := hp2.len
            have hi1 := h'.len
            simp only [List.length_cons] at hi1
            simp only []
            have hlist : ByteArray.toList ⟨⟨t⟩⟩ = t := by rw [ByteArray.toList_eq]
            rw [hlist]
            by_cases ht : t = []
            · rw [if_pos ht]
              exact Ev.pos ht Ev.const
            · rw [if_neg ht]
              refine Ev.neg ht ?_
              have hts : ((⟨⟨t⟩⟩ : ByteArray).size : Int) = t.length := rfl
              rw [hts]
              by_cases h16 : t.length > 16
              · rw [if_pos h16]
                exact Ev.pos (by omega) Ev.const
              · rw [if_neg h16]
                refine Ev.neg (by omega) (Ev.pos hac ?_)
                have := hac2 ⟨2, t, p'⟩
                simp only [toR] at this
                rw [this]
                exact ih _ _ _ _ hp2 (by omega) (by simp; omega)
        · rw [if_neg hq]
          refine Ev.neg (by omega) (Ev.succ ?_)
          simp only [primerref04_Scan.j4]
          refine Ev.neg (by simp; omega) (sign_ref _ _ _ _ _ ?_)
          by_cases hsg : Lx.isSign c = true
          · rw [if_pos hsg]
            rw [wr_nat _ (by omega)]
            refine Ev.pos hsg (Ev.pos (by omega) (Ev.pos (by omega) (Ev.pos (by omega) (Ev.pos hac ?_))))
            have hj : s.extract i' (i' + 1) = ⟨⟨[c]⟩⟩ := Pos.jump (a := [c]) (b := cs) h'
            simp only [Int.toNat_natCast]
            rw [hj]
            have := hac2 ⟨3, [c], p'⟩
            simp only [toR] at this
            rw [this]
            exact ih _ _ _ _ h'.next (by omega) (by simp; omega)
          · rw [if_neg hsg]
            exact Ev.neg hsg Ev.const
theorem scan_ref (s : ByteArray) : Ev (fun k => primerref04_Scan.f k s) (ansR (Lx.scan s.data.toList)) := by
  unfold primerref04_Scan.f Lx.scan
  rw [length_data]
  by_cases h : s.size > 65536
  · rw [if_pos h]
    exact Ev.pos (by omega) Ev.const
  · rw [if_neg h]
    refine Ev.neg (by omega) ?_
    have := scanF_ref (s := s) (by omega) (s.size + 1) s.data.toList 0 (1, 1) [] (Pos.start s) (by rw [length_data]; omega) (by simp)
    exact this
end Go.Proofs.Ytgllncnfhiiobaa.Pure
