/- The reference's Literal reads what the plain scanner reads. -/
import Derived.Test.YtohbjgckcbdegaaPx4
import Derived.Test.YtohbjgckcbdegaaLexRefA
set_option linter.unusedVariables false
set_option linter.unusedSimpArgs false
namespace Go.Proofs.Ytohbjgckcbdegaa.Pure
open Go.RowKit Go.Proofs.Ytohbjgckcbdegaa.P Go.Proofs.YtohbjgckcbdegaaW.PrintWords Go.Proofs.YtohbjgckcbdegaaW.PrintLast Go.Proofs.Ytohbjgckcbdegaa

def nums (l : List UInt8) : List Int := l.map fun c => (c.toNat : Int)
theorem strOf_nums (l : List UInt8) : strOfNums (nums l) = ⟨⟨l⟩⟩ := by
  unfold strOfNums nums
  congr 2
  induction l with
  | nil => rfl
  | cons c cs ih => simpa using ih
theorem nums_snoc (l : List UInt8) (c : UInt8) : nums l ++ [(c.toNat : Int)] = nums (l ++ [c]) := by simp [nums]
/-- A literal's answer, in the reference's form. -/
def LitP (s : ByteArray) (r : Option (List UInt8 × List UInt8) × (Int × Int)) (v : ByteArray × Int × Bool) : Prop :=
  match r with
  | (some (t, rest), p') => ∃ i' : Nat, v = (⟨⟨t⟩⟩, (i' : Int), true) ∧ Pos s i' rest p'
  | (none, p') => ∃ (i' : Nat) (l' : List UInt8), v = (⟨#[]⟩, (i' : Int), false) ∧ Pos s i' l' p'

theorem lit_ref {s : ByteArray} (hs : s.size ≤ 100000) (q : UInt8) (n : Nat) : ∀ (l : List UInt8) (i : Nat) (p : Int × Int) (out : List UInt8), Pos s i l p → l.length < n → out.length ≤ i →
    ∃ v, LitP s (Lx.lit q n l p out) v ∧ Ev (fun k => primerref04_Literal.l0 k s q.toNat (nums out) i) v := by
  induction n with
  | zero => intro l i p out h hn; omega
  | succ n ih =>
    intro l i p out h hn ho
    have hi := h.le
    cases l with
    | nil =>
      have := h.nil
      refine ⟨(⟨#[]⟩, (i : Int), false), ⟨i, [], rfl, h⟩, ?_⟩
      refine Ev.succ ?_
      simp only [primerref04_Literal.l0]
      refine Ev.neg (by omega) (Ev.succ ?_)
      simp only [primerref04_Literal.j1]
      exact Ev.neg (by simp) (Ev.pos (by omega) Ev.const)
    | cons c cs =>
      have hlt := h.lt
      have hc := c.toNat_lt
      simp only [List.length_cons] at hn
      have hsz : (nums out).length < 140737488355328 := by simp [nums]; omega
      by_cases hq : c = q
      · subst hq
        refine ⟨(⟨⟨out⟩⟩, ((i + 1 : Nat) : Int), true), ?_, ?_⟩
        · simp only [Lx.lit, if_true]
          exact ⟨i + 1, rfl, h.next⟩
        · refine Ev.succ ?_
          simp only [primerref04_Literal.l0]
          refine Ev.pos (by omega) (Ev.pos (by omega) (Ev.succ ?_))
          simp only [primerref04_Literal.j1, h.bt]
          refine Ev.neg (by simp) (Ev.neg (by omega) ?_)
          rw [wr_nat _ (by omega), strOf_nums]
          exact Ev.const
      · have hq' : ¬ c.toNat = q.toNat := fun e => hq (UInt8.toNat_inj.1 e)
        have start : ∀ {v}, Ev (fun k => primerref04_Literal.j2 k s q.toNat (nums out) i c.toNat (decide ((c.toNat : Int) < 32) || decide ((c.toNat : Int) > 126))) v → Ev (fun k => primerref04_Literal.l0 k s q.toNat (nums out) i) v := by
          intro v hv
          refine Ev.succ ?_
          simp only [primerref04_Literal.l0]
          refine Ev.pos (by omega) (Ev.pos (by omega) (Ev.succ ?_))
          simp only [primerref04_Literal.j1, h.bt]
          refine Ev.pos (by simp; omega) (Ev.pos (by omega) (Ev.pos (by omega) ?_))
          by_cases h32 : (c.toNat : Int) < 32
          · refine Ev.pos h32 ?_
            simpa [h32] using hv
          · refine Ev.neg h32 ?_
            simpa [h32] using hv
        by_cases hb : c.toNat = 92
        · -- a backslash
          have e2 : ∀ {v}, Ev (fun k => if (wrap64 ((i : Int) + 1)) = (s.size : Int) then (some ((⟨#[]⟩ : ByteArray), wrap64 ((i : Int) + 1), false)) else (if 0 ≤ (wrap64 ((i : Int) + 1)) then (if (wrap64 ((i : Int) + 1)) < (s.size : Int) then (if (bt s (wrap64 ((i : Int) + 1))) = 92 then (primerref04_Literal.j3 k s q.toNat (nums out) (wrap64 ((i : Int) + 1)) (bt s (wrap64 ((i : Int) + 1))) (bt s (wrap64 ((i : Int) + 1))) ((bt s (wrap64 ((i : Int) + 1))) == 92)) else (if (bt s (wrap64 ((i : Int) + 1))) = 39 then (primerref04_Literal.j3 k s q.toNat (nums out) (wrap64 ((i : Int) + 1)) (bt s (wrap64 ((i : Int) + 1))) (bt s (wrap64 ((i : Int) + 1))) ((bt s (wrap64 ((i : Int) + 1))) == 39)) else (primerref04_Literal.j3 k s q.toNat (nums out) (wrap64 ((i : Int) + 1)) (bt s (wrap64 ((i : Int) + 1))) (bt s (wrap64 ((i : Int) + 1))) ((bt s (wrap64 ((i : Int) + 1))) == 34)))) else (none)) else (none))) v → Ev (fun k => primerref04_Literal.l0 k s q.toNat (nums out) i) v := by
            intro v hv
            refine start (Ev.succ ?_)
            simp only [primerref04_Literal.j2]
            exact Ev.neg (by simp; omega) (Ev.pos (by omega) hv)
          have hnx := h.next
          rw [wr_nat _ (by omega)] at e2
          simp only [Lx.lit, if_neg hq, if_pos hb]
          generalize Lx.adv c p = p1 at hnx ⊢
          cases cs with
          | nil =>
            have := hnx.nil
            exact ⟨(⟨#[]⟩, ((i + 1 : Nat) : Int), false), ⟨i + 1, [], rfl, hnx⟩, e2 (Ev.pos (by omega) Ev.const)⟩
          | cons d ds =>
            simp only [List.length_cons] at hn
            have hlt2 := hnx.lt
            have hd := d.toNat_lt
            have e3 : ∀ {v}, Ev (fun k => primerref04_Literal.j3 k s q.toNat (nums out) ((i + 1 : Nat) : Int) d.toNat d.toNat (decide (d.toNat = 92 ∨ d.toNat = 39 ∨ d.toNat = 34))) v → Ev (fun k => primerref04_Literal.l0 k s q.toNat (nums out) i) v := by
              intro v hv
              refine e2 (Ev.neg (by omega) (Ev.pos (by omega) (Ev.pos (by omega) ?_)))
              rw [hnx.bt]
              by_cases h1 : d.toNat = 92
              · refine Ev.pos (by omega) ?_
                simpa [h1] using hv
              · refine Ev.neg (by omega) ?_
                by_cases h2 : d.toNat = 39
                · refine Ev.pos (by omega) ?_
                  simpa [h1, h2] using hv
                · refine Ev.neg (by omega) ?_
                  by_cases h3 : d.toNat = 34
                  · simpa [h1, h2, h3] using hv
                  · have : ((d.toNat : Int) == 34) = false := by simp; omega
                    rw [this]
                    simpa [h1, h2, h3] using hv
            have hnx2 := hnx.next
            by_cases h1 : d.toNat = 92 ∨ d.toNat = 39 ∨ d.toNat = 34
            · obtain ⟨v, hv, hE⟩ := ih ds (i + 1 + 1) (Lx.adv d p1) (out ++ [d]) hnx2 (by omega) (by simp; omega)
              refine ⟨v, by simp only [Lx.esc, if_pos h1]; exact hv, e3 (Ev.succ ?_)⟩
              simp only [primerref04_Literal.j3]
              refine Ev.pos (by simpa using h1) (Ev.pos hsz ?_)
              rw [nums_snoc, wr_nat _ (by omega)]
              exact hE
            · have nf : ¬ (decide (d.toNat = 92 ∨ d.toNat = 39 ∨ d.toNat = 34)) = true := by simpa using h1
              by_cases h2 : d.toNat = 110
              · obtain ⟨v, hv, hE⟩ := ih ds (i + 1 + 1) (Lx.adv d p1) (out ++ [10]) hnx2 (by omega) (by simp; omega)
                refine ⟨v, by simp only [Lx.esc, if_neg h1, if_pos h2]; exact hv, e3 (Ev.succ ?_)⟩
                simp only [primerref04_Literal.j3]
                refine Ev.neg nf (Ev.pos (by omega) (Ev.pos hsz ?_))
                have := nums_snoc out 10
                rw [show (((10 : UInt8).toNat : Nat) : Int) = 10 from rfl] at this
                rw [this, wr_nat _ (by omega)]
                exact hE
              · by_cases h3 : d.toNat = 116
                · obtain ⟨v, hv, hE⟩ := ih ds (i + 1 + 1) (Lx.adv d p1) (out ++ [9]) hnx2 (by omega) (by simp; omega)
                  refine ⟨v, by simp only [Lx.esc, if_neg h1, if_neg h2, if_pos h3]; exact hv, e3 (Ev.succ ?_)⟩
                  simp only [primerref04_Literal.j3]
                  refine Ev.neg nf (Ev.neg (by omega) (Ev.pos (by omega) (Ev.pos hsz ?_)))
                  have := nums_snoc out 9
                  rw [show (((9 : UInt8).toNat : Nat) : Int) = 9 from rfl] at this
                  rw [this, wr_nat _ (by omega)]
                  exact hE
                · by_cases h4 : d.toNat = 120
                  · have e4 : ∀ {v}, Ev (fun k => primerref04_Literal.l1 k s q.toNat (nums out) ((i + 1 : Nat) : Int) 0 0) v → Ev (fun k => primerref04_Literal.l0 k s q.toNat (nums out) i) v := by
                      intro v hv
                      refine e3 (Ev.succ ?_)
                      simp only [primerref04_Literal.j3]
                      exact Ev.neg nf (Ev.neg (by omega) (Ev.neg (by omega) (Ev.pos (by omega) hv)))
                    simp only [Lx.esc, if_neg h1, if_neg h2, if_neg h3, if_pos h4]
                    generalize Lx.adv d p1 = p2 at hnx2 ⊢
                    cases ds with
                    | nil =>
                      have := hnx2.nil
                      refine ⟨(⟨#[]⟩, ((i + 1 + 1 : Nat) : Int), false), ⟨i + 1 + 1, [], rfl, hnx2⟩, e4 (Ev.succ ?_)⟩
                      simp only [primerref04_Literal.l1]
                      rw [wr_nat _ (by omega)]
                      exact Ev.pos (by omega) (Ev.pos (by omega) Ev.const)
                    | cons x xs =>
                      simp only [List.length_cons] at hn
                      have hlt3 := hnx2.lt
                      have hx := hex_ref x
                      cases hv : Lx.hexv x with
                      | none =>
                        rw [hv] at hx; simp only at hx
                        simp only [Lx.escX, hv]
                        refine ⟨(⟨#[]⟩, ((i + 1 + 1 : Nat) : Int), false), ⟨i + 1 + 1, _, rfl, hnx2⟩, e4 (Ev.succ ?_)⟩
                        simp only [primerref04_Literal.l1]
                        rw [wr_nat _ (by omega), hnx2.bt]
                        refine Ev.pos (by omega) (Ev.neg (by omega) (Ev.pos (by omega) (Ev.pos (by omega) (Ev.bind hx ?_))))
                        exact Ev.pos (by omega) Ev.const
                      | some a =>
                        rw [hv] at hx; simp only at hx
                        have ha := hexv_lt hv
                        have e5 : ∀ {v}, Ev (fun k => primerref04_Literal.l1 k s q.toNat (nums out) ((i + 1 + 1 : Nat) : Int) a 1) v → Ev (fun k => primerref04_Literal.l0 k s q.toNat (nums out) i) v := by
                          intro v hv
                          refine e4 (Ev.succ ?_)
                          simp only [primerref04_Literal.l1]
                          rw [wr_nat _ (by omega), hnx2.bt]
                          refine Ev.pos (by omega) (Ev.neg (by omega) (Ev.pos (by omega) (Ev.pos (by omega) (Ev.bind hx ?_))))
                          refine Ev.neg (by omega) (Ev.bind hx ?_)
                          rw [show wrap64 (wrap64 (16 * 0) + (a : Int)) = (a : Int) by rw [show wrap64 (16 * 0) = 0 from wr_int 0 (by omega) (by omega), wr_int _ (by omega) (by omega)]; omega, show wrap64 ((0 : Int) + 1) = 1 from wr_int 1 (by omega) (by omega)]
                          exact hv
                        have hnx3 := hnx2.next
                        simp only [Lx.escX, hv]
                        generalize Lx.adv x p2 = p3 at hnx3 ⊢
                        cases xs with
                        | nil =>
                          have := hnx3.nil
                          refine ⟨(⟨#[]⟩, ((i + 1 + 1 + 1 : Nat) : Int), false), ⟨i + 1 + 1 + 1, [], rfl, hnx3⟩, e5 (Ev.succ ?_)⟩
                          simp only [primerref04_Literal.l1]
                          rw [wr_nat _ (by omega)]
                          exact Ev.pos (by omega) (Ev.pos (by omega) Ev.const)
                        | cons y ys =>
                          simp only [List.length_cons] at hn
                          have hlt4 := hnx3.lt
                          have hy := hex_ref y
                          cases hv2 : Lx.hexv y with
                          | none =>
                            rw [hv2] at hy; simp only at hy
                            simp only [hv2]
                            refine ⟨(⟨#[]⟩, ((i + 1 + 1 + 1 : Nat) : Int), false), ⟨i + 1 + 1 + 1, _, rfl, hnx3⟩, e5 (Ev.succ ?_)⟩
                            simp only [primerref04_Literal.l1]
                            rw [wr_nat _ (by omega), hnx3.bt]
                            refine Ev.pos (by omega) (Ev.neg (by omega) (Ev.pos (by omega) (Ev.pos (by omega) (Ev.bind hy ?_))))
                            exact Ev.pos (by omega) Ev.const
                          | some b =>
                            rw [hv2] at hy; simp only at hy
                            have hb := hexv_lt hv2
                            simp only [hv2]
                            obtain ⟨v, hv, hE⟩ := ih ys (i + 1 + 1 + 1 + 1) (Lx.adv y p3) (out ++ [UInt8.ofNat (16 * a + b)]) hnx3.next (by omega) (by simp; omega)
                            refine ⟨v, hv, e5 (Ev.succ ?_)⟩
                            simp only [primerref04_Literal.l1]
                            rw [wr_nat _ (by omega), hnx3.bt]
                            refine Ev.pos (by omega) (Ev.neg (by omega) (Ev.pos (by omega) (Ev.pos (by omega) (Ev.bind hy ?_))))
                            refine Ev.neg (by omega) (Ev.bind hy (Ev.succ ?_))
                            rw [show wrap64 (wrap64 (16 * (a : Int)) + (b : Int)) = 16 * (a : Int) + b by rw [wr_int (16 * (a : Int)) (by omega) (by omega), wr_int _ (by omega) (by omega)], show wrap64 ((1 : Int) + 1) = 2 from wr_int 2 (by omega) (by omega)]
                            simp only [primerref04_Literal.l1]
                            refine Ev.neg (by omega) (Ev.pos hsz ?_)
                            have := nums_snoc out (UInt8.ofNat (16 * a + b))
                            rw [show (((UInt8.ofNat (16 * a + b)).toNat : Nat) : Int) = (16 * (a : Int) + b) % 256 by simp] at this
                            rw [this, wr_nat _ (by omega)]
                            exact hE
                  · refine ⟨(⟨#[]⟩, ((i + 1 : Nat) : Int), false), ?_, e3 (Ev.succ ?_)⟩
                    · simp only [Lx.esc, if_neg h1, if_neg h2, if_neg h3, if_neg h4]
                      exact ⟨i + 1, _, rfl, hnx⟩
                    · simp only [primerref04_Literal.j3]
                      exact Ev.neg nf (Ev.neg (by omega) (Ev.neg (by omega) (Ev.neg (by omega) Ev.const)))
        · by_cases hr : c.toNat < 32 ∨ 126 < c.toNat
          · refine ⟨(⟨#[]⟩, (i : Int), false), ?_, start (Ev.succ ?_)⟩
            · simp only [Lx.lit, if_neg hq, if_neg hb, if_pos hr]
              exact ⟨i, _, rfl, h⟩
            · simp only [primerref04_Literal.j2]
              exact Ev.pos (by simp; omega) Ev.const
          · obtain ⟨v, hv, hE⟩ := ih cs (i + 1) (Lx.adv c p) (out ++ [c]) h.next (by omega) (by simp; omega)
            refine ⟨v, ?_, start (Ev.succ ?_)⟩
            · simp only [Lx.lit, if_neg hq, if_neg hb, if_neg hr]
              exact hv
            · simp only [primerref04_Literal.j2]
              refine Ev.neg (by simp; omega) (Ev.neg (by omega) (Ev.pos hsz ?_))
              rw [nums_snoc, wr_nat _ (by omega)]
              exact hE
end Go.Proofs.Ytohbjgckcbdegaa.Pure
