/- LexQuotes: Quote writes the document's literal, and Scan reads it as it was; for every argument. -/
import Derived.Test.YtohbjgckcbdegaaPx12
import Derived.Test.YtohbjgckcbdegaaLexRefQ
set_option linter.unusedVariables false
set_option linter.unusedSimpArgs false
namespace Go.Proofs.Ytohbjgckcbdegaa.Pure
open Go.RowKit Go.Proofs.Ytohbjgckcbdegaa.P Go.Proofs.YtohbjgckcbdegaaW.PrintWords Go.Proofs.YtohbjgckcbdegaaW.PrintLast Go.Proofs.Ytohbjgckcbdegaa

theorem speaks_true : primerlaw04_speaks.f = some true := by kernel_rfl

theorem app_mk (a b : List UInt8) : (⟨⟨a⟩⟩ : ByteArray) ++ (⟨⟨b⟩⟩ : ByteArray) = ⟨⟨a ++ b⟩⟩ := by
  apply ByteArray.ext
  rw [ByteArray.data_append]
  simp
theorem hi_ref (c : UInt8) : 0 ≤ Int.tdiv (c.toNat : Int) 16 % 256 ∧ Int.tdiv (c.toNat : Int) 16 % 256 < 16 ∧ bt hexA (Int.tdiv (c.toNat : Int) 16 % 256) = ((Lx.hexd (c.toNat / 16)).toNat : Int) := by
  revert c
  exact all_bytes (by decide +kernel)
theorem lo_ref (c : UInt8) : 0 ≤ Int.tmod (c.toNat : Int) 16 ∧ Int.tmod (c.toNat : Int) 16 < 16 ∧ bt hexA (Int.tmod (c.toNat : Int) 16) = ((Lx.hexd (c.toNat % 16)).toNat : Int) := by
  revert c
  exact all_bytes (by decide +kernel)
theorem refCount_loop {s : ByteArray} (hs : s.size ≤ 100000) {r : ByteArray} (l : List UInt8) : ∀ (i a b : Nat) (p : Int × Int), Pos s i l p → a ≤ i → b ≤ i →
    Ev (fun k => if ((a + l.count 39 : Nat) : Int) > ((b + l.count 34 : Nat) : Int) then primerref04_Quote.j1 k s 34 else primerref04_Quote.j1 k s 39) r → Ev (fun k => primerref04_Quote.l0 k s a b i) r := by
  induction l with
  | nil =>
    intro i a b p h ha hb H
    have := h.nil
    refine Ev.succ ?_
    simp only [primerref04_Quote.l0]
    exact Ev.neg (by omega) (by simpa using H)
  | cons c cs ih =>
    intro i a b p h ha hb H
    have hlt := h.lt
    refine Ev.succ ?_
    simp only [primerref04_Quote.l0]
    rw [h.bt]
    refine Ev.pos (by omega) (Ev.pos (by omega) ?_)
    rw [wr_nat i (by omega), wr_nat a (by omega), wr_nat b (by omega)]
    by_cases h1 : c = 39
    · subst h1
      refine Ev.pos (by decide) (Ev.neg (by decide) ?_)
      refine ih (i + 1) (a + 1) b _ h.next (by omega) (by omega) ?_
      rw [List.count_cons_self, List.count_cons_of_ne (by decide)] at H
      rw [show a + 1 + cs.count 39 = a + (cs.count 39 + 1) by omega]
      exact H
    · refine Ev.neg (fun e => h1 (UInt8.toNat_inj.1 (show c.toNat = 39 by omega))) ?_
      by_cases h2 : c = 34
      · subst h2
        refine Ev.pos (by decide) ?_
        refine ih (i + 1) a (b + 1) _ h.next (by omega) (by omega) ?_
        rw [List.count_cons_self, List.count_cons_of_ne (by decide)] at H
        rw [show b + 1 + cs.count 34 = b + (cs.count 34 + 1) by omega]
        exact H
      · refine Ev.neg (fun e => h2 (UInt8.toNat_inj.1 (show c.toNat = 34 by omega))) ?_
        refine ih (i + 1) a b _ h.next (by omega) (by omega) ?_
        rw [List.count_cons_of_ne (fun e => h1 e), List.count_cons_of_ne (fun e => h2 e)] at H
        exact H
theorem refQuote_loop {s : ByteArray} (hs : s.size ≤ 100000) (q : UInt8) (l : List UInt8) : ∀ (i : Nat) (p : Int × Int) (out : List UInt8), Pos s i l p → out.length ≤ 1 + 4 * i →
    Ev (fun k => primerref04_Quote.l1 k s q.toNat hexA ⟨⟨out⟩⟩ i) ⟨⟨out ++ (l.flatMap (Lx.qb q) ++ [q])⟩⟩ := by
  induction l with
  | nil =>
    intro i p out h ho
    have := h.nil
    refine Ev.succ ?_
    simp only [primerref04_Quote.l1]
    refine Ev.neg (by omega) ?_
    simp only [Option.bind_some]
    rw [show [(q.toNat : Int)] = nms [q] from rfl, strOf_nms]
    refine Ev.pos (by show out.length + 1 ≤ _; omega) ?_
    rw [app_mk]
    simpa using Ev.const
  | cons c cs ih =>
    intro i p out h ho
    have hlt := h.lt
    have hn := h.next
    have hc := c.toNat_lt
    refine Ev.succ ?_
    simp only [primerref04_Quote.l1]
    refine Ev.pos (by omega) (Ev.pos (by omega) ?_)
    rw [h.bt]
    have e1 : ∀ {v}, Ev (fun k => primerref04_Quote.j3 k s q.toNat hexA ⟨⟨out⟩⟩ i c.toNat (decide (c = q ∨ c.toNat = 92))) v →
        Ev (fun k => if (c.toNat : Int) = q.toNat then primerref04_Quote.j3 k s q.toNat hexA ⟨⟨out⟩⟩ i c.toNat true else primerref04_Quote.j3 k s q.toNat hexA ⟨⟨out⟩⟩ i c.toNat ((c.toNat : Int) == 92)) v := by
      intro v hv
      by_cases hcq : c = q
      · refine Ev.pos (by rw [hcq]) ?_
        simpa [hcq] using hv
      · refine Ev.neg (fun e => hcq (UInt8.toNat_inj.1 (by omega))) ?_
        have : ((c.toNat : Int) == 92) = decide (c = q ∨ c.toNat = 92) := by
          rw [Bool.eq_iff_iff]
          simp [hcq]
          omega
        rw [this]
        exact hv
    refine e1 (Ev.succ ?_)
    simp only [primerref04_Quote.j3]
    have hstep : ∀ (piece : List UInt8), Lx.qb q c = piece → Ev (fun k => if (⟨⟨out⟩⟩ : ByteArray).size + (strOfNums (nms piece)).size ≤ 9223372036854775807 then primerref04_Quote.l1 k s q.toNat hexA (⟨⟨out⟩⟩ ++ strOfNums (nms piece)) (wrap64 ((i : Int) + 1)) else none) ⟨⟨out ++ ((c :: cs).flatMap (Lx.qb q) ++ [q])⟩⟩ := by
      intro piece hp
      rw [strOf_nms, app_mk, wr_nat _ (by omega)]
      have hl := Lx.qb_len q c
      rw [hp] at hl
      refine Ev.pos (by show out.length + piece.length ≤ _; omega) ?_
      have := ih (i + 1) _ (out ++ piece) hn (by rw [List.length_append]; omega)
      rw [List.flatMap_cons, hp]
      simpa [List.append_assoc] using this
    by_cases h1 : c = q ∨ c.toNat = 92
    · refine Ev.pos (by simpa using h1) ?_
      simp only [Option.bind_some]
      exact hstep [92, c] (by unfold Lx.qb; rw [if_pos h1])
    · refine Ev.neg (by simpa using h1) ?_
      by_cases h2 : c.toNat = 10
      · refine Ev.pos (by omega) ?_
        simp only [Option.bind_some]
        exact hstep [92, 110] (by unfold Lx.qb; rw [if_neg h1, if_pos h2])
      · refine Ev.neg (by omega) ?_
        by_cases h3 : c.toNat = 9
        · refine Ev.pos (by omega) ?_
          simp only [Option.bind_some]
          exact hstep [92, 116] (by unfold Lx.qb; rw [if_neg h1, if_neg h2, if_pos h3])
        · refine Ev.neg (by omega) ?_
          obtain ⟨h0, h16, hh⟩ := hi_ref c
          obtain ⟨l0, l16, hl⟩ := lo_ref c
          have hsz : (hexA.size : Int) = 16 := rfl
          have hpiece : ∀ h4 : c.toNat < 32 ∨ 126 < c.toNat, Lx.qb q c = [92, 120, Lx.hexd (c.toNat / 16), Lx.hexd (c.toNat % 16)] := fun h4 => by
            unfold Lx.qb; rw [if_neg h1, if_neg h2, if_neg h3, if_pos h4]
          by_cases h4 : c.toNat < 32
          · refine Ev.pos (by omega) (Ev.pos h0 (Ev.pos (by rw [hsz]; exact h16) (Ev.pos l0 (Ev.pos (by rw [hsz]; exact l16) ?_))))
            simp only [Option.bind_some]
            rw [hh, hl]
            exact hstep _ (hpiece (Or.inl h4))
          · refine Ev.neg (by omega) ?_
            by_cases h5 : 126 < c.toNat
            · refine Ev.pos (by omega) (Ev.pos h0 (Ev.pos (by rw [hsz]; exact h16) (Ev.pos l0 (Ev.pos (by rw [hsz]; exact l16) ?_))))
              simp only [Option.bind_some]
              rw [hh, hl]
              exact hstep _ (hpiece (Or.inr h5))
            · refine Ev.neg (by omega) ?_
              simp only [Option.bind_some]
              exact hstep [c] (by unfold Lx.qb; rw [if_neg h1, if_neg h2, if_neg h3, if_neg (by omega)])
theorem refQuote_ref (s : ByteArray) (hs : s.size ≤ 100000) : Ev (fun k => primerref04_Quote.f k s) ⟨⟨Lx.quote s.data.toList⟩⟩ := by
  unfold primerref04_Quote.f
  have e : ∀ q : UInt8, Lx.quoteC s.data.toList = q → Ev (fun k => primerref04_Quote.j1 k s q.toNat) ⟨⟨Lx.quote s.data.toList⟩⟩ := by
    intro q hq
    refine Ev.succ ?_
    simp only [primerref04_Quote.j1]
    have := refQuote_loop hs q s.data.toList 0 (1, 1) [q] (Pos.start s) (by simp)
    rw [show [(q.toNat : Int)] = nms [q] from rfl, strOf_nms]
    unfold Lx.quote
    rw [hq]
    exact this
  refine refCount_loop hs s.data.toList 0 0 0 _ (Pos.start s) (by omega) (by omega) ?_
  by_cases h : s.data.toList.count 39 > s.data.toList.count 34
  · exact Ev.pos (by omega) (e 34 (by unfold Lx.quoteC; rw [if_pos h]))
  · exact Ev.neg (by omega) (e 39 (by unfold Lx.quoteC; rw [if_neg h]))
theorem LexQuotes : primerlaw04_LexQuotes.Pure := by
  intro a _
  apply Ev.at
  unfold primerlaw04_LexQuotes.f
  rw [speaks_true]
  simp only [Option.bind_some, if_true]
  by_cases h : a.size ≤ 200
  · refine Ev.neg (by omega) (Ev.bind (quote_ref a (by omega)) ?_)
    have hl := length_data a
    unfold lex_Scan.f
    have hsc := Lx.scan_quote a.data.toList (by omega)
    rw [show (⟨⟨Lx.quote a.data.toList⟩⟩ : ByteArray).data.toList = Lx.quote a.data.toList from rfl]
    generalize Lx.scan (Lx.quote a.data.toList) = sc at hsc ⊢
    simp only [Option.bind_some]
    refine Ev.bind (refQuote_ref a (by omega)) (Ev.pos rfl ?_)
    rw [ByteArray.toList_eq]
    by_cases h1 : a.data.toList = []
    · refine Ev.pos h1 ?_
      rw [if_pos h1] at hsc
      subst hsc
      refine Ev.fixed ?_
      simp
    · refine Ev.neg h1 ?_
      rw [if_neg h1] at hsc
      by_cases h2 : a.size > 16
      · refine Ev.pos (by omega) ?_
        rw [if_pos (by omega)] at hsc
        subst hsc
        refine Ev.fixed ?_
        simp
      · refine Ev.neg (by omega) ?_
        rw [if_neg (by omega)] at hsc
        subst hsc
        have hq := Lx.quote_len a.data.toList
        have hsz : (⟨⟨Lx.quote a.data.toList⟩⟩ : ByteArray).size = (Lx.quote a.data.toList).length := rfl
        rw [hsz, wr_nat _ (by omega)]
        refine Ev.fixed ?_
        simp [toS, rd_T31, ByteArray.toList_eq]
        omega
  · exact Ev.pos (by omega) Ev.const
end Go.Proofs.Ytohbjgckcbdegaa.Pure
