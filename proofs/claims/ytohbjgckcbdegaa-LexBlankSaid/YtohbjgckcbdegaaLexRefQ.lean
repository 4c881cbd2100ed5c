/- lex.Quote, as the print has it, is the plain quote. -/
import Derived.Test.YtohbjgckcbdegaaPx10
import Derived.Test.YtohbjgckcbdegaaLexRefA
import Derived.Test.YtohbjgckcbdegaaLexPlain
set_option linter.unusedVariables false
set_option linter.unusedSimpArgs false
namespace Go.Proofs.Ytohbjgckcbdegaa.Pure
open Go.RowKit Go.Proofs.Ytohbjgckcbdegaa.P Go.Proofs.YtohbjgckcbdegaaW.PrintWords Go.Proofs.YtohbjgckcbdegaaW.PrintLast Go.Proofs.Ytohbjgckcbdegaa

def nms (l : List UInt8) : List Int := l.map fun c => (c.toNat : Int)
theorem strOf_nms (l : List UInt8) : strOfNums (nms l) = ⟨⟨l⟩⟩ := by
  unfold strOfNums nms
  congr 2
  induction l with
  | nil => rfl
  | cons c cs ih => simpa using ih
theorem nms_app (a b : List UInt8) : nms a ++ nms b = nms (a ++ b) := by simp [nms]
theorem nms_len (a : List UInt8) : (nms a).length = a.length := by simp [nms]

abbrev hexA : ByteArray := ⟨#[48, 49, 50, 51, 52, 53, 54, 55, 56, 57, 97, 98, 99, 100, 101, 102]⟩
theorem hi_at (c : UInt8) : bt hexA ((c.toNat : Int) / 16) = ((Lx.hexd (c.toNat / 16)).toNat : Int) := by
  revert c
  exact all_bytes (by decide +kernel)
theorem lo_at (c : UInt8) : bt hexA (Go.bits .and .u8 (c.toNat : Int) 15) = ((Lx.hexd (c.toNat % 16)).toNat : Int) := by
  revert c
  exact all_bytes (by decide +kernel)
theorem lo_range (c : UInt8) : 0 ≤ Go.bits .and .u8 (c.toNat : Int) 15 ∧ Go.bits .and .u8 (c.toNat : Int) 15 < 16 := by
  revert c
  exact all_bytes (by decide +kernel)
theorem quote_loop {s : ByteArray} (hs : s.size ≤ 100000) (q : UInt8) (l : List UInt8) : ∀ (i : Nat) (p : Int × Int) (out : List UInt8), Pos s i l p → out.length ≤ 1 + 4 * i →
    Ev (fun k => lex_Quote.l0 k s q.toNat (nms out) (s.size : Int) i) ⟨⟨out ++ (l.flatMap (Lx.qb q) ++ [q])⟩⟩ := by
  induction l with
  | nil =>
    intro i p out h ho
    have := h.nil
    refine Ev.succ ?_
    simp only [lex_Quote.l0]
    refine Ev.neg (by omega) (Ev.pos (by rw [nms_len]; omega) ?_)
    refine Ev.fixed ?_
    rw [show [(q.toNat : Int)] = nms [q] from rfl, nms_app, strOf_nms]
    simp
  | cons c cs ih =>
    intro i p out h ho
    have hlt := h.lt
    have hn := h.next
    have hc := c.toNat_lt
    refine Ev.succ ?_
    simp only [lex_Quote.l0]
    refine Ev.pos (by omega) (Ev.pos (by omega) (Ev.pos (by omega) ?_))
    rw [h.bt]
    have e1 : ∀ {v}, Ev (fun k => lex_Quote.j2 k s q.toNat (nms out) c.toNat (s.size : Int) i (decide (c = q ∨ c.toNat = 92))) v →
        Ev (fun k => if (c.toNat : Int) = q.toNat then lex_Quote.j2 k s q.toNat (nms out) c.toNat (s.size : Int) i true else lex_Quote.j2 k s q.toNat (nms out) c.toNat (s.size : Int) i ((c.toNat : Int) == 92)) v := by
      intro v hv
      by_cases hcq : c = q
      · refine Ev.pos (by rw [hcq]) ?_
        simpa [hcq] using hv
      · refine Ev.neg (fun e => hcq (UInt8.toNat_inj.1 (by omega))) ?_
        have : ((c.toNat : Int) == 92) = decide (c = q ∨ c.toNat = 92) := by
          rw [Bool.eq_iff_iff]
          simp [hcq]
          omega
        rw [this]
        exact hv
    refine e1 (Ev.succ ?_)
    simp only [lex_Quote.j2]
    have hstep : ∀ (piece : List UInt8), Lx.qb q c = piece → Ev (fun k => lex_Quote.l0 k s q.toNat (nms out ++ nms piece) (s.size : Int) (wrap64 ((i : Int) + 1))) ⟨⟨out ++ ((c :: cs).flatMap (Lx.qb q) ++ [q])⟩⟩ := by
      intro piece hp
      rw [nms_app, wr_nat _ (by omega)]
      have hl := Lx.qb_len q c
      rw [hp] at hl
      have := ih (i + 1) _ (out ++ piece) hn (by rw [List.length_append]; omega)
      rw [List.flatMap_cons, hp]
      simpa [List.append_assoc] using this
    have hsz : ∀ m : Nat, m ≤ 4 → (nms out).length + m < 140737488355328 := by intro m hm; rw [nms_len]; omega
    by_cases h1 : c = q ∨ c.toNat = 92
    · refine Ev.pos (by simpa using h1) ?_
      simp only [Option.bind_some]
      refine Ev.pos (hsz 2 (by omega)) ?_
      have := hstep [92, c] (by unfold Lx.qb; rw [if_pos h1])
      exact this
    · refine Ev.neg (by simpa using h1) ?_
      by_cases h2 : c.toNat = 10
      · refine Ev.pos (by omega) ?_
        simp only [Option.bind_some]
        refine Ev.pos (hsz 2 (by omega)) ?_
        have := hstep [92, 110] (by unfold Lx.qb; rw [if_neg h1, if_pos h2])
        exact this
      · refine Ev.neg (by omega) ?_
        by_cases h3 : c.toNat = 9
        · refine Ev.pos (by omega) ?_
          simp only [Option.bind_some]
          refine Ev.pos (hsz 2 (by omega)) ?_
          have := hstep [92, 116] (by unfold Lx.qb; rw [if_neg h1, if_neg h2, if_pos h3])
          exact this
        · refine Ev.neg (by omega) ?_
          obtain ⟨l0, l1⟩ := lo_range c
          have hpiece : ∀ h4 : c.toNat < 32 ∨ 126 < c.toNat, Ev (fun k => lex_Quote.l0 k s q.toNat (nms out ++ [92, 120, bt hexA ((c.toNat : Int) / 16), bt hexA (Go.bits .and .u8 (c.toNat : Int) 15)]) (s.size : Int) (wrap64 ((i : Int) + 1))) ⟨⟨out ++ ((c :: cs).flatMap (Lx.qb q) ++ [q])⟩⟩ := by
            intro h4
            rw [hi_at, lo_at]
            exact hstep [92, 120, Lx.hexd (c.toNat / 16), Lx.hexd (c.toNat % 16)] (by unfold Lx.qb; rw [if_neg h1, if_neg h2, if_neg h3, if_pos h4])
          by_cases h4 : c.toNat < 32
          · refine Ev.pos (by omega) (Ev.pos (by omega) (Ev.pos (by omega) (Ev.pos l0 (Ev.pos l1 ?_))))
            simp only [Option.bind_some]
            exact Ev.pos (hsz 4 (by omega)) (hpiece (Or.inl h4))
          · refine Ev.neg (by omega) ?_
            by_cases h5 : 126 < c.toNat
            · refine Ev.pos (by omega) (Ev.pos (by omega) (Ev.pos (by omega) (Ev.pos l0 (Ev.pos l1 ?_))))
              simp only [Option.bind_some]
              exact Ev.pos (hsz 4 (by omega)) (hpiece (Or.inr h5))
            · refine Ev.neg (by omega) (Ev.pos (hsz 0 (by omega)) ?_)
              exact hstep [c] (by unfold Lx.qb; rw [if_neg h1, if_neg h2, if_neg h3, if_neg (by omega)])
theorem quote_ref (s : ByteArray) (hs : s.size ≤ 100000) : Ev (fun k => lex_Quote.f k s) ⟨⟨Lx.quote s.data.toList⟩⟩ := by
  unfold lex_Quote.f strings_Count.f
  simp only [Option.bind_some]
  have e : ∀ q : UInt8, Lx.quoteC s.data.toList = q → Ev (fun k => lex_Quote.j0 k s q.toNat) ⟨⟨Lx.quote s.data.toList⟩⟩ := by
    intro q hq
    refine Ev.succ ?_
    simp only [lex_Quote.j0]
    have := quote_loop hs q s.data.toList 0 (1, 1) [q] (Pos.start s) (by simp)
    unfold Lx.quote
    rw [hq]
    exact this
  by_cases h : s.data.toList.count 39 > s.data.toList.count 34
  · exact Ev.pos (by omega) (e 34 (by unfold Lx.quoteC; rw [if_pos h]))
  · exact Ev.neg (by omega) (e 39 (by unfold Lx.quoteC; rw [if_neg h]))
end Go.Proofs.Ytohbjgckcbdegaa.Pure
