/- The walk of package lex: skip. -/
import Derived.Test.YtohbjgckcbdegaaLexWa
set_option linter.unusedVariables false
set_option linter.unusedSimpArgs false
namespace Go.Proofs.Ytohbjgckcbdegaa.Lw
open Go.RowKit Go.Proofs.YtohbjgckcbdegaaW.PrintWords Go.Proofs.YtohbjgckcbdegaaW.PrintLast Go.Proofs.YtohbjgckcbdegaaW.PrintMore Go.Proofs.Ytohbjgckcbdegaa

/-- Where a skip is: it began at l0; m: in a comment. -/
def SkipR (m : Bool) (w : World) (g : Nat) (s : ByteArray) (v : Value) (f5 f6 f7 : Int) (a0 : Int) (r : List UInt8 × (Int × Int)) (k : Nat) (wr : World) : Prop :=
  ∃ a line col : Int, Scn wr g s a line col v f5 f6 f7 ∧ w.grownBy wr (some g) ∧ At s a line col ∧ Lx.skip m (suf s a) (line, col) = r ∧ a0 ≤ a ∧ (s.size : Int) - a < k

set_option maxHeartbeats 1000000 in
set_option maxRecDepth 100000 in
theorem skip_calls {g : Nat} {s : ByteArray} {a0 l0 c0 : Int} {v : Value} {f5 f6 f7 : Int} {w : World} (hb : Scn w g s a0 l0 c0 v f5 f6 f7) (hA : At s a0 l0 c0) :
    Calls Try.prog 17 #[.pointer (some ⟨g, 0, none⟩)] w fun e w' => e = .returned (.tuple #[]) ∧
      ∃ a line col, Scn w' g s a line col v f5 f6 f7 ∧ w.grownBy w' (some g) ∧ At s a line col ∧ a0 ≤ a ∧ Lx.skip false (suf s a0) (l0, c0) = (suf s a, (line, col)) ∧ Lx.skip false (suf s a) (line, col) = (suf s a, (line, col)) := by
  have HB := Aside0.mk hb
  have HA := Aside0.mk hA
  clear hb hA
  go_enter Try.func17, Try.ntmps17
  go_wp2_with fail
  go_loopg [] (s.size + 1) (fun k wr => SkipR false w g s v f5 f6 f7 a0 (Lx.skip false (suf s a0) (l0, c0)) k wr)
  case atStart => exact ⟨a0, l0, c0, HB.out, grown_refl _ _, HA.out, rfl, Int.le_refl _, by have := HA.out.a0; omega⟩
  case round =>
    obtain ⟨a, line, col, hS, hG, hT, hsk, ha, hk⟩ := hrel
    have HS := Aside0.mk hS
    have HT := Aside0.mk hT
    have HR := Aside0.mk hsk
    have HG := Aside0.mk hG
    have q0 := hT.a0
    clear hS hT hsk hG
    by_cases hlt : a < (s.size : Int)
    · obtain ⟨c, hc, hbt⟩ := suf_cons q0 hlt
      have HC := Aside0.mk hc
      have HBT := Aside0.mk hbt
      clear hc hbt
      go_wp2_with (go_at_call 18; refine (more_calls HS.out).mono ?_; rintro e w1 ⟨rfl, n1, hn1⟩)
      have HS1 : Aside0 (Scn w1 g s a line col v f5 f6 f7) := ⟨by rw [← hn1]; exact HS.out⟩
      have HG1 : Aside0 (w.grownBy w1 (some g)) := ⟨by rw [← hn1]; exact grown_drewN HG.out _⟩
      clear hn1 HG HS
      have h0 := (blk_cell HS1.out 0).trans rfl
      have h1 := (blk_cell HS1.out 1).trans rfl
      have p4 : (0 ≤ a) = True := eq_true q0
      have q4 : (a < (s.size : Int)) = True := eq_true hlt
      have hx4 := bt_at s a
      go_quiet (fail)
      clear h0 h1 p4 q4 hx4
      generalize hW2 : w1.drewN nq = w2
      have HS2 : Aside0 (Scn w2 g s a line col v f5 f6 f7) := ⟨by rw [← hW2]; exact HS1.out⟩
      have HG2 : Aside0 (w.grownBy w2 (some g)) := ⟨by rw [← hW2]; exact grown_drewN HG1.out _⟩
      clear hW2 HS1 HG1
      by_cases h35 : bt s a = 35
      · have b35 : (bt s a == 35) = true := beq_iff_eq.mpr h35
        have H35 := Aside0.mk h35
        clear h35
        go_wp2_with fail
        go_loopg [] (s.size + 1) (fun k wr => SkipR true w g s v f5 f6 f7 a (Lx.skip false (suf s a) (line, col)) k wr)
        case atStart =>
          refine ⟨a, line, col, HS2.out, HG2.out, HT.out, ?_, Int.le_refl _, by omega⟩
          rw [HC.out]
          have e35 : c.toNat = 35 := by have := HBT.out; have := H35.out; omega
          simp only [Lx.skip, e35]
          simp
        case round =>
          obtain ⟨a', line', col', hS, hG, hT, hsk, ha', hk'⟩ := hrel
          have KS := Aside0.mk hS
          have KT := Aside0.mk hT
          have KR := Aside0.mk hsk
          have KG := Aside0.mk hG
          have q0' := hT.a0
          clear hS hT hsk hG
          obtain ⟨wo, rfl⟩ : ∃ wo : World, wo = wr := ⟨_, rfl⟩
          have h0 := (blk_cell KS.out 0).trans rfl
          have h1 := (blk_cell KS.out 1).trans rfl
          by_cases hlt' : a' < (s.size : Int)
          · obtain ⟨c', hc', hbt'⟩ := suf_cons q0' hlt'
            have KC := Aside0.mk hc'
            have KBT := Aside0.mk hbt'
            clear hc' hbt'
            have p4 : (0 ≤ a') = True := eq_true q0'
            have q4 : (a' < (s.size : Int)) = True := eq_true hlt'
            have hx4 := bt_at s a'
            by_cases h10 : bt s a' = 10
            · have b10 : (bt s a' != 10) = false := bne_eq_false_iff_eq.mpr h10
              have H10 := Aside0.mk h10
              clear h10
              go_wp2_with fail
              go_quiet ((go_at_call 18; exact quiet_any (more_yes (KS.out.drewN _) hlt')))
              clear h0 h1 p4 q4 hx4
              go_wp2_with fail
              go_roundg (((s.size : Int) - a').toNat + 1)
              case measure =>
                have : a ≠ a' := by rintro rfl; have := H10.out; have := H35.out; omega
                omega
              case rel =>
                refine ⟨a', line', col', KS.out.drewN _, grown_drewN KG.out _, KT.out, ?_, by omega, by omega⟩
                have e10 : c'.toNat = 10 := by have := KBT.out; have := H10.out; omega
                have e := KR.out
                rw [KC.out] at e ⊢
                rw [← HR.out, ← e]
                simp [Lx.skip, e10, Lx.blank]
            · have b10 : (bt s a' != 10) = true := bne_iff_ne.mpr h10
              have H10 := Aside0.mk h10
              clear h10
              go_wp2_with fail
              go_quiet ((go_at_call 18; exact quiet_any (more_yes (KS.out.drewN _) hlt')))
              clear h0 h1 p4 q4 hx4
              go_wp2_with (go_at_call 29; refine (step_calls (KS.out.drewN _) KT.out hlt' c' KBT.out).mono ?_; rintro e w3 ⟨rfl, hS3, hG3⟩)
              have n10 : ¬ c'.toNat = 10 := by have := KBT.out; have := H10.out; omega
              go_roundg (((s.size : Int) - (a' + 1)).toNat + 1)
              case measure => omega
              case rel =>
                refine ⟨a' + 1, _, _, hS3, (grown_drewN KG.out _).trans hG3, KT.out.step hlt' c', ?_, by omega, by omega⟩
                have e := KR.out
                rw [KC.out] at e
                rw [← e]
                simp [Lx.skip, n10]
          · have hle : (s.size : Int) ≤ a' := by omega
            clear hlt'
            go_wp2_with fail
            go_quiet ((go_at_call 18; exact quiet_any (more_no (KS.out.drewN _) hle)))
            clear h0 h1
            go_wp2_with fail
            go_roundg (((s.size : Int) - a').toNat + 1)
            case measure => omega
            case rel =>
              refine ⟨a', line', col', KS.out.drewN _, grown_drewN KG.out _, KT.out, ?_, by omega, by omega⟩
              have e := KR.out
              rw [suf_nil (by omega)] at e ⊢
              rw [← HR.out, ← e]
              simp [Lx.skip]
      · have b35 : (bt s a == 35) = false := beq_eq_false_iff_ne.mpr h35
        have n35 : ¬ c.toNat = 35 := by have := HBT.out; omega
        clear h35
        by_cases hbl : Lx.blank c = true
        · have hcase : bt s a = 32 ∨ bt s a = 9 ∨ bt s a = 10 ∨ bt s a = 13 := by
            have := HBT.out
            simp [Lx.blank] at hbl
            omega
          have HBL := Aside0.mk hbl
          have N35 := Aside0.mk n35
          clear hbl n35
          have fin : ∀ w3, Scn w3 g s (a + 1) (Lx.adv c (line, col)).1 (Lx.adv c (line, col)).2 v f5 f6 f7 → w2.grownBy w3 (some g) → SkipR false w g s v f5 f6 f7 a0 (Lx.skip false (suf s a0) (l0, c0)) (((s.size : Int) - (a + 1)).toNat + 1) w3 := by
            intro w3 hS3 hG3
            refine ⟨a + 1, _, _, hS3, HG2.out.trans hG3, HT.out.step hlt c, ?_, by omega, by omega⟩
            have e := HR.out
            rw [HC.out] at e
            rw [← e]
            simp [Lx.skip, N35.out, HBL.out]
          have FIN := Aside0.mk fin
          clear fin
          rcases hcase with h | h | h | h
          · have b1 : (bt s a == 32) = true := beq_iff_eq.mpr h
            clear h
            go_wp2_with (go_at_call 29; refine (step_calls HS2.out HT.out hlt c HBT.out).mono ?_; rintro e w3 ⟨rfl, hS3, hG3⟩)
            go_roundg (((s.size : Int) - (a + 1)).toNat + 1)
            case measure => omega
            case rel => exact FIN.out _ hS3 hG3
          · have b1 : (bt s a == 32) = false := beq_eq_false_iff_ne.mpr (by omega)
            have b2 : (bt s a == 9) = true := beq_iff_eq.mpr h
            clear h
            go_wp2_with (go_at_call 29; refine (step_calls HS2.out HT.out hlt c HBT.out).mono ?_; rintro e w3 ⟨rfl, hS3, hG3⟩)
            go_roundg (((s.size : Int) - (a + 1)).toNat + 1)
            case measure => omega
            case rel => exact FIN.out _ hS3 hG3
          · have b1 : (bt s a == 32) = false := beq_eq_false_iff_ne.mpr (by omega)
            have b2 : (bt s a == 9) = false := beq_eq_false_iff_ne.mpr (by omega)
            have b3 : (bt s a == 10) = true := beq_iff_eq.mpr h
            clear h
            go_wp2_with (go_at_call 29; refine (step_calls HS2.out HT.out hlt c HBT.out).mono ?_; rintro e w3 ⟨rfl, hS3, hG3⟩)
            go_roundg (((s.size : Int) - (a + 1)).toNat + 1)
            case measure => omega
            case rel => exact FIN.out _ hS3 hG3
          · have b1 : (bt s a == 32) = false := beq_eq_false_iff_ne.mpr (by omega)
            have b2 : (bt s a == 9) = false := beq_eq_false_iff_ne.mpr (by omega)
            have b3 : (bt s a == 10) = false := beq_eq_false_iff_ne.mpr (by omega)
            have b4 : (bt s a == 13) = true := beq_iff_eq.mpr h
            clear h
            go_wp2_with (go_at_call 29; refine (step_calls HS2.out HT.out hlt c HBT.out).mono ?_; rintro e w3 ⟨rfl, hS3, hG3⟩)
            go_roundg (((s.size : Int) - (a + 1)).toNat + 1)
            case measure => omega
            case rel => exact FIN.out _ hS3 hG3
        · have hcase : bt s a ≠ 32 ∧ bt s a ≠ 9 ∧ bt s a ≠ 10 ∧ bt s a ≠ 13 := by
            have := HBT.out
            simp [Lx.blank] at hbl
            omega
          have NBL := Aside0.mk hbl
          have N35 := Aside0.mk n35
          clear hbl n35
          have b1 : (bt s a == 32) = false := beq_eq_false_iff_ne.mpr hcase.1
          have b2 : (bt s a == 9) = false := beq_eq_false_iff_ne.mpr hcase.2.1
          have b3 : (bt s a == 10) = false := beq_eq_false_iff_ne.mpr hcase.2.2.1
          have b4 : (bt s a == 13) = false := beq_eq_false_iff_ne.mpr hcase.2.2.2
          clear hcase
          go_wp2_with fail
          refine bodyPost_ret (results_none rfl _ _ _) rfl ?_
          have e1 : Lx.skip false (suf s a) (line, col) = (suf s a, (line, col)) := by rw [HC.out]; simp [Lx.skip, N35.out, NBL.out]
          exact ⟨rfl, a, line, col, HS2.out, HG2.out, HT.out, ha, HR.out.symm.trans e1, e1⟩
    · go_wp2_with (go_at_call 18; refine (more_calls HS.out).mono ?_; rintro e w1 ⟨rfl, n1, hn1⟩)
      go_end0
      have e1 : Lx.skip false (suf s a) (line, col) = (suf s a, (line, col)) := by rw [suf_nil (by omega)]; simp [Lx.skip]
      exact ⟨rfl, a, line, col, by rw [← hn1]; exact HS.out, by rw [← hn1]; exact grown_drewN HG.out _, HT.out, ha, HR.out.symm.trans e1, e1⟩
end Go.Proofs.Ytohbjgckcbdegaa.Lw
