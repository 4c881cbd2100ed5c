/- The walks of package lex: letter, inName. -/
import Derived.Test.YtohbjgckcbdegaaLexWc
set_option linter.unusedVariables false
set_option linter.unusedSimpArgs false
namespace Go.Proofs.Ytohbjgckcbdegaa.Lw
open Go.RowKit Go.Proofs.YtohbjgckcbdegaaW.PrintWords Go.Proofs.YtohbjgckcbdegaaW.PrintLast Go.Proofs.YtohbjgckcbdegaaW.PrintMore Go.Proofs.Ytohbjgckcbdegaa

set_option maxHeartbeats 4000000 in
set_option maxRecDepth 100000 in
theorem letter_calls (c : UInt8) (x : Int) (hx : x = c.toNat) (w : World) :
    Calls Try.prog 21 #[.int .u8 x] w fun e w' => e = .returned (.bool (Lx.letter c)) ∧ w = w' := by
  have HX := Aside0.mk hx
  clear hx
  by_cases h1 : 97 ≤ x <;> by_cases h2 : x ≤ 122 <;> by_cases h3 : 65 ≤ x <;> by_cases h4 : x ≤ 90
  all_goals first
    | (exfalso; omega)
    | (have e : Lx.letter c = true := by
         have := HX.out
         simp [Lx.letter]; omega
       rw [e]
       clear e
       go_enter Try.func21, Try.ntmps21
       go_wp2
       go_ret
       exact ⟨rfl, rfl⟩)
    | (have e : Lx.letter c = false := by
         have := HX.out
         simp [Lx.letter]; omega
       rw [e]
       clear e
       go_enter Try.func21, Try.ntmps21
       go_wp2
       go_ret
       exact ⟨rfl, rfl⟩)
theorem quiet_eq {P : Program} {f : FuncId} {args : Array Value} {w : World} {n : Nat} {v : Value}
    (h : Calls P f args (w.drewN n) fun e w' => e = .returned v ∧ w.drewN n = w') : Calls P f args (w.drewN n) fun e w'' => e = .returned v ∧ ∃ m, w'' = w.drewN m :=
  h.mono fun _ _ ⟨he, hm⟩ => ⟨he, n, hm.symm⟩

set_option maxHeartbeats 4000000 in
set_option maxRecDepth 100000 in
theorem inName_calls (c : UInt8) (x : Int) (hx : x = c.toNat) (w : World) :
    Calls Try.prog 22 #[.int .u8 x] w fun e w' => e = .returned (.bool (Lx.inName c)) ∧ w = w' := by
  have HX := Aside0.mk hx
  clear hx
  cases hl : Lx.letter c with
  | true =>
    have e : Lx.inName c = true := by simp [Lx.inName, hl]
    rw [e]
    have hc := letter_calls c x HX.out
    rw [hl] at hc
    have HC := Aside0.mk hc
    clear e hl hc
    go_enter Try.func22, Try.ntmps22
    go_wp2_with (go_at_call 21; refine (HC.out _).mono ?_; rintro e w' ⟨rfl, rfl⟩)
    go_ret
    exact ⟨rfl, rfl⟩
  | false =>
    have hc := letter_calls c x HX.out
    rw [hl] at hc
    have HC := Aside0.mk hc
    clear hc
    have hn : Lx.inName c = ((decide (48 ≤ c.toNat) && decide (c.toNat ≤ 57)) || (c.toNat == 95) || (c.toNat == 45)) := by simp [Lx.inName, hl]
    rw [hn]
    clear hl hn
    by_cases h1 : 48 ≤ x <;> by_cases h2 : x ≤ 57 <;> by_cases h3 : x = 95 <;> by_cases h4 : x = 45
    all_goals first
      | (exfalso; omega)
      | (have b3 := beq_iff_eq.mpr h3
         have b4 := beq_iff_eq.mpr h4
         exfalso; omega)
      | (have e : ((decide (48 ≤ c.toNat) && decide (c.toNat ≤ 57)) || (c.toNat == 95) || (c.toNat == 45)) = true := by
           have := HX.out
           simp; omega
         rw [e]
         clear e
         first
           | (have b3 : (x == 95) = true := beq_iff_eq.mpr h3
              clear h3 h4
              go_enter Try.func22, Try.ntmps22
              go_wp2_with (go_at_call 21; refine (HC.out _).mono ?_; rintro e w' ⟨rfl, rfl⟩)
              go_ret
              exact ⟨rfl, rfl⟩)
           | (have b3 : (x == 95) = false := beq_eq_false_iff_ne.mpr h3
              first
                | (have b4 : (x == 45) = true := beq_iff_eq.mpr h4
                   clear h3 h4
                   go_enter Try.func22, Try.ntmps22
                   go_wp2_with (go_at_call 21; refine (HC.out _).mono ?_; rintro e w' ⟨rfl, rfl⟩)
                   go_ret
                   exact ⟨rfl, rfl⟩)
                | (have b4 : (x == 45) = false := beq_eq_false_iff_ne.mpr h4
                   clear h3 h4
                   go_enter Try.func22, Try.ntmps22
                   go_wp2_with (go_at_call 21; refine (HC.out _).mono ?_; rintro e w' ⟨rfl, rfl⟩)
                   go_ret
                   exact ⟨rfl, rfl⟩)))
      | (have e : ((decide (48 ≤ c.toNat) && decide (c.toNat ≤ 57)) || (c.toNat == 95) || (c.toNat == 45)) = false := by
           have := HX.out
           simp; omega
         rw [e]
         clear e
         try have b2 : decide (x ≤ 57) = false := decide_eq_false h2
         have b3 : (x == 95) = false := beq_eq_false_iff_ne.mpr h3
         have b4 : (x == 45) = false := beq_eq_false_iff_ne.mpr h4
         clear h3 h4
         go_enter Try.func22, Try.ntmps22
         go_wp2_with (go_at_call 21; refine (HC.out _).mono ?_; rintro e w' ⟨rfl, rfl⟩)
         go_ret
         exact ⟨rfl, rfl⟩)
end Go.Proofs.Ytohbjgckcbdegaa.Lw
